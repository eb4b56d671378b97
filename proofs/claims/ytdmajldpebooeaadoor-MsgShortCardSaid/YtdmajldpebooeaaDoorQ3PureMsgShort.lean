/- A message's bytes, cut short, and with one more, are none; only an Add has more than 9. -/
import Derived.Test.YtdmajldpebooeaaDoorQ3Allx23
import Derived.Test.YtdmajldpebooeaaDoorQ3MathM
import Derived.Test.YtdmajldpebooeaaDoorQ3MathN
import Derived.Test.YtdmajldpebooeaaDoorQ3MathQ
set_option linter.unusedVariables false
set_option linter.unusedSimpArgs false
namespace Go.Proofs.YtdmajldpebooeaaDoor.Pure
open Go.RowKit Go.Proofs.YtdmajldpebooeaaDoor.All Go.Proofs.YtdmajldpebooeaaDoorW.PrintWords Go.Proofs.YtdmajldpebooeaaDoorW.PrintLast
open Go.Proofs.YtdmajldpebooeaaDoor.All.BM Go.Proofs.YtdmajldpebooeaaDoor.All.OB
theorem f_awake5 (k : Nat) (hk : 200 ≤ k) : wayfinderlaw05_awake.f k = some true := by
  unfold wayfinderlaw05_awake.f
  rw [f_MPut k (by omega)]
  have hr : isMsg 0 3 0 0 0 0 0 0 0 0 := by decide +kernel
  have hbts : msgBytes 0 3 0 0 0 0 0 0 0 0 = [0, 0, 0, 3, 0, 0, 0, 0, 0] := by decide +kernel
  simp only [mPutR, if_pos hr, Option.bind_some, if_true, hbts, Lib.strOfNums_toList]
  decide
theorem MsgShort : wayfinderlaw05_MsgShort.Pure := by
  intro kd ep sq tg p l i q k o n c _ _ _ _ _ _ _ _ _ _ _ hc
  have hc1 : Bys [c] := Bys.of_wf (by intro x hx; simp only [List.mem_cons, List.not_mem_nil, or_false] at hx; subst hx; exact hc)
  refine ⟨5001, ?_⟩
  unfold wayfinderlaw05_MsgShort.f
  rw [f_awake5 _ (by omega), f_MPut _ (by omega)]
  simp only [Option.bind_some, if_true]
  unfold mPutR
  by_cases hm : isMsg kd ep sq tg p l i q k o
  · rw [if_pos hm]
    have hlen := msgBytes_length kd ep sq tg p l i q k o
    have hle : (msgBytes kd ep sq tg p l i q k o).length ≤ 18 := by
      rw [hlen]
      split <;> omega
    have hbb := msgBytes_bytes hm
    simp only [if_true, wayfinderlaw05_MsgShort.j0]
    by_cases h1 : n < 0
    · rw [if_pos h1]
    rw [if_neg h1]
    by_cases h2 : n ≥ ((msgBytes kd ep sq tg p l i q k o).length : Int)
    · rw [decide_eq_true h2, if_pos rfl]
    rw [decide_eq_false h2, if_neg (by decide), if_pos (by omega), if_pos (by omega), f_MGet _ (by omega) _ (hbb.take _) (by rw [List.length_take]; omega)]
    simp only [Option.bind_some, List.nil_append, List.length_nil, Nat.zero_add]
    rw [if_pos (by omega), if_pos (by omega), f_MGet _ (by omega) _ (hbb.append hc1) (by rw [List.length_append]; simp; omega)]
    simp only [Option.bind_some]
    have hs := mGet_short hm n.toNat (by omega)
    rw [if_pos hs, if_pos (mGet_more hm c)]
    by_cases h5 : kd = 2
    · rw [if_pos h5] at hlen
      rw [hlen, h5]
      decide
    · rw [if_neg h5] at hlen
      rw [hlen, beq_eq_false_iff_ne.2 h5]
      decide
  · rw [if_neg hm]
    simp [wayfinderlaw05_MsgShort.j0]
end Go.Proofs.YtdmajldpebooeaaDoor.Pure
