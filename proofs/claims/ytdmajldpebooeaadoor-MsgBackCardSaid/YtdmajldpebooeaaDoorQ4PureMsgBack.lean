/- What is put is got; what is got is put as the same bytes (at most 3000 bytes). -/
import Derived.Test.YtdmajldpebooeaaDoorQ4Allx22
import Derived.Test.YtdmajldpebooeaaDoorQ4MathM
import Derived.Test.YtdmajldpebooeaaDoorQ4MathN
import Derived.Test.YtdmajldpebooeaaDoorQ4MathQ
set_option linter.unusedVariables false
set_option linter.unusedSimpArgs false
namespace Go.Proofs.YtdmajldpebooeaaDoor.Pure
open Go.RowKit Go.Proofs.YtdmajldpebooeaaDoor.All Go.Proofs.YtdmajldpebooeaaDoorW.PrintWords Go.Proofs.YtdmajldpebooeaaDoorW.PrintLast
open Go.Proofs.YtdmajldpebooeaaDoor.All.BM Go.Proofs.YtdmajldpebooeaaDoor.All.OB
theorem f_awake5 (k : Nat) (hk : 200 ≤ k) : wayfinderlaw05_awake.f k = some true := by
  unfold wayfinderlaw05_awake.f
  rw [f_MPut k (by omega)]
  have hr : isMsg 0 3 0 0 0 0 0 0 0 0 := by decide +kernel
  have hbts : msgBytes 0 3 0 0 0 0 0 0 0 0 = [0, 0, 0, 3, 0, 0, 0, 0, 0] := by decide +kernel
  simp only [mPutR, if_pos hr, Option.bind_some, if_true, hbts, Lib.strOfNums_toList]
  decide
theorem back5_j1 (k : Nat) (hk : 200 ≤ k) (b : List Int) (hb : Bys b) (hl : b.length ≤ 3000) : wayfinderlaw05_MsgBack.j1 (k + 1) b = some true := by
  simp only [wayfinderlaw05_MsgBack.j1]
  rw [f_MGet k (by omega) b hb (by omega)]
  simp only [Option.bind_some]
  by_cases h : (mGetR b).2.2.2.2.2.2.2.2.2.2 = 0
  · obtain ⟨h1, h2⟩ := mPut_get b hb h
    rw [if_pos h, f_MPut k (by omega)]
    unfold mPutR
    rw [if_pos h1]
    simp only [Option.bind_some, if_true]
    rw [h2]
    simp
  · rw [if_neg h]
    obtain ⟨e0, e1, e2, e3, e4, e5, e6, e7, e8, e9⟩ := mGet_bad b h
    rw [e0, e1, e2, e3, e4, e5, e6, e7, e8, e9]
    rfl
theorem MsgBack : wayfinderlaw05_MsgBack.Pure := by
  intro kd ep sq tg p l i q k o b _ _ _ _ _ _ _ _ _ _ _ _ hw
  have hb := Bys.of_wf hw
  refine ⟨5001, ?_⟩
  unfold wayfinderlaw05_MsgBack.f
  rw [f_awake5 _ (by omega)]
  simp only [Option.bind_some, if_true, wayfinderlaw05_MsgBack.j0]
  by_cases h : (b.length : Int) > 3000
  · rw [decide_eq_true h, if_pos rfl]
  · rw [decide_eq_false h, if_neg (by decide), f_MPut _ (by omega), f_MMay]
    simp only [Option.bind_some]
    have hj := back5_j1 4999 (by omega) b hb (by omega)
    unfold mPutR
    by_cases hm : isMsg kd ep sq tg p l i q k o
    · rw [if_pos hm, decide_eq_true hm]
      have hlen := msgBytes_length kd ep sq tg p l i q k o
      have hle : (msgBytes kd ep sq tg p l i q k o).length ≤ 18 := by
        rw [hlen]
        split <;> omega
      simp only [if_true]
      rw [if_neg (by decide), f_MGet _ (by omega) _ (msgBytes_bytes hm) (by omega), mGet_put hm]
      simp only [Option.bind_some, if_true, beq_self_eq_true, Bool.not_true, Bool.or_false, Bool.false_eq_true, if_false]
      exact hj
    · rw [if_neg hm, decide_eq_false hm, if_neg (by decide), if_neg (by decide)]
      exact hj
end Go.Proofs.YtdmajldpebooeaaDoor.Pure
