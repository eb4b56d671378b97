/- Bytes, cut short, have no number; each number is of its bytes alone (at most 3000 bytes, widths from 1 to 4). -/
import Derived.Test.YtjcjkfiebmbdmaaAllx4
import Derived.Test.YtjcjkfiebmbdmaaMathB
set_option linter.unusedVariables false
set_option linter.unusedSimpArgs false
namespace Go.Proofs.Ytjcjkfiebmbdmaa.Pure
open Go.RowKit Go.Proofs.Ytjcjkfiebmbdmaa.All Go.Proofs.YtjcjkfiebmbdmaaW.PrintWords Go.Proofs.YtjcjkfiebmbdmaaW.PrintLast Go.Proofs.YtjcjkfiebmbdmaaW.PrintMore
open Go.Proofs.Ytjcjkfiebmbdmaa.All.OB

theorem OctetsShort : wayfinderlaw02_OctetsShort.Pure := by
  intro b w _ _ hw _
  have hb := Bys.of_wf hw
  refine ⟨5001, ?_⟩
  unfold wayfinderlaw02_OctetsShort.f
  rw [f_awake _ (by omega)]
  simp only [Option.bind_some, if_true, wayfinderlaw02_OctetsShort.j0]
  by_cases h1 : (b.length : Int) > 3000
  · rw [if_pos h1]
  rw [if_neg h1]
  by_cases h2 : w < 1
  · rw [if_pos h2]
  rw [if_neg h2]
  by_cases h3 : w > 4
  · rw [if_pos h3]
  rw [if_neg h3]
  by_cases h4 : (b.length : Int) < w
  · rw [decide_eq_true h4, if_pos rfl]
  have c1 : 0 ≤ w := by omega
  have c2 : w ≤ (b.length : Int) := by omega
  have c3 : 0 ≤ w - 1 := by omega
  have c4 : w - 1 ≤ (b.length : Int) := by omega
  have c5 : 1 ≤ w ∧ w ≤ 4 := by omega
  have l1 : ((b.take w.toNat).length : Int) = w := by rw [List.length_take]; omega
  have l2 : ((b.take (w - 1).toNat).length : Int) < w := by rw [List.length_take]; omega
  have hwr : wrap64 (w - 1) = w - 1 := by unfold wrap64; omega
  rw [decide_eq_false h4, if_neg (by decide), f_Get _ (by omega) _ hb]
  simp only [Option.bind_some]
  rw [if_pos c1, if_pos c2, f_Get _ (by omega) _ (hb.take _)]
  simp only [Option.bind_some]
  rw [hwr, if_pos c3, if_pos c4, f_Get _ (by omega) _ (hb.take _)]
  simp only [Option.bind_some]
  have g1 : getR b w = (((val (b.take w.toNat) : Nat) : Int), 0) := by unfold getR; rw [if_pos c5, if_neg h4]
  have g2 : getR (b.take w.toNat) w = (((val (b.take w.toNat) : Nat) : Int), 0) := by unfold getR; rw [if_pos c5, if_neg (by omega), List.take_take, Nat.min_self]
  have g3 : getR (b.take (w - 1).toNat) w = (0, 3) := by unfold getR; rw [if_pos c5, if_pos l2]
  rw [g1, g2, g3]
  simp
end Go.Proofs.Ytjcjkfiebmbdmaa.Pure
