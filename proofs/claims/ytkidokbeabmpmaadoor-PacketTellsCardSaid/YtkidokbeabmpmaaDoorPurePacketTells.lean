/- The bytes of any packet, whether it may be, and the packet of any bytes, or why there is none, are what the document's own functions tell (at most 3000 bytes). -/
import Derived.Test.YtkidokbeabmpmaaDoorAllx14
import Derived.Test.YtkidokbeabmpmaaDoorMathM
set_option linter.unusedVariables false
set_option linter.unusedSimpArgs false
namespace Go.Proofs.YtkidokbeabmpmaaDoor.Pure
open Go.RowKit Go.Proofs.YtkidokbeabmpmaaDoor.All Go.Proofs.YtkidokbeabmpmaaDoorW.PrintWords Go.Proofs.YtkidokbeabmpmaaDoorW.PrintLast
open Go.Proofs.YtkidokbeabmpmaaDoor.All.OB
theorem f_awake3 (k : Nat) (hk : 200 ≤ k) : wayfinderlaw03_awake.f k = some true := by
  unfold wayfinderlaw03_awake.f
  rw [f_PPut k (by omega)]
  have hr : isPkt 1 2 3 4 5 := by decide
  have hbts : pktBytes 1 2 3 4 5 = [0, 0, 0, 1, 0, 0, 0, 2, 0, 0, 0, 3, 0, 4, 0, 5, 255, 240] := by decide +kernel
  simp only [pPutR, if_pos hr, Option.bind_some, if_true, hbts]
  decide
theorem PacketTells : wayfinderlaw03_PacketTells.Pure := by
  intro a b c t g l _ _ _ _ _ _ _ hw
  have hb := Bys.of_wf hw
  refine ⟨5001, ?_⟩
  unfold wayfinderlaw03_PacketTells.f
  rw [f_awake3 _ (by omega)]
  simp only [Option.bind_some, if_true, wayfinderlaw03_PacketTells.j0]
  by_cases h : (l.length : Int) > 3000
  · rw [decide_eq_true h, if_pos rfl]
  · rw [decide_eq_false h, if_neg (by decide), f_PPut _ (by omega), r_PPut _ (by omega), f_PGet _ (by omega) _ hb, r_PGet _ (by omega) _ hb, f_PMay, r_PMay]
    simp
end Go.Proofs.YtkidokbeabmpmaaDoor.Pure
