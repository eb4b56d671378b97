/- What is put is got; what is got is put as the same bytes, but for a checksum of 65535 (at most 3000 bytes). -/
import Derived.Test.YtkidokbeabmpmaaDoorAllx15
import Derived.Test.YtkidokbeabmpmaaDoorMathM
set_option linter.unusedVariables false
set_option linter.unusedSimpArgs false
namespace Go.Proofs.YtkidokbeabmpmaaDoor.Pure
open Go.RowKit Go.Proofs.YtkidokbeabmpmaaDoor.All Go.Proofs.YtkidokbeabmpmaaDoorW.PrintWords Go.Proofs.YtkidokbeabmpmaaDoorW.PrintLast
open Go.Proofs.YtkidokbeabmpmaaDoor.All.OB
theorem f_awake3 (k : Nat) (hk : 200 ≤ k) : wayfinderlaw03_awake.f k = some true := by
  unfold wayfinderlaw03_awake.f
  rw [f_PPut k (by omega)]
  have hr : isPkt 1 2 3 4 5 := by decide
  have hbts : pktBytes 1 2 3 4 5 = [0, 0, 0, 1, 0, 0, 0, 2, 0, 0, 0, 3, 0, 4, 0, 5, 255, 240] := by decide +kernel
  simp only [pPutR, if_pos hr, Option.bind_some, if_true, hbts]
  decide
theorem back3_j1 (k : Nat) (hk : 200 ≤ k) (l : List Int) (hb : Bys l) : wayfinderlaw03_PacketBack.j1 (k + 1) l = some true := by
  simp only [wayfinderlaw03_PacketBack.j1]
  rw [f_PGet k (by omega) l hb]
  simp only [Option.bind_some]
  by_cases h : (pGetR l).2.2.2.2.2 = 0
  · obtain ⟨h1, h2, h3, h4⟩ := pPut_get l hb h
    rw [if_pos h, f_PPut k (by omega)]
    unfold pPutR
    rw [if_pos h2]
    simp only [Option.bind_some, if_true]
    have hlen := pktBytes_length (pGetR l).1 (pGetR l).2.1 (pGetR l).2.2.1 (pGetR l).2.2.2.1 (pGetR l).2.2.2.2.1
    have ht : (pktBytes (pGetR l).1 (pGetR l).2.1 (pGetR l).2.2.1 (pGetR l).2.2.2.1 (pGetR l).2.2.2.2.1).take 16 = l.take 16 := by
      unfold pktBytes
      rw [List.take_append_of_le_length (by rw [pktHead_length]; omega), List.take_of_length_le (by rw [pktHead_length]; omega), h3]
    rw [if_pos (by omega), if_pos (by omega), if_pos (by omega), if_pos (by omega), ht, if_pos rfl]
    have h16 := hb.get 16
    have h17 := hb.get 17
    have hl2 := last_two l h1
    have hlt : (l.take 16).length % 2 = 0 := by rw [List.length_take]; omega
    rw [hl2] at h4
    rcases ck_tail (l.take 16) (hb.take 16) hlt _ _ h16 h17 h4 with ⟨e1, e2⟩ | ⟨e1, e2⟩
    · have e : pktBytes (pGetR l).1 (pGetR l).2.1 (pGetR l).2.2.1 (pGetR l).2.2.2.1 (pGetR l).2.2.2.2.1 = l := by
        unfold pktBytes
        rw [h3, ← e1, ← e2]
        exact hl2.symm
      rw [if_pos (by rw [e])]
    · by_cases he : (strOfNums (pktBytes (pGetR l).1 (pGetR l).2.1 (pGetR l).2.2.1 (pGetR l).2.2.2.1 (pGetR l).2.2.2.2.1)).toList = (strOfNums l).toList
      · rw [if_pos he]
      · rw [if_neg he, if_pos (by omega), if_pos e1, if_pos (by omega), e2]
        rfl
  · rw [if_neg h]
    obtain ⟨e0, e1, e2, e3, e4⟩ := pGet_bad l h
    rw [e0, e1, e2, e3, e4]
    rfl
theorem PacketBack : wayfinderlaw03_PacketBack.Pure := by
  intro a b c t g l _ _ _ _ _ _ _ hw
  have hb := Bys.of_wf hw
  refine ⟨5001, ?_⟩
  unfold wayfinderlaw03_PacketBack.f
  rw [f_awake3 _ (by omega)]
  simp only [Option.bind_some, if_true, wayfinderlaw03_PacketBack.j0]
  by_cases h : (l.length : Int) > 3000
  · rw [decide_eq_true h, if_pos rfl]
  · rw [decide_eq_false h, if_neg (by decide), f_PPut _ (by omega), f_PMay]
    simp only [Option.bind_some]
    have hj := back3_j1 4999 (by omega) l hb
    unfold pPutR
    by_cases hm : isPkt a b c t g
    · rw [if_pos hm, decide_eq_true hm]
      simp only [if_true]
      rw [if_neg (by decide), f_PGet _ (by omega) _ (pktBytes_bytes _ _ _ _ _), pGet_put hm]
      simp only [Option.bind_some, if_true, beq_self_eq_true, Bool.not_true, Bool.or_false, Bool.false_eq_true, if_false]
      exact hj
    · rw [if_neg hm, decide_eq_false hm, if_neg (by decide), if_neg (by decide)]
      exact hj
end Go.Proofs.YtkidokbeabmpmaaDoor.Pure
