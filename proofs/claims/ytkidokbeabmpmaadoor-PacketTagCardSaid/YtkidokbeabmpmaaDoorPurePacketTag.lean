/- Two packets that have other tags alone have other checksums. -/
import Derived.Test.YtkidokbeabmpmaaDoorAllx7
import Derived.Test.YtkidokbeabmpmaaDoorMathM
set_option linter.unusedVariables false
set_option linter.unusedSimpArgs false
namespace Go.Proofs.YtkidokbeabmpmaaDoor.Pure
open Go.RowKit Go.Proofs.YtkidokbeabmpmaaDoor.All Go.Proofs.YtkidokbeabmpmaaDoorW.PrintWords Go.Proofs.YtkidokbeabmpmaaDoorW.PrintLast
open Go.Proofs.YtkidokbeabmpmaaDoor.All.OB
theorem f_awake3 (k : Nat) (hk : 200 ≤ k) : wayfinderlaw03_awake.f k = some true := by
  unfold wayfinderlaw03_awake.f
  rw [f_PPut k (by omega)]
  have hr : isPkt 1 2 3 4 5 := by decide
  have hbts : pktBytes 1 2 3 4 5 = [0, 0, 0, 1, 0, 0, 0, 2, 0, 0, 0, 3, 0, 4, 0, 5, 255, 240] := by decide +kernel
  simp only [pPutR, if_pos hr, Option.bind_some, if_true, hbts]
  decide
theorem tail16 (a b c t g : Int) : (pktBytes a b c t g).drop 16 = [OM.ck (pktHead a b c t g) / 256 % 256, OM.ck (pktHead a b c t g) % 256] := by
  unfold pktBytes
  exact List.drop_left' (pktHead_length _ _ _ _ _)
theorem head14 (a b c t g : Int) : (pktBytes a b c t g).take 14 = be a.toNat 4 ++ (be b.toNat 4 ++ (be c.toNat 4 ++ be t.toNat 2)) := by
  have e : pktBytes a b c t g = (be a.toNat 4 ++ (be b.toNat 4 ++ (be c.toNat 4 ++ be t.toNat 2))) ++ (be g.toNat 2 ++ [OM.ck (pktHead a b c t g) / 256 % 256, OM.ck (pktHead a b c t g) % 256]) := by
    unfold pktBytes
    conv => lhs; arg 1; unfold pktHead
    simp only [List.append_assoc]
  rw [e]
  exact List.take_left' (by simp only [List.length_append, be_length])
theorem PacketTag : wayfinderlaw03_PacketTag.Pure := by
  intro a b c t g u _ _ _ _ _ _
  refine ⟨5001, ?_⟩
  unfold wayfinderlaw03_PacketTag.f
  rw [f_awake3 _ (by omega), f_PPut _ (by omega), f_PPut _ (by omega)]
  simp only [Option.bind_some, if_true]
  unfold pPutR
  by_cases h : isPkt a b c t g
  · by_cases h' : isPkt a b c t u
    · rw [if_pos h, if_pos h']
      have hlen := pktBytes_length a b c t g
      have hlen' := pktBytes_length a b c t u
      simp only [if_true]
      rw [if_pos (by omega), if_pos (by omega), if_pos (by omega), if_pos (by omega), head14, head14, if_pos rfl, if_pos (by omega), if_pos (by omega), tail16, tail16, str_beq (two_bytes _ _) (two_bytes _ _)]
      refine congrArg some ?_
      rw [beq_iff_eq, Bool.eq_iff_iff, decide_eq_true_iff, beq_iff_eq]
      constructor
      · intro e
        simp only [List.cons.injEq, and_true] at e
        have r1 := ck_range _ (pktHead_bytes a b c t g)
        have r2 := ck_range _ (pktHead_bytes a b c t u)
        have e2 : OM.ck (pktHead a b c t g) = OM.ck (pktHead a b c t u) := by omega
        have w : ∀ x, pktHead a b c t x = (be a.toNat 4 ++ (be b.toNat 4 ++ (be c.toNat 4 ++ be t.toNat 2))) ++ be x.toNat 2 := by
          intro x
          unfold pktHead
          simp only [List.append_assoc]
        rw [w g, w u] at e2
        have g1 := h.2.2.2.2
        have g2 := h'.2.2.2.2
        have e3 := ck_tag _ ((be_bytes _ _).append ((be_bytes _ _).append ((be_bytes _ _).append (be_bytes _ _)))) (by simp only [List.length_append, be_length]) g.toNat u.toNat (by omega) (by omega) e2
        omega
      · rintro rfl
        rfl
    · rw [if_pos h, if_neg h']
      rfl
  · rw [if_neg h]
    rfl
end Go.Proofs.YtkidokbeabmpmaaDoor.Pure
