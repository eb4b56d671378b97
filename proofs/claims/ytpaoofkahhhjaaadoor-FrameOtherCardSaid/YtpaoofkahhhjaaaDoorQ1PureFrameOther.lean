/- Two messages that are not the same have other frames. -/
import Derived.Test.YtpaoofkahhhjaaaDoorQ1Allx9
import Derived.Test.YtpaoofkahhhjaaaDoorQ1MathM
import Derived.Test.YtpaoofkahhhjaaaDoorQ1MathQ
import Derived.Test.YtpaoofkahhhjaaaDoorQ1MathR
set_option linter.unusedVariables false
set_option linter.unusedSimpArgs false
namespace Go.Proofs.YtpaoofkahhhjaaaDoor.Pure
open Go.RowKit Go.Proofs.YtpaoofkahhhjaaaDoor.All Go.Proofs.YtpaoofkahhhjaaaDoorW.PrintWords Go.Proofs.YtpaoofkahhhjaaaDoorW.PrintLast
open Go.Proofs.YtpaoofkahhhjaaaDoor.All.BM Go.Proofs.YtpaoofkahhhjaaaDoor.All.OB
theorem f_awake6 (k : Nat) (hk : 200 ≤ k) : wayfinderlaw06_awake.f k = some true := by
  unfold wayfinderlaw06_awake.f
  rw [f_Seal k (by omega)]
  have hr : isMsg 0 3 0 0 0 0 0 0 0 0 := by decide +kernel
  have hbts : frmBytes (msgBytes 0 3 0 0 0 0 0 0 0 0) = [197, 9, 0, 0, 0, 3, 0, 0, 0, 0, 0, 0, 58, 243] := by decide +kernel
  simp only [sealR, if_pos hr, Option.bind_some, if_true, hbts, Lib.strOfNums_toList]
  decide
theorem frm_inj {b c : List Int} (hl : b.length ≤ 200) (hl2 : c.length ≤ 200) (e : frmBytes b = frmBytes c) : b = c := by
  have e1 : frmBytes b = 197 :: ((b.length : Int) % 256) :: (b ++ (frmPad b ++ [OM.ck (frmBody b) / 256 % 256, OM.ck (frmBody b) % 256])) := frm_cons b _
  have e2 : frmBytes c = 197 :: ((c.length : Int) % 256) :: (c ++ (frmPad c ++ [OM.ck (frmBody c) / 256 % 256, OM.ck (frmBody c) % 256])) := frm_cons c _
  rw [e1, e2] at e
  simp only [List.cons.injEq, true_and] at e
  obtain ⟨h1, h2⟩ := e
  exact (List.append_inj h2 (by omega)).1
theorem FrameOther : wayfinderlaw06_FrameOther.Pure := by
  intro kd ep sq tg p l i q k o kd' ep' sq' tg' p' l' i' q' k' o' _ _ _ _ _ _ _ _ _ _ _ _ _ _ _ _ _ _ _ _
  refine ⟨5001, ?_⟩
  unfold wayfinderlaw06_FrameOther.f
  rw [f_awake6 _ (by omega), f_Seal _ (by omega), f_Seal _ (by omega)]
  simp only [Option.bind_some, if_true]
  unfold sealR
  by_cases h : isMsg kd ep sq tg p l i q k o
  · by_cases h' : isMsg kd' ep' sq' tg' p' l' i' q' k' o'
    · rw [if_pos h, if_pos h']
      have hs := msg_small kd ep sq tg p l i q k o
      have hs' := msg_small kd' ep' sq' tg' p' l' i' q' k' o'
      have hlen := frmBytes_length (msgBytes kd ep sq tg p l i q k o)
      simp only [if_true]
      have all : (((strOfNums (frmBytes (msgBytes kd ep sq tg p l i q k o))).toList == (strOfNums (frmBytes (msgBytes kd' ep' sq' tg' p' l' i' q' k' o'))).toList) == (kd == kd' && (ep == ep' && (sq == sq' && (tg == tg' && ((p == p' && (l == l')) && (i == i' && (q == q' && (k == k' && (o == o')))))))))) = true := by
        rw [str_beq (frmBytes_bytes (msgBytes_bytes h)) (frmBytes_bytes (msgBytes_bytes h')), beq_iff_eq, Bool.eq_iff_iff, decide_eq_true_iff]
        simp only [Bool.and_eq_true, beq_iff_eq]
        constructor
        · intro e
          obtain ⟨e0, e1, e2, e3, e4, e5, e6, e7, e8, e9⟩ := msgBytes_inj h h' (frm_inj (by omega) (by omega) e)
          exact ⟨e0, e1, e2, e3, ⟨e4, e5⟩, e6, e7, e8, e9⟩
        · rintro ⟨rfl, rfl, rfl, rfl, ⟨rfl, rfl⟩, rfl, rfl, rfl, rfl⟩
          rfl
      rw [if_pos all]
      refine congrArg some ?_
      rw [beq_iff_eq]
      omega
    · rw [if_pos h, if_neg h']
      rfl
  · rw [if_neg h]
    rfl
end Go.Proofs.YtpaoofkahhhjaaaDoor.Pure
