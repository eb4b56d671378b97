/- What package frame's Seal and Open come to, and the document's; that they undo each other. -/
import Derived.Test.YtpaoofkahhhjaaaDoorQ3Allx0
import Derived.Test.YtpaoofkahhhjaaaDoorQ3Allx16
import Derived.Test.YtpaoofkahhhjaaaDoorQ3Allx7
import Derived.Test.YtpaoofkahhhjaaaDoorQ3MathD
import Derived.Test.YtpaoofkahhhjaaaDoorQ3MathE
import Derived.Test.YtpaoofkahhhjaaaDoorQ3MathM
import Derived.Test.YtpaoofkahhhjaaaDoorQ3MathN
import Derived.Test.YtpaoofkahhhjaaaDoorQ3MathQ
set_option linter.unusedVariables false
set_option linter.unusedSimpArgs false
namespace Go.Proofs.YtpaoofkahhhjaaaDoor.All
open Go.RowKit Go.Proofs.YtpaoofkahhhjaaaDoorW.PrintWords Go.Proofs.YtpaoofkahhhjaaaDoorW.PrintLast Go.Proofs.YtpaoofkahhhjaaaDoorW.PrintMore
open BM OB
theorem ck_range (l : List Int) (h : Bys l) : 0 ≤ OM.ck l ∧ OM.ck l ≤ 65535 := by
  have := OM.F_range (OM.SP true l) (OM.SP_nonneg true l h).1
  unfold OM.ck
  omega
theorem put_ck (x : Int) (h : 0 ≤ x ∧ x ≤ 65535) : putR x 2 = ([x / 256 % 256, x % 256], 0) := by
  unfold putR
  rw [if_pos ⟨by omega, by omega, h.1, by show x < ((256 ^ 2 : Nat) : Int); simp; omega⟩]
  obtain ⟨c, hc⟩ := Int.eq_ofNat_of_zero_le h.1
  rw [hc]
  simp [be]
def frmPad (b : List Int) : List Int := if ((b.length : Int) % 2) = 1 then [0] else []
def frmBody (b : List Int) : List Int := [197, ((b.length : Int)) % 256] ++ b ++ frmPad b
def frmBytes (b : List Int) : List Int := frmBody b ++ [OM.ck (frmBody b) / 256 % 256, OM.ck (frmBody b) % 256]
theorem frmPad_length (b : List Int) : (frmPad b).length = b.length % 2 := by
  unfold frmPad
  split
  · simp; omega
  · simp; omega
theorem frmBody_length (b : List Int) : (frmBody b).length = 2 + b.length + b.length % 2 := by
  unfold frmBody
  rw [List.length_append, List.length_append, frmPad_length]
  rfl
theorem frmBody_bytes {b : List Int} (hb : Bys b) : Bys (frmBody b) := by
  unfold frmBody
  refine (Bys.append ?_ hb).append ?_
  · intro x hx
    simp only [List.mem_cons, List.not_mem_nil, or_false] at hx
    rcases hx with rfl | rfl <;> omega
  · unfold frmPad
    split
    · intro x hx; simp only [List.mem_cons, List.not_mem_nil, or_false] at hx; subst hx; decide
    · intro x hx; simp at hx
theorem msg_small (kd ep sq tg p l i q k o : Int) : (msgBytes kd ep sq tg p l i q k o).length ≤ 18 := by
  rw [msgBytes_length]
  split <;> omega
def sealR (kd ep sq tg p l i q k o : Int) : List Int × Int := if isMsg kd ep sq tg p l i q k o then (frmBytes (msgBytes kd ep sq tg p l i q k o), 0) else ([], 1)
theorem f_Seal (n : Nat) (hn : 200 ≤ n) (kd ep sq tg p l i q k o : Int) : frame_Seal.f n kd ep sq tg p l i q k o = some (sealR kd ep sq tg p l i q k o) := by
  unfold frame_Seal.f sealR
  rw [f_MPut n (by omega)]
  unfold mPutR
  by_cases h : isMsg kd ep sq tg p l i q k o
  · rw [if_pos h, if_pos h]
    have hb := msgBytes_bytes h
    have hl := msg_small kd ep sq tg p l i q k o
    generalize msgBytes kd ep sq tg p l i q k o = b at hb hl
    have hB := frmBody_bytes hb
    have hL := frmBody_length b
    simp only [Option.bind_some, if_true]
    rw [if_pos (by simp; omega)]
    by_cases hp : ((b.length : Int) % 2) = 1
    · have e : [197, ((b.length : Int)) % 256] ++ b ++ [0] = frmBody b := by unfold frmBody frmPad; rw [if_pos hp]
      rw [if_pos hp, if_pos (by simp; omega), e, f_Sum _ hB (by omega)]
      simp only [Option.bind_some]
      rw [if_pos (by simp; omega)]
      rfl
    · have e : [197, ((b.length : Int)) % 256] ++ b = frmBody b := by unfold frmBody frmPad; rw [if_neg hp, List.append_nil]
      rw [if_neg hp, e, f_Sum _ hB (by omega)]
      simp only [Option.bind_some]
      rw [if_pos (by simp; omega)]
      rfl
  · rw [if_neg h, if_neg h]
    rfl
abbrev R11 := Int × Int × Int × Int × Int × Int × Int × Int × Int × Int × Int
def oGetR (l : List Int) : R11 :=
  if (l.length : Int) < 4 then (0, 0, 0, 0, 0, 0, 0, 0, 0, 0, 3) else
  if rd l 0 = 197 then
    (if (l.length : Int) < 2 + rd l 1 + rd l 1 % 2 + 2 then (0, 0, 0, 0, 0, 0, 0, 0, 0, 0, 3) else
    if 2 + rd l 1 + rd l 1 % 2 + 2 < (l.length : Int) then (0, 0, 0, 0, 0, 0, 0, 0, 0, 0, 2) else
    if OM.ck l = 0 then
      (if rd l 1 % 2 = 1 ∧ ¬ rd l (2 + rd l 1) = 0 then (0, 0, 0, 0, 0, 0, 0, 0, 0, 0, 2) else mGetR ((l.take (2 + rd l 1).toNat).drop 2))
    else (0, 0, 0, 0, 0, 0, 0, 0, 0, 0, 4))
  else (0, 0, 0, 0, 0, 0, 0, 0, 0, 0, 2)
theorem f_Open (n : Nat) (hn : 200 ≤ n) (l : List Int) (hb : Bys l) (hl : l.length ≤ 1000000) : frame_Open.f n l = some (oGetR l) := by
  unfold frame_Open.f oGetR
  rw [if_pos (by omega), if_pos hb.all]
  by_cases h1 : (l.length : Int) < 4
  · rw [if_pos h1, if_pos h1]
  rw [if_neg h1, if_neg h1]
  by_cases h2 : rd l 0 = 197
  · rw [if_neg (by simp [h2]), if_pos h2]
    by_cases h3 : (l.length : Int) < 2 + rd l 1 + rd l 1 % 2 + 2
    · rw [if_pos h3, if_pos h3]
    rw [if_neg h3, if_neg h3]
    by_cases h4 : 2 + rd l 1 + rd l 1 % 2 + 2 < (l.length : Int)
    · rw [if_pos h4, if_pos h4]
    rw [if_neg h4, if_neg h4, f_Sum l hb (by omega)]
    simp only [Option.bind_some]
    by_cases h5 : OM.ck l = 0
    · rw [if_neg (by simp [h5]), if_pos h5]
      by_cases h6 : rd l 1 % 2 = 1 ∧ ¬ rd l (2 + rd l 1) = 0
      · rw [if_pos (by simp [h6.1, h6.2]), if_pos h6]
      · rw [if_neg (by simp only [Bool.and_eq_true, beq_iff_eq, bne_iff_ne, ne_eq]; exact h6), if_neg h6, f_MGet n (by omega) _ ((hb.take _).drop _) (by rw [List.length_drop, List.length_take]; omega)]
        rfl
    · rw [if_pos (by simp [h5]), if_neg h5]
  · rw [if_pos (by simp [h2]), if_neg h2]
end Go.Proofs.YtpaoofkahhhjaaaDoor.All
