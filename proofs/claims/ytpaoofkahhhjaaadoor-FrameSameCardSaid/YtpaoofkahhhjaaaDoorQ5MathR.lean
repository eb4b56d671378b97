/- What package frame's Seal and Open come to, and the document's; that they undo each other. -/
import Derived.Test.YtpaoofkahhhjaaaDoorQ5Allx0
import Derived.Test.YtpaoofkahhhjaaaDoorQ5Allx16
import Derived.Test.YtpaoofkahhhjaaaDoorQ5Allx7
import Derived.Test.YtpaoofkahhhjaaaDoorQ5MathD
import Derived.Test.YtpaoofkahhhjaaaDoorQ5MathE
import Derived.Test.YtpaoofkahhhjaaaDoorQ5MathM
import Derived.Test.YtpaoofkahhhjaaaDoorQ5MathN
import Derived.Test.YtpaoofkahhhjaaaDoorQ5MathQ
set_option linter.unusedVariables false
set_option linter.unusedSimpArgs false
namespace Go.Proofs.YtpaoofkahhhjaaaDoor.All
open Go.RowKit Go.Proofs.YtpaoofkahhhjaaaDoorW.PrintWords Go.Proofs.YtpaoofkahhhjaaaDoorW.PrintLast Go.Proofs.YtpaoofkahhhjaaaDoorW.PrintMore
open BM OB
theorem ck_tail (m : List Int) (hb : Bys m) (he : m.length % 2 = 0) (x y : Int) (hx : 0 ≤ x ∧ x ≤ 255) (hy : 0 ≤ y ∧ y ≤ 255) (h : OM.ck (m ++ [x, y]) = 0) : (x = OM.ck m / 256 % 256 ∧ y = OM.ck m % 256) ∨ (x = 255 ∧ y = 255) := by
  have hbb : Bys (m ++ [x, y]) := hb.append (by intro z hz; simp only [List.mem_cons, List.not_mem_nil, or_false] at hz; rcases hz with rfl | rfl <;> omega)
  rw [OM.ck_zero_iff _ hbb, OM.SP_append, OM.par_len, if_pos he] at h
  simp only [OM.SP] at h
  have h0 := (OM.SP_nonneg true m hb).1
  unfold OM.ck
  generalize OM.SP true m = s at *
  have hF : OM.F s = if s = 0 then 0 else (s - 1) % 65535 + 1 := rfl
  by_cases hc : 256 * x + y = 65535
  · right
    omega
  · left
    have e : 65535 - OM.F s = 256 * x + y := by
      by_cases hs : s = 0
      · rw [if_pos hs] at hF
        omega
      · rw [if_neg hs] at hF
        omega
    rw [e]
    omega
def frmPad (b : List Int) : List Int := if ((b.length : Int) % 2) = 1 then [0] else []
def frmBody (b : List Int) : List Int := [197, ((b.length : Int)) % 256] ++ b ++ frmPad b
def frmBytes (b : List Int) : List Int := frmBody b ++ [OM.ck (frmBody b) / 256 % 256, OM.ck (frmBody b) % 256]
theorem frmPad_length (b : List Int) : (frmPad b).length = b.length % 2 := by
  unfold frmPad
  split
  · simp; omega
  · simp; omega
theorem frmBody_length (b : List Int) : (frmBody b).length = 2 + b.length + b.length % 2 := by
  unfold frmBody
  rw [List.length_append, List.length_append, frmPad_length]
  rfl
theorem frmBody_bytes {b : List Int} (hb : Bys b) : Bys (frmBody b) := by
  unfold frmBody
  refine (Bys.append ?_ hb).append ?_
  · intro x hx
    simp only [List.mem_cons, List.not_mem_nil, or_false] at hx
    rcases hx with rfl | rfl <;> omega
  · unfold frmPad
    split
    · intro x hx; simp only [List.mem_cons, List.not_mem_nil, or_false] at hx; subst hx; decide
    · intro x hx; simp at hx
theorem frm_even (b : List Int) : (frmBody b).length % 2 = 0 := by rw [frmBody_length]; omega
theorem msg_small (kd ep sq tg p l i q k o : Int) : (msgBytes kd ep sq tg p l i q k o).length ≤ 18 := by
  rw [msgBytes_length]
  split <;> omega
def sealR (kd ep sq tg p l i q k o : Int) : List Int × Int := if isMsg kd ep sq tg p l i q k o then (frmBytes (msgBytes kd ep sq tg p l i q k o), 0) else ([], 1)
theorem f_Seal (n : Nat) (hn : 200 ≤ n) (kd ep sq tg p l i q k o : Int) : frame_Seal.f n kd ep sq tg p l i q k o = some (sealR kd ep sq tg p l i q k o) := by
  unfold frame_Seal.f sealR
  rw [f_MPut n (by omega)]
  unfold mPutR
  by_cases h : isMsg kd ep sq tg p l i q k o
  · rw [if_pos h, if_pos h]
    have hb := msgBytes_bytes h
    have hl := msg_small kd ep sq tg p l i q k o
    generalize msgBytes kd ep sq tg p l i q k o = b at hb hl
    have hB := frmBody_bytes hb
    have hL := frmBody_length b
    simp only [Option.bind_some, if_true]
    rw [if_pos (by simp; omega)]
    by_cases hp : ((b.length : Int) % 2) = 1
    · have e : [197, ((b.length : Int)) % 256] ++ b ++ [0] = frmBody b := by unfold frmBody frmPad; rw [if_pos hp]
      rw [if_pos hp, if_pos (by simp; omega), e, f_Sum _ hB (by omega)]
      simp only [Option.bind_some]
      rw [if_pos (by simp; omega)]
      rfl
    · have e : [197, ((b.length : Int)) % 256] ++ b = frmBody b := by unfold frmBody frmPad; rw [if_neg hp, List.append_nil]
      rw [if_neg hp, e, f_Sum _ hB (by omega)]
      simp only [Option.bind_some]
      rw [if_pos (by simp; omega)]
      rfl
  · rw [if_neg h, if_neg h]
    rfl
abbrev R11 := Int × Int × Int × Int × Int × Int × Int × Int × Int × Int × Int
def oGetR (l : List Int) : R11 :=
  if (l.length : Int) < 4 then (0, 0, 0, 0, 0, 0, 0, 0, 0, 0, 3) else
  if rd l 0 = 197 then
    (if (l.length : Int) < 2 + rd l 1 + rd l 1 % 2 + 2 then (0, 0, 0, 0, 0, 0, 0, 0, 0, 0, 3) else
    if 2 + rd l 1 + rd l 1 % 2 + 2 < (l.length : Int) then (0, 0, 0, 0, 0, 0, 0, 0, 0, 0, 2) else
    if OM.ck l = 0 then
      (if rd l 1 % 2 = 1 ∧ ¬ rd l (2 + rd l 1) = 0 then (0, 0, 0, 0, 0, 0, 0, 0, 0, 0, 2) else mGetR ((l.take (2 + rd l 1).toNat).drop 2))
    else (0, 0, 0, 0, 0, 0, 0, 0, 0, 0, 4))
  else (0, 0, 0, 0, 0, 0, 0, 0, 0, 0, 2)
theorem f_Open (n : Nat) (hn : 200 ≤ n) (l : List Int) (hb : Bys l) (hl : l.length ≤ 1000000) : frame_Open.f n l = some (oGetR l) := by
  unfold frame_Open.f oGetR
  rw [if_pos (by omega), if_pos hb.all]
  by_cases h1 : (l.length : Int) < 4
  · rw [if_pos h1, if_pos h1]
  rw [if_neg h1, if_neg h1]
  by_cases h2 : rd l 0 = 197
  · rw [if_neg (by simp [h2]), if_pos h2]
    by_cases h3 : (l.length : Int) < 2 + rd l 1 + rd l 1 % 2 + 2
    · rw [if_pos h3, if_pos h3]
    rw [if_neg h3, if_neg h3]
    by_cases h4 : 2 + rd l 1 + rd l 1 % 2 + 2 < (l.length : Int)
    · rw [if_pos h4, if_pos h4]
    rw [if_neg h4, if_neg h4, f_Sum l hb (by omega)]
    simp only [Option.bind_some]
    by_cases h5 : OM.ck l = 0
    · rw [if_neg (by simp [h5]), if_pos h5]
      by_cases h6 : rd l 1 % 2 = 1 ∧ ¬ rd l (2 + rd l 1) = 0
      · rw [if_pos (by simp [h6.1, h6.2]), if_pos h6]
      · rw [if_neg (by simp only [Bool.and_eq_true, beq_iff_eq, bne_iff_ne, ne_eq]; exact h6), if_neg h6, f_MGet n (by omega) _ ((hb.take _).drop _) (by rw [List.length_drop, List.length_take]; omega)]
        rfl
    · rw [if_pos (by simp [h5]), if_neg h5]
  · rw [if_pos (by simp [h2]), if_neg h2]
theorem rd_0 (a c : Int) (t : List Int) : rd (a :: c :: t) 0 = a := rfl
theorem rd_1 (a c : Int) (t : List Int) : rd (a :: c :: t) 1 = c := rfl
theorem rd_2 (a c : Int) (t : List Int) (n : Nat) : rd (a :: c :: t) (2 + (n : Int)) = t.getD n 0 := by
  unfold rd
  rw [show (2 + (n : Int)).toNat = n + 2 from by omega]
  rfl
theorem oGet_bad (l : List Int) (h : ¬ (oGetR l).2.2.2.2.2.2.2.2.2.2 = 0) : (oGetR l).1 = 0 ∧ (oGetR l).2.1 = 0 ∧ (oGetR l).2.2.1 = 0 ∧ (oGetR l).2.2.2.1 = 0 ∧ (oGetR l).2.2.2.2.1 = 0 ∧ (oGetR l).2.2.2.2.2.1 = 0 ∧ (oGetR l).2.2.2.2.2.2.1 = 0 ∧ (oGetR l).2.2.2.2.2.2.2.1 = 0 ∧ (oGetR l).2.2.2.2.2.2.2.2.1 = 0 ∧ (oGetR l).2.2.2.2.2.2.2.2.2.1 = 0 := by
  unfold oGetR at h ⊢
  by_cases h1 : (l.length : Int) < 4
  · simp only [if_pos h1]; simp
  simp only [if_neg h1] at h ⊢
  by_cases h2 : rd l 0 = 197
  · simp only [if_pos h2] at h ⊢
    by_cases h3 : (l.length : Int) < 2 + rd l 1 + rd l 1 % 2 + 2
    · simp only [if_pos h3]; simp
    simp only [if_neg h3] at h ⊢
    by_cases h4 : 2 + rd l 1 + rd l 1 % 2 + 2 < (l.length : Int)
    · simp only [if_pos h4]; simp
    simp only [if_neg h4] at h ⊢
    by_cases h5 : OM.ck l = 0
    · simp only [if_pos h5] at h ⊢
      by_cases h6 : rd l 1 % 2 = 1 ∧ ¬ rd l (2 + rd l 1) = 0
      · simp only [if_pos h6]; simp
      · simp only [if_neg h6] at h ⊢
        exact mGet_bad _ h
    · simp only [if_neg h5]; simp
  · simp only [if_neg h2]; simp
theorem oGet_ok (l : List Int) (h : (oGetR l).2.2.2.2.2.2.2.2.2.2 = 0) : 4 ≤ l.length ∧ rd l 0 = 197 ∧ (l.length : Int) = 2 + rd l 1 + rd l 1 % 2 + 2 ∧ OM.ck l = 0 ∧ (rd l 1 % 2 = 1 → rd l (2 + rd l 1) = 0) ∧ oGetR l = mGetR ((l.take (2 + rd l 1).toNat).drop 2) := by
  unfold oGetR at h ⊢
  by_cases h1 : (l.length : Int) < 4
  · rw [if_pos h1] at h; exact absurd h (by simp)
  rw [if_neg h1] at h ⊢
  by_cases h2 : rd l 0 = 197
  · rw [if_pos h2] at h ⊢
    by_cases h3 : (l.length : Int) < 2 + rd l 1 + rd l 1 % 2 + 2
    · rw [if_pos h3] at h; exact absurd h (by simp)
    rw [if_neg h3] at h ⊢
    by_cases h4 : 2 + rd l 1 + rd l 1 % 2 + 2 < (l.length : Int)
    · rw [if_pos h4] at h; exact absurd h (by simp)
    rw [if_neg h4] at h ⊢
    by_cases h5 : OM.ck l = 0
    · rw [if_pos h5] at h ⊢
      by_cases h6 : rd l 1 % 2 = 1 ∧ ¬ rd l (2 + rd l 1) = 0
      · rw [if_pos h6] at h; exact absurd h (by simp)
      · rw [if_neg h6]
        refine ⟨by omega, h2, by omega, h5, fun h7 => ?_, rfl⟩
        by_cases h8 : rd l (2 + rd l 1) = 0
        · exact h8
        · exact absurd ⟨h7, h8⟩ h6
    · rw [if_neg h5] at h; exact absurd h (by simp)
  · rw [if_neg h2] at h; exact absurd h (by simp)
theorem body_of (l : List Int) (hb : Bys l) (N : Nat) (h0 : rd l 0 = 197) (h1 : rd l 1 = (N : Int)) (hlen : l.length = 2 + N + N % 2 + 2) (hpad : N % 2 = 1 → rd l (2 + (N : Int)) = 0) :
    frmBody ((l.take (2 + (N : Int)).toNat).drop 2) = l.take (l.length - 2) := by
  have hN := hb.get 1
  rw [h1] at hN
  obtain ⟨a, c, t, rfl⟩ : ∃ a c t, l = a :: c :: t := by
    match l, hlen with
    | [], h => exact absurd h (by simp)
    | [x], h => exact absurd h (by simp)
    | a :: c :: t, _ => exact ⟨a, c, t, rfl⟩
  rw [rd_0] at h0
  rw [rd_1] at h1
  subst h0
  subst h1
  rw [rd_2] at hpad
  have ht : t.length = N + N % 2 + 2 := by simp only [List.length_cons] at hlen; omega
  have e1 : ((197 :: (N : Int) :: t).take (2 + (N : Int)).toNat).drop 2 = t.take N := by
    rw [show (2 + (N : Int)).toNat = N + 2 from by omega]
    simp only [List.take_succ_cons, List.drop_succ_cons, List.drop_zero]
  have e2 : (197 :: (N : Int) :: t).take ((197 :: (N : Int) :: t).length - 2) = 197 :: (N : Int) :: t.take (N + N % 2) := by
    rw [hlen, show 2 + N + N % 2 + 2 - 2 = (N + N % 2) + 2 from by omega]
    simp only [List.take_succ_cons]
  have hbl : (t.take N).length = N := by rw [List.length_take]; omega
  rw [e1, e2]
  unfold frmBody frmPad
  rw [hbl]
  by_cases hp : N % 2 = 1
  · rw [if_pos (by omega), hp, List.take_succ_eq_append_getElem (by omega)]
    have h9 := hpad hp
    rw [List.getD_eq_getElem?_getD, List.getElem?_eq_getElem (by omega)] at h9
    simp only [Option.getD_some] at h9
    rw [h9, show (N : Int) % 256 = (N : Int) from by omega]
    simp
  · rw [if_neg (by omega), show N % 2 = 0 from by omega, Nat.add_zero, show (N : Int) % 256 = (N : Int) from by omega]
    simp
theorem snoc_two (l : List Int) (h : 2 ≤ l.length) : l = l.take (l.length - 2) ++ [rd l ((l.length - 2 : Nat) : Int), rd l ((l.length - 1 : Nat) : Int)] := by
  have e : l.drop (l.length - 2) = [rd l ((l.length - 2 : Nat) : Int), rd l ((l.length - 1 : Nat) : Int)] := by
    rw [List.drop_eq_getElem_cons (show l.length - 2 < l.length by omega), List.drop_eq_getElem_cons (show l.length - 2 + 1 < l.length by omega), List.drop_eq_nil_of_le (show l.length ≤ l.length - 2 + 1 + 1 by omega)]
    have q : ∀ (j : Nat) (hj : j < l.length), rd l (j : Int) = l[j] := fun j hj => by simp [rd, List.getD, hj]
    rw [q (l.length - 2) (by omega), q (l.length - 1) (by omega)]
    congr 2
    have : l.length - 2 + 1 = l.length - 1 := by omega
    simp only [this]
  rw [← e, List.take_append_drop]
end Go.Proofs.YtpaoofkahhhjaaaDoor.All
