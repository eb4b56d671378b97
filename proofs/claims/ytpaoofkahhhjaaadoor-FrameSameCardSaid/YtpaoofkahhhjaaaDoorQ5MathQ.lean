/- That msg.Put and msg.Get undo each other; bytes cut short, and with one more. -/
import Derived.Test.YtpaoofkahhhjaaaDoorQ5Allx0
import Derived.Test.YtpaoofkahhhjaaaDoorQ5MathA
import Derived.Test.YtpaoofkahhhjaaaDoorQ5MathD
import Derived.Test.YtpaoofkahhhjaaaDoorQ5MathG
import Derived.Test.YtpaoofkahhhjaaaDoorQ5MathJ
import Derived.Test.YtpaoofkahhhjaaaDoorQ5MathM
import Derived.Test.YtpaoofkahhhjaaaDoorQ5MathN
set_option linter.unusedVariables false
set_option linter.unusedSimpArgs false
namespace Go.Proofs.YtpaoofkahhhjaaaDoor.All
open Go.RowKit Go.Proofs.YtpaoofkahhhjaaaDoorW.PrintWords Go.Proofs.YtpaoofkahhhjaaaDoorW.PrintLast Go.Proofs.YtpaoofkahhhjaaaDoorW.PrintMore
open BM OB
theorem msgBytes_bytes {kd ep sq tg p l i q k o : Int} (h : isMsg kd ep sq tg p l i q k o) : Bys (msgBytes kd ep sq tg p l i q k o) := by
  have hh : Bys (msgHead kd ep sq tg) := (be_bytes _ _).append ((be_bytes _ _).append ((be_bytes _ _).append (be_bytes _ _)))
  unfold msgBytes
  by_cases h2 : kd = 2
  · rw [if_pos h2]
    have hr : isRule p l i q k o := by have := h.2.2.1; unfold ruleOf at this; rw [if_pos h2] at this; exact this
    exact hh.append (ruleBytes_bytes hr)
  · rw [if_neg h2]; exact hh
theorem rGet_ok (l : List Int) (hb : Bys l) (h : (rGetR l).2.2.2.2.2.2 = 0) : 9 ≤ l.length ∧ ruleBytes (rGetR l).1 (rGetR l).2.1 (rGetR l).2.2.1 (rGetR l).2.2.2.1 (rGetR l).2.2.2.2.1 (rGetR l).2.2.2.2.2.1 = l.take 9 := by
  unfold rGetR at h ⊢
  by_cases h1 : l.length < 9
  · rw [if_pos h1] at h
    exact absurd h (by decide)
  · simp only [if_neg h1] at h ⊢
    by_cases h2 : isRule ((val (l.take 4) : Nat) : Int) (rd l 4) (rd l 5 - 1) (rd l 6) (rd l 7) (rd l 8)
    · simp only [if_pos h2]
      exact ⟨by omega, rPut_get l hb (by omega) h2⟩
    · rw [if_neg h2] at h
      exact absurd h (by decide)
theorem head_of (l : List Int) (hb : Bys l) (h9 : 9 ≤ l.length) : msgHead (rdv l 0 1) (rdv l 1 3) (rdv l 4 3) (rdv l 7 2) = l.take 9 := by
  have g : ∀ a n : Nat, a + n ≤ l.length → be (rdv l a n).toNat n = (l.drop a).take n := by
    intro a n han
    have hl : ((l.drop a).take n).length = n := by rw [List.length_take, List.length_drop]; omega
    have := be_val _ ((hb.drop a).take n)
    rw [hl] at this
    unfold rdv
    rw [Int.toNat_natCast, this]
  unfold msgHead
  rw [g 0 1 (by omega), g 1 3 (by omega), g 4 3 (by omega), g 7 2 (by omega), List.drop_zero]
  have t1 : l.take 9 = l.take 1 ++ (l.drop 1).take 8 := by rw [← List.take_add]
  have t2 : (l.drop 1).take 8 = (l.drop 1).take 3 ++ ((l.drop 1).drop 3).take 5 := by rw [← List.take_add]
  have t3 : ((l.drop 1).drop 3).take 5 = ((l.drop 1).drop 3).take 3 ++ (((l.drop 1).drop 3).drop 3).take 2 := by rw [← List.take_add]
  rw [t1, t2, t3]
  simp only [List.drop_drop]
theorem mPut_get (l : List Int) (hb : Bys l) (h : (mGetR l).2.2.2.2.2.2.2.2.2.2 = 0) :
    isMsg (mGetR l).1 (mGetR l).2.1 (mGetR l).2.2.1 (mGetR l).2.2.2.1 (mGetR l).2.2.2.2.1 (mGetR l).2.2.2.2.2.1 (mGetR l).2.2.2.2.2.2.1 (mGetR l).2.2.2.2.2.2.2.1 (mGetR l).2.2.2.2.2.2.2.2.1 (mGetR l).2.2.2.2.2.2.2.2.2.1 ∧
    msgBytes (mGetR l).1 (mGetR l).2.1 (mGetR l).2.2.1 (mGetR l).2.2.2.1 (mGetR l).2.2.2.2.1 (mGetR l).2.2.2.2.2.1 (mGetR l).2.2.2.2.2.2.1 (mGetR l).2.2.2.2.2.2.2.1 (mGetR l).2.2.2.2.2.2.2.2.1 (mGetR l).2.2.2.2.2.2.2.2.2.1 = l := by
  unfold mGetR at h ⊢
  by_cases h1 : l.length < 9
  · rw [if_pos h1] at h
    exact absurd h (by simp)
  have hh := head_of l hb (by omega)
  simp only [if_neg h1] at h ⊢
  by_cases h2 : rdv l 0 1 = 2
  · simp only [if_pos h2] at h ⊢
    by_cases h3 : (l.length : Int) < 18
    · rw [if_pos h3] at h
      exact absurd h (by simp)
    simp only [if_neg h3] at h ⊢
    by_cases h4 : (l.length : Int) > 18
    · rw [if_pos h4] at h
      exact absurd h (by simp)
    simp only [if_neg h4] at h ⊢
    by_cases h5 : (rGetR (l.drop 9)).2.2.2.2.2.2 = 0
    · simp only [if_pos h5] at h ⊢
      obtain ⟨h6, h7⟩ := rGet_ok _ (hb.drop 9) h5
      rw [List.take_of_length_le (by rw [List.length_drop]; omega)] at h7
      generalize rGetR (l.drop 9) = r at *
      by_cases h8 : isMsg (rdv l 0 1) (rdv l 1 3) (rdv l 4 3) (rdv l 7 2) r.1 r.2.1 r.2.2.1 r.2.2.2.1 r.2.2.2.2.1 r.2.2.2.2.2.1
      · simp only [if_pos h8]
        refine ⟨h8, ?_⟩
        unfold msgBytes
        rw [if_pos h2, hh, h7, List.take_append_drop]
      · rw [if_neg h8] at h
        exact absurd h (by simp)
    · rw [if_neg h5] at h
      exact absurd h (by simp)
  · simp only [if_neg h2] at h ⊢
    by_cases h3 : (l.length : Int) < 9
    · exact absurd h3 (by omega)
    simp only [if_neg h3] at h ⊢
    by_cases h4 : (l.length : Int) > 9
    · rw [if_pos h4] at h
      exact absurd h (by simp)
    simp only [if_neg h4] at h ⊢
    by_cases h8 : isMsg (rdv l 0 1) (rdv l 1 3) (rdv l 4 3) (rdv l 7 2) 0 0 0 0 0 0
    · simp only [if_pos h8]
      refine ⟨h8, ?_⟩
      unfold msgBytes
      rw [if_neg h2, hh, List.take_of_length_le (by omega)]
    · rw [if_neg h8] at h
      exact absurd h (by simp)
theorem mGet_bad (l : List Int) (h : ¬ (mGetR l).2.2.2.2.2.2.2.2.2.2 = 0) : (mGetR l).1 = 0 ∧ (mGetR l).2.1 = 0 ∧ (mGetR l).2.2.1 = 0 ∧ (mGetR l).2.2.2.1 = 0 ∧ (mGetR l).2.2.2.2.1 = 0 ∧ (mGetR l).2.2.2.2.2.1 = 0 ∧ (mGetR l).2.2.2.2.2.2.1 = 0 ∧ (mGetR l).2.2.2.2.2.2.2.1 = 0 ∧ (mGetR l).2.2.2.2.2.2.2.2.1 = 0 ∧ (mGetR l).2.2.2.2.2.2.2.2.2.1 = 0 := by
  unfold mGetR at h ⊢
  by_cases h1 : l.length < 9
  · simp only [if_pos h1]; simp
  simp only [if_neg h1] at h ⊢
  generalize (if rdv l 0 1 = 2 then (18 : Int) else 9) = n at *
  by_cases h3 : (l.length : Int) < n
  · simp only [if_pos h3]; simp
  simp only [if_neg h3] at h ⊢
  by_cases h4 : (l.length : Int) > n
  · simp only [if_pos h4]; simp
  simp only [if_neg h4] at h ⊢
  by_cases h2 : rdv l 0 1 = 2
  · simp only [if_pos h2] at h ⊢
    generalize rGetR (l.drop 9) = r at *
    by_cases h5 : r.2.2.2.2.2.2 = 0
    · simp only [if_pos h5] at h ⊢
      by_cases h8 : isMsg (rdv l 0 1) (rdv l 1 3) (rdv l 4 3) (rdv l 7 2) r.1 r.2.1 r.2.2.1 r.2.2.2.1 r.2.2.2.2.1 r.2.2.2.2.2.1
      · rw [if_pos h8] at h; exact absurd rfl h
      · simp only [if_neg h8]; simp
    · simp only [if_neg h5]; simp
  · simp only [if_neg h2] at h ⊢
    by_cases h8 : isMsg (rdv l 0 1) (rdv l 1 3) (rdv l 4 3) (rdv l 7 2) 0 0 0 0 0 0
    · rw [if_pos h8] at h; exact absurd rfl h
    · simp only [if_neg h8]; simp
end Go.Proofs.YtpaoofkahhhjaaaDoor.All
