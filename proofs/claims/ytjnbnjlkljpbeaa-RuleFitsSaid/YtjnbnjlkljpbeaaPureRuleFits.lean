/- A rule for any port fits wherever one for a port does; a shorter prefix fits wherever a longer one that is within it does. -/
import Derived.Test.YtjnbnjlkljpbeaaAllx21
import Derived.Test.YtjnbnjlkljpbeaaMathG
import Derived.Test.YtjnbnjlkljpbeaaMathH
import Derived.Test.YtjnbnjlkljpbeaaMathL
set_option linter.unusedVariables false
set_option linter.unusedSimpArgs false
namespace Go.Proofs.Ytjnbnjlkljpbeaa.Pure
open Go.RowKit Go.Proofs.Ytjnbnjlkljpbeaa.All Go.Proofs.YtjnbnjlkljpbeaaW.PrintWords Go.Proofs.YtjnbnjlkljpbeaaW.PrintLast
open Go.Proofs.Ytjnbnjlkljpbeaa.All.BM Go.Proofs.Ytjnbnjlkljpbeaa.All.OB
theorem wide_fits (p l p' l' a : Int) (h : isPre p' l' ∧ isPre p l ∧ l' ≤ l ∧ ((cut (lo p) (bd l') : Nat) : Int) = p') (hf : ((cut (lo a) (bd l) : Nat) : Int) = p ∧ (bd l : Int) = l) : ((cut (lo a) (bd l') : Nat) : Int) = p' ∧ (bd l' : Int) = l' := by
  obtain ⟨h1, h2, h3, h4⟩ := h
  have hb := bd_of l' h1.1 h1.2.1
  have hlo : lo p = cut (lo a) (bd l) := by
    rw [← hf.1]
    exact lo_nat _ (Nat.lt_of_le_of_lt (cut_le _ _) (lo_lt _))
  refine ⟨?_, hb⟩
  rw [hlo, cut_cut _ _ _ (by have := hf.2; omega)] at h4
  exact h4
theorem fits_bools : ∀ q z w g : Bool, (w = true → q = true → g = true) → ((some (q && z) : Option Bool).bind fun t347 => (if t347 = true then ((some q).bind fun t348 => (if t348 = true then ((some w).bind fun t349 => (if t349 = true then ((some (q && z)).bind fun t350 => (if t350 = true then ((some (g && z)).bind fun t351 => (if t351 = true then ((some q).bind fun t352 => ((some q).bind fun t353 => (some (t352 == t353)))) else (none))) else (none))) else ((some q).bind fun t356 => ((some q).bind fun t357 => (some (t356 == t357)))))) else (none))) else ((some w).bind fun t358 => (if t358 = true then ((some (q && z)).bind fun t359 => (if t359 = true then (none) else ((some q).bind fun t363 => ((some q).bind fun t364 => (some (t363 == t364)))))) else ((some q).bind fun t365 => ((some q).bind fun t366 => (some (t365 == t366)))))))) = some true := by
  intro q z w g h
  cases q <;> cases z <;> cases w <;> cases g <;> first | rfl | exact absurd (h rfl rfl) (by decide)
theorem RuleFits : wayfinderlaw04_RuleFits.Pure := by
  intro p l i q k o p' l' n a _ _ _ _ _ _ _ _ _ _
  refine ⟨5001, ?_⟩
  unfold wayfinderlaw04_RuleFits.f
  rw [f_awake4 _ (by omega), f_RMay, f_May]
  simp only [Option.bind_some, if_true]
  by_cases h1 : isRule p l i q k o
  · by_cases h2 : isPre p' l'
    · simp only [decide_eq_true h1, decide_eq_true h2, if_true, Bool.not_true, wayfinderlaw04_RuleFits.j0, Bool.false_eq_true, if_false]
      simp only [f_RFits, f_Within, f_Has]
      have hz : decide (True ∨ (-1 : Int) = n) = true := by simp
      rw [hz, Bool.and_true]
      refine fits_bools _ _ _ _ ?_
      intro hw hq
      rw [decide_eq_true_iff] at hw
      rw [Bool.and_eq_true, beq_iff_eq, beq_iff_eq] at hq ⊢
      exact wide_fits _ _ _ _ _ hw hq
    · simp [h1, h2, wayfinderlaw04_RuleFits.j0]
  · simp [h1, wayfinderlaw04_RuleFits.j0]
end Go.Proofs.Ytjnbnjlkljpbeaa.Pure
