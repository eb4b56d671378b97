/- Of the rules that fit an address, none but alike ones are level, and the order of rules is an order. -/
import Derived.Test.YtjnbnjlkljpbeaaAllx11
import Derived.Test.YtjnbnjlkljpbeaaMathG
import Derived.Test.YtjnbnjlkljpbeaaMathH
set_option linter.unusedVariables false
set_option linter.unusedSimpArgs false
namespace Go.Proofs.Ytjnbnjlkljpbeaa.Pure
open Go.RowKit Go.Proofs.Ytjnbnjlkljpbeaa.All Go.Proofs.YtjnbnjlkljpbeaaW.PrintWords Go.Proofs.YtjnbnjlkljpbeaaW.PrintLast
open Go.Proofs.Ytjnbnjlkljpbeaa.All.BM Go.Proofs.Ytjnbnjlkljpbeaa.All.OB
theorem f_Ahead4 (p l i q k o p' l' i' q' k' o' : Int) : rule_Ahead.f p l i q k o p' l' i' q' k' o' = some (decide (l > l' ∨ (l = l' ∧ (q > q' ∨ (q = q' ∧ i > i'))))) := by
  unfold rule_Ahead.f
  by_cases e1 : l = l'
  · rw [if_pos e1]
    by_cases e2 : q = q'
    · rw [if_pos e2]; congr 1; rw [Bool.eq_iff_iff, decide_eq_true_iff, decide_eq_true_iff]; omega
    · rw [if_neg e2]; congr 1; rw [Bool.eq_iff_iff, decide_eq_true_iff, decide_eq_true_iff]; omega
  · rw [if_neg e1]; congr 1; rw [Bool.eq_iff_iff, decide_eq_true_iff, decide_eq_true_iff]; omega
theorem f_Alike4 (p l i q k o p' l' i' q' k' o' : Int) : rule_Alike.f p l i q k o p' l' i' q' k' o' = some (decide (p = p' ∧ l = l' ∧ i = i' ∧ q = q')) := by
  unfold rule_Alike.f
  congr 1
  rw [Bool.eq_iff_iff, decide_eq_true_iff]
  simp only [Bool.and_eq_true, beq_iff_eq]
  exact ⟨fun h => ⟨h.1.1, h.1.2, h.2.1, h.2.2⟩, fun h => ⟨⟨h.1, h.2.1⟩, h.2.2.1, h.2.2.2⟩⟩
theorem one_bools : ∀ a12 a21 f1 f2 e12 a23 a13 : Bool, (a12 = true → a21 = true → False) → (f1 = true → f2 = true → a12 = true → e12 = false) → (f1 = true → f2 = true → a12 = false → e12 = !a21) → (a12 = true → a23 = true → a13 = true) →
    (if f1 = true then (some f2).bind fun t210 => (if a12 = true then (if a21 = true then (some false) else (if t210 = true then ((some e12).bind fun t211 => (if (t211 == false) = true then ((some a23).bind fun t212 => (if t212 = true then ((some a13).bind fun t213 => (some t213)) else (some true))) else (some false))) else ((some a23).bind fun t214 => (if t214 = true then ((some a13).bind fun t215 => (some t215)) else (some true))))) else (if t210 = true then ((some e12).bind fun t216 => (if (t216 == (!a21)) = true then (some true) else (some false))) else (some true))) else (if a12 = true then (if a21 = true then (some false) else ((some a23).bind fun t217 => (if t217 = true then ((some a13).bind fun t218 => (some t218)) else (some true)))) else (some true))) = some true := by
  intro a12 a21 f1 f2 e12 a23 a13 h1 h2 h3 h4
  cases a12 <;> cases a21 <;> cases f1 <;> cases f2 <;> cases e12 <;> cases a23 <;> cases a13 <;> first | rfl | (exfalso; first | exact h1 rfl rfl | exact absurd (h2 rfl rfl rfl) (by decide) | exact absurd (h3 rfl rfl rfl) (by decide) | exact absurd (h4 rfl rfl) (by decide))
theorem RuleOne : wayfinderlaw04_RuleOne.Pure := by
  intro p l i q k o p' l' i' q' k' o' p2 l2 i2 q2 k2 o2 n a _ _ _ _ _ _ _ _ _ _ _ _ _ _ _ _ _ _ _ _
  refine ⟨5001, ?_⟩
  unfold wayfinderlaw04_RuleOne.f
  rw [f_awake4 _ (by omega), f_RMay, f_RMay, f_RMay]
  simp only [Option.bind_some, if_true]
  by_cases h1 : isRule p l i q k o
  · by_cases h2 : isRule p' l' i' q' k' o'
    · by_cases h3 : isRule p2 l2 i2 q2 k2 o2
      · simp only [decide_eq_true h1, decide_eq_true h2, decide_eq_true h3, if_true, Bool.not_true, wayfinderlaw04_RuleOne.j0, Bool.false_eq_true, if_false]
        simp only [f_Ahead4, f_Alike4, f_RFits, Option.bind_some]
        refine one_bools _ _ _ _ _ _ _ ?_ ?_ ?_ ?_
        · simp only [decide_eq_true_iff]; omega
        · simp only [decide_eq_true_iff, decide_eq_false_iff_not, Bool.and_eq_true, beq_iff_eq]; omega
        · simp only [decide_eq_true_iff, decide_eq_false_iff_not, Bool.and_eq_true, beq_iff_eq]
          intro g1 g2 g3
          rw [Bool.eq_iff_iff, decide_eq_true_iff, Bool.not_eq_true', decide_eq_false_iff_not]
          constructor
          · omega
          · intro g4
            have e : l = l' := by omega
            obtain ⟨⟨g5, g6⟩, g7⟩ := g1
            obtain ⟨⟨g8, g9⟩, g10⟩ := g2
            rw [e] at g5
            exact ⟨g5.symm.trans g8, e, by omega, by omega⟩
        · simp only [decide_eq_true_iff]; omega
      · simp [h1, h2, h3, wayfinderlaw04_RuleOne.j0]
    · simp [h1, h2, wayfinderlaw04_RuleOne.j0]
  · simp [h1, wayfinderlaw04_RuleOne.j0]
end Go.Proofs.Ytjnbnjlkljpbeaa.Pure
