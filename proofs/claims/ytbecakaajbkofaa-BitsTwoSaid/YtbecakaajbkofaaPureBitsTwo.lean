/- Of two prefixes that may be one is within the other one, or they have no address in common; two that are within each other are one; what one has that is within another one the other one has (on whole numbers of 64 bits). -/
import Derived.Test.YtbecakaajbkofaaAllx6
import Derived.Test.YtbecakaajbkofaaMathB
set_option linter.unusedVariables false
set_option linter.unusedSimpArgs false
namespace Go.Proofs.Ytbecakaajbkofaa.Pure
open Go.RowKit Go.Proofs.Ytbecakaajbkofaa.All Go.Proofs.YtbecakaajbkofaaW.PrintWords Go.Proofs.YtbecakaajbkofaaW.PrintLast Go.Proofs.YtbecakaajbkofaaW.PrintMore
open Go.Proofs.Ytbecakaajbkofaa.All.BM

theorem pre_within (p l q m : Int) (h1 : isPre p l) (h2 : isPre q m) (a : Nat) (hm : (bd m : Int) = m) (hlm : l ≤ m) (hq : ((cut a (bd m) : Nat) : Int) = q) : cut (lo q) (bd l) = cut a (bd l) := by
  have hl := bd_of l h1.1 h1.2.1
  have hlo := lo_of q h2.2.2.1 h2.2.2.2.1
  have e : lo q = cut a (bd m) := by omega
  rw [e, cut_cut _ _ _ (by omega)]
theorem two_facts (p l q m a : Int) (h1 : isPre p l) (h2 : isPre q m) (X Y Hp Hq E : Bool)
    (hX : X = decide (isPre p l ∧ isPre q m ∧ l ≤ m ∧ ((cut (lo q) (bd l) : Nat) : Int) = p)) (hY : Y = decide (isPre q m ∧ isPre p l ∧ m ≤ l ∧ ((cut (lo p) (bd m) : Nat) : Int) = q))
    (hHp : Hp = ((((cut (lo a) (bd l) : Nat) : Int) == p) && ((bd l : Int) == l))) (hHq : Hq = ((((cut (lo a) (bd m) : Nat) : Int) == q) && ((bd m : Int) == m))) (hE : E = (p == q && (l == m))) :
    (X = true → Hq = true → Hp = true) ∧ ((X && Y) = E) ∧ (Hp = true → Hq = true → (X || Y) = true) := by
  have hl := bd_of l h1.1 h1.2.1
  have hm := bd_of m h2.1 h2.2.1
  have hpp := h1.2.2.2.2
  have hqq := h2.2.2.2.2
  have hA := pre_within p l q m h1 h2 (lo a) hm
  have hB := pre_within q m p l h2 h1 (lo a) hl
  have eX : X = true ↔ l ≤ m ∧ ((cut (lo q) (bd l) : Nat) : Int) = p := by rw [hX, decide_eq_true_iff]; exact ⟨fun h => h.2.2, fun h => ⟨h1, h2, h⟩⟩
  have eY : Y = true ↔ m ≤ l ∧ ((cut (lo p) (bd m) : Nat) : Int) = q := by rw [hY, decide_eq_true_iff]; exact ⟨fun h => h.2.2, fun h => ⟨h2, h1, h⟩⟩
  have eHp : Hp = true ↔ ((cut (lo a) (bd l) : Nat) : Int) = p := by rw [hHp, Bool.and_eq_true, beq_iff_eq, beq_iff_eq]; exact ⟨fun h => h.1, fun h => ⟨h, hl⟩⟩
  have eHq : Hq = true ↔ ((cut (lo a) (bd m) : Nat) : Int) = q := by rw [hHq, Bool.and_eq_true, beq_iff_eq, beq_iff_eq]; exact ⟨fun h => h.1, fun h => ⟨h, hm⟩⟩
  have eE : E = true ↔ p = q ∧ l = m := by rw [hE, Bool.and_eq_true, beq_iff_eq, beq_iff_eq]
  refine ⟨?_, ?_, ?_⟩
  · rw [eX, eHq, eHp]
    intro x c2
    rw [← hA x.1 c2]; exact x.2
  · rw [Bool.eq_iff_iff, Bool.and_eq_true, eX, eY, eE]
    constructor
    · rintro ⟨⟨x1, x2⟩, y1, y2⟩
      have e : l = m := by omega
      subst e
      exact ⟨by omega, rfl⟩
    · rintro ⟨rfl, rfl⟩
      exact ⟨⟨by omega, hpp⟩, by omega, hpp⟩
  · rw [eHp, eHq, Bool.or_eq_true, eX, eY]
    intro c1 c2
    by_cases hlm : l ≤ m
    · exact Or.inl ⟨hlm, by rw [hA hlm c2]; exact c1⟩
    · exact Or.inr ⟨by omega, by rw [hB (by omega) c1]; exact c2⟩
theorem BitsTwo : wayfinderlaw01_BitsTwo.Pure := by
  intro p l q m a _ _ _ _ _
  refine ⟨2, ?_⟩
  unfold wayfinderlaw01_BitsTwo.f
  rw [f_awake, f_May, f_May]
  simp only [Option.bind_some, if_true]
  by_cases h1 : isPre p l
  · by_cases h2 : isPre q m
    · rw [decide_eq_true h1, decide_eq_true h2, if_pos rfl]
      simp only [Bool.not_true, wayfinderlaw01_BitsTwo.j0, f_Within, f_Has, Option.bind_some, Bool.false_eq_true, if_false]
      obtain ⟨F1, F2, F3⟩ := two_facts p l q m a h1 h2 _ _ _ _ _ rfl rfl rfl rfl rfl
      generalize decide (isPre p l ∧ isPre q m ∧ l ≤ m ∧ ((cut (lo q) (bd l) : Nat) : Int) = p) = X at F1 F2 F3 ⊢
      generalize decide (isPre q m ∧ isPre p l ∧ m ≤ l ∧ ((cut (lo p) (bd m) : Nat) : Int) = q) = Y at F1 F2 F3 ⊢
      generalize ((((cut (lo a) (bd l) : Nat) : Int) == p) && ((bd l : Int) == l)) = Hp at F1 F2 F3 ⊢
      generalize ((((cut (lo a) (bd m) : Nat) : Int) == q) && ((bd m : Int) == m)) = Hq at F1 F2 F3 ⊢
      generalize (p == q && (l == m)) = E at F1 F2 F3 ⊢
      subst F2
      revert F1 F3
      cases X <;> cases Y <;> cases Hp <;> cases Hq <;> decide
    · simp only [h1, h2, decide_true, decide_false, if_true, Bool.not_false, wayfinderlaw01_BitsTwo.j0]
  · simp only [h1, decide_false, Bool.false_eq_true, if_false, wayfinderlaw01_BitsTwo.j0, if_true]
end Go.Proofs.Ytbecakaajbkofaa.Pure
