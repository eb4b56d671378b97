/- The document's May, Put and Fits of layer 4. -/
import Derived.Test.YtdmajldpebooeaaDoorQ5Allx0
import Derived.Test.YtdmajldpebooeaaDoorQ5Allx8
import Derived.Test.YtdmajldpebooeaaDoorQ5MathB
import Derived.Test.YtdmajldpebooeaaDoorQ5MathC
import Derived.Test.YtdmajldpebooeaaDoorQ5MathD
import Derived.Test.YtdmajldpebooeaaDoorQ5MathE
import Derived.Test.YtdmajldpebooeaaDoorQ5MathF
import Derived.Test.YtdmajldpebooeaaDoorQ5MathG
set_option linter.unusedVariables false
set_option linter.unusedSimpArgs false
namespace Go.Proofs.YtdmajldpebooeaaDoor.All
open Go.RowKit Go.Proofs.YtdmajldpebooeaaDoorW.PrintWords Go.Proofs.YtdmajldpebooeaaDoorW.PrintLast Go.Proofs.YtdmajldpebooeaaDoorW.PrintMore
open BM OB
theorem r_RMay (n : Nat) (hn : 100 ≤ n) (p l i q k o : Int) : wayfinderref04_May.f n p l i q k o = some (decide (isRule p l i q k o)) := by
  obtain ⟨n, rfl⟩ : ∃ m, n = m + 1 := ⟨n - 1, by omega⟩
  unfold wayfinderref04_May.f
  rw [r_May _ (by omega)]
  simp only [Option.bind_some]
  by_cases h1 : isPre p l
  · rw [decide_eq_true h1, if_pos rfl]
    by_cases h2 : i < -1
    · rw [if_pos h2]
      simp only [wayfinderref04_May.j0, if_true]
      rw [decide_eq_false (fun h : isRule p l i q k o => by have := h.2.1; omega)]
    · rw [if_neg h2]
      by_cases h3 : i > 7
      · rw [if_pos h3]
        simp only [wayfinderref04_May.j0, if_true]
        rw [decide_eq_false (fun h : isRule p l i q k o => by have := h.2.2.1; omega)]
      · rw [if_neg h3]
        by_cases h4 : q < 0
        · rw [if_pos h4]
          simp only [wayfinderref04_May.j0, if_true]
          rw [decide_eq_false (fun h : isRule p l i q k o => by have := h.2.2.2.1; omega)]
        · rw [if_neg h4]
          simp only [wayfinderref04_May.j0]
          by_cases h5 : q > 255
          · rw [decide_eq_true h5, if_pos rfl, decide_eq_false (fun h : isRule p l i q k o => by have := h.2.2.2.2.1; omega)]
          · rw [decide_eq_false h5, if_neg (by decide)]
            by_cases h6 : k = 0
            · rw [if_pos h6]
              congr 1
              rw [Bool.eq_iff_iff, beq_iff_eq, decide_eq_true_iff]
              exact ⟨fun h => ⟨h1, by omega, by omega, by omega, by omega, Or.inl ⟨h6, h⟩⟩, fun h => by have := h.2.2.2.2.2; omega⟩
            · rw [if_neg h6]
              by_cases h7 : k = 1
              · rw [if_pos h7]
                by_cases h8 : o ≥ 0
                · rw [if_pos h8]
                  exact ite_dec ⟨fun h => ⟨h1, by omega, by omega, by omega, by omega, Or.inr ⟨h7, h8, h⟩⟩, fun h => by have := h.2.2.2.2.2; omega⟩
                · rw [if_neg h8, decide_eq_false (fun h : isRule p l i q k o => by have := h.2.2.2.2.2; omega)]
              · rw [if_neg h7, decide_eq_false (fun h : isRule p l i q k o => by have := h.2.2.2.2.2; omega)]
  · rw [decide_eq_false h1, if_neg (by decide)]
    simp only [wayfinderref04_May.j0, if_true]
    rw [decide_eq_false (fun h : isRule p l i q k o => h1 h.1)]
end Go.Proofs.YtdmajldpebooeaaDoor.All
