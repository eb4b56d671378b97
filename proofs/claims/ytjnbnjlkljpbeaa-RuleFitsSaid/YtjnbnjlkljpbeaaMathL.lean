/- What bits.Within comes to. -/
import Derived.Test.YtjnbnjlkljpbeaaAllx0
import Derived.Test.YtjnbnjlkljpbeaaAllx20
import Derived.Test.YtjnbnjlkljpbeaaMathA
import Derived.Test.YtjnbnjlkljpbeaaMathB
namespace Go.Proofs.Ytjnbnjlkljpbeaa.All
open Go.RowKit Go.Proofs.YtjnbnjlkljpbeaaW.PrintWords Go.Proofs.YtjnbnjlkljpbeaaW.PrintLast Go.Proofs.YtjnbnjlkljpbeaaW.PrintMore
open BM
theorem f_Within (p l q m : Int) : bits_Within.f p l q m = some (decide (isPre p l ∧ isPre q m ∧ l ≤ m ∧ ((cut (lo q) (bd l) : Nat) : Int) = p)) := by
  unfold bits_Within.f
  rw [f_May, f_May, f_Has]
  simp only [Option.bind_some]
  by_cases h1 : isPre p l
  · have hb := bd_of l h1.1 h1.2.1
    by_cases h2 : isPre q m
    · by_cases h3 : m ≥ l
      · simp [h1, h2, h3, hb]
        rw [Bool.eq_iff_iff, beq_iff_eq, decide_eq_true_iff]
      · simp [h1, h2, h3]
    · simp [h1, h2]
  · simp [h1]
end Go.Proofs.Ytjnbnjlkljpbeaa.All
