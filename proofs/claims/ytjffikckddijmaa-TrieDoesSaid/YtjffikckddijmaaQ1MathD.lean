/- What bits.Bit and the document's Common come to, in the words of the plain facts on addresses. -/
import Derived.Test.YtjffikckddijmaaQ1Allx0
import Derived.Test.YtjffikckddijmaaQ1Allx5
import Derived.Test.YtjffikckddijmaaQ1Allx7
import Derived.Test.YtjffikckddijmaaQ1MathA
import Derived.Test.YtjffikckddijmaaQ1MathC
namespace Go.Proofs.Ytjffikckddijmaa.All
open Go.RowKit Go.Proofs.YtjffikckddijmaaW.PrintWords Go.Proofs.YtjffikckddijmaaW.PrintLast Go.Proofs.YtjffikckddijmaaW.PrintMore
open BM
theorem r_Common_l (a b : Int) (d : Nat) : ∀ (i k : Nat), i + d = 32 → d + 41 < k → lo a / 2^(32-i) = lo b / 2^(32-i) → wayfinderref01_Common.l0 k a b (i : Int) = some ((com (lo a) (lo b) : Nat) : Int) := by
  have hA := lo_lt a
  have hB := lo_lt b
  have hc := com_le (lo a) (lo b)
  induction d with
  | zero =>
    intro i k hi hk he
    obtain ⟨k, rfl⟩ : ∃ m, k = m + 1 := ⟨k - 1, by omega⟩
    have h := (le_com_iff _ _ i hA hB (by omega)).mpr he
    simp only [wayfinderref01_Common.l0]
    rw [if_neg (by omega)]
    congr 1
    omega
  | succ d ih =>
    intro i k hi hk he
    obtain ⟨k, rfl⟩ : ∃ m, k = m + 1 := ⟨k - 1, by omega⟩
    have h := (le_com_iff _ _ i hA hB (by omega)).mpr he
    have e2 : wrap64 ((i : Int) + 1) = ((i + 1 : Nat) : Int) := by unfold wrap64; omega
    simp only [wayfinderref01_Common.l0]
    rw [if_pos (by omega), r_Bit k (by omega), r_Bit k (by omega), if_pos (by omega), if_pos (by omega)]
    simp only [Option.bind_some, Int.toNat_natCast]
    by_cases hb : bit (lo a) i = bit (lo b) i
    · rw [if_pos (by omega), e2]
      exact ih (i + 1) k (by omega) (by omega) (by rw [div_succ _ i (by omega), div_succ _ i (by omega), he, hb])
    · rw [if_neg (by omega)]
      congr 1
      by_cases hle : i + 1 ≤ com (lo a) (lo b)
      · exact absurd (com_same _ _ i hA hB (by omega)) hb
      · omega
theorem r_Common (k : Nat) (hk : 80 ≤ k) (a b : Int) : wayfinderref01_Common.f k a b = some ((com (lo a) (lo b) : Nat) : Int) :=
  r_Common_l a b 32 0 k (by omega) (by omega) (by rw [Nat.div_eq_of_lt (by have := lo_lt a; simpa using this), Nat.div_eq_of_lt (by have := lo_lt b; simpa using this)])
end Go.Proofs.Ytjffikckddijmaa.All
