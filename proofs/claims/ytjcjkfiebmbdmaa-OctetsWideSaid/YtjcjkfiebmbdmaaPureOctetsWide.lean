/- A number in a greater width has noughts in front (whole numbers of 64 bits, any width). -/
import Derived.Test.YtjcjkfiebmbdmaaAllx2
import Derived.Test.YtjcjkfiebmbdmaaMathB
set_option linter.unusedVariables false
set_option linter.unusedSimpArgs false
namespace Go.Proofs.Ytjcjkfiebmbdmaa.Pure
open Go.RowKit Go.Proofs.Ytjcjkfiebmbdmaa.All Go.Proofs.YtjcjkfiebmbdmaaW.PrintWords Go.Proofs.YtjcjkfiebmbdmaaW.PrintLast Go.Proofs.YtjcjkfiebmbdmaaW.PrintMore
open Go.Proofs.Ytjcjkfiebmbdmaa.All.OB

theorem OctetsWide : wayfinderlaw02_OctetsWide.Pure := by
  intro a w _ _
  refine ⟨100, ?_⟩
  unfold wayfinderlaw02_OctetsWide.f
  rw [f_awake2 _ (by omega), f_Put _ (by omega), f_Put _ (by omega)]
  simp only [Option.bind_some, if_true, putR]
  by_cases ha : mayPut a w
  · by_cases h3 : w > 3
    · simp [if_pos ha, h3]
    · have hwr : wrap64 (w + 1) = w + 1 := by
        have := ha.1
        unfold wrap64
        omega
      obtain ⟨A, rfl⟩ := Int.eq_ofNat_of_zero_le ha.2.2.1
      obtain ⟨W, rfl⟩ := Int.eq_ofNat_of_zero_le (show 0 ≤ w by have := ha.1; omega)
      have hA : A < 256 ^ W := by
        have := ha.2.2.2
        rw [Int.toNat_natCast] at this
        omega
      have hp : 0 < 256 ^ W := Nat.pow_pos (by decide)
      have tW : ((W : Int) + 1).toNat = W + 1 := by omega
      have hb : mayPut (A : Int) ((W : Int) + 1) := by
        refine ⟨by omega, by omega, by omega, ?_⟩
        rw [tW, Nat.pow_succ]
        omega
      have e : be A (W + 1) = 0 :: be A W := by
        simp only [be, Nat.div_eq_of_lt hA]
        rfl
      rw [hwr, if_pos ha, if_pos hb, tW, Int.toNat_natCast, Int.toNat_natCast, e]
      have hl : (((0 : Int) :: be A W).length : Int) = (W : Int) + 1 := by
        simp [be_length]
      simp only [if_true, if_neg h3, hl, List.drop_one, List.tail_cons]
      rw [if_pos (by omega), if_pos (by rfl), if_pos (by omega)]
      simp
  · simp [if_neg ha]
end Go.Proofs.Ytjcjkfiebmbdmaa.Pure
