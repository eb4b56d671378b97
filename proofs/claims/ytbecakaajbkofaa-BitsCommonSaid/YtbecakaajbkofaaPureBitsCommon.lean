/- Two addresses have as many bits in common as are the same, and then one that is not; all of it is so the other way round (addresses of 32 bits; any index). -/
import Derived.Test.YtbecakaajbkofaaAllx9
import Derived.Test.YtbecakaajbkofaaMathD
set_option linter.unusedVariables false
set_option linter.unusedSimpArgs false
namespace Go.Proofs.Ytbecakaajbkofaa.Pure
open Go.RowKit Go.Proofs.Ytbecakaajbkofaa.All Go.Proofs.YtbecakaajbkofaaW.PrintWords Go.Proofs.YtbecakaajbkofaaW.PrintLast Go.Proofs.YtbecakaajbkofaaW.PrintMore
open Go.Proofs.Ytbecakaajbkofaa.All.BM

theorem BitsCommon : wayfinderlaw01_BitsCommon.Pure := by
  intro a b i wa wb wi
  refine ⟨4, ?_⟩
  unfold wayfinderlaw01_BitsCommon.f
  rw [f_awake]
  simp only [Option.bind_some, if_true]
  by_cases h1 : a < 0
  · rw [if_pos h1]; simp only [wayfinderlaw01_BitsCommon.j0, if_true]
  rw [if_neg h1]
  by_cases h2 : a > 4294967295
  · rw [if_pos h2]; simp only [wayfinderlaw01_BitsCommon.j0, if_true]
  rw [if_neg h2]
  by_cases h3 : b < 0
  · rw [if_pos h3]; simp only [wayfinderlaw01_BitsCommon.j0, if_true]
  rw [if_neg h3]
  by_cases h4 : b > 4294967295
  · simp only [h4, decide_true, wayfinderlaw01_BitsCommon.j0, if_true]
  obtain ⟨A, rfl⟩ := Int.eq_ofNat_of_zero_le (by omega : 0 ≤ a)
  obtain ⟨B, rfl⟩ := Int.eq_ofNat_of_zero_le (by omega : 0 ≤ b)
  have hA : A < 4294967296 := by omega
  have hB : B < 4294967296 := by omega
  have hc := com_le A B
  have hf := com_full A B hA hB
  have hs : ((((com A B : Nat) : Int) == 32) != ((A : Int) == (B : Int))) = false := by
    rw [bne_eq_false_iff_eq, Bool.eq_iff_iff, beq_iff_eq, beq_iff_eq]
    omega
  simp only [h4, decide_false, wayfinderlaw01_BitsCommon.j0, Bool.false_eq_true, if_false, f_Common, lo_nat A hA, lo_nat B hB, Option.bind_some, com_comm B A, if_true, hs]
  rw [if_neg (by omega), if_neg (by omega)]
  have key : wayfinderlaw01_BitsCommon.j2 2 (A : Int) (B : Int) ((com A B : Nat) : Int) false = some true := by
    simp only [wayfinderlaw01_BitsCommon.j2, Bool.false_eq_true, if_false]
    by_cases hc32 : com A B = 32
    · rw [if_pos (by omega)]
    · have hne := com_bit A B hA hB (by omega)
      rw [if_neg (by omega), f_Bit, f_Bit]
      simp only [Option.bind_some, lo_nat A hA, lo_nat B hB, Int.toNat_natCast]
      rw [if_pos (by omega), if_pos (by omega)]
      congr 1
      rw [bne_iff_ne]
      omega
  simp only [wayfinderlaw01_BitsCommon.j1, Bool.false_eq_true, if_false]
  by_cases i0 : i ≥ 0
  · rw [if_pos i0]
    by_cases i1 : i < ((com A B : Nat) : Int)
    · rw [if_pos i1, f_Bit, f_Bit]
      have hsame := com_same A B i.toNat hA hB (by omega)
      simp only [Option.bind_some, lo_nat A hA, lo_nat B hB]
      rw [if_pos (by omega), if_pos (by omega), hsame]
      simp only [bne_self_eq_false]
      exact key
    · rw [if_neg i1]
      exact key
  · rw [if_neg i0]
    exact key
end Go.Proofs.Ytbecakaajbkofaa.Pure
