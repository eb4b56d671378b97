/- An address is of each prefix that it begins with, and of no other one of that length; a longer one is within it (addresses of 32 bits, lengths from 0 to 32). -/
import Derived.Test.YtbecakaajbkofaaAllx7
import Derived.Test.YtbecakaajbkofaaMathB
set_option linter.unusedVariables false
set_option linter.unusedSimpArgs false
namespace Go.Proofs.Ytbecakaajbkofaa.Pure
open Go.RowKit Go.Proofs.Ytbecakaajbkofaa.All Go.Proofs.YtbecakaajbkofaaW.PrintWords Go.Proofs.YtbecakaajbkofaaW.PrintLast Go.Proofs.YtbecakaajbkofaaW.PrintMore
open Go.Proofs.Ytbecakaajbkofaa.All.BM

theorem pre_of (a : Nat) (ha : a < 4294967296) (n : Nat) (hn : n ≤ 32) : isPre ((cut a n : Nat) : Int) (n : Int) := by
  have h := cut_le a n
  refine ⟨by omega, by omega, by omega, by omega, ?_⟩
  rw [lo_nat _ (by omega), bd_nat _ hn, cut_cut _ _ _ (Nat.le_refl _)]
theorem BitsCut : wayfinderlaw01_BitsCut.Pure := by
  intro a b n more wa wb wn wm
  refine ⟨2, ?_⟩
  unfold wayfinderlaw01_BitsCut.f
  rw [f_awake]
  simp only [Option.bind_some, if_true]
  by_cases h1 : a < 0
  · rw [if_pos h1]; simp only [wayfinderlaw01_BitsCut.j0, if_true]
  rw [if_neg h1]
  by_cases h2 : a > 4294967295
  · rw [if_pos h2]; simp only [wayfinderlaw01_BitsCut.j0, if_true]
  rw [if_neg h2]
  by_cases h3 : b < 0
  · rw [if_pos h3]; simp only [wayfinderlaw01_BitsCut.j0, if_true]
  rw [if_neg h3]
  by_cases h4 : b > 4294967295
  · rw [if_pos h4]; simp only [wayfinderlaw01_BitsCut.j0, if_true]
  rw [if_neg h4]
  by_cases h5 : n < 0
  · rw [if_pos h5]; simp only [wayfinderlaw01_BitsCut.j0, if_true]
  rw [if_neg h5]
  by_cases h6 : more < 0
  · rw [if_pos h6]; simp only [wayfinderlaw01_BitsCut.j0, if_true]
  rw [if_neg h6]
  by_cases h7 : n > 32
  · rw [if_pos h7]; simp only [wayfinderlaw01_BitsCut.j0, if_true]
  rw [if_neg h7]
  have ew : wrap64 (32 - n) = 32 - n := by unfold wrap64; omega
  rw [ew]
  by_cases h8 : more > 32 - n
  · simp only [h8, decide_true, wayfinderlaw01_BitsCut.j0, if_true]
  have ew2 : wrap64 (n + more) = n + more := by unfold wrap64; omega
  simp only [h8, decide_false, wayfinderlaw01_BitsCut.j0, Bool.false_eq_true, if_false, ew2]
  obtain ⟨N, rfl⟩ := Int.eq_ofNat_of_zero_le (by omega : 0 ≤ n)
  obtain ⟨M, rfl⟩ := Int.eq_ofNat_of_zero_le (by omega : 0 ≤ more)
  obtain ⟨A, rfl⟩ := Int.eq_ofNat_of_zero_le (by omega : 0 ≤ a)
  obtain ⟨B, rfl⟩ := Int.eq_ofNat_of_zero_le (by omega : 0 ≤ b)
  have hA : A < 4294967296 := by omega
  have hB : B < 4294967296 := by omega
  have hN : N ≤ 32 := by omega
  have hNM : N + M ≤ 32 := by omega
  have p1 := pre_of A hA N hN
  have p2 := pre_of A hA (N + M) hNM
  have hc := cut_le A (N + M)
  rw [show ((N : Int) + (M : Int)) = ((N + M : Nat) : Int) from by omega]
  simp only [f_Cut, f_May, f_Has, f_Common, f_Within, Option.bind_some, lo_nat A hA, lo_nat B hB, bd_nat N hN, bd_nat (N + M) hNM, p1, p2, decide_true, if_true, beq_self_eq_true, Bool.and_self, Bool.and_true, true_and]
  have e1 := le_com_iff A B N hA hB hN
  have e2 := cut_eq_iff B A N
  have e3 : cut (lo ((cut A (N + M) : Nat) : Int)) N = cut A N := by rw [lo_nat _ (by omega), cut_cut _ _ _ (by omega)]
  have e4 : ((((cut B N : Nat) : Int) == ((cut A N : Nat) : Int)) == decide (((com A B : Nat) : Int) ≥ (N : Int))) = true := by
    rw [beq_iff_eq, Bool.eq_iff_iff, beq_iff_eq, decide_eq_true_iff]
    constructor
    · intro h
      have := e1.mpr (e2.mp (by omega)).symm
      omega
    · intro h
      rw [e2.mpr (e1.mp (by omega)).symm]
  rw [if_pos e4, e3]
  simp
  omega
end Go.Proofs.Ytbecakaajbkofaa.Pure
