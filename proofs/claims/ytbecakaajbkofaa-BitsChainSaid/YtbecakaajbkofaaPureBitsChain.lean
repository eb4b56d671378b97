/- The prefixes of an address are within each other, the longer ones in the shorter ones; the one of length 0 has all, the one of length 32 the address alone (addresses of 32 bits, lengths from 0 to 32). -/
import Derived.Test.YtbecakaajbkofaaAllx8
import Derived.Test.YtbecakaajbkofaaMathB
set_option linter.unusedVariables false
set_option linter.unusedSimpArgs false
namespace Go.Proofs.Ytbecakaajbkofaa.Pure
open Go.RowKit Go.Proofs.Ytbecakaajbkofaa.All Go.Proofs.YtbecakaajbkofaaW.PrintWords Go.Proofs.YtbecakaajbkofaaW.PrintLast Go.Proofs.YtbecakaajbkofaaW.PrintMore
open Go.Proofs.Ytbecakaajbkofaa.All.BM

theorem pre_of' (a : Nat) (ha : a < 4294967296) (n : Nat) (hn : n ≤ 32) : isPre ((cut a n : Nat) : Int) (n : Int) := by
  have h := cut_le a n
  refine ⟨by omega, by omega, by omega, by omega, ?_⟩
  rw [lo_nat _ (by omega), bd_nat _ hn, cut_cut _ _ _ (Nat.le_refl _)]
theorem BitsChain : wayfinderlaw01_BitsChain.Pure := by
  intro a b n m wa wb wn wm
  refine ⟨2, ?_⟩
  unfold wayfinderlaw01_BitsChain.f
  rw [f_awake]
  simp only [Option.bind_some, if_true]
  by_cases h1 : a < 0
  · rw [if_pos h1]; simp only [wayfinderlaw01_BitsChain.j0, if_true]
  rw [if_neg h1]
  by_cases h2 : a > 4294967295
  · rw [if_pos h2]; simp only [wayfinderlaw01_BitsChain.j0, if_true]
  rw [if_neg h2]
  by_cases h3 : b < 0
  · rw [if_pos h3]; simp only [wayfinderlaw01_BitsChain.j0, if_true]
  rw [if_neg h3]
  by_cases h4 : b > 4294967295
  · rw [if_pos h4]; simp only [wayfinderlaw01_BitsChain.j0, if_true]
  rw [if_neg h4]
  by_cases h5 : n < 0
  · rw [if_pos h5]; simp only [wayfinderlaw01_BitsChain.j0, if_true]
  rw [if_neg h5]
  by_cases h6 : m < n
  · rw [if_pos h6]; simp only [wayfinderlaw01_BitsChain.j0, if_true]
  rw [if_neg h6]
  by_cases h7 : m > 32
  · simp only [h7, decide_true, wayfinderlaw01_BitsChain.j0, if_true]
  simp only [h7, decide_false, wayfinderlaw01_BitsChain.j0, Bool.false_eq_true, if_false]
  obtain ⟨N, rfl⟩ := Int.eq_ofNat_of_zero_le (by omega : 0 ≤ n)
  obtain ⟨M, rfl⟩ := Int.eq_ofNat_of_zero_le (by omega : 0 ≤ m)
  obtain ⟨A, rfl⟩ := Int.eq_ofNat_of_zero_le (by omega : 0 ≤ a)
  obtain ⟨B, rfl⟩ := Int.eq_ofNat_of_zero_le (by omega : 0 ≤ b)
  have hA : A < 4294967296 := by omega
  have hB : B < 4294967296 := by omega
  have hN : N ≤ 32 := by omega
  have hM : M ≤ 32 := by omega
  have p1 := pre_of' A hA N hN
  have p2 := pre_of' A hA M hM
  have hc := cut_le A M
  have e3 : cut (lo ((cut A M : Nat) : Int)) N = cut A N := by rw [lo_nat _ (by omega), cut_cut _ _ _ (by omega)]
  have hNM : (N : Int) ≤ (M : Int) := by omega
  have b0 : bd 0 = 0 := bd_nat 0 (by omega)
  have b32 : bd 32 = 32 := bd_nat 32 (by omega)
  have s1 : bits_Cut.f (A : Int) 0 = some (0, 0) := by rw [f_Cut, b0, cut_zero _ (lo_lt _)]; rfl
  have s2 : bits_Cut.f (A : Int) 32 = some ((A : Int), 32) := by rw [f_Cut, b32, cut_full, lo_nat A hA]; rfl
  have s3 : bits_Has.f 0 0 (B : Int) = some true := by rw [f_Has, b0, cut_zero _ (lo_lt _)]; rfl
  have s4 : bits_Has.f (A : Int) 32 (B : Int) = some ((B : Int) == (A : Int)) := by
    rw [f_Has, b32, cut_full, lo_nat B hB]
    simp
  have s5 : bits_Within.f ((cut A N : Nat) : Int) (N : Int) ((cut A M : Nat) : Int) (M : Int) = some true := by
    rw [f_Within, bd_nat N hN, e3, decide_eq_true ⟨p1, p2, hNM, rfl⟩]
  have e6 : (((B : Int) == (A : Int)) == ((A : Int) == (B : Int))) = true := by
    rw [beq_iff_eq, Bool.eq_iff_iff, beq_iff_eq, beq_iff_eq]
    omega
  rw [f_Cut, f_Cut, lo_nat A hA, bd_nat N hN, bd_nat M hM]
  simp only [Option.bind_some]
  rw [s5]
  simp only [Option.bind_some, if_true]
  rw [s1]
  simp only [Option.bind_some]
  rw [s3]
  simp only [Option.bind_some, if_true]
  rw [s2]
  simp only [Option.bind_some]
  rw [s4]
  simp only [Option.bind_some]
  rw [e6]
end Go.Proofs.Ytbecakaajbkofaa.Pure
