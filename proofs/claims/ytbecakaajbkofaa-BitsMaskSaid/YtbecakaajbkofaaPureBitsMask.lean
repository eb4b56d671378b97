/- A mask has as many bits as it says, at first, and no others; a greater one has all of a lesser one (on whole numbers of 64 bits). -/
import Derived.Test.YtbecakaajbkofaaAllx9
import Derived.Test.YtbecakaajbkofaaMathD
set_option linter.unusedVariables false
set_option linter.unusedSimpArgs false
namespace Go.Proofs.Ytbecakaajbkofaa.Pure
open Go.RowKit Go.Proofs.Ytbecakaajbkofaa.All Go.Proofs.YtbecakaajbkofaaW.PrintWords Go.Proofs.YtbecakaajbkofaaW.PrintLast Go.Proofs.YtbecakaajbkofaaW.PrintMore
open Go.Proofs.Ytbecakaajbkofaa.All.BM

theorem msk_lo (n : Int) : lo ((msk (bd n) : Nat) : Int) = msk (bd n) := lo_nat _ (msk_lt _ (bd_le n))
theorem bit_msk (N i : Nat) (hN : N ≤ 32) (hi : i < 32) : bit (msk N) i = if i < N then 1 else 0 := by
  have h : (msk N).testBit (31 - i) = decide (i < N) := by
    unfold msk
    rw [Nat.testBit_mul_two_pow, Nat.testBit_two_pow_sub_one]
    by_cases h : i < N
    · have h1 : 32 - N ≤ 31 - i := by omega
      have h2 : 31 - i - (32 - N) < N := by omega
      simp [h, h1, h2]
    · have h1 : ¬ 32 - N ≤ 31 - i := by omega
      simp [h, h1]
  unfold bit
  rw [Nat.testBit_eq_decide_div_mod_eq] at h
  have h2 := Nat.mod_lt (msk N / 2^(31 - i)) (by decide : 2 > 0)
  by_cases hc : i < N
  · rw [if_pos hc]; simpa [hc] using h
  · rw [if_neg hc]
    have h3 : ¬ msk N / 2^(31 - i) % 2 = 1 := by simpa [hc] using h
    omega
theorem msk_and (N M : Nat) (hN : N ≤ 32) (hM : M ≤ 32) (h : N ≤ M) : msk N &&& msk M = msk N := by
  rw [and_msk _ _ (msk_lt N hN) hM, ← mod_cut]
  unfold msk
  apply Nat.mod_eq_zero_of_dvd
  exact Nat.dvd_trans (Nat.pow_dvd_pow 2 (by omega)) (Nat.dvd_mul_left _ _)
theorem BitsMask : wayfinderlaw01_BitsMask.Pure := by
  intro n m i _ _ _
  have hb := msk_lt _ (bd_le n)
  have hle : ¬ n > m → bd n ≤ bd m := by
    intro h
    have c1 := bd_cases n
    have c2 := bd_cases m
    omega
  have hand : ¬ n > m → Go.bits .and .i64 ((msk (bd n) : Nat) : Int) ((msk (bd m) : Nat) : Int) = ((msk (bd n) : Nat) : Int) := by
    intro h
    rw [and64 _ _ (msk_lt _ (bd_le m)), msk_lo, msk_and _ _ (bd_le n) (bd_le m) (hle h)]
  have hone : 0 ≤ i → i < 32 → (i.toNat < bd n ↔ i < n) := by
    intro h0 h1
    have c1 := bd_cases n
    omega
  unfold wayfinderlaw01_BitsMask.f
  rw [f_awake, f_Mask, f_Mask]
  simp only [Option.bind_some, f_Bit, msk_lo, if_true]
  have tail : (if n > m then if ((msk (bd n) : Nat) : Int) ≥ 0 then some (decide (((msk (bd n) : Nat) : Int) ≤ 4294967295)) else some false else if Go.bits .and .i64 ((msk (bd n) : Nat) : Int) ((msk (bd m) : Nat) : Int) = ((msk (bd n) : Nat) : Int) then if ((msk (bd n) : Nat) : Int) ≥ 0 then some (decide (((msk (bd n) : Nat) : Int) ≤ 4294967295)) else some false else some false) = some true := by
    have t1 : ((msk (bd n) : Nat) : Int) ≥ 0 := by omega
    have t2 : ((msk (bd n) : Nat) : Int) ≤ 4294967295 := by omega
    by_cases h : n > m
    · rw [if_pos h, if_pos t1, decide_eq_true t2]
    · rw [if_neg h, if_pos (hand h), if_pos t1, decide_eq_true t2]
  by_cases i0 : i ≥ 0
  · rw [if_pos i0]
    by_cases i1 : i < 32
    · rw [if_pos i1, if_pos (show 0 ≤ i ∧ i ≤ 31 by omega), bit_msk _ _ (bd_le n) (by omega)]
      have h1 := hone i0 i1
      by_cases i2 : i < n
      · rw [if_pos i2, if_pos (h1.mpr i2)]
        rw [if_pos (by decide)]
        exact tail
      · rw [if_neg i2, if_neg (fun h => i2 (h1.mp h))]
        rw [if_pos (by decide)]
        exact tail
    · rw [if_neg i1, if_neg (show ¬ (0 ≤ i ∧ i ≤ 31) by omega), if_pos rfl]
      exact tail
  · rw [if_neg i0, if_neg (show ¬ (0 ≤ i ∧ i ≤ 31) by omega), if_pos rfl]
    exact tail
end Go.Proofs.Ytbecakaajbkofaa.Pure
