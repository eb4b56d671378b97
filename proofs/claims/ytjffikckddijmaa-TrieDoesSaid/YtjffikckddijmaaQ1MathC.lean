/- What the document's functions of layer 1 come to, as printed, in the words of the plain facts on addresses. -/
import Derived.Test.YtjffikckddijmaaQ1Allx0
import Derived.Test.YtjffikckddijmaaQ1Allx6
import Derived.Test.YtjffikckddijmaaQ1Allx7
import Derived.Test.YtjffikckddijmaaQ1MathA
import Derived.Test.YtjffikckddijmaaQ1MathB
namespace Go.Proofs.Ytjffikckddijmaa.All
open Go.RowKit Go.Proofs.YtjffikckddijmaaW.PrintWords Go.Proofs.YtjffikckddijmaaW.PrintLast Go.Proofs.YtjffikckddijmaaW.PrintMore
open BM
theorem r_bound (n : Int) : wayfinderref01_bound.f n = some (bd n : Int) := by
  unfold wayfinderref01_bound.f
  rw [bd_cast]
  unfold mn mx
  by_cases h1 : n < 0
  · rw [if_pos h1, if_pos h1, if_neg (by decide)]
  · rw [if_neg h1, if_neg h1]
    by_cases h2 : n > 32
    · rw [if_pos h2, if_pos (by omega)]
    · rw [if_neg h2, if_neg (by omega)]
theorem r_Bit_l (A : Nat) (hA : A < 4294967296) (i : Nat) (d : Nat) : ∀ (j k : Nat), i + d = j → j ≤ 31 → d < k → wayfinderref01_Bit.l0 k (i : Int) ((A / 2^(31-j) : Nat) : Int) (j : Int) = some ((bit A i : Nat) : Int) := by
  induction d with
  | zero =>
    intro j k hi hj hk
    obtain ⟨k, rfl⟩ : ∃ m, k = m + 1 := ⟨k - 1, by omega⟩
    obtain rfl : j = i := by omega
    simp only [wayfinderref01_Bit.l0]
    unfold bit
    generalize A / 2^(31-j) = q
    rw [if_neg (by omega), Int.tmod_eq_emod_of_nonneg (by omega)]
    rfl
  | succ d ih =>
    intro j k hi hj hk
    obtain ⟨k, rfl⟩ : ∃ m, k = m + 1 := ⟨k - 1, by omega⟩
    have hI := ih (j - 1) k (by omega) (by omega) (by omega)
    have hle : A / 2^(31-j) ≤ A := Nat.div_le_self _ _
    simp only [wayfinderref01_Bit.l0]
    rw [if_pos (by omega)]
    have e : A / 2^(31-(j-1)) = A / 2^(31-j) / 2 := by rw [Nat.div_div_eq_div_mul, ← Nat.pow_succ]; congr 2; omega
    have e1 : wrap64 (Int.tdiv ((A / 2^(31-j) : Nat) : Int) 2) = ((A / 2^(31-(j-1)) : Nat) : Int) := by
      rw [e]
      generalize A / 2^(31-j) = q at hle
      rw [Int.tdiv_eq_ediv_of_nonneg (by omega)]
      unfold wrap64
      omega
    have e2 : wrap64 ((j : Int) - 1) = ((j - 1 : Nat) : Int) := by unfold wrap64; omega
    rw [e1, e2, hI]
theorem low_and (a : Int) : Go.bits .and .i64 a 4294967295 = ((lo a : Nat) : Int) := by
  have h := and64 a 4294967295 (by decide)
  have h2 : lo a &&& 4294967295 = lo a := by
    have := Nat.and_two_pow_sub_one_eq_mod (lo a) 32
    have hl := lo_lt a
    rw [show (2:Nat)^32 - 1 = 4294967295 from rfl, Nat.mod_eq_of_lt (by omega)] at this
    exact this
  rw [h2] at h
  exact h
theorem r_Bit (k : Nat) (hk : 40 ≤ k) (a i : Int) : wayfinderref01_Bit.f k a i = some (if 0 ≤ i ∧ i ≤ 31 then ((bit (lo a) i.toNat : Nat) : Int) else 0) := by
  obtain ⟨k, rfl⟩ : ∃ m, k = m + 1 := ⟨k - 1, by omega⟩
  unfold wayfinderref01_Bit.f
  by_cases h1 : i < 0
  · rw [if_pos h1, if_neg (by omega)]
    simp only [wayfinderref01_Bit.j0]
    rw [if_pos trivial]
  · rw [if_neg h1]
    simp only [wayfinderref01_Bit.j0]
    by_cases h2 : i > 31
    · rw [if_pos (by simp [h2]), if_neg (by omega)]
    · rw [if_neg (by simp [h2]), if_pos (by omega), low_and]
      have h := r_Bit_l (lo a) (lo_lt a) i.toNat (31 - i.toNat) 31 k (by omega) (by omega) (by omega)
      rw [show ((i.toNat : Nat) : Int) = i from by omega] at h
      rw [show lo a / 2^(31-31) = lo a from by simp] at h
      exact h
def pc (A N i : Nat) : Nat := (A / 2^(32 - min i N)) * 2^(i - min i N)
theorem pc_step (A N i : Nat) (hN : N ≤ 32) : pc A N (i + 1) = 2 * pc A N i + (if i < N then bit A i else 0) := by
  unfold pc
  by_cases h : i < N
  · rw [if_pos h, Nat.min_eq_left (by omega), Nat.min_eq_left (by omega), Nat.sub_self, Nat.sub_self, Nat.pow_zero, Nat.mul_one, Nat.mul_one, div_succ A i (by omega)]
  · rw [if_neg h, Nat.min_eq_right (by omega), Nat.min_eq_right (by omega), show i + 1 - N = (i - N) + 1 from by omega, Nat.pow_succ]
    rw [Nat.add_zero, ← Nat.mul_assoc, Nat.mul_comm]
theorem pc_lt (A N i : Nat) (hA : A < 4294967296) (h : i ≤ 32) : pc A N i < 4294967296 := by
  unfold pc
  have h1 : (2:Nat)^(32 - min i N) * 2^(min i N) = 4294967296 := by rw [← Nat.pow_add, show 32 - min i N + min i N = 32 from by omega]
  have h2 : A / 2^(32 - min i N) < 2^(min i N) := Nat.div_lt_of_lt_mul (by rw [h1]; exact hA)
  have h3 : (2:Nat)^(min i N) * 2^(i - min i N) = 2^i := by rw [← Nat.pow_add, show min i N + (i - min i N) = i from by omega]
  have h4 : (2:Nat)^i ≤ 2^32 := Nat.pow_le_pow_right (by decide) h
  have h5 := Nat.mul_lt_mul_of_pos_right h2 (Nat.two_pow_pos (i - min i N))
  rw [h3] at h5
  omega
theorem r_Cut_l (a n : Int) (d : Nat) : ∀ (i k : Nat), i + d = 32 → d + 41 < k → wayfinderref01_Cut.l0 k a n ((pc (lo a) (bd n) i : Nat) : Int) (i : Int) = some (((cut (lo a) (bd n) : Nat) : Int), (bd n : Int)) := by
  have hn := bd_le n
  induction d with
  | zero =>
    intro i k hi hk
    obtain ⟨k, rfl⟩ : ∃ m, k = m + 1 := ⟨k - 1, by omega⟩
    simp only [wayfinderref01_Cut.l0]
    rw [if_neg (by omega), r_bound]
    simp only [Option.bind_some]
    unfold pc cut
    rw [show min i (bd n) = bd n from by omega, show i = 32 from by omega]
  | succ d ih =>
    intro i k hi hk
    obtain ⟨k, rfl⟩ : ∃ m, k = m + 1 := ⟨k - 1, by omega⟩
    have hs := pc_step (lo a) (bd n) i hn
    have hl := pc_lt (lo a) (bd n) i (lo_lt a) (by omega)
    have hl1 := pc_lt (lo a) (bd n) (i + 1) (lo_lt a) (by omega)
    have hI := ih (i + 1) k (by omega) (by omega)
    simp only [wayfinderref01_Cut.l0]
    rw [if_pos (by omega), r_bound]
    simp only [Option.bind_some]
    have e2 : wrap64 ((i : Int) + 1) = ((i + 1 : Nat) : Int) := by unfold wrap64; omega
    by_cases hc : i < bd n
    · rw [if_pos hc] at hs
      rw [if_pos (by omega), r_Bit k (by omega), if_pos (by omega)]
      simp only [Option.bind_some, Int.toNat_natCast]
      have e1 : wrap64 (wrap64 (((pc (lo a) (bd n) i : Nat) : Int) * 2) + ((bit (lo a) i : Nat) : Int)) = ((pc (lo a) (bd n) (i + 1) : Nat) : Int) := by unfold wrap64; omega
      rw [e1, e2, hI]
    · rw [if_neg hc] at hs
      have e1 : wrap64 (((pc (lo a) (bd n) i : Nat) : Int) * 2) = ((pc (lo a) (bd n) (i + 1) : Nat) : Int) := by unfold wrap64; omega
      rw [if_neg (by omega), e1, e2, hI]
theorem r_Cut (k : Nat) (hk : 80 ≤ k) (a n : Int) : wayfinderref01_Cut.f k a n = some (((cut (lo a) (bd n) : Nat) : Int), (bd n : Int)) := by
  have h := r_Cut_l a n 32 0 k (by omega) (by omega)
  have e : pc (lo a) (bd n) 0 = 0 := by
    unfold pc
    rw [Nat.zero_min, Nat.div_eq_of_lt (by have := lo_lt a; simpa using this), Nat.zero_mul]
  rw [e] at h
  exact h
theorem r_Has (k : Nat) (hk : 80 ≤ k) (p l a : Int) : wayfinderref01_Has.f k p l a = some ((((cut (lo a) (bd l) : Nat) : Int) == p) && ((bd l : Int) == l)) := by
  unfold wayfinderref01_Has.f
  rw [r_Cut k hk]
  rfl
theorem mod_step (A i : Nat) (h : i < 32) : A % 2^(32-i) = 0 ↔ bit A i = 0 ∧ A % 2^(32-(i+1)) = 0 := by
  have e : (2:Nat)^(32-i) = 2^(31-i) * 2 := by rw [← Nat.pow_succ]; congr 1; omega
  unfold bit
  rw [e, Nat.mod_mul, show 32-(i+1) = 31-i from by omega]
  have := Nat.two_pow_pos (31-i)
  constructor
  · intro h1
    have h2 : A % 2^(31-i) = 0 := by omega
    have h3 : 2^(31-i) * (A / 2^(31-i) % 2) = 0 := by omega
    exact ⟨(Nat.mul_eq_zero.mp h3).resolve_left (by omega), h2⟩
  · intro ⟨h1, h2⟩
    rw [h1, h2, Nat.mul_zero]
theorem r_May_l (p l : Int) (d : Nat) : ∀ (i k : Nat), i + d = 32 → d + 41 < k → wayfinderref01_May.l0 k (i : Int) p l = some (decide (lo p % 2^(32-i) = 0)) := by
  induction d with
  | zero =>
    intro i k hi hk
    obtain ⟨k, rfl⟩ : ∃ m, k = m + 1 := ⟨k - 1, by omega⟩
    simp only [wayfinderref01_May.l0]
    rw [if_neg (by omega), show 32 - i = 0 from by omega, Nat.pow_zero, Nat.mod_one]
    rfl
  | succ d ih =>
    intro i k hi hk
    obtain ⟨k, rfl⟩ : ∃ m, k = m + 1 := ⟨k - 1, by omega⟩
    have hI := ih (i + 1) k (by omega) (by omega)
    have hs := mod_step (lo p) i (by omega)
    have hb : bit (lo p) i < 2 := Nat.mod_lt _ (by decide)
    have e2 : wrap64 ((i : Int) + 1) = ((i + 1 : Nat) : Int) := by unfold wrap64; omega
    simp only [wayfinderref01_May.l0]
    rw [if_pos (by omega), r_Bit k (by omega), if_pos (by omega)]
    simp only [Option.bind_some, Int.toNat_natCast]
    by_cases hc : bit (lo p) i = 1
    · rw [if_pos (by omega), decide_eq_false (by rw [hs]; omega)]
    · rw [if_neg (by omega), e2, hI]
      congr 1
      rw [Bool.eq_iff_iff, decide_eq_true_iff, decide_eq_true_iff, hs]
      omega
theorem r_May (k : Nat) (hk : 80 ≤ k) (p l : Int) : wayfinderref01_May.f k p l = some (decide (isPre p l)) := by
  obtain ⟨k, rfl⟩ : ∃ m, k = m + 1 := ⟨k - 1, by omega⟩
  unfold wayfinderref01_May.f
  by_cases h1 : l < 0
  · rw [if_pos h1]
    simp only [wayfinderref01_May.j0]
    rw [if_pos trivial, decide_eq_false (fun h : isPre p l => by have := h.1; omega)]
  · rw [if_neg h1]
    by_cases h2 : l > 32
    · rw [if_pos h2]
      simp only [wayfinderref01_May.j0]
      rw [if_pos trivial, decide_eq_false (fun h : isPre p l => by have := h.2.1; omega)]
    · rw [if_neg h2]
      by_cases h3 : p < 0
      · rw [if_pos h3]
        simp only [wayfinderref01_May.j0]
        rw [if_pos trivial, decide_eq_false (fun h : isPre p l => by have := h.2.2.1; omega)]
      · rw [if_neg h3]
        simp only [wayfinderref01_May.j0]
        by_cases h4 : p > 4294967295
        · rw [if_pos (by simp [h4]), decide_eq_false (fun h : isPre p l => by have := h.2.2.2.1; omega)]
        · rw [if_neg (by simp [h4])]
          have hb := bd_of l (by omega) (by omega)
          have hp := lo_of p (by omega) (by omega)
          have hI := r_May_l p l (32 - bd l) (bd l) k (by have := bd_le l; omega) (by have := bd_le l; omega)
          rw [hb] at hI
          rw [hI]
          congr 1
          rw [Bool.eq_iff_iff, decide_eq_true_iff, decide_eq_true_iff, mod_cut]
          exact ⟨fun h => ⟨by omega, by omega, by omega, by omega, by omega⟩, fun h => by have := h.2.2.2.2; omega⟩
theorem r_Within (k : Nat) (hk : 80 ≤ k) (p l q m : Int) : wayfinderref01_Within.f k p l q m = some (decide (isPre p l ∧ isPre q m ∧ l ≤ m ∧ ((cut (lo q) (bd l) : Nat) : Int) = p)) := by
  unfold wayfinderref01_Within.f
  rw [r_May k hk, r_May k hk, r_Has k hk]
  simp only [Option.bind_some]
  by_cases h1 : isPre p l
  · have hb := bd_of l h1.1 h1.2.1
    by_cases h2 : isPre q m
    · by_cases h3 : ((cut (lo q) (bd l) : Nat) : Int) = p
      · simp [h1, h2, h3, hb]
      · simp [h1, h2, h3]
    · simp [h1, h2]
  · simp [h1]
end Go.Proofs.Ytjffikckddijmaa.All
