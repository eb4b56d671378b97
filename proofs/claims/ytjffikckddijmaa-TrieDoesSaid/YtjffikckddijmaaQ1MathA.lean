/- Plain facts on addresses: what an address begins with, as whole numbers; no program in sight but for the last part, which tells what the printed functions of package bits come to. -/
import Derived.Test.YtjffikckddijmaaQ1Allx0
import Derived.Laws.BitsAllLaws
namespace Go.Proofs.Ytjffikckddijmaa.All
open Go.RowKit Go.Proofs.YtjffikckddijmaaW.PrintWords Go.Proofs.YtjffikckddijmaaW.PrintLast Go.Proofs.YtjffikckddijmaaW.PrintMore
namespace BM
theorem and_mask (A n k : Nat) : A &&& ((2^n - 1) * 2^k) = A / 2^k % 2^n * 2^k := by
  apply Nat.eq_of_testBit_eq
  intro i
  rw [Nat.testBit_and, Nat.testBit_mul_two_pow, Nat.testBit_mul_two_pow, Nat.testBit_two_pow_sub_one, Nat.testBit_mod_two_pow, Nat.testBit_div_two_pow]
  by_cases h : k ≤ i
  · simp only [h, decide_true, Bool.true_and]
    rw [show i - k + k = i from by omega, Bool.and_comm]
  · simp [h]
def cut (a n : Nat) : Nat := a / 2^(32-n) * 2^(32-n)
def bit (a i : Nat) : Nat := a / 2^(31-i) % 2
theorem div_succ (a i : Nat) (h : i < 32) : a / 2^(32-(i+1)) = 2 * (a / 2^(32-i)) + bit a i := by
  unfold bit
  have e : (2:Nat)^(32-i) = 2^(32-(i+1)) * 2 := by rw [← Nat.pow_succ]; congr 1; omega
  rw [e, ← Nat.div_div_eq_div_mul, show 32-(i+1) = 31 - i from by omega]
  omega
theorem xor_lt (a b k : Nat) : a ^^^ b < 2^k ↔ a / 2^k = b / 2^k := by
  have e : (a ^^^ b) / 2^k = (a / 2^k) ^^^ (b / 2^k) := by rw [← Nat.shiftRight_eq_div_pow, ← Nat.shiftRight_eq_div_pow, ← Nat.shiftRight_eq_div_pow, Nat.shiftRight_xor_distrib]
  constructor
  · intro h
    have h0 : (a ^^^ b) / 2^k = 0 := Nat.div_eq_of_lt h
    rw [e] at h0
    apply Nat.eq_of_testBit_eq
    intro i
    have h1 := congrArg (fun n => n.testBit i) h0
    simpa using h1
  · intro h
    have h0 : (a ^^^ b) / 2^k = 0 := by rw [e, h, Nat.xor_self]
    exact (Nat.div_eq_zero_iff.mp h0).resolve_left (by have := Nat.two_pow_pos k; omega)
theorem and_low (x m : Nat) (h : m < 4294967296) : x &&& m = x % 4294967296 &&& m := by
  apply Nat.eq_of_testBit_eq
  intro i
  rw [Nat.testBit_and, Nat.testBit_and, show (4294967296 : Nat) = 2^32 from rfl, Nat.testBit_mod_two_pow]
  by_cases hi : i < 32
  · simp [hi]
  · have : m.testBit i = false := Nat.testBit_lt_two_pow (Nat.lt_of_lt_of_le h (Nat.pow_le_pow_right (n := 2) (by decide) (by omega : 32 ≤ i)))
    simp [this]
def lo (a : Int) : Nat := (a % 4294967296).toNat
theorem lo_lt (a : Int) : lo a < 4294967296 := by unfold lo; omega
theorem lo_of (a : Int) (h0 : 0 ≤ a) (h1 : a ≤ 4294967295) : (lo a : Int) = a := by unfold lo; omega
theorem lo_nat (n : Nat) (h : n < 4294967296) : lo (n : Int) = n := by unfold lo; omega
theorem toNat64 (a : Int) : (BitVec.ofInt 64 a).toNat % 4294967296 = lo a := by
  rw [BitVec.toNat_ofInt]; unfold lo; omega
theorem and64 (a : Int) (m : Nat) (hm : m < 4294967296) : Go.bits .and .i64 a (m : Int) = ((lo a &&& m : Nat) : Int) := by
  have hl := Nat.and_le_right (n := lo a) (m := m)
  simp only [Go.bits]
  rw [show IntKind.i64.bits = 64 from rfl, BitVec.toNat_and, BitVec.ofInt_natCast, BitVec.toNat_ofNat, Nat.mod_eq_of_lt (by omega : m < 2^64), and_low _ m hm, toNat64, Go.IntKind.wrap_i64]
  omega
theorem andNot64 (a : Nat) (ha : a < 4294967296) (k : Nat) (hk : k ≤ 32) : Go.bits .andNot .i64 (a : Int) (((2^(32-k) - 1) * 2^k : Nat) : Int) = ((a % 2^k : Nat) : Int) := by
  have hm : (2^(32-k) - 1) * 2^k < 4294967296 := by
    have e : (2:Nat)^(32-k) * 2^k = 4294967296 := by rw [← Nat.pow_add, show 32 - k + k = 32 from by omega]
    have := Nat.two_pow_pos k
    rw [Nat.sub_mul, e]; omega
  have key : a &&& (18446744073709551615 - (2^(32-k) - 1) * 2^k) = a % 2^k := by
    apply Nat.eq_of_testBit_eq
    intro i
    rw [Nat.testBit_and, show (18446744073709551615 : Nat) - (2^(32-k) - 1) * 2^k = 2^64 - ((2^(32-k) - 1) * 2^k + 1) from by omega, Nat.testBit_two_pow_sub_succ (by omega), Nat.testBit_mul_two_pow, Nat.testBit_two_pow_sub_one, Nat.testBit_mod_two_pow]
    by_cases hi : i < 32
    · by_cases hki : k ≤ i
      · have h1 : i - k < 32 - k := by omega
        have h2 : ¬ i < k := by omega
        simp [hki, h1, h2]
      · have h2 : i < k := by omega
        have h3 : i < 64 := by omega
        simp [hki, h2, h3]
    · have : a.testBit i = false := Nat.testBit_lt_two_pow (Nat.lt_of_lt_of_le ha (Nat.pow_le_pow_right (n := 2) (by decide) (by omega : 32 ≤ i)))
      simp [this]
  have hle : a % 2^k ≤ a := Nat.mod_le _ _
  simp only [Go.bits]
  rw [show IntKind.i64.bits = 64 from rfl, BitVec.toNat_and, BitVec.toNat_not, BitVec.ofInt_natCast, BitVec.ofInt_natCast, BitVec.toNat_ofNat, BitVec.toNat_ofNat, Nat.mod_eq_of_lt (by omega : a < 2^64), Nat.mod_eq_of_lt (by omega : (2^(32-k) - 1) * 2^k < 2^64), show (2:Nat)^64 - 1 - (2^(32-k) - 1) * 2^k = 18446744073709551615 - (2^(32-k) - 1) * 2^k from by omega, key, Go.IntKind.wrap_i64]
  omega
def msk (n : Nat) : Nat := (2^n - 1) * 2^(32-n)
theorem msk_lt (n : Nat) (h : n ≤ 32) : msk n < 4294967296 := by
  unfold msk
  have e : (2:Nat)^n * 2^(32-n) = 4294967296 := by rw [← Nat.pow_add, show n + (32 - n) = 32 from by omega]
  have := Nat.two_pow_pos (32-n)
  rw [Nat.sub_mul, e]; omega
theorem and_msk (A n : Nat) (hA : A < 4294967296) (hn : n ≤ 32) : A &&& msk n = cut A n := by
  unfold msk cut
  have e : (2:Nat)^(32-n) * 2^n = 4294967296 := by rw [← Nat.pow_add, show 32 - n + n = 32 from by omega]
  rw [and_mask, Nat.mod_eq_of_lt (Nat.div_lt_of_lt_mul (by rw [e]; exact hA))]
def bd (n : Int) : Nat := (mn (mx n 0) 32).toNat
theorem bd_le (n : Int) : bd n ≤ 32 := by unfold bd mn mx; split <;> split <;> omega
theorem bd_cast (n : Int) : (bd n : Int) = mn (mx n 0) 32 := by unfold bd mn mx; split <;> split <;> omega
theorem bd_of (n : Int) (h0 : 0 ≤ n) (h1 : n ≤ 32) : (bd n : Int) = n := by rw [bd_cast]; unfold mn mx; split <;> split <;> omega
theorem bd_nat (n : Nat) (h : n ≤ 32) : bd (n : Int) = n := by have := bd_of n (by omega) (by omega); omega
def len (x : Nat) : Nat := if x = 0 then 0 else Nat.log2 x + 1
theorem len_le_iff (x k : Nat) : len x ≤ k ↔ x < 2^k := by
  unfold len
  split
  · rename_i h; subst h; simp [Nat.two_pow_pos]
  · rename_i h
    constructor
    · intro hk
      exact Nat.lt_of_lt_of_le Nat.lt_log2_self (Nat.pow_le_pow_right (by decide) hk)
    · intro hk
      exact (Nat.log2_lt h).mpr hk
theorem len_unique (x j : Nat) (h : ∀ k, x < 2^k ↔ j ≤ k) : len x = j := by
  have h1 := (len_le_iff x j).mpr ((h j).mpr (Nat.le_refl _))
  have h2 := (h (len x)).mp ((len_le_iff x (len x)).mp (Nat.le_refl _))
  omega
theorem len_shift (x s : Nat) (h : 2^s ≤ x) : len x = s + len (x / 2^s) := by
  apply len_unique
  intro k
  by_cases hk : k < s
  · have h1 : 2^k ≤ 2^s := Nat.pow_le_pow_right (by decide) (by omega)
    constructor <;> intro h2 <;> omega
  · have e : (2:Nat)^k = 2^(k-s) * 2^s := by rw [← Nat.pow_add, show k - s + s = k from by omega]
    rw [e, ← Nat.div_lt_iff_lt_mul (Nat.two_pow_pos s), ← len_le_iff]
    omega
def com (a b : Nat) : Nat := 32 - len (a ^^^ b)
theorem com_le (a b : Nat) : com a b ≤ 32 := by unfold com; omega
theorem le_com_iff (a b n : Nat) (ha : a < 4294967296) (hb : b < 4294967296) (hn : n ≤ 32) : n ≤ com a b ↔ a / 2^(32-n) = b / 2^(32-n) := by
  rw [← xor_lt, ← len_le_iff]
  have hx : a ^^^ b < 2^32 := Nat.xor_lt_two_pow ha hb
  have := (len_le_iff _ _).mpr hx
  unfold com
  omega
theorem com_same (a b i : Nat) (ha : a < 4294967296) (hb : b < 4294967296) (h : i < com a b) : bit a i = bit b i := by
  have hc := com_le a b
  have h1 := (le_com_iff a b i ha hb (by omega)).mp (by omega)
  have h2 := (le_com_iff a b (i+1) ha hb (by omega)).mp (by omega)
  rw [div_succ a i (by omega), div_succ b i (by omega)] at h2
  omega
end BM
end Go.Proofs.Ytjffikckddijmaa.All
