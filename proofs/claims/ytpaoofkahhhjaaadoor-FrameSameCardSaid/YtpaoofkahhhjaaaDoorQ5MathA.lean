/- Plain facts on addresses: what an address begins with, as whole numbers; no program in sight but for the last part, which tells what the printed functions of package bits come to. -/
import Derived.Test.YtpaoofkahhhjaaaDoorQ5Allx0
import Derived.Laws.BitsAllLaws
namespace Go.Proofs.YtpaoofkahhhjaaaDoor.All
open Go.RowKit Go.Proofs.YtpaoofkahhhjaaaDoorW.PrintWords Go.Proofs.YtpaoofkahhhjaaaDoorW.PrintLast Go.Proofs.YtpaoofkahhhjaaaDoorW.PrintMore
namespace BM
def cut (a n : Nat) : Nat := a / 2^(32-n) * 2^(32-n)
def lo (a : Int) : Nat := (a % 4294967296).toNat
theorem lo_lt (a : Int) : lo a < 4294967296 := by unfold lo; omega
theorem lo_of (a : Int) (h0 : 0 ≤ a) (h1 : a ≤ 4294967295) : (lo a : Int) = a := by unfold lo; omega
theorem andNot64 (a : Nat) (ha : a < 4294967296) (k : Nat) (hk : k ≤ 32) : Go.bits .andNot .i64 (a : Int) (((2^(32-k) - 1) * 2^k : Nat) : Int) = ((a % 2^k : Nat) : Int) := by
  have hm : (2^(32-k) - 1) * 2^k < 4294967296 := by
    have e : (2:Nat)^(32-k) * 2^k = 4294967296 := by rw [← Nat.pow_add, show 32 - k + k = 32 from by omega]
    have := Nat.two_pow_pos k
    rw [Nat.sub_mul, e]; omega
  have key : a &&& (18446744073709551615 - (2^(32-k) - 1) * 2^k) = a % 2^k := by
    apply Nat.eq_of_testBit_eq
    intro i
    rw [Nat.testBit_and, show (18446744073709551615 : Nat) - (2^(32-k) - 1) * 2^k = 2^64 - ((2^(32-k) - 1) * 2^k + 1) from by omega, Nat.testBit_two_pow_sub_succ (by omega), Nat.testBit_mul_two_pow, Nat.testBit_two_pow_sub_one, Nat.testBit_mod_two_pow]
    by_cases hi : i < 32
    · by_cases hki : k ≤ i
      · have h1 : i - k < 32 - k := by omega
        have h2 : ¬ i < k := by omega
        simp [hki, h1, h2]
      · have h2 : i < k := by omega
        have h3 : i < 64 := by omega
        simp [hki, h2, h3]
    · have : a.testBit i = false := Nat.testBit_lt_two_pow (Nat.lt_of_lt_of_le ha (Nat.pow_le_pow_right (n := 2) (by decide) (by omega : 32 ≤ i)))
      simp [this]
  have hle : a % 2^k ≤ a := Nat.mod_le _ _
  simp only [Go.bits]
  rw [show IntKind.i64.bits = 64 from rfl, BitVec.toNat_and, BitVec.toNat_not, BitVec.ofInt_natCast, BitVec.ofInt_natCast, BitVec.toNat_ofNat, BitVec.toNat_ofNat, Nat.mod_eq_of_lt (by omega : a < 2^64), Nat.mod_eq_of_lt (by omega : (2^(32-k) - 1) * 2^k < 2^64), show (2:Nat)^64 - 1 - (2^(32-k) - 1) * 2^k = 18446744073709551615 - (2^(32-k) - 1) * 2^k from by omega, key, Go.IntKind.wrap_i64]
  omega
def msk (n : Nat) : Nat := (2^n - 1) * 2^(32-n)
def bd (n : Int) : Nat := (mn (mx n 0) 32).toNat
theorem bd_le (n : Int) : bd n ≤ 32 := by unfold bd mn mx; split <;> split <;> omega
theorem bd_cast (n : Int) : (bd n : Int) = mn (mx n 0) 32 := by unfold bd mn mx; split <;> split <;> omega
theorem bd_of (n : Int) (h0 : 0 ≤ n) (h1 : n ≤ 32) : (bd n : Int) = n := by rw [bd_cast]; unfold mn mx; split <;> split <;> omega
def len (x : Nat) : Nat := if x = 0 then 0 else Nat.log2 x + 1
end BM
end Go.Proofs.YtpaoofkahhhjaaaDoor.All
