/- What the printed functions of package bits come to, in the words of the plain facts on addresses. -/
import Derived.Test.YtpaoofkahhhjaaaDoorQ5Allx0
import Derived.Test.YtpaoofkahhhjaaaDoorQ5Allx4
import Derived.Test.YtpaoofkahhhjaaaDoorQ5Allx5
import Derived.Test.YtpaoofkahhhjaaaDoorQ5MathA
namespace Go.Proofs.YtpaoofkahhhjaaaDoor.All
open Go.RowKit Go.Proofs.YtpaoofkahhhjaaaDoorW.PrintWords Go.Proofs.YtpaoofkahhhjaaaDoorW.PrintLast Go.Proofs.YtpaoofkahhhjaaaDoorW.PrintMore
open BM
theorem f_bound (n : Int) : bits_bound.f n = some (bd n : Int) := by unfold bits_bound.f; rw [bd_cast]
theorem mask_key : ∀ k : Fin 33, (shl .u64 4294967295 (32 - (k.1 : Int))) % 4294967296 = ((msk k.1 : Nat) : Int) := by decide +kernel
theorem f_Mask (n : Int) : bits_Mask.f n = some ((msk (bd n) : Nat) : Int) := by
  have h := bd_le n
  have hw : wrap64 (32 - (bd n : Int)) = 32 - (bd n : Int) := by unfold wrap64; omega
  unfold bits_Mask.f
  rw [f_bound]
  simp only [Option.bind_some]
  rw [hw, if_pos (by omega)]
  exact congrArg some (mask_key ⟨bd n, by omega⟩)
theorem mod_cut (a n : Nat) : a % 2^(32-n) = 0 ↔ cut a n = a := by
  unfold cut
  have := Nat.div_add_mod a (2^(32-n))
  rw [Nat.mul_comm] at this
  omega
def isPre (p l : Int) : Prop := 0 ≤ l ∧ l ≤ 32 ∧ 0 ≤ p ∧ p ≤ 4294967295 ∧ ((cut (lo p) (bd l) : Nat) : Int) = p
instance (p l : Int) : Decidable (isPre p l) := by unfold isPre; infer_instance
theorem f_May (p l : Int) : bits_May.f p l = some (decide (isPre p l)) := by
  unfold bits_May.f
  by_cases h1 : l ≥ 0
  · rw [if_pos h1]
    by_cases h2 : l ≤ 32
    · rw [if_pos h2]
      by_cases h3 : p ≥ 0
      · rw [if_pos h3]
        by_cases h4 : p ≤ 4294967295
        · rw [if_pos h4, f_Mask]
          simp only [Option.bind_some]
          have hb := bd_of l h1 h2
          have hp := lo_of p h3 h4
          have e1 : msk (bd l) = (2^(32-(32 - bd l)) - 1) * 2^(32 - bd l) := by unfold msk; rw [show 32 - (32 - bd l) = bd l from by omega]
          have e2 := andNot64 (lo p) (lo_lt p) (32 - bd l) (by omega)
          rw [hp, ← e1] at e2
          rw [e2]
          have e3 := mod_cut (lo p) (bd l)
          congr 1
          rw [Bool.eq_iff_iff, beq_iff_eq, decide_eq_true_iff]
          exact ⟨fun h => ⟨h1, h2, h3, h4, by omega⟩, fun h => by have := h.2.2.2.2; omega⟩
        · rw [if_neg h4, decide_eq_false (fun h : isPre p l => h4 h.2.2.2.1)]
      · rw [if_neg h3, decide_eq_false (fun h : isPre p l => h3 h.2.2.1)]
    · rw [if_neg h2, decide_eq_false (fun h : isPre p l => h2 h.2.1)]
  · rw [if_neg h1, decide_eq_false (fun h : isPre p l => h1 h.1)]
end Go.Proofs.YtpaoofkahhhjaaaDoor.All
