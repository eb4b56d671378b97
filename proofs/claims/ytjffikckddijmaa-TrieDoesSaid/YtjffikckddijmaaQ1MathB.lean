/- What the printed functions of package bits come to, in the words of the plain facts on addresses. -/
import Derived.Test.YtjffikckddijmaaQ1Allx0
import Derived.Test.YtjffikckddijmaaQ1Allx3
import Derived.Test.YtjffikckddijmaaQ1Allx4
import Derived.Test.YtjffikckddijmaaQ1Allx5
import Derived.Test.YtjffikckddijmaaQ1MathA
namespace Go.Proofs.Ytjffikckddijmaa.All
open Go.RowKit Go.Proofs.YtjffikckddijmaaW.PrintWords Go.Proofs.YtjffikckddijmaaW.PrintLast Go.Proofs.YtjffikckddijmaaW.PrintMore
open BM
theorem f_bound (n : Int) : bits_bound.f n = some (bd n : Int) := by unfold bits_bound.f; rw [bd_cast]
theorem mask_key : ∀ k : Fin 33, (shl .u64 4294967295 (32 - (k.1 : Int))) % 4294967296 = ((msk k.1 : Nat) : Int) := by decide +kernel
theorem f_Mask (n : Int) : bits_Mask.f n = some ((msk (bd n) : Nat) : Int) := by
  have h := bd_le n
  have hw : wrap64 (32 - (bd n : Int)) = 32 - (bd n : Int) := by unfold wrap64; omega
  unfold bits_Mask.f
  rw [f_bound]
  simp only [Option.bind_some]
  rw [hw, if_pos (by omega)]
  exact congrArg some (mask_key ⟨bd n, by omega⟩)
theorem f_Cut (a n : Int) : bits_Cut.f a n = some (((cut (lo a) (bd n) : Nat) : Int), (bd n : Int)) := by
  unfold bits_Cut.f
  rw [f_Mask, f_bound]
  simp only [Option.bind_some]
  rw [and64 a _ (msk_lt _ (bd_le n)), and_msk _ _ (lo_lt a) (bd_le n)]
theorem f_Has (p l a : Int) : bits_Has.f p l a = some ((((cut (lo a) (bd l) : Nat) : Int) == p) && ((bd l : Int) == l)) := by
  unfold bits_Has.f
  rw [f_Cut]
  rfl
theorem mod_cut (a n : Nat) : a % 2^(32-n) = 0 ↔ cut a n = a := by
  unfold cut
  have := Nat.div_add_mod a (2^(32-n))
  rw [Nat.mul_comm] at this
  omega
def isPre (p l : Int) : Prop := 0 ≤ l ∧ l ≤ 32 ∧ 0 ≤ p ∧ p ≤ 4294967295 ∧ ((cut (lo p) (bd l) : Nat) : Int) = p
instance (p l : Int) : Decidable (isPre p l) := by unfold isPre; infer_instance
theorem f_May (p l : Int) : bits_May.f p l = some (decide (isPre p l)) := by
  unfold bits_May.f
  by_cases h1 : l ≥ 0
  · rw [if_pos h1]
    by_cases h2 : l ≤ 32
    · rw [if_pos h2]
      by_cases h3 : p ≥ 0
      · rw [if_pos h3]
        by_cases h4 : p ≤ 4294967295
        · rw [if_pos h4, f_Mask]
          simp only [Option.bind_some]
          have hb := bd_of l h1 h2
          have hp := lo_of p h3 h4
          have e1 : msk (bd l) = (2^(32-(32 - bd l)) - 1) * 2^(32 - bd l) := by unfold msk; rw [show 32 - (32 - bd l) = bd l from by omega]
          have e2 := andNot64 (lo p) (lo_lt p) (32 - bd l) (by omega)
          rw [hp, ← e1] at e2
          rw [e2]
          have e3 := mod_cut (lo p) (bd l)
          congr 1
          rw [Bool.eq_iff_iff, beq_iff_eq, decide_eq_true_iff]
          exact ⟨fun h => ⟨h1, h2, h3, h4, by omega⟩, fun h => by have := h.2.2.2.2; omega⟩
        · rw [if_neg h4, decide_eq_false (fun h : isPre p l => h4 h.2.2.2.1)]
      · rw [if_neg h3, decide_eq_false (fun h : isPre p l => h3 h.2.2.1)]
    · rw [if_neg h2, decide_eq_false (fun h : isPre p l => h2 h.2.1)]
  · rw [if_neg h1, decide_eq_false (fun h : isPre p l => h1 h.1)]
set_option maxRecDepth 100000 in
theorem tab_key : ∀ y : Fin 256, bt (⟨#[0, 1, 2, 2, 3, 3, 3, 3, 4, 4, 4, 4, 4, 4, 4, 4, 5, 5, 5, 5, 5, 5, 5, 5, 5, 5, 5, 5, 5, 5, 5, 5, 6, 6, 6, 6, 6, 6, 6, 6, 6, 6, 6, 6, 6, 6, 6, 6, 6, 6, 6, 6, 6, 6, 6, 6, 6, 6, 6, 6, 6, 6, 6, 6, 7, 7, 7, 7, 7, 7, 7, 7, 7, 7, 7, 7, 7, 7, 7, 7, 7, 7, 7, 7, 7, 7, 7, 7, 7, 7, 7, 7, 7, 7, 7, 7, 7, 7, 7, 7, 7, 7, 7, 7, 7, 7, 7, 7, 7, 7, 7, 7, 7, 7, 7, 7, 7, 7, 7, 7, 7, 7, 7, 7, 7, 7, 7, 7, 8, 8, 8, 8, 8, 8, 8, 8, 8, 8, 8, 8, 8, 8, 8, 8, 8, 8, 8, 8, 8, 8, 8, 8, 8, 8, 8, 8, 8, 8, 8, 8, 8, 8, 8, 8, 8, 8, 8, 8, 8, 8, 8, 8, 8, 8, 8, 8, 8, 8, 8, 8, 8, 8, 8, 8, 8, 8, 8, 8, 8, 8, 8, 8, 8, 8, 8, 8, 8, 8, 8, 8, 8, 8, 8, 8, 8, 8, 8, 8, 8, 8, 8, 8, 8, 8, 8, 8, 8, 8, 8, 8, 8, 8, 8, 8, 8, 8, 8, 8, 8, 8, 8, 8, 8, 8, 8, 8, 8, 8, 8, 8, 8, 8, 8, 8, 8, 8, 8, 8, 8, 8, 8, 8, 8, 8, 8, 8]⟩ : ByteArray) (y.1 : Int) = ((len y.1 : Nat) : Int) := by decide +kernel
theorem tab_bt (x : Int) (h0 : 0 ≤ x) (h1 : x < 256) : bt (⟨#[0, 1, 2, 2, 3, 3, 3, 3, 4, 4, 4, 4, 4, 4, 4, 4, 5, 5, 5, 5, 5, 5, 5, 5, 5, 5, 5, 5, 5, 5, 5, 5, 6, 6, 6, 6, 6, 6, 6, 6, 6, 6, 6, 6, 6, 6, 6, 6, 6, 6, 6, 6, 6, 6, 6, 6, 6, 6, 6, 6, 6, 6, 6, 6, 7, 7, 7, 7, 7, 7, 7, 7, 7, 7, 7, 7, 7, 7, 7, 7, 7, 7, 7, 7, 7, 7, 7, 7, 7, 7, 7, 7, 7, 7, 7, 7, 7, 7, 7, 7, 7, 7, 7, 7, 7, 7, 7, 7, 7, 7, 7, 7, 7, 7, 7, 7, 7, 7, 7, 7, 7, 7, 7, 7, 7, 7, 7, 7, 8, 8, 8, 8, 8, 8, 8, 8, 8, 8, 8, 8, 8, 8, 8, 8, 8, 8, 8, 8, 8, 8, 8, 8, 8, 8, 8, 8, 8, 8, 8, 8, 8, 8, 8, 8, 8, 8, 8, 8, 8, 8, 8, 8, 8, 8, 8, 8, 8, 8, 8, 8, 8, 8, 8, 8, 8, 8, 8, 8, 8, 8, 8, 8, 8, 8, 8, 8, 8, 8, 8, 8, 8, 8, 8, 8, 8, 8, 8, 8, 8, 8, 8, 8, 8, 8, 8, 8, 8, 8, 8, 8, 8, 8, 8, 8, 8, 8, 8, 8, 8, 8, 8, 8, 8, 8, 8, 8, 8, 8, 8, 8, 8, 8, 8, 8, 8, 8, 8, 8, 8, 8, 8, 8, 8, 8, 8, 8]⟩ : ByteArray) x = ((len x.toNat : Nat) : Int) := by
  have h := tab_key ⟨x.toNat, by omega⟩
  rw [show (((⟨x.toNat, by omega⟩ : Fin 256).1 : Nat) : Int) = x from by show (x.toNat : Int) = x; omega] at h
  exact h
theorem len_small (x : Nat) (k : Nat) (h : x < 2^k) : len x ≤ k := (len_le_iff x k).mpr h
theorem f_Len32 (x : Nat) (h1 : x < 4294967296) : bits_Len32.f (x : Int) = some ((len x : Nat) : Int) := by
  have hs := fun (y : Nat) (hy : y < 256) => len_small y 8 hy
  unfold bits_Len32.f
  by_cases c1 : (x : Int) ≥ 65536
  · rw [if_pos c1]
    have l1 := len_shift x 16 (by omega)
    by_cases c2 : (x : Int) / 65536 ≥ 256
    · have l2 := len_shift (x / 2^16) 8 (by omega)
      have e : ((x : Int) / 65536 / 256) % 256 = ((x / 2^16 / 2^8 : Nat) : Int) := by omega
      have hb := hs (x / 2^16 / 2^8) (by omega)
      rw [if_pos c2, e, if_pos (by omega), if_pos (by omega), tab_bt _ (by omega) (by omega), Int.toNat_natCast, l1, l2]
      congr 1
      unfold wrap64
      omega
    · have e : ((x : Int) / 65536) % 256 = ((x / 2^16 : Nat) : Int) := by omega
      have hb := hs (x / 2^16) (by omega)
      rw [if_neg c2, e, if_pos (by omega), if_pos (by omega), tab_bt _ (by omega) (by omega), Int.toNat_natCast, l1]
      congr 1
      unfold wrap64
      omega
  · rw [if_neg c1]
    by_cases c2 : (x : Int) ≥ 256
    · have l2 := len_shift x 8 (by omega)
      have e : ((x : Int) / 256) % 256 = ((x / 2^8 : Nat) : Int) := by omega
      have hb := hs (x / 2^8) (by omega)
      rw [if_pos c2, e, if_pos (by omega), if_pos (by omega), tab_bt _ (by omega) (by omega), Int.toNat_natCast, l2]
      congr 1
      unfold wrap64
      omega
    · have e : (x : Int) % 256 = (x : Int) := by omega
      have hb := hs x (by omega)
      rw [if_neg c2, e, if_pos (by omega), if_pos (by omega), tab_bt _ (by omega) (by omega), Int.toNat_natCast]
      congr 1
      unfold wrap64
      omega
theorem f_Common (a b : Int) : bits_Common.f a b = some ((com (lo a) (lo b) : Nat) : Int) := by
  have hx : Go.bits .xor .u32 (a % 4294967296) (b % 4294967296) = ((lo a ^^^ lo b : Nat) : Int) := Go.u32_xor _ _ (by omega) (by omega) (by omega) (by omega)
  have hl : lo a ^^^ lo b < 2^32 := Nat.xor_lt_two_pow (lo_lt a) (lo_lt b)
  have hk := len_small _ 32 hl
  unfold bits_Common.f bits_LeadingZeros32.f
  rw [hx, f_Len32 _ hl]
  simp only [Option.bind_some]
  congr 1
  unfold com wrap64
  omega
end Go.Proofs.Ytjffikckddijmaa.All
