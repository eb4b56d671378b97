/- In one width the lesser number has the lesser bytes, and two numbers have the same bytes only if they are the same (whole numbers of 64 bits, any width). -/
import Derived.Test.YtjcjkfiebmbdmaaAllx2
import Derived.Test.YtjcjkfiebmbdmaaMathB
set_option linter.unusedVariables false
set_option linter.unusedSimpArgs false
namespace Go.Proofs.Ytjcjkfiebmbdmaa.Pure
open Go.RowKit Go.Proofs.Ytjcjkfiebmbdmaa.All Go.Proofs.YtjcjkfiebmbdmaaW.PrintWords Go.Proofs.YtjcjkfiebmbdmaaW.PrintLast Go.Proofs.YtjcjkfiebmbdmaaW.PrintMore
open Go.Proofs.Ytjcjkfiebmbdmaa.All.OB

theorem less_be (w : Nat) : ∀ (a b : Nat), a < 256 ^ w → b < 256 ^ w → Op.bytesLess (Lib.bytesOf (be a w)) (Lib.bytesOf (be b w)) = decide (a < b) := by
  induction w with
  | zero =>
    intro a b ha hb
    simp at ha hb
    subst ha hb
    rfl
  | succ w ih =>
    intro a b ha hb
    have hp : 0 < 256 ^ w := Nat.pow_pos (by decide)
    have hq : 256 ^ (w + 1) = 256 ^ w * 256 := Nat.pow_succ ..
    have ea : be a w = be (a % 256 ^ w) w := (be_mod a w w (Nat.le_refl _)).symm
    have eb : be b w = be (b % 256 ^ w) w := (be_mod b w w (Nat.le_refl _)).symm
    have hI := ih (a % 256 ^ w) (b % 256 ^ w) (Nat.mod_lt _ hp) (Nat.mod_lt _ hp)
    have da := Nat.div_add_mod a (256 ^ w)
    have db := Nat.div_add_mod b (256 ^ w)
    have qa : a / 256 ^ w < 256 := Nat.div_lt_of_lt_mul (by rw [← hq]; exact ha)
    have qb : b / 256 ^ w < 256 := Nat.div_lt_of_lt_mul (by rw [← hq]; exact hb)
    simp only [be, Lib.bytesOf, List.map_cons, Op.bytesLess]
    rw [← Lib.bytesOf, ← Lib.bytesOf, ea, eb, hI]
    have ra := Nat.mod_lt a hp
    have rb := Nat.mod_lt b hp
    generalize 256 ^ w = p at *
    rw [Int.toNat_natCast, Int.toNat_natCast, Nat.mod_eq_of_lt qa, Nat.mod_eq_of_lt qb]
    rw [Bool.eq_iff_iff, decide_eq_true_iff, Bool.or_eq_true, Bool.and_eq_true, decide_eq_true_iff, decide_eq_true_iff, beq_iff_eq, UInt8.lt_iff_toNat_lt, ← UInt8.toNat_inj]
    simp only [UInt8.toNat_ofNat']
    rw [Nat.mod_eq_of_lt (by omega : a / p < 2 ^ 8), Nat.mod_eq_of_lt (by omega : b / p < 2 ^ 8)]
    generalize a / p = x at *
    generalize b / p = y at *
    generalize a % p = u at *
    generalize b % p = v at *
    constructor
    · rintro (h | ⟨h1, h2⟩)
      · have h2 : p * (x + 1) ≤ p * y := Nat.mul_le_mul_left p h
        rw [Nat.mul_add] at h2
        omega
      · subst h1
        omega
    · intro h
      by_cases h1 : x < y
      · exact Or.inl h1
      · by_cases h2 : x = y
        · subst h2
          exact Or.inr ⟨rfl, by omega⟩
        · have h3 : p * (y + 1) ≤ p * x := Nat.mul_le_mul_left p (by omega)
          rw [Nat.mul_add] at h3
          omega
theorem OctetsOrder : wayfinderlaw02_OctetsOrder.Pure := by
  intro a b w _ _ _
  refine ⟨100, ?_⟩
  unfold wayfinderlaw02_OctetsOrder.f
  rw [f_awake _ (by omega), f_Put _ (by omega), f_Put _ (by omega)]
  simp only [Option.bind_some, if_true, putR]
  by_cases ha : mayPut a w
  · by_cases hb : mayPut b w
    · obtain ⟨A, rfl⟩ := Int.eq_ofNat_of_zero_le ha.2.2.1
      obtain ⟨B, rfl⟩ := Int.eq_ofNat_of_zero_le hb.2.2.1
      have hw := ha.1
      have hA : A < 256 ^ w.toNat := by have := ha.2.2.2; omega
      have hB : B < 256 ^ w.toNat := by have := hb.2.2.2; omega
      simp only [if_pos ha, if_pos hb, be_length, Int.toNat_natCast, if_true]
      have c1 : ((w.toNat : Nat) : Int) = w := by omega
      rw [if_pos c1, if_pos c1, Lib.strOfNums_toList, Lib.strOfNums_toList, less_be _ _ _ hA hB]
      have e1 : (decide (A < B) == decide ((A : Int) < (B : Int))) = true := by
        rw [beq_iff_eq, Bool.eq_iff_iff, decide_eq_true_iff, decide_eq_true_iff]; omega
      have e2 : ((Lib.bytesOf (be A w.toNat) == Lib.bytesOf (be B w.toNat)) == ((A : Int) == (B : Int))) = true := by
        rw [← Lib.strOfNums_toList, ← Lib.strOfNums_toList, beq_iff_eq, Bool.eq_iff_iff, beq_iff_eq, beq_iff_eq, str_inj (be_bytes _ _) (be_bytes _ _)]
        constructor
        · intro h
          rw [be_inj _ _ _ hA hB h]
        · intro h
          rw [show A = B by omega]
      rw [if_pos e1, e2]
    · simp [if_neg hb, if_pos ha]
  · simp [if_neg ha]
end Go.Proofs.Ytjcjkfiebmbdmaa.Pure
