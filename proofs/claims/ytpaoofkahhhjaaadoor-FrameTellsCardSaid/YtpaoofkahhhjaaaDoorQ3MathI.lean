/- The document's May, Put and Fits of layer 4. -/
import Derived.Test.YtpaoofkahhhjaaaDoorQ3Allx0
import Derived.Test.YtpaoofkahhhjaaaDoorQ3Allx10
import Derived.Test.YtpaoofkahhhjaaaDoorQ3Allx12
import Derived.Test.YtpaoofkahhhjaaaDoorQ3MathB
import Derived.Test.YtpaoofkahhhjaaaDoorQ3MathC
import Derived.Test.YtpaoofkahhhjaaaDoorQ3MathD
import Derived.Test.YtpaoofkahhhjaaaDoorQ3MathE
import Derived.Test.YtpaoofkahhhjaaaDoorQ3MathF
import Derived.Test.YtpaoofkahhhjaaaDoorQ3MathG
set_option linter.unusedVariables false
set_option linter.unusedSimpArgs false
namespace Go.Proofs.YtpaoofkahhhjaaaDoor.All
open Go.RowKit Go.Proofs.YtpaoofkahhhjaaaDoorW.PrintWords Go.Proofs.YtpaoofkahhhjaaaDoorW.PrintLast Go.Proofs.YtpaoofkahhhjaaaDoorW.PrintMore
open BM OB
theorem r_RMay (n : Nat) (hn : 100 ≤ n) (p l i q k o : Int) : wayfinderref04_May.f n p l i q k o = some (decide (isRule p l i q k o)) := by
  obtain ⟨n, rfl⟩ : ∃ m, n = m + 1 := ⟨n - 1, by omega⟩
  unfold wayfinderref04_May.f
  rw [r_May _ (by omega)]
  simp only [Option.bind_some]
  by_cases h1 : isPre p l
  · rw [decide_eq_true h1, if_pos rfl]
    by_cases h2 : i < -1
    · rw [if_pos h2]
      simp only [wayfinderref04_May.j0, if_true]
      rw [decide_eq_false (fun h : isRule p l i q k o => by have := h.2.1; omega)]
    · rw [if_neg h2]
      by_cases h3 : i > 7
      · rw [if_pos h3]
        simp only [wayfinderref04_May.j0, if_true]
        rw [decide_eq_false (fun h : isRule p l i q k o => by have := h.2.2.1; omega)]
      · rw [if_neg h3]
        by_cases h4 : q < 0
        · rw [if_pos h4]
          simp only [wayfinderref04_May.j0, if_true]
          rw [decide_eq_false (fun h : isRule p l i q k o => by have := h.2.2.2.1; omega)]
        · rw [if_neg h4]
          simp only [wayfinderref04_May.j0]
          by_cases h5 : q > 255
          · rw [decide_eq_true h5, if_pos rfl, decide_eq_false (fun h : isRule p l i q k o => by have := h.2.2.2.2.1; omega)]
          · rw [decide_eq_false h5, if_neg (by decide)]
            by_cases h6 : k = 0
            · rw [if_pos h6]
              congr 1
              rw [Bool.eq_iff_iff, beq_iff_eq, decide_eq_true_iff]
              exact ⟨fun h => ⟨h1, by omega, by omega, by omega, by omega, Or.inl ⟨h6, h⟩⟩, fun h => by have := h.2.2.2.2.2; omega⟩
            · rw [if_neg h6]
              by_cases h7 : k = 1
              · rw [if_pos h7]
                by_cases h8 : o ≥ 0
                · rw [if_pos h8]
                  exact ite_dec ⟨fun h => ⟨h1, by omega, by omega, by omega, by omega, Or.inr ⟨h7, h8, h⟩⟩, fun h => by have := h.2.2.2.2.2; omega⟩
                · rw [if_neg h8, decide_eq_false (fun h : isRule p l i q k o => by have := h.2.2.2.2.2; omega)]
              · rw [if_neg h7, decide_eq_false (fun h : isRule p l i q k o => by have := h.2.2.2.2.2; omega)]
  · rw [decide_eq_false h1, if_neg (by decide)]
    simp only [wayfinderref04_May.j0, if_true]
    rw [decide_eq_false (fun h : isRule p l i q k o => h1 h.1)]
theorem r_RPut (n : Nat) (hn : 200 ≤ n) (p l i q k o : Int) : wayfinderref04_Put.f n p l i q k o = some (rPutR p l i q k o) := by
  unfold wayfinderref04_Put.f rPutR
  rw [r_RMay _ (by omega)]
  simp only [Option.bind_some]
  by_cases h : isRule p l i q k o
  · rw [decide_eq_true h, if_pos rfl, if_pos h, r_PutAll _ _ _ (by simp) (by simp; omega)]
    obtain ⟨hp, h6, h7, h8, h9, h10⟩ := h
    have hm := pre_mayPut hp
    obtain ⟨h1, h2, h3, h4, _⟩ := hp
    have e2 : wrap64 (i + 1) = i + 1 := by unfold wrap64; omega
    have m1 : mayPut l 1 := ⟨by omega, by omega, by omega, by show l < ((256 ^ 1 : Nat) : Int); simp; omega⟩
    have m2 : mayPut (i + 1) 1 := ⟨by omega, by omega, by omega, by show i + 1 < ((256 ^ 1 : Nat) : Int); simp; omega⟩
    have m3 : mayPut q 1 := ⟨by omega, by omega, by omega, by show q < ((256 ^ 1 : Nat) : Int); simp; omega⟩
    have m4 : mayPut k 1 := ⟨by omega, by omega, by omega, by show k < ((256 ^ 1 : Nat) : Int); simp; omega⟩
    have m5 : mayPut o 1 := ⟨by omega, by omega, by omega, by show o < ((256 ^ 1 : Nat) : Int); simp; omega⟩
    have b1 : ∀ x : Int, 0 ≤ x → x ≤ 255 → be x.toNat (1 : Int).toNat = [x] := by
      intro x x0 x1
      obtain ⟨y, rfl⟩ := Int.eq_ofNat_of_zero_le x0
      show be y 1 = [(y : Int)]
      simp [be]
      omega
    rw [e2]
    simp only [putAllR, paR, if_pos hm, if_pos m1, if_pos m2, if_pos m3, if_pos m4, if_pos m5, outPa, List.length_cons, List.length_nil, if_true, Option.bind_some]
    rw [b1 l (by omega) (by omega), b1 (i + 1) (by omega) (by omega), b1 q (by omega) (by omega), b1 k (by omega) (by omega), b1 o (by omega) (by omega)]
    rfl
  · rw [decide_eq_false h, if_neg (by decide), if_neg h]
end Go.Proofs.YtpaoofkahhhjaaaDoor.All
