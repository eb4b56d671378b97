/- What package rule's May and Put come to. -/
import Derived.Test.YtpaoofkahhhjaaaDoorQ5Allx0
import Derived.Test.YtpaoofkahhhjaaaDoorQ5Allx6
import Derived.Test.YtpaoofkahhhjaaaDoorQ5Allx7
import Derived.Test.YtpaoofkahhhjaaaDoorQ5MathB
import Derived.Test.YtpaoofkahhhjaaaDoorQ5MathD
import Derived.Test.YtpaoofkahhhjaaaDoorQ5MathE
set_option linter.unusedVariables false
set_option linter.unusedSimpArgs false
namespace Go.Proofs.YtpaoofkahhhjaaaDoor.All
open Go.RowKit Go.Proofs.YtpaoofkahhhjaaaDoorW.PrintWords Go.Proofs.YtpaoofkahhhjaaaDoorW.PrintLast Go.Proofs.YtpaoofkahhhjaaaDoorW.PrintMore
open BM OB
def isRule (p l i q k o : Int) : Prop := isPre p l ∧ -1 ≤ i ∧ i ≤ 7 ∧ 0 ≤ q ∧ q ≤ 255 ∧ ((k = 0 ∧ o = 0) ∨ (k = 1 ∧ 0 ≤ o ∧ o ≤ 7))
instance (p l i q k o : Int) : Decidable (isRule p l i q k o) := by unfold isRule; infer_instance
theorem ite_dec {c d : Prop} [Decidable c] [Decidable d] (h : c ↔ d) : (some (decide c) : Option Bool) = some (decide d) := by
  congr 1
  rw [Bool.eq_iff_iff, decide_eq_true_iff, decide_eq_true_iff]
  exact h
theorem rest_dec (p l i q k o : Int) (hk : (k = 0 ∧ o = 0) ∨ (k = 1 ∧ 0 ≤ o ∧ o ≤ 7)) : ((some (decide (isPre p l)) : Option Bool).bind fun t => (if t = true then (if i ≥ (-1) then (if i ≤ 7 then (if q ≥ 0 then (some (decide (q ≤ 255))) else (some false)) else (some false)) else (some false)) else (some false))) = some (decide (isRule p l i q k o)) := by
  simp only [Option.bind_some]
  by_cases h1 : isPre p l
  · rw [decide_eq_true h1, if_pos rfl]
    by_cases h2 : i ≥ -1
    · rw [if_pos h2]
      by_cases h3 : i ≤ 7
      · rw [if_pos h3]
        by_cases h4 : q ≥ 0
        · rw [if_pos h4]
          exact ite_dec ⟨fun h => ⟨h1, h2, h3, h4, h, hk⟩, fun h => h.2.2.2.2.1⟩
        · rw [if_neg h4, decide_eq_false (fun h : isRule p l i q k o => h4 h.2.2.2.1)]
      · rw [if_neg h3, decide_eq_false (fun h : isRule p l i q k o => h3 h.2.2.1)]
    · rw [if_neg h2, decide_eq_false (fun h : isRule p l i q k o => h2 h.2.1)]
  · rw [decide_eq_false h1, if_neg (by decide), decide_eq_false (fun h : isRule p l i q k o => h1 h.1)]
theorem f_RMay (p l i q k o : Int) : rule_May.f p l i q k o = some (decide (isRule p l i q k o)) := by
  unfold rule_May.f
  rw [f_May]
  by_cases h1 : k = 0 ∧ o = 0
  · rw [if_pos (by rw [Bool.and_eq_true, beq_iff_eq, beq_iff_eq]; exact h1)]
    exact rest_dec p l i q k o (Or.inl h1)
  · rw [if_neg (by rw [Bool.and_eq_true, beq_iff_eq, beq_iff_eq]; exact h1)]
    by_cases h2 : k = 1
    · rw [if_pos h2]
      by_cases h3 : o ≥ 0
      · rw [if_pos h3]
        by_cases h4 : o ≤ 7
        · rw [if_pos h4]
          exact rest_dec p l i q k o (Or.inr ⟨h2, h3, h4⟩)
        · rw [if_neg h4, decide_eq_false (fun h : isRule p l i q k o => by have := h.2.2.2.2.2; omega)]
      · rw [if_neg h3, decide_eq_false (fun h : isRule p l i q k o => by have := h.2.2.2.2.2; omega)]
    · rw [if_neg h2, decide_eq_false (fun h : isRule p l i q k o => by have := h.2.2.2.2.2; omega)]
def ruleBytes (p l i q k o : Int) : List Int := be p.toNat 4 ++ [l, i + 1, q, k, o]
theorem ruleBytes_length (p l i q k o : Int) : (ruleBytes p l i q k o).length = 9 := by unfold ruleBytes; rw [List.length_append, be_length]; rfl
theorem ruleBytes_bytes {p l i q k o : Int} (h : isRule p l i q k o) : Bys (ruleBytes p l i q k o) := by
  unfold ruleBytes
  refine (be_bytes _ _).append ?_
  obtain ⟨⟨h1, h2, h3, h4, _⟩, h6, h7, h8, h9, h10⟩ := h
  intro x hx
  simp only [List.mem_cons, List.not_mem_nil, or_false] at hx
  rcases hx with rfl | rfl | rfl | rfl | rfl <;> omega
def rPutR (p l i q k o : Int) : List Int × Int := if isRule p l i q k o then (ruleBytes p l i q k o, 0) else ([], 1)
theorem pre_mayPut {p l : Int} (h : isPre p l) : mayPut p 4 := by
  obtain ⟨h1, h2, h3, h4, _⟩ := h
  refine ⟨by omega, by omega, h3, ?_⟩
  show p < ((256 ^ 4 : Nat) : Int)
  simp
  omega
theorem f_RPut (n : Nat) (hn : 20 ≤ n) (p l i q k o : Int) : rule_Put.f n p l i q k o = some (rPutR p l i q k o) := by
  unfold rule_Put.f rPutR
  rw [f_RMay]
  simp only [Option.bind_some]
  by_cases h : isRule p l i q k o
  · rw [decide_eq_true h, if_pos rfl, if_pos h, f_Put n (by omega)]
    obtain ⟨hp, h6, h7, h8, h9, h10⟩ := h
    have hm := pre_mayPut hp
    obtain ⟨h1, h2, h3, h4, _⟩ := hp
    have e1 : l % 256 = l := by omega
    have e2 : wrap64 (i + 1) % 256 = i + 1 := by unfold wrap64; omega
    have e3 : q % 256 = q := by omega
    have e4 : k % 256 = k := by omega
    have e5 : o % 256 = o := by omega
    simp only [Option.bind_some, putR, if_pos hm, e1, e2, e3, e4, e5]
    clear e2
    rw [if_pos (by rw [be_length]; simp)]
    rfl
  · rw [decide_eq_false h, if_neg (by decide), if_neg h]
end Go.Proofs.YtpaoofkahhhjaaaDoor.All
