/- What package msg's May and Put come to. -/
import Derived.Test.YtpaoofkahhhjaaaDoorQ5Allx0
import Derived.Test.YtpaoofkahhhjaaaDoorQ5Allx6
import Derived.Test.YtpaoofkahhhjaaaDoorQ5Allx7
import Derived.Test.YtpaoofkahhhjaaaDoorQ5MathD
import Derived.Test.YtpaoofkahhhjaaaDoorQ5MathE
import Derived.Test.YtpaoofkahhhjaaaDoorQ5MathG
set_option linter.unusedVariables false
set_option linter.unusedSimpArgs false
namespace Go.Proofs.YtpaoofkahhhjaaaDoor.All
open Go.RowKit Go.Proofs.YtpaoofkahhhjaaaDoorW.PrintWords Go.Proofs.YtpaoofkahhhjaaaDoorW.PrintLast Go.Proofs.YtpaoofkahhhjaaaDoorW.PrintMore
open BM OB
def zeroRule (p l i q k o : Int) : Prop := p = 0 ∧ l = 0 ∧ i = 0 ∧ q = 0 ∧ k = 0 ∧ o = 0
instance (p l i q k o : Int) : Decidable (zeroRule p l i q k o) := by unfold zeroRule; infer_instance
def ruleOf (kd p l i q k o : Int) : Prop := if kd = 2 then isRule p l i q k o else zeroRule p l i q k o
instance (kd p l i q k o : Int) : Decidable (ruleOf kd p l i q k o) := by unfold ruleOf; infer_instance
def isMsg (kd ep sq tg p l i q k o : Int) : Prop := 0 ≤ kd ∧ kd ≤ 5 ∧ ruleOf kd p l i q k o ∧ 1 ≤ ep ∧ ep ≤ 1048576 ∧ (msg_tab kd).1 ≤ sq ∧ sq ≤ (msg_tab kd).2.1 ∧ (msg_tab kd).2.2.1 ≤ tg ∧ tg ≤ (msg_tab kd).2.2.2.1
instance (kd ep sq tg p l i q k o : Int) : Decidable (isMsg kd ep sq tg p l i q k o) := by unfold isMsg; infer_instance
theorem f_in (a b n : Int) : msg_bounds_in.f a b n = some (decide (a ≤ n ∧ n ≤ b)) := by
  unfold msg_bounds_in.f
  by_cases h : n ≥ a
  · rw [if_pos h]
    congr 1
    rw [Bool.eq_iff_iff, decide_eq_true_iff, decide_eq_true_iff]
    omega
  · rw [if_neg h, decide_eq_false (by omega)]
theorem zero_dec (p l i q k o : Int) : ((p == 0 && (l == 0)) && (i == 0 && (q == 0 && (k == 0 && (o == 0))))) = decide (zeroRule p l i q k o) := by
  rw [Bool.eq_iff_iff, decide_eq_true_iff]
  simp only [Bool.and_eq_true, beq_iff_eq]
  unfold zeroRule
  omega
theorem tab_rule (kd : Int) : (msg_tab kd).2.2.2.2 = decide (kd = 2) := by
  unfold msg_tab
  by_cases h1 : kd = 1
  · subst h1; rfl
  by_cases h2 : kd = 2
  · subst h2; rfl
  by_cases h3 : kd = 3
  · subst h3; rfl
  by_cases h4 : kd = 4
  · subst h4; rfl
  by_cases h5 : kd = 5
  · subst h5; rfl
  rw [if_neg h1, if_neg h2, if_neg h3, if_neg h4, if_neg h5, decide_eq_false h2]
theorem tab_bounds (kd : Int) : 0 ≤ (msg_tab kd).1 ∧ (msg_tab kd).2.1 ≤ 1048576 ∧ 0 ≤ (msg_tab kd).2.2.1 ∧ (msg_tab kd).2.2.2.1 ≤ 4095 := by
  unfold msg_tab
  by_cases h1 : kd = 1
  · subst h1; decide
  by_cases h2 : kd = 2
  · subst h2; decide
  by_cases h3 : kd = 3
  · subst h3; decide
  by_cases h4 : kd = 4
  · subst h4; decide
  by_cases h5 : kd = 5
  · subst h5; decide
  rw [if_neg h1, if_neg h2, if_neg h3, if_neg h4, if_neg h5]
  decide
theorem isMsg_bounds {kd ep sq tg p l i q k o : Int} (h : isMsg kd ep sq tg p l i q k o) : 0 ≤ kd ∧ kd ≤ 5 ∧ 1 ≤ ep ∧ ep ≤ 1048576 ∧ 0 ≤ sq ∧ sq ≤ 1048576 ∧ 0 ≤ tg ∧ tg ≤ 4095 := by
  have hb := tab_bounds kd
  obtain ⟨h1, h2, h3, h4, h5, h6, h7, h8, h9⟩ := h
  omega
theorem f_MMay (kd ep sq tg p l i q k o : Int) : msg_May.f kd ep sq tg p l i q k o = some (decide (isMsg kd ep sq tg p l i q k o)) := by
  unfold msg_May.f
  by_cases h1 : kd < 0
  · rw [if_pos h1, decide_eq_false (fun h : isMsg kd ep sq tg p l i q k o => by have := h.1; omega)]
  by_cases h2 : kd ≥ 6
  · rw [if_neg h1, if_pos h2, decide_eq_false (fun h : isMsg kd ep sq tg p l i q k o => by have := h.2.1; omega)]
  rw [if_neg h1, if_neg h2, tab_rule, zero_dec, f_RMay, f_in, f_in, f_in]
  have hr : (if decide (kd = 2) = true then some (decide (isRule p l i q k o)) else some (decide (zeroRule p l i q k o))) = some (decide (ruleOf kd p l i q k o)) := by
    unfold ruleOf
    by_cases h3 : kd = 2
    · simp [h3]
    · simp [h3]
  rw [hr]
  simp only [Option.bind_some]
  congr 1
  rw [Bool.eq_iff_iff, decide_eq_true_iff]
  simp only [Bool.and_eq_true, decide_eq_true_iff]
  unfold isMsg
  constructor
  · rintro ⟨g1, ⟨g2, g3⟩, ⟨g4, g5⟩, g6, g7⟩
    exact ⟨by omega, by omega, g1, g2, g3, g4, g5, g6, g7⟩
  · rintro ⟨_, _, g1, g2, g3, g4, g5, g6, g7⟩
    exact ⟨g1, ⟨g2, g3⟩, ⟨g4, g5⟩, g6, g7⟩
def msgHead (kd ep sq tg : Int) : List Int := be kd.toNat 1 ++ (be ep.toNat 3 ++ (be sq.toNat 3 ++ be tg.toNat 2))
def msgBytes (kd ep sq tg p l i q k o : Int) : List Int := if kd = 2 then msgHead kd ep sq tg ++ ruleBytes p l i q k o else msgHead kd ep sq tg
theorem msgHead_length (kd ep sq tg : Int) : (msgHead kd ep sq tg).length = 9 := by
  unfold msgHead
  simp only [List.length_append, be_length]
theorem msgBytes_length (kd ep sq tg p l i q k o : Int) : (msgBytes kd ep sq tg p l i q k o).length = if kd = 2 then 18 else 9 := by
  unfold msgBytes
  by_cases h : kd = 2
  · rw [if_pos h, if_pos h, List.length_append, msgHead_length, ruleBytes_length]
  · rw [if_neg h, if_neg h, msgHead_length]
def mPutR (kd ep sq tg p l i q k o : Int) : List Int × Int := if isMsg kd ep sq tg p l i q k o then (msgBytes kd ep sq tg p l i q k o, 0) else ([], 1)
theorem msg_paR {kd ep sq tg p l i q k o : Int} (h : isMsg kd ep sq tg p l i q k o) : putAllR [kd, ep, sq, tg] [1, 3, 3, 2] = (msgHead kd ep sq tg, 0) := by
  obtain ⟨h1, h2, h3, h4, h5, h6, h7, h8⟩ := isMsg_bounds h
  have m1 : mayPut kd 1 := ⟨by omega, by omega, by omega, by show kd < ((256 ^ 1 : Nat) : Int); simp; omega⟩
  have m2 : mayPut ep 3 := ⟨by omega, by omega, by omega, by show ep < ((256 ^ 3 : Nat) : Int); simp; omega⟩
  have m3 : mayPut sq 3 := ⟨by omega, by omega, by omega, by show sq < ((256 ^ 3 : Nat) : Int); simp; omega⟩
  have m4 : mayPut tg 2 := ⟨by omega, by omega, by omega, by show tg < ((256 ^ 2 : Nat) : Int); simp; omega⟩
  unfold putAllR msgHead
  simp only [paR, if_pos m1, if_pos m2, if_pos m3, if_pos m4, outPa, List.length_cons, List.length_nil, if_true, List.append_nil]
  rfl
theorem f_MPut (n : Nat) (hn : 100 ≤ n) (kd ep sq tg p l i q k o : Int) : msg_Put.f n kd ep sq tg p l i q k o = some (mPutR kd ep sq tg p l i q k o) := by
  unfold msg_Put.f mPutR
  rw [f_MMay]
  simp only [Option.bind_some]
  by_cases h : isMsg kd ep sq tg p l i q k o
  · rw [decide_eq_true h, if_pos rfl, if_pos h, f_PutAll n _ _ (by simp) (by simp; omega), msg_paR h]
    simp only [Option.bind_some, if_true]
    unfold msgBytes
    by_cases h2 : kd = 2
    · have hr : isRule p l i q k o := by have := h.2.2.1; unfold ruleOf at this; rw [if_pos h2] at this; exact this
      rw [if_pos h2, if_pos h2, f_RPut n (by omega)]
      unfold rPutR
      rw [if_pos hr]
      simp only [Option.bind_some]
      rw [if_pos (by rw [msgHead_length, ruleBytes_length]; omega)]
    · rw [if_neg h2, if_neg h2]
  · rw [decide_eq_false h, if_neg (by decide), if_neg h]
end Go.Proofs.YtpaoofkahhhjaaaDoor.All
