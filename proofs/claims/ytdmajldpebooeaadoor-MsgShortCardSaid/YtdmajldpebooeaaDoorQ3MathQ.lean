/- That msg.Put and msg.Get undo each other; bytes cut short, and with one more. -/
import Derived.Test.YtdmajldpebooeaaDoorQ3Allx0
import Derived.Test.YtdmajldpebooeaaDoorQ3MathA
import Derived.Test.YtdmajldpebooeaaDoorQ3MathD
import Derived.Test.YtdmajldpebooeaaDoorQ3MathG
import Derived.Test.YtdmajldpebooeaaDoorQ3MathJ
import Derived.Test.YtdmajldpebooeaaDoorQ3MathM
import Derived.Test.YtdmajldpebooeaaDoorQ3MathN
set_option linter.unusedVariables false
set_option linter.unusedSimpArgs false
namespace Go.Proofs.YtdmajldpebooeaaDoor.All
open Go.RowKit Go.Proofs.YtdmajldpebooeaaDoorW.PrintWords Go.Proofs.YtdmajldpebooeaaDoorW.PrintLast Go.Proofs.YtdmajldpebooeaaDoorW.PrintMore
open BM OB
theorem head_cut (kd ep sq tg : Int) (rest : List Int) : ((msgHead kd ep sq tg ++ rest).drop 0).take 1 = be kd.toNat 1 ∧ ((msgHead kd ep sq tg ++ rest).drop 1).take 3 = be ep.toNat 3 ∧ ((msgHead kd ep sq tg ++ rest).drop 4).take 3 = be sq.toNat 3 ∧ ((msgHead kd ep sq tg ++ rest).drop 7).take 2 = be tg.toNat 2 ∧ (msgHead kd ep sq tg ++ rest).drop 9 = rest := by
  have e : msgHead kd ep sq tg ++ rest = be kd.toNat 1 ++ (be ep.toNat 3 ++ (be sq.toNat 3 ++ (be tg.toNat 2 ++ rest))) := by
    unfold msgHead
    simp only [List.append_assoc]
  rw [e]
  have d1 : (be kd.toNat 1 ++ (be ep.toNat 3 ++ (be sq.toNat 3 ++ (be tg.toNat 2 ++ rest)))).drop 1 = be ep.toNat 3 ++ (be sq.toNat 3 ++ (be tg.toNat 2 ++ rest)) := List.drop_left' (be_length _ _)
  have d4 : (be kd.toNat 1 ++ (be ep.toNat 3 ++ (be sq.toNat 3 ++ (be tg.toNat 2 ++ rest)))).drop 4 = be sq.toNat 3 ++ (be tg.toNat 2 ++ rest) := by
    rw [show 4 = 1 + 3 from rfl, ← List.drop_drop, d1]
    exact List.drop_left' (be_length _ _)
  have d7 : (be kd.toNat 1 ++ (be ep.toNat 3 ++ (be sq.toNat 3 ++ (be tg.toNat 2 ++ rest)))).drop 7 = be tg.toNat 2 ++ rest := by
    rw [show 7 = 4 + 3 from rfl, ← List.drop_drop, d4]
    exact List.drop_left' (be_length _ _)
  have d9 : (be kd.toNat 1 ++ (be ep.toNat 3 ++ (be sq.toNat 3 ++ (be tg.toNat 2 ++ rest)))).drop 9 = rest := by
    rw [show 9 = 7 + 2 from rfl, ← List.drop_drop, d7]
    exact List.drop_left' (be_length _ _)
  rw [d1, d4, d7, d9, List.drop_zero]
  exact ⟨List.take_left' (be_length _ _), List.take_left' (be_length _ _), List.take_left' (be_length _ _), List.take_left' (be_length _ _), rfl⟩
theorem head_read {kd ep sq tg p l i q k o : Int} (h : isMsg kd ep sq tg p l i q k o) (rest : List Int) : rdv (msgHead kd ep sq tg ++ rest) 0 1 = kd ∧ rdv (msgHead kd ep sq tg ++ rest) 1 3 = ep ∧ rdv (msgHead kd ep sq tg ++ rest) 4 3 = sq ∧ rdv (msgHead kd ep sq tg ++ rest) 7 2 = tg := by
  obtain ⟨h1, h2, h3, h4, h5, h6, h7, h8⟩ := isMsg_bounds h
  obtain ⟨c0, c1, c4, c7, _⟩ := head_cut kd ep sq tg rest
  have p1 : (256 : Nat) ^ 1 = 256 := rfl
  have p2 : (256 : Nat) ^ 2 = 65536 := rfl
  have p3 : (256 : Nat) ^ 3 = 16777216 := rfl
  unfold rdv
  rw [c0, c1, c4, c7, val_be, val_be, val_be, val_be, p1, p2, p3]
  clear c0 c1 c4 c7 p1 p2 p3
  refine ⟨?_, ?_, ?_, ?_⟩ <;> omega
theorem msgBytes_app (kd ep sq tg p l i q k o : Int) : msgBytes kd ep sq tg p l i q k o = msgHead kd ep sq tg ++ (if kd = 2 then ruleBytes p l i q k o else []) := by
  unfold msgBytes
  by_cases h : kd = 2
  · rw [if_pos h, if_pos h]
  · rw [if_neg h, if_neg h, List.append_nil]
theorem msgBytes_bytes {kd ep sq tg p l i q k o : Int} (h : isMsg kd ep sq tg p l i q k o) : Bys (msgBytes kd ep sq tg p l i q k o) := by
  have hh : Bys (msgHead kd ep sq tg) := (be_bytes _ _).append ((be_bytes _ _).append ((be_bytes _ _).append (be_bytes _ _)))
  unfold msgBytes
  by_cases h2 : kd = 2
  · rw [if_pos h2]
    have hr : isRule p l i q k o := by have := h.2.2.1; unfold ruleOf at this; rw [if_pos h2] at this; exact this
    exact hh.append (ruleBytes_bytes hr)
  · rw [if_neg h2]; exact hh
theorem mGet_short {kd ep sq tg p l i q k o : Int} (h : isMsg kd ep sq tg p l i q k o) (n : Nat) (hn : n < (msgBytes kd ep sq tg p l i q k o).length) : (mGetR ((msgBytes kd ep sq tg p l i q k o).take n)).2.2.2.2.2.2.2.2.2.2 = 3 := by
  have hlen := msgBytes_length kd ep sq tg p l i q k o
  have hl : ((msgBytes kd ep sq tg p l i q k o).take n).length = n := by rw [List.length_take]; omega
  unfold mGetR
  by_cases h1 : n < 9
  · rw [if_pos (by omega)]
  · rw [if_neg (by omega)]
    have h2 : kd = 2 := by
      by_cases h2 : kd = 2
      · exact h2
      · rw [if_neg h2] at hlen; omega
    have hr : rdv ((msgBytes kd ep sq tg p l i q k o).take n) 0 1 = 2 := by
      have e := (head_read h (if kd = 2 then ruleBytes p l i q k o else [])).1
      rw [← msgBytes_app] at e
      unfold rdv at e ⊢
      rw [List.drop_zero, List.take_take, show min 1 n = 1 from by omega]
      rw [List.drop_zero] at e
      rw [e, h2]
    rw [if_pos h2] at hlen
    rw [hr, if_pos rfl, if_pos (by omega)]
theorem mGet_more {kd ep sq tg p l i q k o : Int} (h : isMsg kd ep sq tg p l i q k o) (c : Int) : (mGetR (msgBytes kd ep sq tg p l i q k o ++ [c])).2.2.2.2.2.2.2.2.2.2 = 2 := by
  have hlen := msgBytes_length kd ep sq tg p l i q k o
  have hl : (msgBytes kd ep sq tg p l i q k o ++ [c]).length = (msgBytes kd ep sq tg p l i q k o).length + 1 := by rw [List.length_append]; rfl
  have hr : rdv (msgBytes kd ep sq tg p l i q k o ++ [c]) 0 1 = kd := by
    have e := (head_read h ((if kd = 2 then ruleBytes p l i q k o else []) ++ [c])).1
    rw [← List.append_assoc, ← msgBytes_app] at e
    exact e
  unfold mGetR
  by_cases h2 : kd = 2
  · rw [if_pos h2] at hlen
    rw [if_neg (by omega), hr, if_pos h2, if_neg (by omega), if_pos (by omega)]
  · rw [if_neg h2] at hlen
    rw [if_neg (by omega), hr, if_neg h2, if_neg (by omega), if_pos (by omega)]
end Go.Proofs.YtdmajldpebooeaaDoor.All
