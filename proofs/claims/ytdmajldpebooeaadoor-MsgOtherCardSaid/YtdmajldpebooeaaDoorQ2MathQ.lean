/- That msg.Put and msg.Get undo each other; bytes cut short, and with one more. -/
import Derived.Test.YtdmajldpebooeaaDoorQ2Allx0
import Derived.Test.YtdmajldpebooeaaDoorQ2MathA
import Derived.Test.YtdmajldpebooeaaDoorQ2MathD
import Derived.Test.YtdmajldpebooeaaDoorQ2MathG
import Derived.Test.YtdmajldpebooeaaDoorQ2MathJ
import Derived.Test.YtdmajldpebooeaaDoorQ2MathM
import Derived.Test.YtdmajldpebooeaaDoorQ2MathN
set_option linter.unusedVariables false
set_option linter.unusedSimpArgs false
namespace Go.Proofs.YtdmajldpebooeaaDoor.All
open Go.RowKit Go.Proofs.YtdmajldpebooeaaDoorW.PrintWords Go.Proofs.YtdmajldpebooeaaDoorW.PrintLast Go.Proofs.YtdmajldpebooeaaDoorW.PrintMore
open BM OB
theorem head_cut (kd ep sq tg : Int) (rest : List Int) : ((msgHead kd ep sq tg ++ rest).drop 0).take 1 = be kd.toNat 1 ∧ ((msgHead kd ep sq tg ++ rest).drop 1).take 3 = be ep.toNat 3 ∧ ((msgHead kd ep sq tg ++ rest).drop 4).take 3 = be sq.toNat 3 ∧ ((msgHead kd ep sq tg ++ rest).drop 7).take 2 = be tg.toNat 2 ∧ (msgHead kd ep sq tg ++ rest).drop 9 = rest := by
  have e : msgHead kd ep sq tg ++ rest = be kd.toNat 1 ++ (be ep.toNat 3 ++ (be sq.toNat 3 ++ (be tg.toNat 2 ++ rest))) := by
    unfold msgHead
    simp only [List.append_assoc]
  rw [e]
  have d1 : (be kd.toNat 1 ++ (be ep.toNat 3 ++ (be sq.toNat 3 ++ (be tg.toNat 2 ++ rest)))).drop 1 = be ep.toNat 3 ++ (be sq.toNat 3 ++ (be tg.toNat 2 ++ rest)) := List.drop_left' (be_length _ _)
  have d4 : (be kd.toNat 1 ++ (be ep.toNat 3 ++ (be sq.toNat 3 ++ (be tg.toNat 2 ++ rest)))).drop 4 = be sq.toNat 3 ++ (be tg.toNat 2 ++ rest) := by
    rw [show 4 = 1 + 3 from rfl, ← List.drop_drop, d1]
    exact List.drop_left' (be_length _ _)
  have d7 : (be kd.toNat 1 ++ (be ep.toNat 3 ++ (be sq.toNat 3 ++ (be tg.toNat 2 ++ rest)))).drop 7 = be tg.toNat 2 ++ rest := by
    rw [show 7 = 4 + 3 from rfl, ← List.drop_drop, d4]
    exact List.drop_left' (be_length _ _)
  have d9 : (be kd.toNat 1 ++ (be ep.toNat 3 ++ (be sq.toNat 3 ++ (be tg.toNat 2 ++ rest)))).drop 9 = rest := by
    rw [show 9 = 7 + 2 from rfl, ← List.drop_drop, d7]
    exact List.drop_left' (be_length _ _)
  rw [d1, d4, d7, d9, List.drop_zero]
  exact ⟨List.take_left' (be_length _ _), List.take_left' (be_length _ _), List.take_left' (be_length _ _), List.take_left' (be_length _ _), rfl⟩
theorem head_read {kd ep sq tg p l i q k o : Int} (h : isMsg kd ep sq tg p l i q k o) (rest : List Int) : rdv (msgHead kd ep sq tg ++ rest) 0 1 = kd ∧ rdv (msgHead kd ep sq tg ++ rest) 1 3 = ep ∧ rdv (msgHead kd ep sq tg ++ rest) 4 3 = sq ∧ rdv (msgHead kd ep sq tg ++ rest) 7 2 = tg := by
  obtain ⟨h1, h2, h3, h4, h5, h6, h7, h8⟩ := isMsg_bounds h
  obtain ⟨c0, c1, c4, c7, _⟩ := head_cut kd ep sq tg rest
  have p1 : (256 : Nat) ^ 1 = 256 := rfl
  have p2 : (256 : Nat) ^ 2 = 65536 := rfl
  have p3 : (256 : Nat) ^ 3 = 16777216 := rfl
  unfold rdv
  rw [c0, c1, c4, c7, val_be, val_be, val_be, val_be, p1, p2, p3]
  clear c0 c1 c4 c7 p1 p2 p3
  refine ⟨?_, ?_, ?_, ?_⟩ <;> omega
theorem msgBytes_app (kd ep sq tg p l i q k o : Int) : msgBytes kd ep sq tg p l i q k o = msgHead kd ep sq tg ++ (if kd = 2 then ruleBytes p l i q k o else []) := by
  unfold msgBytes
  by_cases h : kd = 2
  · rw [if_pos h, if_pos h]
  · rw [if_neg h, if_neg h, List.append_nil]
theorem msgBytes_bytes {kd ep sq tg p l i q k o : Int} (h : isMsg kd ep sq tg p l i q k o) : Bys (msgBytes kd ep sq tg p l i q k o) := by
  have hh : Bys (msgHead kd ep sq tg) := (be_bytes _ _).append ((be_bytes _ _).append ((be_bytes _ _).append (be_bytes _ _)))
  unfold msgBytes
  by_cases h2 : kd = 2
  · rw [if_pos h2]
    have hr : isRule p l i q k o := by have := h.2.2.1; unfold ruleOf at this; rw [if_pos h2] at this; exact this
    exact hh.append (ruleBytes_bytes hr)
  · rw [if_neg h2]; exact hh
theorem mGet_put {kd ep sq tg p l i q k o : Int} (h : isMsg kd ep sq tg p l i q k o) : mGetR (msgBytes kd ep sq tg p l i q k o) = (kd, ep, sq, tg, p, l, i, q, k, o, 0) := by
  have hlen := msgBytes_length kd ep sq tg p l i q k o
  have hc := h.2.2.1
  unfold ruleOf at hc
  by_cases h2 : kd = 2
  · rw [if_pos h2] at hlen hc
    have e := msgBytes_app kd ep sq tg p l i q k o
    rw [if_pos h2] at e
    obtain ⟨r0, r1, r4, r7⟩ := head_read h (ruleBytes p l i q k o)
    obtain ⟨_, _, _, _, c9⟩ := head_cut kd ep sq tg (ruleBytes p l i q k o)
    rw [← e] at r0 r1 r4 r7 c9
    have hg := rGet_put hc []
    rw [List.append_nil] at hg
    unfold mGetR
    rw [if_neg (by omega), r0, r1, r4, r7, c9, if_pos h2, if_neg (by omega), if_neg (by omega), if_pos h2, hg]
    simp only [if_true]
    rw [if_pos h]
  · rw [if_neg h2] at hlen hc
    have e := msgBytes_app kd ep sq tg p l i q k o
    rw [if_neg h2] at e
    obtain ⟨r0, r1, r4, r7⟩ := head_read h []
    rw [← e] at r0 r1 r4 r7
    unfold mGetR
    obtain ⟨rfl, rfl, rfl, rfl, rfl, rfl⟩ := hc
    rw [if_neg (by omega), r0, r1, r4, r7, if_neg h2, if_neg (by omega), if_neg (by omega), if_neg h2, if_pos h]
theorem msgBytes_inj {kd ep sq tg p l i q k o kd' ep' sq' tg' p' l' i' q' k' o' : Int} (h : isMsg kd ep sq tg p l i q k o) (h' : isMsg kd' ep' sq' tg' p' l' i' q' k' o') (e : msgBytes kd ep sq tg p l i q k o = msgBytes kd' ep' sq' tg' p' l' i' q' k' o') :
    kd = kd' ∧ ep = ep' ∧ sq = sq' ∧ tg = tg' ∧ p = p' ∧ l = l' ∧ i = i' ∧ q = q' ∧ k = k' ∧ o = o' := by
  have h1 := mGet_put h
  rw [e, mGet_put h'] at h1
  simp only [Prod.mk.injEq, and_true] at h1
  obtain ⟨a, b, c, d, f, g, j, m, n, r⟩ := h1
  exact ⟨a.symm, b.symm, c.symm, d.symm, f.symm, g.symm, j.symm, m.symm, n.symm, r.symm⟩
end Go.Proofs.YtdmajldpebooeaaDoor.All
