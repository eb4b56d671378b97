/- What rule.Get comes to, and that Put and Get undo each other. -/
import Derived.Test.YtdmajldpebooeaaDoorQ2Allx0
import Derived.Test.YtdmajldpebooeaaDoorQ2Allx6
import Derived.Test.YtdmajldpebooeaaDoorQ2MathD
import Derived.Test.YtdmajldpebooeaaDoorQ2MathE
import Derived.Test.YtdmajldpebooeaaDoorQ2MathG
set_option linter.unusedVariables false
set_option linter.unusedSimpArgs false
namespace Go.Proofs.YtdmajldpebooeaaDoor.All
open Go.RowKit Go.Proofs.YtdmajldpebooeaaDoorW.PrintWords Go.Proofs.YtdmajldpebooeaaDoorW.PrintLast Go.Proofs.YtdmajldpebooeaaDoorW.PrintMore
open BM OB
def rGetR (l : List Int) : Int × Int × Int × Int × Int × Int × Int :=
  if l.length < 9 then (0, 0, 0, 0, 0, 0, 3) else
    (if isRule ((val (l.take 4) : Nat) : Int) (rd l 4) (rd l 5 - 1) (rd l 6) (rd l 7) (rd l 8) then (((val (l.take 4) : Nat) : Int), rd l 4, rd l 5 - 1, rd l 6, rd l 7, rd l 8, 0) else (0, 0, 0, 0, 0, 0, 2))
theorem rGet_put {p l i q k o : Int} (h : isRule p l i q k o) (rest : List Int) : rGetR (ruleBytes p l i q k o ++ rest) = (p, l, i, q, k, o, 0) := by
  have hb := be_length p.toNat 4
  have hp := h.1.2.2.1
  have hp2 := h.1.2.2.2.1
  have ht : (ruleBytes p l i q k o ++ rest).take 4 = be p.toNat 4 := by
    unfold ruleBytes
    rw [List.append_assoc, List.take_append_of_le_length (by omega), List.take_of_length_le (by omega)]
  have hv : ((val (be p.toNat 4) : Nat) : Int) = p := by
    rw [val_be, Nat.mod_eq_of_lt (by omega)]
    omega
  have g : ∀ (j : Nat) (x : Int), ([l, i + 1, q, k, o] : List Int)[j]? = some x → rd (ruleBytes p l i q k o ++ rest) ((4 + j : Nat) : Int) = x := by
    intro j x hx
    have hj : j < 5 := (List.getElem?_eq_some_iff.1 hx).1
    unfold rd ruleBytes
    rw [Int.toNat_natCast, List.getD_eq_getElem?_getD, List.append_assoc, List.getElem?_append_right (by omega), hb, show 4 + j - 4 = j from by omega, List.getElem?_append_left hj, hx]
    rfl
  unfold rGetR
  rw [if_neg (by rw [List.length_append, ruleBytes_length]; omega), ht, hv]
  have g0 := g 0 l rfl
  have g1 := g 1 (i + 1) rfl
  have g2 := g 2 q rfl
  have g3 := g 3 k rfl
  have g4 := g 4 o rfl
  rw [show rd (ruleBytes p l i q k o ++ rest) 4 = l from g0, show rd (ruleBytes p l i q k o ++ rest) 5 = i + 1 from g1, show rd (ruleBytes p l i q k o ++ rest) 6 = q from g2, show rd (ruleBytes p l i q k o ++ rest) 7 = k from g3, show rd (ruleBytes p l i q k o ++ rest) 8 = o from g4]
  rw [show i + 1 - 1 = i from by omega, if_pos h]
end Go.Proofs.YtdmajldpebooeaaDoor.All
