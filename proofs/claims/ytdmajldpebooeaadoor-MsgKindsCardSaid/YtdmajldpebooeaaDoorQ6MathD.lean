/- Plain facts on numbers in bytes and on checksums, and what the printed functions of package octets come to. -/
import Derived.Test.YtdmajldpebooeaaDoorQ6Allx0
import Derived.Lib.Bytes
set_option linter.unusedVariables false
set_option linter.unusedSimpArgs false
namespace Go.Proofs.YtdmajldpebooeaaDoor.All
open Go.RowKit Go.Proofs.YtdmajldpebooeaaDoorW.PrintWords Go.Proofs.YtdmajldpebooeaaDoorW.PrintLast Go.Proofs.YtdmajldpebooeaaDoorW.PrintMore
namespace OB
def be (n : Nat) : Nat → List Int
  | 0 => []
  | w + 1 => ((n / 256 ^ w % 256 : Nat) : Int) :: be n w
theorem be_length (n w : Nat) : (be n w).length = w := by induction w with | zero => rfl | succ w ih => simp [be, ih]
def mayPut (n w : Int) : Prop := 1 ≤ w ∧ w ≤ 4 ∧ 0 ≤ n ∧ n < ((256 ^ w.toNat : Nat) : Int)
instance (n w : Int) : Decidable (mayPut n w) := by unfold mayPut; infer_instance
def putR (n w : Int) : List Int × Int := if mayPut n w then (be n.toNat w.toNat, 0) else ([], 1)
end OB
end Go.Proofs.YtdmajldpebooeaaDoor.All
