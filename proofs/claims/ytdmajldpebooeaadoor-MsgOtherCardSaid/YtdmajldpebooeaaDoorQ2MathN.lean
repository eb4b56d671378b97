/- What msg.Get comes to. -/
import Derived.Test.YtdmajldpebooeaaDoorQ2Allx0
import Derived.Test.YtdmajldpebooeaaDoorQ2Allx6
import Derived.Test.YtdmajldpebooeaaDoorQ2MathD
import Derived.Test.YtdmajldpebooeaaDoorQ2MathE
import Derived.Test.YtdmajldpebooeaaDoorQ2MathJ
import Derived.Test.YtdmajldpebooeaaDoorQ2MathM
set_option linter.unusedVariables false
set_option linter.unusedSimpArgs false
namespace Go.Proofs.YtdmajldpebooeaaDoor.All
open Go.RowKit Go.Proofs.YtdmajldpebooeaaDoorW.PrintWords Go.Proofs.YtdmajldpebooeaaDoorW.PrintLast Go.Proofs.YtdmajldpebooeaaDoorW.PrintMore
open BM OB
def rdv (l : List Int) (a n : Nat) : Int := ((val ((l.drop a).take n) : Nat) : Int)
def mGetR (l : List Int) : Int × Int × Int × Int × Int × Int × Int × Int × Int × Int × Int :=
  if l.length < 9 then (0, 0, 0, 0, 0, 0, 0, 0, 0, 0, 3) else
  if (l.length : Int) < (if rdv l 0 1 = 2 then 18 else 9) then (0, 0, 0, 0, 0, 0, 0, 0, 0, 0, 3) else
  if (l.length : Int) > (if rdv l 0 1 = 2 then 18 else 9) then (0, 0, 0, 0, 0, 0, 0, 0, 0, 0, 2) else
  if rdv l 0 1 = 2 then
    (if (rGetR (l.drop 9)).2.2.2.2.2.2 = 0 then
      (if isMsg (rdv l 0 1) (rdv l 1 3) (rdv l 4 3) (rdv l 7 2) (rGetR (l.drop 9)).1 (rGetR (l.drop 9)).2.1 (rGetR (l.drop 9)).2.2.1 (rGetR (l.drop 9)).2.2.2.1 (rGetR (l.drop 9)).2.2.2.2.1 (rGetR (l.drop 9)).2.2.2.2.2.1
        then (rdv l 0 1, rdv l 1 3, rdv l 4 3, rdv l 7 2, (rGetR (l.drop 9)).1, (rGetR (l.drop 9)).2.1, (rGetR (l.drop 9)).2.2.1, (rGetR (l.drop 9)).2.2.2.1, (rGetR (l.drop 9)).2.2.2.2.1, (rGetR (l.drop 9)).2.2.2.2.2.1, 0) else (0, 0, 0, 0, 0, 0, 0, 0, 0, 0, 2))
      else (0, 0, 0, 0, 0, 0, 0, 0, 0, 0, 2))
  else (if isMsg (rdv l 0 1) (rdv l 1 3) (rdv l 4 3) (rdv l 7 2) 0 0 0 0 0 0 then (rdv l 0 1, rdv l 1 3, rdv l 4 3, rdv l 7 2, 0, 0, 0, 0, 0, 0, 0) else (0, 0, 0, 0, 0, 0, 0, 0, 0, 0, 2))
end Go.Proofs.YtdmajldpebooeaaDoor.All
