/- The document's May and Put of layer 5. -/
import Derived.Test.YtdmajldpebooeaaDoorQ6Allx0
import Derived.Test.YtdmajldpebooeaaDoorQ6Allx2
import Derived.Test.YtdmajldpebooeaaDoorQ6Allx7
import Derived.Test.YtdmajldpebooeaaDoorQ6Allx6
import Derived.Test.YtdmajldpebooeaaDoorQ6MathD
import Derived.Test.YtdmajldpebooeaaDoorQ6MathE
import Derived.Test.YtdmajldpebooeaaDoorQ6MathG
import Derived.Test.YtdmajldpebooeaaDoorQ6MathB
import Derived.Test.YtdmajldpebooeaaDoorQ6MathA
import Derived.Test.YtdmajldpebooeaaDoorQ6MathM
set_option linter.unusedVariables false
set_option linter.unusedSimpArgs false
namespace Go.Proofs.YtdmajldpebooeaaDoor.All
open Go.RowKit Go.Proofs.YtdmajldpebooeaaDoorW.PrintWords Go.Proofs.YtdmajldpebooeaaDoorW.PrintLast Go.Proofs.YtdmajldpebooeaaDoorW.PrintMore
open BM OB
theorem isMsg_0 (ep sq tg p l i q k o : Int) : isMsg 0 ep sq tg p l i q k o ↔ (zeroRule p l i q k o ∧ 1 ≤ ep ∧ ep ≤ 1048576 ∧ 0 ≤ sq ∧ sq ≤ 0 ∧ 0 ≤ tg ∧ tg ≤ 0) := ⟨fun h => ⟨h.2.2.1, h.2.2.2⟩, fun h => ⟨by decide, by decide, h.1, h.2⟩⟩
theorem isMsg_1 (ep sq tg p l i q k o : Int) : isMsg 1 ep sq tg p l i q k o ↔ (zeroRule p l i q k o ∧ 1 ≤ ep ∧ ep ≤ 1048576 ∧ 0 ≤ sq ∧ sq ≤ 1048576 ∧ 0 ≤ tg ∧ tg ≤ 4095) := ⟨fun h => ⟨h.2.2.1, h.2.2.2⟩, fun h => ⟨by decide, by decide, h.1, h.2⟩⟩
theorem isMsg_2 (ep sq tg p l i q k o : Int) : isMsg 2 ep sq tg p l i q k o ↔ (isRule p l i q k o ∧ 1 ≤ ep ∧ ep ≤ 1048576 ∧ 1 ≤ sq ∧ sq ≤ 1048576 ∧ 1 ≤ tg ∧ tg ≤ 4095) := ⟨fun h => ⟨h.2.2.1, h.2.2.2⟩, fun h => ⟨by decide, by decide, h.1, h.2⟩⟩
theorem isMsg_3 (ep sq tg p l i q k o : Int) : isMsg 3 ep sq tg p l i q k o ↔ (zeroRule p l i q k o ∧ 1 ≤ ep ∧ ep ≤ 1048576 ∧ 1 ≤ sq ∧ sq ≤ 1048576 ∧ 1 ≤ tg ∧ tg ≤ 4095) := ⟨fun h => ⟨h.2.2.1, h.2.2.2⟩, fun h => ⟨by decide, by decide, h.1, h.2⟩⟩
theorem isMsg_4 (ep sq tg p l i q k o : Int) : isMsg 4 ep sq tg p l i q k o ↔ (zeroRule p l i q k o ∧ 1 ≤ ep ∧ ep ≤ 1048576 ∧ 1 ≤ sq ∧ sq ≤ 1048576 ∧ 1 ≤ tg ∧ tg ≤ 4095) := ⟨fun h => ⟨h.2.2.1, h.2.2.2⟩, fun h => ⟨by decide, by decide, h.1, h.2⟩⟩
theorem isMsg_5 (ep sq tg p l i q k o : Int) : isMsg 5 ep sq tg p l i q k o ↔ (zeroRule p l i q k o ∧ 1 ≤ ep ∧ ep ≤ 1048576 ∧ 1 ≤ sq ∧ sq ≤ 1048576 ∧ 0 ≤ tg ∧ tg ≤ 0) := ⟨fun h => ⟨h.2.2.1, h.2.2.2⟩, fun h => ⟨by decide, by decide, h.1, h.2⟩⟩
end Go.Proofs.YtdmajldpebooeaaDoor.All
