/- A part of the proof of the statement of this seat: no condition. -/
import Derived.Test.YtbhnjkegkadodaaGreatDoorLawFa
import Derived.Test.YtbhnjkegkadodaaGreatDoorLawFb
import Derived.Test.YtbhnjkegkadodaaGreatDoorLawFc
set_option linter.unusedVariables false
set_option linter.unusedSimpArgs false
set_option maxRecDepth 100000
set_option maxHeartbeats 8000000
section
open Go Go.Proofs
namespace Go.Proofs.YtbhnjkegkadodaaGreatDoor
open Go.ChangeShapes Go.WideShapes Go.ChangeAt Go.RowKit
theorem facts4:joinedFacts Tryz.checked.prog 4 Tryz.f4 Rows.f1ExactSpec Rows.f1ExactRow=true:=by
 unfold joinedFacts
 rw[g10,g11,g12,g13,g14,g15,g16,g17]
 kernel_rfl
end Go.Proofs.YtbhnjkegkadodaaGreatDoor
end
