/- A part of the proof of the statement of this seat: no condition. -/
import Derived.Test.YtbhnjkegkadodaaGreatDoorLsFa
import Derived.Test.YtbhnjkegkadodaaGreatDoorLsFb
import Derived.Test.YtbhnjkegkadodaaGreatDoorLawFc
set_option linter.unusedVariables false
set_option linter.unusedSimpArgs false
set_option maxRecDepth 100000
set_option maxHeartbeats 8000000
section
open Go Go.Proofs
namespace Go.Proofs.YtbhnjkegkadodaaGreatDoor
open Go.ChangeShapes Go.WideShapes Go.ChangeAt Go.RowKit
theorem facts7:joinedFacts Tryz.checked.prog 7 Tryz.f7 Rows.f1SplitSpec Rows.f1SplitRow=true:=by
 unfold joinedFacts
 rw[lsg10,lsg11,lsg12,lsg13,g14,g15,g16,g17]
 kernel_rfl
end Go.Proofs.YtbhnjkegkadodaaGreatDoor
end
