/- A part of the proof of the statement of this seat: no condition. -/
import Derived.Test.YtbhnjkegkadodaaGreatDoorRows
import Derived.Test.YtbhnjkegkadodaaGreatDoorChecked
import Derived.ProofKit
set_option linter.unusedVariables false
set_option linter.unusedSimpArgs false
set_option maxRecDepth 100000
set_option maxHeartbeats 8000000
section
open Go Go.Proofs
namespace Go.Proofs.YtbhnjkegkadodaaGreatDoor
open Go.ChangeShapes Go.WideShapes Go.ChangeAt Go.RowKit
theorem lsg10:(Rows.f1SplitRow.inPlace == Tryz.checked.prog.inPlace 7)=true:=by kernel_rfl
theorem lsg11:(Rows.f1SplitRow.unfollowed == Tryz.checked.prog.unfollowed 7)=true:=by kernel_rfl
end Go.Proofs.YtbhnjkegkadodaaGreatDoor
end
