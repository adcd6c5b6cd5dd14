/- A part of the proof of the statement of this seat: no condition. -/
import Derived.Test.YtbhnjkegkadodaaGreatDoorRows
import Derived.Test.YtbhnjkegkadodaaGreatDoorChecked
import Derived.ProofKit
set_option linter.unusedVariables false
set_option linter.unusedSimpArgs false
set_option maxRecDepth 100000
set_option maxHeartbeats 8000000
section
open Go Go.Proofs
namespace Go.Proofs.YtbhnjkegkadodaaGreatDoor
open Go.ChangeShapes Go.WideShapes Go.ChangeAt Go.RowKit
theorem g14:Tryz.checked.prog.mayEnter=true:=by kernel_rfl
theorem g15:Tryz.checked.prog.stopsHeard=true:=by kernel_rfl
theorem g16:laidOutB Tryz.checked.prog=true:=by kernel_rfl
theorem g17:mapsRowed Tryz.checked.prog=true:=by kernel_rfl
end Go.Proofs.YtbhnjkegkadodaaGreatDoor
end
