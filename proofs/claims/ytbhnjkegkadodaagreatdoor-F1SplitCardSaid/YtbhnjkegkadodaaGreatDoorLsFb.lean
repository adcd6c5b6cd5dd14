/- A part of the proof of the statement of this seat: no condition. -/
import Derived.Test.YtbhnjkegkadodaaGreatDoorRows
import Derived.Test.YtbhnjkegkadodaaGreatDoorChecked
import Derived.ProofKit
set_option linter.unusedVariables false
set_option linter.unusedSimpArgs false
set_option maxRecDepth 100000
set_option maxHeartbeats 8000000
section
open Go Go.Proofs
namespace Go.Proofs.YtbhnjkegkadodaaGreatDoor
open Go.ChangeShapes Go.WideShapes Go.ChangeAt Go.RowKit
theorem lsg12:(Rows.f1SplitRow.recurses == Tryz.checked.prog.recurses 7)=true:=by kernel_rfl
theorem lsg13:(Rows.f1SplitRow.named == Tryz.checked.prog.varsNamed 7)=true:=by kernel_rfl
end Go.Proofs.YtbhnjkegkadodaaGreatDoor
end
