/- Part of the proof. -/
import Derived.Test.YtbhnjkegkadodaaGreatDoorRows
import Derived.ProofKit
set_option linter.all false
set_option maxRecDepth 100000
set_option maxHeartbeats 8000000
section
open Go Go.Proofs
namespace Go.Proofs.YtbhnjkegkadodaaGreatDoor
open Go.ChangeShapes Go.WideShapes Go.ChangeAt Go.RowKit
theorem lng12:(Rows.f1CountsRow.recurses == Tryz.checked.prog.recurses 5)=true:=by kernel_rfl
theorem lng13:(Rows.f1CountsRow.named == Tryz.checked.prog.varsNamed 5)=true:=by kernel_rfl
end Go.Proofs.YtbhnjkegkadodaaGreatDoor
end
