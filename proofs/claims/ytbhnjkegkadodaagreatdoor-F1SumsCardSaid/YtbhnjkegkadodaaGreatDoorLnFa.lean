/- Part of the proof. -/
import Derived.Test.YtbhnjkegkadodaaGreatDoorRows
import Derived.ProofKit
set_option linter.all false
set_option maxRecDepth 100000
set_option maxHeartbeats 8000000
section
open Go Go.Proofs
namespace Go.Proofs.YtbhnjkegkadodaaGreatDoor
open Go.ChangeShapes Go.WideShapes Go.ChangeAt Go.RowKit
theorem lng10:(Rows.f1CountsRow.inPlace == Tryz.checked.prog.inPlace 5)=true:=by kernel_rfl
theorem lng11:(Rows.f1CountsRow.unfollowed == Tryz.checked.prog.unfollowed 5)=true:=by kernel_rfl
end Go.Proofs.YtbhnjkegkadodaaGreatDoor
end
