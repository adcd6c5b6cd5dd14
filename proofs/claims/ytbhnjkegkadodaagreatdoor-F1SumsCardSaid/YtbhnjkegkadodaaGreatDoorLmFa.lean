/- Part of the proof. -/
import Derived.Test.YtbhnjkegkadodaaGreatDoorRows
import Derived.ProofKit
set_option linter.all false
set_option maxRecDepth 100000
set_option maxHeartbeats 8000000
section
open Go Go.Proofs
namespace Go.Proofs.YtbhnjkegkadodaaGreatDoor
open Go.ChangeShapes Go.WideShapes Go.ChangeAt Go.RowKit
theorem lmg10:(Rows.f1SumsRow.inPlace == Tryz.checked.prog.inPlace 6)=true:=by kernel_rfl
theorem lmg11:(Rows.f1SumsRow.unfollowed == Tryz.checked.prog.unfollowed 6)=true:=by kernel_rfl
end Go.Proofs.YtbhnjkegkadodaaGreatDoor
end
