/- Part of the proof. -/
import Derived.Test.YtbhnjkegkadodaaGreatDoorRows
import Derived.ProofKit
set_option linter.all false
set_option maxRecDepth 100000
set_option maxHeartbeats 8000000
section
open Go Go.Proofs
namespace Go.Proofs.YtbhnjkegkadodaaGreatDoor
open Go.ChangeShapes Go.WideShapes Go.ChangeAt Go.RowKit
theorem lag10:(Rows.f1AlikeRow.inPlace == Tryz.checked.prog.inPlace 8)=true:=by kernel_rfl
theorem lag11:(Rows.f1AlikeRow.unfollowed == Tryz.checked.prog.unfollowed 8)=true:=by kernel_rfl
theorem lag12:(Rows.f1AlikeRow.recurses == Tryz.checked.prog.recurses 8)=true:=by kernel_rfl
theorem lag13:(Rows.f1AlikeRow.named == Tryz.checked.prog.varsNamed 8)=true:=by kernel_rfl
end Go.Proofs.YtbhnjkegkadodaaGreatDoor
end
