/- Part of the proof. -/
import Derived.Test.YtbhnjkegkadodaaGreatDoorG48
set_option linter.all false
set_option maxRecDepth 100000
set_option maxHeartbeats 8000000
section
open Go Go.Proofs
namespace Go.Proofs.YtbhnjkegkadodaaGreatDoor
open Go.ChangeShapes Go.WideShapes Go.ChangeAt Go.RowKit
theorem g14:Tryz.checked.prog.mayEnter=true:=by kernel_rfl
theorem g15:Tryz.checked.prog.stopsHeard=true:=by kernel_rfl
theorem g16:laidOutB Tryz.checked.prog=true:=by kernel_rfl
theorem g17:mapsRowed Tryz.checked.prog=true:=by kernel_rfl
theorem facts8:joinedFacts Tryz.checked.prog 8 Tryz.f8 Rows.f1AlikeSpec Rows.f1AlikeRow=true:=by
 unfold joinedFacts
 rw[lag10,lag11,lag12,lag13,g14,g15,g16,g17]
 kernel_rfl
end Go.Proofs.YtbhnjkegkadodaaGreatDoor
end
