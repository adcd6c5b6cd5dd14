/- Part of the proof. -/
import Derived.Test.YtbhnjkegkadodaaGreatDoorLnFa
import Derived.Test.YtbhnjkegkadodaaGreatDoorLnFb
import Derived.Test.YtbhnjkegkadodaaGreatDoorLmFa
import Derived.Test.YtbhnjkegkadodaaGreatDoorLmFb
set_option linter.all false
set_option maxRecDepth 100000
set_option maxHeartbeats 8000000
section
open Go Go.Proofs
namespace Go.Proofs.YtbhnjkegkadodaaGreatDoor
open Go.ChangeShapes Go.WideShapes Go.ChangeAt Go.RowKit
theorem g14:Tryz.checked.prog.mayEnter=true:=by kernel_rfl
theorem g15:Tryz.checked.prog.stopsHeard=true:=by kernel_rfl
theorem g16:laidOutB Tryz.checked.prog=true:=by kernel_rfl
theorem g17:mapsRowed Tryz.checked.prog=true:=by kernel_rfl
theorem facts5:joinedFacts Tryz.checked.prog 5 Tryz.f5 Rows.f1CountsSpec Rows.f1CountsRow=true:=by
 unfold joinedFacts;rw[lng10,lng11,lng12,lng13,g14,g15,g16,g17]
 kernel_rfl
theorem facts6:joinedFacts Tryz.checked.prog 6 Tryz.f6 Rows.f1SumsSpec Rows.f1SumsRow=true:=by
 unfold joinedFacts;rw[lmg10,lmg11,lmg12,lmg13,g14,g15,g16,g17]
 kernel_rfl
end Go.Proofs.YtbhnjkegkadodaaGreatDoor
end
