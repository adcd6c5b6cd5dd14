/- A part of the proof of the statement of this seat: no condition. -/
import Derived.Test.YtbhnjkegkadodaaGreatDoorKMdefs
import Derived.Test.YtbhnjkegkadodaaGreatDoorKP03
set_option linter.unusedVariables false
set_option linter.unusedSimpArgs false
set_option maxRecDepth 100000
set_option maxHeartbeats 8000000
section
open Go Ex
namespace Go.Proofs.YtbhnjkegkadodaaGreatDoor
theorem memo3_runs:memo3.runs E1 1000000 14=true:=by decide +kernel
end Go.Proofs.YtbhnjkegkadodaaGreatDoor
end
