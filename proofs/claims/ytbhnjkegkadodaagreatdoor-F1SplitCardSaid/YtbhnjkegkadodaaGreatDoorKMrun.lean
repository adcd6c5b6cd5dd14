/- A part of the proof of the statement of this seat: no condition. -/
import Derived.Test.YtbhnjkegkadodaaGreatDoorKMdefs
import Derived.Test.YtbhnjkegkadodaaGreatDoorKP03
set_option linter.unusedVariables false
set_option linter.unusedSimpArgs false
set_option maxRecDepth 100000
set_option maxHeartbeats 8000000
section
open Go Ex
namespace Go.Proofs.YtbhnjkegkadodaaGreatDoor
noncomputable def pow10s:List Value:=[(Mu 1),(Mu 10),(Mu 100),(Mu 1000),(Mu 10000),(Mu 100000),(Mu 1000000),(Mu 10000000),(Mu 100000000),(Mu 1000000000),(Mu 10000000000),(Mu 100000000000),(Mu 1000000000000),(Mu 10000000000000),(Mu 100000000000000),(Mu 1000000000000000),(Mu 10000000000000000),(Mu 100000000000000000),(Mu 1000000000000000000),(Mu 10000000000000000000)]
theorem pow10s_LR (ρ:Rho):LR ρ pow10s pow10s:=⟨rfl,LR.of_free ρ pow10s (by decide +kernel)⟩
theorem known_runs:outIs (callA (E1.knowF [memo1,memo2,memo3,memo4,memo5]) (run (E1.knowF [memo1,memo2,memo3,memo4,memo5]) 1000000) (lit 14 8 [(3,.cells pow10s 0)]) 9 []) (.bool true) 2796 [(3,.cells pow10s 0)]=true:=by decide +kernel
end Go.Proofs.YtbhnjkegkadodaaGreatDoor
end
