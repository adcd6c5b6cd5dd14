/- A part of the proof of the statement of this seat: no condition. -/
import Derived.Test.YtfagoiecijpneaaGreatKMdefs
import Derived.Test.YtfagoiecijpneaaGreatIB
set_option linter.unusedVariables false
set_option linter.unusedSimpArgs false
set_option maxRecDepth 100000
open Go Ex
namespace Go.Proofs.YtfagoiecijpneaaGreat
theorem memo7_runs : memo7.runs E1 1000000 14 = true := by decide +kernel
end Go.Proofs.YtfagoiecijpneaaGreat
