/- A part of the proof of the statement of this seat: no condition. -/
import Derived.Test.YtjfmbamiampjmaaGreatKMdefs
import Derived.Test.YtjfmbamiampjmaaGreatIB
set_option linter.unusedVariables false
set_option linter.unusedSimpArgs false
set_option maxRecDepth 100000
open Go Ex
namespace Go.Proofs.YtjfmbamiampjmaaGreat
theorem memo4_runs : memo4.runs E1 1000000 13 = true := by decide +kernel
end Go.Proofs.YtjfmbamiampjmaaGreat
