/- A part of the proof of the statement of this seat: no condition. -/
import Derived.Test.YtjfmbamiampjmaaGreatKMdefs
import Derived.Test.YtjfmbamiampjmaaGreatIB
set_option linter.unusedVariables false
set_option linter.unusedSimpArgs false
set_option maxRecDepth 100000
open Go Ex
namespace Go.Proofs.YtjfmbamiampjmaaGreat
theorem known_runs : outIs (callA (E1.know 13 [memo3, memo4, memo5, memo6]) (run (E1.know 13 [memo3, memo4, memo5, memo6]) 1000000) (wide 13 3) 5 []) (.bool true) 6512 [] = true := by decide +kernel
end Go.Proofs.YtjfmbamiampjmaaGreat
