/- A part of the proof of the statement of this seat: no condition. -/
import Derived.Test.YtfagoiecijpneaaGreatKMdefs
import Derived.Test.YtfagoiecijpneaaGreatIB
set_option linter.unusedVariables false
set_option linter.unusedSimpArgs false
set_option maxRecDepth 100000
open Go Ex
namespace Go.Proofs.YtfagoiecijpneaaGreat
theorem worked_runs : outIs (callA (E1.knowF [memo2, memo3, memo14, memo25]) (run (E1.knowF [memo2, memo3, memo14, memo25]) 1000000) (wide 14 3) 16 []) (.bool true) 8827 [] = true := by decide +kernel
end Go.Proofs.YtfagoiecijpneaaGreat
