/- A part of the proof of the statement of this seat: no condition. -/
import Derived.Test.YtacchpkmjgdebaaGreatRows
import Derived.Test.YtacchpkmjgdebaaGreatChecked
import Derived.ProofKit
set_option linter.unusedVariables false
set_option linter.unusedSimpArgs false
open Go Go.Proofs
namespace Go.Proofs.YtacchpkmjgdebaaGreat
open Go.ChangeShapes Go.WideShapes Go.ChangeAt Go.RowKit
theorem facts3 : joinedFacts Tryz.checked.prog 3 Tryz.f3 Rows.soundParamsSpec Rows.soundParamsRow = true := by kernel_rfl
end Go.Proofs.YtacchpkmjgdebaaGreat
