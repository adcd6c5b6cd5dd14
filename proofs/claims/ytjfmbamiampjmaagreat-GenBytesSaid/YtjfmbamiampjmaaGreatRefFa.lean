/- A part of the proof of the statement of this seat: no condition. -/
import Derived.Test.YtjfmbamiampjmaaGreatRows
import Derived.Test.YtjfmbamiampjmaaGreatChecked
import Derived.ProofKit
set_option linter.unusedVariables false
set_option linter.unusedSimpArgs false
open Go Go.Proofs
namespace Go.Proofs.YtjfmbamiampjmaaGreat
open Go.ChangeShapes Go.WideShapes Go.ChangeAt Go.RowKit
theorem facts3 : joinedFacts Tryz.checked.prog 3 Tryz.f3 Rows.genBytesSpec Rows.genBytesRow = true := by kernel_rfl
end Go.Proofs.YtjfmbamiampjmaaGreat
