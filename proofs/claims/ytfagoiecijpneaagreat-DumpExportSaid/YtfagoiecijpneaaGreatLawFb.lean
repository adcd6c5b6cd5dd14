/- A part of the proof of the statement of this seat: no condition. -/
import Derived.Test.YtfagoiecijpneaaGreatRows
import Derived.Test.YtfagoiecijpneaaGreatChecked
import Derived.ProofKit
set_option linter.unusedVariables false
set_option linter.unusedSimpArgs false
open Go Go.Proofs
namespace Go.Proofs.YtfagoiecijpneaaGreat
open Go.ChangeShapes Go.WideShapes Go.ChangeAt Go.RowKit
theorem g12 : (Rows.dumpExportRow.recurses == Tryz.checked.prog.recurses 3) = true := by kernel_rfl
theorem g13 : (Rows.dumpExportRow.named == Tryz.checked.prog.varsNamed 3) = true := by kernel_rfl
end Go.Proofs.YtfagoiecijpneaaGreat
