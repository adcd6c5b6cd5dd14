/- A part of the proof of the statement of this seat: no condition. -/
import Derived.Test.YtfagoiecijpneaaGreatRows
import Derived.Test.YtfagoiecijpneaaGreatChecked
import Derived.ProofKit
import Derived.Test.YtfagoiecijpneaaGreatLawFa
import Derived.Test.YtfagoiecijpneaaGreatLawFb
set_option linter.unusedVariables false
set_option linter.unusedSimpArgs false
section
open Go Go.Proofs
namespace Go.Proofs.YtfagoiecijpneaaGreat
open Go.ChangeShapes Go.WideShapes Go.ChangeAt Go.RowKit
theorem g14 : Tryz.checked.prog.mayEnter = true := by kernel_rfl
theorem g15 : Tryz.checked.prog.stopsHeard = true := by kernel_rfl
theorem g16 : laidOutB Tryz.checked.prog = true := by kernel_rfl
theorem g17 : mapsRowed Tryz.checked.prog = true := by kernel_rfl
end Go.Proofs.YtfagoiecijpneaaGreat
end
section
open Go Go.Proofs
namespace Go.Proofs.YtfagoiecijpneaaGreat
open Go.ChangeShapes Go.WideShapes Go.ChangeAt Go.RowKit
theorem facts3 : joinedFacts Tryz.checked.prog 3 Tryz.f3 Rows.dumpExportSpec Rows.dumpExportRow = true := by
  unfold joinedFacts
  rw [g10, g11, g12, g13, g14, g15, g16, g17]
  kernel_rfl
end Go.Proofs.YtfagoiecijpneaaGreat
end
