/- slices.Insert of this program, walked: what each road of it leaves behind. -/
import Derived.Test.YtacchpkmjgdebaaGreatInsE
import Derived.Test.YtacchpkmjgdebaaGreatExIns
import Derived.Shelf.RegionOpenPlain
import Derived.WalkKit
import Derived.Lib.Walk
import Derived.Lib.SliceRun
import Derived.Lib.JoinLaws
import Derived.Lib.AppendZeros
import Derived.Lib.Overlaps
import Derived.Laws.Externs
import Derived.Laws.IdiomCopy
import Derived.Shelf.Spec.SlicesInsert
set_option linter.unusedVariables false
set_option linter.unusedSimpArgs false
namespace Go.Proofs.YtacchpkmjgdebaaGreat
open Go Go.Shelf Go.RowKit Go.Lib Go.Proofs Ex

set_option maxHeartbeats 4000000 in
set_option maxRecDepth 100000 in
/-- slices.Insert of entries: at the end: append -/
theorem ins55_end (w w1 : World) {c q n cap vb vo m vc : Nat} {r : Value} (hm : 0 < m) (hnc : n ≤ cap)
    (hr : (Builtin.append_ #[103, 103] 103 #[.slice (some ⟨c, q, none⟩) n cap, .slice (some ⟨vb, vo, none⟩) m vc]).run Tryz.prog w = .ok r w1) :
    Calls Tryz.prog 55 #[.slice (some ⟨c, q, none⟩) n cap, .int .i64 n, .slice (some ⟨vb, vo, none⟩) m vc] w fun x w' => x = .returned r ∧ w' = w1 := by
  have hz1 : ¬ ((m : Int) = 0) := by omega
  go_enter Tryz.func55, Tryz.ntmps55
  go_wp2_with (at_builtin; refine Lib.wpList_append_run _ rfl _ _ _ _ rfl _ _ rfl rfl _ _ hr ?_)
  all_goals go_ret
  all_goals exact ⟨rfl, rfl⟩
end Go.Proofs.YtacchpkmjgdebaaGreat
