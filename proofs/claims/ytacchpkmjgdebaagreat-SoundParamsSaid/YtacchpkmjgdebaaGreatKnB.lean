/- A part of the proof of the statement of this seat: no condition. -/
import Derived.Test.YtacchpkmjgdebaaGreatInsG
set_option linter.unusedVariables false
set_option linter.unusedSimpArgs false
open Go Go.Proofs
namespace Go.Proofs.YtacchpkmjgdebaaGreat
def isTrue (r : Ex.Out) : Bool := match r with
  | .ok v _ => Ex.veq v (.bool true)
  | .bad => false
theorem known_ok : isTrue (Ex.callA E1 (Ex.run E1 100000) (Ex.wide 13 3) 4 []) = true := by decide +kernel
end Go.Proofs.YtacchpkmjgdebaaGreat
