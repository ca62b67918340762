/- Turns 17 to 18 of the core program, run. -/
import Derived.Test.YteihidcjmfckeaaGreatDoorMj
set_option linter.all false
set_option maxRecDepth 1000000
namespace Go.Abs
open Go Go.Proofs
theorem rcTC17_r : ar (ab Tryz.prog ax) aE 60 86 nP nu = some mZ := by kernel_rfl
theorem rcTC18_r : ar (ab Tryz.prog ax) aE 60 86 nO nr = some mY := by kernel_rfl
end Go.Abs
