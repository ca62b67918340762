/- Turns 19 to 20 of the core program, run. -/
import Derived.Test.YteihidcjmfckeaaGreatDoorMj
set_option linter.all false
set_option maxRecDepth 1000000
namespace Go.Abs
open Go Go.Proofs
theorem rcTC19_r : ar (ab Tryz.prog ax) aE 60 86 nN nq = some mX := by kernel_rfl
theorem rcTC20_r : ar (ab Tryz.prog ax) aE 60 86 nM nn = some mW := by kernel_rfl
end Go.Abs
