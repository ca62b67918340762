/- Turns 21 to 22 of the core program, run. -/
import Derived.Test.YteihidcjmfckeaaGreatDoorMj
set_option linter.all false
set_option maxRecDepth 1000000
namespace Go.Abs
open Go Go.Proofs
theorem rcTC21_r : ar (ab Tryz.prog ax) aE 60 86 nK nl = some mV := by kernel_rfl
theorem rcTC22_r : ar (ab Tryz.prog ax) aE 60 86 nJ nk = some mU := by kernel_rfl
end Go.Abs
