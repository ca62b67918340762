/- Turns 23 to 24 of the core program, run. -/
import Derived.Test.YteihidcjmfckeaaGreatDoorMj
set_option linter.all false
set_option maxRecDepth 1000000
namespace Go.Abs
open Go Go.Proofs
theorem rcTC23_r : ar (ab Tryz.prog ax) aE 60 86 nI nj = some mT := by kernel_rfl
theorem rcTC24_r : ar (ab Tryz.prog ax) aE 60 86 nH nh = some mS := by kernel_rfl
end Go.Abs
