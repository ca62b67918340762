/- Turns 15 to 16 of the core program, run. -/
import Derived.Test.YteihidcjmfckeaaGreatDoorMj
set_option linter.all false
set_option maxRecDepth 1000000
namespace Go.Abs
open Go Go.Proofs
theorem rcTC15_r : ar (ab Tryz.prog ax) aE 60 86 nR nw = some m5 := by kernel_rfl
theorem rcTC16_r : ar (ab Tryz.prog ax) aE 60 86 nQ nv = some m4 := by kernel_rfl
end Go.Abs
