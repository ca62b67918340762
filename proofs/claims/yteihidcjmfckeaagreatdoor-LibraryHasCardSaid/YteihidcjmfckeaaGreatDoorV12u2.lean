/- Turns 13 to 14 of the core program, run. -/
import Derived.Test.YteihidcjmfckeaaGreatDoorMj
set_option linter.all false
set_option maxRecDepth 1000000
namespace Go.Abs
open Go Go.Proofs
theorem rcTC13_r : ar (ab Tryz.prog ax) aE 60 86 nU nA = some m8 := by kernel_rfl
theorem rcTC14_r : ar (ab Tryz.prog ax) aE 60 86 nT nz = some m7 := by kernel_rfl
end Go.Abs
