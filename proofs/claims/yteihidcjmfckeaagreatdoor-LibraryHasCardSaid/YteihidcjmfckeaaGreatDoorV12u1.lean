/- Turns 11 to 12 of the core program, run. -/
import Derived.Test.YteihidcjmfckeaaGreatDoorMj
set_option linter.all false
set_option maxRecDepth 1000000
namespace Go.Abs
open Go Go.Proofs
theorem rcTC11_r : ar (ab Tryz.prog ax) aE 60 86 nW nD = some na := by kernel_rfl
theorem rcTC12_r : ar (ab Tryz.prog ax) aE 60 86 nV nC = some m9 := by kernel_rfl
end Go.Abs
