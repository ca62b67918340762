/- Lower, run: part e. -/
import Derived.Test.YteihidcjmfckeaaGreatDoorMj
set_option linter.all false
set_option maxRecDepth 1000000
namespace Go.Abs
open Go Go.Proofs
theorem rcL128_r : ar (ab Tryz.prog ax) (mH [rcLC129b] aE) 60 rcLC128.f rcLC128.a rcLC128.H = some rcLC128.r := by kernel_rfl
end Go.Abs
