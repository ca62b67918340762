/- Lower, run: part d. -/
import Derived.Test.YteihidcjmfckeaaGreatDoorMj
set_option linter.all false
set_option maxRecDepth 1000000
namespace Go.Abs
open Go Go.Proofs
theorem rcL129b_r : ar (ab Tryz.prog ax) aE 60 rcLC129b.f rcLC129b.a rcLC129b.H = some rcLC129b.r := by kernel_rfl
end Go.Abs
