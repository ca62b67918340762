/- save.Resume of Awake's program, run. -/
import Derived.Test.YteihidcjmfckeaaGreatDoorW9s
set_option linter.all false
set_option maxRecDepth 1000000
namespace Go.Abs
open Go Go.Proofs
theorem rcS26_r:runT (aI Tryz.prog annS) libL 60 26 rcSA26_0 rcSH26_0=some rcSR26_0:=by kernel_rfl
end Go.Abs
