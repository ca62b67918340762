/- save.Plain of Awake's program, run. -/
import Derived.Test.YteihidcjmfckeaaGreatDoorW9s
import Derived.Test.YteihidcjmfckeaaGreatDoorSd
set_option linter.all false
set_option maxRecDepth 1000000
namespace Go.Abs
open Go Go.Proofs
theorem rcS25_r:runT (aI Tryz.prog annS) (ou [rcSC87] libL) 60 25 rcSA25_0 rcSH25_0=some rcSR25_0:=by kernel_rfl
end Go.Abs
