/- Procedures 15 to 15 of the library are read, run. -/
import Derived.Test.YteihidcjmfckeaaGreatDoorMg
set_option linter.all false
set_option maxRecDepth 1000000
namespace Go.Abs
open Go Go.Proofs
theorem awR15 : ar (ab Tryz.prog ax) (bj awT) 60 60 [.ptr 0 0] [pbx awT ⟨1444, false⟩] = some (ePt pr15, [pbx awT ⟨1688, false⟩]) := by kernel_rfl
end Go.Abs
