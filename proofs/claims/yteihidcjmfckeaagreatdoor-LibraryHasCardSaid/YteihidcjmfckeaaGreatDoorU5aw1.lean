/- Procedures 8 to 11 of the library are read, run. -/
import Derived.Test.YteihidcjmfckeaaGreatDoorMg
set_option linter.all false
set_option maxRecDepth 1000000
namespace Go.Abs
open Go Go.Proofs
theorem awR8 : ar (ab Tryz.prog ax) (bj awT) 60 60 [.ptr 0 0] [pbx awT ⟨605, false⟩] = some (ePt pr8, [pbx awT ⟨704, false⟩]) := by kernel_rfl
theorem awR9 : ar (ab Tryz.prog ax) (bj awT) 60 60 [.ptr 0 0] [pbx awT ⟨704, false⟩] = some (ePt pr9, [pbx awT ⟨778, false⟩]) := by kernel_rfl
theorem awR10 : ar (ab Tryz.prog ax) (bj awT) 60 60 [.ptr 0 0] [pbx awT ⟨778, false⟩] = some (ePt pr10, [pbx awT ⟨829, false⟩]) := by kernel_rfl
theorem awR11 : ar (ab Tryz.prog ax) (bj awT) 60 60 [.ptr 0 0] [pbx awT ⟨829, false⟩] = some (ePt pr11, [pbx awT ⟨1049, false⟩]) := by kernel_rfl
end Go.Abs
