/- Procedures 8 to 11 of the library are read, run. -/
import Derived.Test.YteihidcjmfckeaaGreatDoorMg
set_option linter.all false
set_option maxRecDepth 1000000
namespace Go.Abs
open Go Go.Proofs
theorem srcR8 : ar (ab Tryz.prog ax) (bj srcT) 60 60 [.ptr 0 0] [pbx srcT ⟨605, false⟩] = some (ePt pr8, [pbx srcT ⟨704, false⟩]) := by kernel_rfl
theorem srcR9 : ar (ab Tryz.prog ax) (bj srcT) 60 60 [.ptr 0 0] [pbx srcT ⟨704, false⟩] = some (ePt pr9, [pbx srcT ⟨778, false⟩]) := by kernel_rfl
theorem srcR10 : ar (ab Tryz.prog ax) (bj srcT) 60 60 [.ptr 0 0] [pbx srcT ⟨778, false⟩] = some (ePt pr10, [pbx srcT ⟨829, false⟩]) := by kernel_rfl
theorem srcR11 : ar (ab Tryz.prog ax) (bj srcT) 60 60 [.ptr 0 0] [pbx srcT ⟨829, false⟩] = some (ePt pr11, [pbx srcT ⟨1049, false⟩]) := by kernel_rfl
end Go.Abs
