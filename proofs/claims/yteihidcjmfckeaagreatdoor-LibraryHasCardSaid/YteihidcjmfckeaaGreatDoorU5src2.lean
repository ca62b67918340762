/- Procedures 12 to 14 of the library are read, run. -/
import Derived.Test.YteihidcjmfckeaaGreatDoorMg
set_option linter.all false
set_option maxRecDepth 1000000
namespace Go.Abs
open Go Go.Proofs
theorem srcR12 : ar (ab Tryz.prog ax) (bj srcT) 60 60 [.ptr 0 0] [pbx srcT ⟨1049, false⟩] = some (ePt pr12, [pbx srcT ⟨1182, false⟩]) := by kernel_rfl
theorem srcR13 : ar (ab Tryz.prog ax) (bj srcT) 60 60 [.ptr 0 0] [pbx srcT ⟨1182, false⟩] = some (ePt pr13, [pbx srcT ⟨1293, false⟩]) := by kernel_rfl
theorem srcR14 : ar (ab Tryz.prog ax) (bj srcT) 60 60 [.ptr 0 0] [pbx srcT ⟨1293, false⟩] = some (ePt pr14, [pbx srcT ⟨1444, false⟩]) := by kernel_rfl
end Go.Abs
