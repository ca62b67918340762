/- Procedures 0 to 7 of the library are read, run. -/
import Derived.Test.YteihidcjmfckeaaGreatDoorMg
set_option linter.all false
set_option maxRecDepth 1000000
namespace Go.Abs
open Go Go.Proofs
theorem srcR0 : ar (ab Tryz.prog ax) (bj srcT) 60 60 [.ptr 0 0] [pbx srcT ⟨0, false⟩] = some (ePt pr0, [pbx srcT ⟨26, false⟩]) := by kernel_rfl
theorem srcR1 : ar (ab Tryz.prog ax) (bj srcT) 60 60 [.ptr 0 0] [pbx srcT ⟨26, false⟩] = some (ePt pr1, [pbx srcT ⟨52, false⟩]) := by kernel_rfl
theorem srcR2 : ar (ab Tryz.prog ax) (bj srcT) 60 60 [.ptr 0 0] [pbx srcT ⟨52, false⟩] = some (ePt pr2, [pbx srcT ⟨136, false⟩]) := by kernel_rfl
theorem srcR3 : ar (ab Tryz.prog ax) (bj srcT) 60 60 [.ptr 0 0] [pbx srcT ⟨136, false⟩] = some (ePt pr3, [pbx srcT ⟨217, false⟩]) := by kernel_rfl
theorem srcR4 : ar (ab Tryz.prog ax) (bj srcT) 60 60 [.ptr 0 0] [pbx srcT ⟨217, false⟩] = some (ePt pr4, [pbx srcT ⟨310, false⟩]) := by kernel_rfl
theorem srcR5 : ar (ab Tryz.prog ax) (bj srcT) 60 60 [.ptr 0 0] [pbx srcT ⟨310, false⟩] = some (ePt pr5, [pbx srcT ⟨408, false⟩]) := by kernel_rfl
theorem srcR6 : ar (ab Tryz.prog ax) (bj srcT) 60 60 [.ptr 0 0] [pbx srcT ⟨408, false⟩] = some (ePt pr6, [pbx srcT ⟨453, false⟩]) := by kernel_rfl
theorem srcR7 : ar (ab Tryz.prog ax) (bj srcT) 60 60 [.ptr 0 0] [pbx srcT ⟨453, false⟩] = some (ePt pr7, [pbx srcT ⟨605, false⟩]) := by kernel_rfl
end Go.Abs
