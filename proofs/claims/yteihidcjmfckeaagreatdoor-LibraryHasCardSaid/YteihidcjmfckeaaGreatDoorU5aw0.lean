/- Procedures 0 to 7 of the library are read, run. -/
import Derived.Test.YteihidcjmfckeaaGreatDoorMg
set_option linter.all false
set_option maxRecDepth 1000000
namespace Go.Abs
open Go Go.Proofs
theorem awR0 : ar (ab Tryz.prog ax) (bj awT) 60 60 [.ptr 0 0] [pbx awT ⟨0, false⟩] = some (ePt pr0, [pbx awT ⟨26, false⟩]) := by kernel_rfl
theorem awR1 : ar (ab Tryz.prog ax) (bj awT) 60 60 [.ptr 0 0] [pbx awT ⟨26, false⟩] = some (ePt pr1, [pbx awT ⟨52, false⟩]) := by kernel_rfl
theorem awR2 : ar (ab Tryz.prog ax) (bj awT) 60 60 [.ptr 0 0] [pbx awT ⟨52, false⟩] = some (ePt pr2, [pbx awT ⟨136, false⟩]) := by kernel_rfl
theorem awR3 : ar (ab Tryz.prog ax) (bj awT) 60 60 [.ptr 0 0] [pbx awT ⟨136, false⟩] = some (ePt pr3, [pbx awT ⟨217, false⟩]) := by kernel_rfl
theorem awR4 : ar (ab Tryz.prog ax) (bj awT) 60 60 [.ptr 0 0] [pbx awT ⟨217, false⟩] = some (ePt pr4, [pbx awT ⟨310, false⟩]) := by kernel_rfl
theorem awR5 : ar (ab Tryz.prog ax) (bj awT) 60 60 [.ptr 0 0] [pbx awT ⟨310, false⟩] = some (ePt pr5, [pbx awT ⟨408, false⟩]) := by kernel_rfl
theorem awR6 : ar (ab Tryz.prog ax) (bj awT) 60 60 [.ptr 0 0] [pbx awT ⟨408, false⟩] = some (ePt pr6, [pbx awT ⟨453, false⟩]) := by kernel_rfl
theorem awR7 : ar (ab Tryz.prog ax) (bj awT) 60 60 [.ptr 0 0] [pbx awT ⟨453, false⟩] = some (ePt pr7, [pbx awT ⟨605, false⟩]) := by kernel_rfl
end Go.Abs
