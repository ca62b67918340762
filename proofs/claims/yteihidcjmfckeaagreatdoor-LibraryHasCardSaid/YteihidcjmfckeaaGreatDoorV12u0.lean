/- Turns 0 to 10 of the core program, run. -/
import Derived.Test.YteihidcjmfckeaaGreatDoorMj
set_option linter.all false
set_option maxRecDepth 1000000
namespace Go.Abs
open Go Go.Proofs
theorem rcTC0_r : ar (ab Tryz.prog ax) aE 60 86 rcTA86_0 rcTH86_0 = some rcTR86_0 := by kernel_rfl
theorem rcTC1_r : ar (ab Tryz.prog ax) aE 60 86 rcTA86_1 rcTH86_1 = some rcTR86_1 := by kernel_rfl
theorem rcTC2_r : ar (ab Tryz.prog ax) aE 60 86 rcTA86_2 rcTH86_2 = some rcTR86_2 := by kernel_rfl
theorem rcTC3_r : ar (ab Tryz.prog ax) aE 60 86 rcTA86_3 rcTH86_3 = some rcTR86_3 := by kernel_rfl
theorem rcTC4_r : ar (ab Tryz.prog ax) aE 60 86 rcTA86_4 rcTH86_4 = some rcTR86_4 := by kernel_rfl
theorem rcTC5_r : ar (ab Tryz.prog ax) aE 60 86 rcTA86_5 rcTH86_5 = some rcTR86_5 := by kernel_rfl
theorem rcTC6_r : ar (ab Tryz.prog ax) aE 60 86 rcTA86_6 rcTH86_6 = some rcTR86_6 := by kernel_rfl
theorem rcTC7_r : ar (ab Tryz.prog ax) aE 60 86 rcTA86_7 rcTH86_7 = some rcTR86_7 := by kernel_rfl
theorem rcTC8_r : ar (ab Tryz.prog ax) aE 60 86 rcTA86_8 rcTH86_8 = some rcTR86_8 := by kernel_rfl
theorem rcTC9_r : ar (ab Tryz.prog ax) aE 60 86 rcTA86_9 rcTH86_9 = some rcTR86_9 := by kernel_rfl
theorem rcTC10_r : ar (ab Tryz.prog ax) aE 60 86 nX nF = some ne := by kernel_rfl
end Go.Abs
