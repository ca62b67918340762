/- Names of the source with Awake: the calls, run. -/
import Derived.Test.YteihidcjmfckeaaGreatDoorMj
set_option linter.all false
set_option maxRecDepth 1000000
namespace Go.Abs
open Go Go.Proofs
def rcNC0 : RecC := ⟨315, oL, oA, og⟩
theorem rcNC0_r : ar (ab Tryz.prog ax) aE 60 315 oL oA = some og := by kernel_rfl
def rcNC1 : RecC := ⟨315, oK, oz, oe⟩
theorem rcNC1_r : ar (ab Tryz.prog ax) aE 60 315 oK oz = some oe := by kernel_rfl
def rcNC2 : RecC := ⟨315, oJ, ow, od⟩
theorem rcNC2_r : ar (ab Tryz.prog ax) aE 60 315 oJ ow = some od := by kernel_rfl
def rcNC3 : RecC := ⟨315, oI, ov, oc⟩
theorem rcNC3_r : ar (ab Tryz.prog ax) aE 60 315 oI ov = some oc := by kernel_rfl
def rcNC4 : RecC := ⟨315, oH, ou, oa⟩
theorem rcNC4_r : ar (ab Tryz.prog ax) aE 60 315 oH ou = some oa := by kernel_rfl
def rcNC5 : RecC := ⟨315, oG, ot, n9⟩
theorem rcNC5_r : ar (ab Tryz.prog ax) aE 60 315 oG ot = some n9 := by kernel_rfl
def rcNC6 : RecC := ⟨315, oF, oq, n8⟩
theorem rcNC6_r : ar (ab Tryz.prog ax) aE 60 315 oF oq = some n8 := by kernel_rfl
def rcNC7 : RecC := ⟨315, oE, om, n7⟩
theorem rcNC7_r : ar (ab Tryz.prog ax) aE 60 315 oE om = some n7 := by kernel_rfl
def rcNC8 : RecC := ⟨315, oD, oj, nZ⟩
theorem rcNC8_r : ar (ab Tryz.prog ax) aE 60 315 oD oj = some nZ := by kernel_rfl
def rcNC9 : RecC := ⟨315, oC, oi, nY⟩
theorem rcNC9_r : ar (ab Tryz.prog ax) aE 60 315 oC oi = some nY := by kernel_rfl
def rcNC10 : RecC := ⟨315, lh, kZ, kR⟩
theorem rcNC10_r : ar (ab Tryz.prog ax) aE 60 315 lh kZ = some kR := by kernel_rfl
def rcNC11 : RecC := ⟨315, lg, kY, kQ⟩
theorem rcNC11_r : ar (ab Tryz.prog ax) aE 60 315 lg kY = some kQ := by kernel_rfl
def rcNC12 : RecC := ⟨315, lc, kX, kP⟩
theorem rcNC12_r : ar (ab Tryz.prog ax) aE 60 315 lc kX = some kP := by kernel_rfl
def rcNC13 : RecC := ⟨315, la, kW, kO⟩
theorem rcNC13_r : ar (ab Tryz.prog ax) aE 60 315 la kW = some kO := by kernel_rfl
def rcNC14 : RecC := ⟨315, k9, kV, kM⟩
theorem rcNC14_r : ar (ab Tryz.prog ax) aE 60 315 k9 kV = some kM := by kernel_rfl
def rcNC15 : RecC := ⟨315, k8, kU, kL⟩
theorem rcNC15_r : ar (ab Tryz.prog ax) aE 60 315 k8 kU = some kL := by kernel_rfl
def rcNC16 : RecC := ⟨315, k7, kT, kJ⟩
theorem rcNC16_r : ar (ab Tryz.prog ax) aE 60 315 k7 kT = some kJ := by kernel_rfl
def rcNCs : List RecC := [rcNC0, rcNC1, rcNC2, rcNC3, rcNC4, rcNC5, rcNC6, rcNC7, rcNC8, rcNC9, rcNC10, rcNC11, rcNC12, rcNC13, rcNC14, rcNC15, rcNC16]
theorem nms_r : ar (ab Tryz.prog ax) (mH rcNCs aE) 60 246 oM oB = some oh := by kernel_rfl
end Go.Abs
