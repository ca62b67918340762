/- A recorded call, run, is a contract; the recorded calls of SaveForms' Awake. -/
import Derived.Test.YteihidcjmfckeaaGreatDoorW7
import Derived.Test.YteihidcjmfckeaaGreatDoorSd
set_option linter.all false
set_option maxRecDepth 1000000
namespace Go.Abs
open Go Go.Proofs
theorem recS {W0:Go.World} (hw:Ws W0) {cs:List RecC} (hc:∀ c∈cs,jV Tryz.prog W0 c) {c:RecC} (h:runT (aI Tryz.prog annS) (ou cs libL) 60 c.f c.a c.H=some c.r):jV Tryz.prog W0 c:=
 RunOK.ok (lib:=ou cs libL) h follows (ne annS_gl) (libSX_ok hc (libL_ok hw))
def rcSC25:RecC:=⟨25,rcSA25_0,rcSH25_0,rcSR25_0⟩
def rcSC26:RecC:=⟨26,rcSA26_0,rcSH26_0,rcSR26_0⟩
end Go.Abs
