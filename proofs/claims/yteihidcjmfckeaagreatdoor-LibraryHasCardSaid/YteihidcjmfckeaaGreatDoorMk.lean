/- Lower, run: part a. -/
import Derived.Test.YteihidcjmfckeaaGreatDoorMj
set_option linter.all false
set_option maxRecDepth 1000000
namespace Go.Abs
open Go Go.Proofs
theorem rcL245_r : ar (ab Tryz.prog ax) (mH kc aE) 60 rcLC245.f rcLC245.a rcLC245.H = some rcLC245.r := by kernel_rfl
end Go.Abs
namespace Go.Abs
open Go Go.Proofs
theorem rcL184_r : ar (ab Tryz.prog ax) (mH (pC :: kc) aE) 60 rcLC184.f rcLC184.a rcLC184.H = some rcLC184.r := by kernel_rfl
theorem rcL185_r : ar (ab Tryz.prog ax) (mH kc aE) 60 rcLC185.f rcLC185.a rcLC185.H = some rcLC185.r := by kernel_rfl
end Go.Abs
namespace Go.Abs
open Go Go.Proofs
theorem rcL129a_r : ar (ab Tryz.prog ax) (mH [rcLC245, rcLC184, rcLC185] aE) 60 rcLC129a.f rcLC129a.a rcLC129a.H = some rcLC129a.r := by kernel_rfl
end Go.Abs
namespace Go.Abs
open Go Go.Proofs
theorem lz483_0 : ar (ab Tryz.prog ax) aE 60 483 f0 fY = some fW := by kernel_rfl
theorem lz483_1 : ar (ab Tryz.prog ax) aE 60 483 fZ fX = some fV := by kernel_rfl
end Go.Abs
