/- Expressions, as the row reads them. -/
import Derived.Test.YthmcdebdkbhbmaaGreatDoorR0
import Derived.Test.YthmcdebdkbhbmaaGreatDoorProg
set_option maxRecDepth 100000
namespace Go.Abs
open Go.Proofs
section
variable {H : Type} {enc : Go.TypeId × Go.Value → H} {w : Go.World} {bk : Go.DataW H → Nat}
theorem u9 : Tryz.prog.underlying 9 = some .string := by kernel_rfl
end
end Go.Abs
