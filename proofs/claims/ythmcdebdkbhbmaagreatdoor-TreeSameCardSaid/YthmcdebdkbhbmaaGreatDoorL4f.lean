/- TreeSame: for every two programs tree.Same answers as the reference's Same, Same of a program and itself is true, and Awake is true: the law returns true, and the arguments read as before. Conditions: the row's own (no rings; the listed package variables as the program's text lays them). -/
import Derived.Test.YthmcdebdkbhbmaaGreatDoorR6
set_option maxRecDepth 100000
namespace Go.Proofs.YthmcdebdkbhbmaaGreatDoor
open Go.ChangeShapes Go.WideShapes Go.RowKit Go.Abs Go
theorem closed4 : joinedFacts Tryz.pinned.checked.prog 4 Tryz.f4 (OpenSpec.ofChange Rows.treeSameSpec).bare Rows.treeSameRow = true := by kernel_rfl
end Go.Proofs.YthmcdebdkbhbmaaGreatDoor
