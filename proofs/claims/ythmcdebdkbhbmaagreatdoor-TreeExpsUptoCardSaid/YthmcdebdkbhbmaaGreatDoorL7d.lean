/- TreeExps: for every expression FormatExp and ValidExp answer as the reference's, and the text of a valid one, if it is short enough, is parsed to the same expression: the law returns true, and the argument reads as before. Conditions: the row's own (no rings; the argument's bulk at most 1048576; the listed package variables as the program's text lays them). -/
import Derived.Test.YthmcdebdkbhbmaaGreatDoorR6
import Derived.Lay
set_option maxRecDepth 100000
namespace Go.Proofs.YthmcdebdkbhbmaaGreatDoor
open Go.ChangeShapes Go.WideShapes Go.RowKit Go.Abs Go
theorem okin7 (os : Os) : Input.okWideB Tryz.checked.prog ((World.laidAll Tryz.prog os Rows.treeExpsUptoRow.laid).forCall (fun _ _ => 0) ⟨#[], #[noE], []⟩) 7 ⟨#[], #[noE], []⟩ = true := by kernel_rfl
theorem sized7 (os : Os) {H : Type} (enc : TypeId × Value → H) : (Rows.OpenSpec.upto Rows.treeExpsSpec).bare.sizedB enc Tryz.prog Tryz.f7 false ((World.laidAll Tryz.prog os Rows.treeExpsUptoRow.laid).forCall (fun _ _ => 0) ⟨#[], #[noE], []⟩).memory #[noE] 8 = true := by kernel_rfl
end Go.Proofs.YthmcdebdkbhbmaaGreatDoor
