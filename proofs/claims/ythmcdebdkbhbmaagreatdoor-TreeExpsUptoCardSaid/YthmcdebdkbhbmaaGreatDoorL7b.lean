/- TreeExps: for every expression FormatExp and ValidExp answer as the reference's, and the text of a valid one, if it is short enough, is parsed to the same expression: the law returns true, and the argument reads as before. Conditions: the row's own (no rings; the argument's bulk at most 1048576; the listed package variables as the program's text lays them). -/
import Derived.Test.YthmcdebdkbhbmaaGreatDoorR6
import Derived.Lay
set_option maxRecDepth 100000
namespace Go.Proofs.YthmcdebdkbhbmaaGreatDoor
open Go.ChangeShapes Go.WideShapes Go.RowKit Go.Abs Go
theorem met7 (os : Os) : laidMet Tryz.prog Rows.treeExpsUptoRow.laid ((World.laidAll Tryz.prog os Rows.treeExpsUptoRow.laid).forCall (fun _ _ => 0) ⟨#[], #[noE], []⟩).memory :=
  laidMet_laidAll _ (by kernel_rfl) (by kernel_rfl)
end Go.Proofs.YthmcdebdkbhbmaaGreatDoor
