/- DeskAlone: for every line a desk that is nil, and one that was not made by New, answers no text and the code ErrNil; and the check of the law answers true: the law returns true, and the argument reads as before. Conditions: the row's own (the listed package variables as the program's text lays them). -/
import Derived.Test.YthhfalbeafocoaaGreatDoorT6
import Derived.Lay
set_option maxRecDepth 100000
namespace Go.Proofs.YthhfalbeafocoaaGreatDoor
open Go.ChangeShapes Go.WideShapes Go.RowKit Go.Abs Go
theorem vars3 (os : Os) : ((World.laidAll Tryz.prog os Rows.deskAloneRow.laid).forCall (fun _ _ => 0) ⟨#[], #[noS], []⟩).variablesRefB Tryz.checked.prog = true := by kernel_rfl
end Go.Proofs.YthhfalbeafocoaaGreatDoor
