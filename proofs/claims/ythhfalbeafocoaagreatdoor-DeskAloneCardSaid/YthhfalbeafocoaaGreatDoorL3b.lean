/- DeskAlone: for every line a desk that is nil, and one that was not made by New, answers no text and the code ErrNil; and the check of the law answers true: the law returns true, and the argument reads as before. Conditions: the row's own (the listed package variables as the program's text lays them). -/
import Derived.Test.YthhfalbeafocoaaGreatDoorT6
import Derived.Lay
set_option maxRecDepth 100000
namespace Go.Proofs.YthhfalbeafocoaaGreatDoor
open Go.ChangeShapes Go.WideShapes Go.RowKit Go.Abs Go
theorem met3 (os : Os) : laidMet Tryz.prog Rows.deskAloneRow.laid ((World.laidAll Tryz.prog os Rows.deskAloneRow.laid).forCall (fun _ _ => 0) ⟨#[], #[noS], []⟩).memory :=
  laidMet_laidAll _ (by kernel_rfl) (by kernel_rfl)
end Go.Proofs.YthhfalbeafocoaaGreatDoor
