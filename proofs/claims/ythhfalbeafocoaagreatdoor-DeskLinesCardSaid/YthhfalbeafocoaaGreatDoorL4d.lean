/- DeskLines: for every line the desk's IsLine answers as the reference's Read; and the check of the law answers true: the law returns true, and the argument reads as before. Conditions: the row's own (the listed package variables as the program's text lays them). -/
import Derived.Test.YthhfalbeafocoaaGreatDoorT6
import Derived.Lay
set_option maxRecDepth 100000
namespace Go.Proofs.YthhfalbeafocoaaGreatDoor
open Go.ChangeShapes Go.WideShapes Go.RowKit Go.Abs Go
theorem okin4 (os : Os) : Input.okWideB Tryz.checked.prog ((World.laidAll Tryz.prog os Rows.deskLinesRow.laid).forCall (fun _ _ => 0) ⟨#[], #[noS], []⟩) 4 ⟨#[], #[noS], []⟩ = true := by kernel_rfl
theorem sized4 (os : Os) {H : Type} (enc : TypeId × Value → H) : (OpenSpec.ofChange Rows.deskLinesSpec).bare.sizedB enc Tryz.prog Tryz.f4 false ((World.laidAll Tryz.prog os Rows.deskLinesRow.laid).forCall (fun _ _ => 0) ⟨#[], #[noS], []⟩).memory #[noS] 8 = true := by kernel_rfl
end Go.Proofs.YthhfalbeafocoaaGreatDoor
