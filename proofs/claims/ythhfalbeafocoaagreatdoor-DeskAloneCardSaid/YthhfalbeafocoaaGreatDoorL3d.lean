/- DeskAlone: for every line a desk that is nil, and one that was not made by New, answers no text and the code ErrNil; and the check of the law answers true: the law returns true, and the argument reads as before. Conditions: the row's own (the listed package variables as the program's text lays them). -/
import Derived.Test.YthhfalbeafocoaaGreatDoorT6
import Derived.Lay
set_option maxRecDepth 100000
namespace Go.Proofs.YthhfalbeafocoaaGreatDoor
open Go.ChangeShapes Go.WideShapes Go.RowKit Go.Abs Go
theorem okin3 (os : Os) : Input.okWideB Tryz.checked.prog ((World.laidAll Tryz.prog os Rows.deskAloneRow.laid).forCall (fun _ _ => 0) ⟨#[], #[noS], []⟩) 3 ⟨#[], #[noS], []⟩ = true := by kernel_rfl
theorem sized3 (os : Os) {H : Type} (enc : TypeId × Value → H) : (OpenSpec.ofChange Rows.deskAloneSpec).bare.sizedB enc Tryz.prog Tryz.f3 false ((World.laidAll Tryz.prog os Rows.deskAloneRow.laid).forCall (fun _ _ => 0) ⟨#[], #[noS], []⟩).memory #[noS] 8 = true := by kernel_rfl
end Go.Proofs.YthhfalbeafocoaaGreatDoor
