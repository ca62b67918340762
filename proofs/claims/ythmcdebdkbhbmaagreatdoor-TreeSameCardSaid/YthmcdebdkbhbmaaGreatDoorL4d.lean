/- TreeSame: for every two programs tree.Same answers as the reference's Same, Same of a program and itself is true, and Awake is true: the law returns true, and the arguments read as before. Conditions: the row's own (no rings; the listed package variables as the program's text lays them). -/
import Derived.Test.YthmcdebdkbhbmaaGreatDoorR6
set_option maxRecDepth 100000
namespace Go.Proofs.YthmcdebdkbhbmaaGreatDoor
open Go.ChangeShapes Go.WideShapes Go.RowKit Go.Abs Go
theorem okin4 (os : Os) : Input.okWideB Tryz.checked.prog ((World.doorLaid Tryz.prog 4000 os).forCall (fun _ _ => 0) ⟨#[], #[noG, noG], []⟩) 4 ⟨#[], #[noG, noG], []⟩ = true := by kernel_rfl
theorem sized4 (os : Os) {H : Type} (enc : TypeId × Value → H) : (OpenSpec.ofChange Rows.treeSameSpec).bare.sizedB enc Tryz.prog Tryz.f4 false ((World.doorLaid Tryz.prog 4000 os).forCall (fun _ _ => 0) ⟨#[], #[noG, noG], []⟩).memory #[noG, noG] 8 = true := by kernel_rfl
end Go.Proofs.YthmcdebdkbhbmaaGreatDoor
