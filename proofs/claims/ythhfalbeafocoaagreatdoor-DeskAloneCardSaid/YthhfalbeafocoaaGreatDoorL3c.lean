/- DeskAlone: for every line a desk that is nil, and one that was not made by New, answers no text and the code ErrNil; and the check of the law answers true: the law returns true, and the argument reads as before. Conditions: the row's own (the listed package variables as the program's text lays them). -/
import Derived.Test.YthhfalbeafocoaaGreatDoorT6
import Derived.Lay
set_option maxRecDepth 100000
namespace Go.Proofs.YthhfalbeafocoaaGreatDoor
open Go.ChangeShapes Go.WideShapes Go.RowKit Go.Abs Go
theorem reads3 (os : Os) {H : Type} (enc : TypeId × Value → H) : ∃ places, DataW.whole enc Tryz.prog ((World.laidAll Tryz.prog os Rows.deskAloneRow.laid).forCall (fun _ _ => 0) ⟨#[], #[noS], []⟩).memory Tryz.f3.params.toList Rows.deskAloneSpec.vars false #[noS].toList 8 = some ([.lit (.string [])], [], places) :=
  ⟨[], by kernel_rfl⟩
theorem heap3 (os : Os) : (((World.laidAll Tryz.prog os Rows.deskAloneRow.laid).forCall (fun _ _ => 0) ⟨#[], #[noS], []⟩).heap.toList.drop Tryz.checked.prog.globals.size).take ((begin Tryz.checked.prog (fun _ _ => 0) default).world.heap.size - Tryz.checked.prog.globals.size) =
      (begin Tryz.checked.prog (fun _ _ => 0) default).world.heap.toList.drop Tryz.checked.prog.globals.size := by kernel_rfl
end Go.Proofs.YthhfalbeafocoaaGreatDoor
