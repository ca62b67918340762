/- TreeExps: for every expression FormatExp and ValidExp answer as the reference's, and the text of a valid one, if it is short enough, is parsed to the same expression: the law returns true, and the argument reads as before. Conditions: the row's own (no rings; the argument's bulk at most 1048576; the listed package variables as the program's text lays them). -/
import Derived.Test.YthmcdebdkbhbmaaGreatDoorR6
import Derived.Lay
set_option maxRecDepth 100000
namespace Go.Proofs.YthmcdebdkbhbmaaGreatDoor
open Go.ChangeShapes Go.WideShapes Go.RowKit Go.Abs Go
theorem reads7 (os : Os) {H : Type} (enc : TypeId × Value → H) : ∃ places, DataW.whole enc Tryz.prog ((World.laidAll Tryz.prog os Rows.treeExpsUptoRow.laid).forCall (fun _ _ => 0) ⟨#[], #[noE], []⟩).memory Tryz.f7.params.toList Rows.treeExpsSpec.vars false #[noE].toList 8 = some ([.agg [.lit (.string []), .lit (.string []), .lit (.int .i64 0), .nil]], [], places) :=
  ⟨[], by kernel_rfl⟩
theorem vars7 (os : Os) : ((World.laidAll Tryz.prog os Rows.treeExpsUptoRow.laid).forCall (fun _ _ => 0) ⟨#[], #[noE], []⟩).variablesRefB Tryz.checked.prog = true := by kernel_rfl
theorem heap7 (os : Os) : (((World.laidAll Tryz.prog os Rows.treeExpsUptoRow.laid).forCall (fun _ _ => 0) ⟨#[], #[noE], []⟩).heap.toList.drop Tryz.checked.prog.globals.size).take ((begin Tryz.checked.prog (fun _ _ => 0) default).world.heap.size - Tryz.checked.prog.globals.size) =
      (begin Tryz.checked.prog (fun _ _ => 0) default).world.heap.toList.drop Tryz.checked.prog.globals.size := by kernel_rfl
end Go.Proofs.YthmcdebdkbhbmaaGreatDoor
