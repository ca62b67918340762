/- TreeParsesExps: for every text ParseExp answers as the reference's: the same expression and the same code; and where it is read without fault, the text of what is read is that of the tokens, one space between two: the law returns true, and the argument reads as before. Conditions: the row's own (the listed package variables as the program's text lays them). -/
import Derived.Test.YthmcdebdkbhbmaaGreatDoorR6
import Derived.Lay
import Derived.Test.YthmcdebdkbhbmaaGreatDoorR8
set_option maxRecDepth 100000
namespace Go.Proofs.YthmcdebdkbhbmaaGreatDoor
open Go.ChangeShapes Go.WideShapes Go.RowKit Go.Abs Go
theorem reads8 (os : Os) {H : Type} (enc : TypeId × Value → H) : ∃ places, DataW.whole enc Tryz.prog ((World.laidAll Tryz.prog os Rows.treeParsesExpsRow.laid).forCall (fun _ _ => 0) ⟨#[], #[noS], []⟩).memory Tryz.f8.params.toList Rows.treeParsesExpsSpec.vars false #[noS].toList 8 = some ([.lit (.string [])], [], places) :=
  ⟨[], by kernel_rfl⟩
theorem vars8 (os : Os) : ((World.laidAll Tryz.prog os Rows.treeParsesExpsRow.laid).forCall (fun _ _ => 0) ⟨#[], #[noS], []⟩).variablesRefB Tryz.checked.prog = true := by kernel_rfl
theorem heap8 (os : Os) : (((World.laidAll Tryz.prog os Rows.treeParsesExpsRow.laid).forCall (fun _ _ => 0) ⟨#[], #[noS], []⟩).heap.toList.drop Tryz.checked.prog.globals.size).take ((begin Tryz.checked.prog (fun _ _ => 0) default).world.heap.size - Tryz.checked.prog.globals.size) =
      (begin Tryz.checked.prog (fun _ _ => 0) default).world.heap.toList.drop Tryz.checked.prog.globals.size := by kernel_rfl
end Go.Proofs.YthmcdebdkbhbmaaGreatDoor
