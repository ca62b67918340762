/- DeskLines: for every line the desk's IsLine answers as the reference's Read; and the check of the law answers true: the law returns true, and the argument reads as before. Conditions: the row's own (the listed package variables as the program's text lays them). -/
import Derived.Test.YthhfalbeafocoaaGreatDoorRows
import Derived.Test.YthhfalbeafocoaaGreatDoorKm
import Derived.KernelRfl
set_option maxRecDepth 100000
namespace Go.Proofs.YthhfalbeafocoaaGreatDoor
open Go Go.Reach
theorem zA4 : Rows.deskLinesRow.wf (OpenSpec.ofChange Rows.deskLinesSpec) = true := by kernel_rfl
theorem zB4 : (Tryz.f4.params.all (Tryz.pinned.checked.prog.readableRec ·) && namedTie Tryz.pinned.checked.prog Rows.deskLinesRow.named Rows.deskLinesSpec.vars && (Rows.deskLinesRow.stops == []) && (Tryz.pinned.checked.prog.stops == []) && (Rows.deskLinesRow.knobs == []) && (Tryz.pinned.checked.prog.stopKnobs == [])) = true := by kernel_rfl
end Go.Proofs.YthhfalbeafocoaaGreatDoor
