/- DeskAlone: for every line a desk that is nil, and one that was not made by New, answers no text and the code ErrNil; and the check of the law answers true: the law returns true, and the argument reads as before. Conditions: the row's own (the listed package variables as the program's text lays them). -/
import Derived.Test.YthhfalbeafocoaaGreatDoorRows
import Derived.Test.YthhfalbeafocoaaGreatDoorKm
import Derived.KernelRfl
set_option maxRecDepth 100000
namespace Go.Proofs.YthhfalbeafocoaaGreatDoor
open Go Go.Reach
theorem zA3 : Rows.deskAloneRow.wf (OpenSpec.ofChange Rows.deskAloneSpec) = true := by kernel_rfl
theorem zB3 : (Tryz.f3.params.all (Tryz.pinned.checked.prog.readableRec ·) && namedTie Tryz.pinned.checked.prog Rows.deskAloneRow.named Rows.deskAloneSpec.vars && (Rows.deskAloneRow.stops == []) && (Tryz.pinned.checked.prog.stops == []) && (Rows.deskAloneRow.knobs == []) && (Tryz.pinned.checked.prog.stopKnobs == [])) = true := by kernel_rfl
end Go.Proofs.YthhfalbeafocoaaGreatDoor
