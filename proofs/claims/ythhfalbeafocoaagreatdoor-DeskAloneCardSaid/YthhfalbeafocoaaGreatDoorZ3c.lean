/- DeskAlone: for every line a desk that is nil, and one that was not made by New, answers no text and the code ErrNil; and the check of the law answers true: the law returns true, and the argument reads as before. Conditions: the row's own (the listed package variables as the program's text lays them). -/
import Derived.Test.YthhfalbeafocoaaGreatDoorRows
import Derived.Test.YthhfalbeafocoaaGreatDoorKm
import Derived.KernelRfl
set_option maxRecDepth 100000
namespace Go.Proofs.YthhfalbeafocoaaGreatDoor
open Go Go.Reach
theorem z73 : (Rows.deskAloneRow.plainKeys == Tryz.pinned.checked.prog.plainKeys) = true := by kernel_rfl
theorem z83 : Tryz.pinned.checked.prog.stopsHeard = true := by kernel_rfl
theorem z93 : Tryz.pinned.checked.prog.mayEnter = true := by kernel_rfl
end Go.Proofs.YthhfalbeafocoaaGreatDoor
