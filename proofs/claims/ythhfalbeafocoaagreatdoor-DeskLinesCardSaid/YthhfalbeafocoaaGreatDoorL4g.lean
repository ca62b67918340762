/- DeskLines: for every line the desk's IsLine answers as the reference's Read; and the check of the law answers true: the law returns true, and the argument reads as before. Conditions: the row's own (the listed package variables as the program's text lays them). -/
import Derived.Test.YthhfalbeafocoaaGreatDoorT6
set_option maxRecDepth 100000
namespace Go.Proofs.YthhfalbeafocoaaGreatDoor
open Go.ChangeShapes Go.WideShapes Go.RowKit Go.Abs Go
theorem named4 : Tryz.pinned.checked.prog.funcNamed Rows.deskLinesRow.func = some 4 := by kernel_rfl
theorem inst4 : Tryz.f4.isInstance Tryz.pinned.checked.prog Rows.deskLinesRow.origin Rows.deskLinesRow.targs := of_decide_eq_true (by kernel_rfl)
theorem wrap4 : Tryz.f4.isWrapper Tryz.pinned.checked.prog Rows.deskLinesRow.wrapper Rows.deskLinesRow.mainSum := by unfold Func.isWrapper; first | (rw [if_pos (by decide +kernel)]; kernel_rfl) | (rw [if_neg (by decide +kernel)]; exact ⟨rfl, rfl⟩)
end Go.Proofs.YthhfalbeafocoaaGreatDoor
