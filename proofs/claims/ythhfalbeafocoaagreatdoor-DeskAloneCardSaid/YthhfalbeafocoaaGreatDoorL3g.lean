/- DeskAlone: for every line a desk that is nil, and one that was not made by New, answers no text and the code ErrNil; and the check of the law answers true: the law returns true, and the argument reads as before. Conditions: the row's own (the listed package variables as the program's text lays them). -/
import Derived.Test.YthhfalbeafocoaaGreatDoorT6
set_option maxRecDepth 100000
namespace Go.Proofs.YthhfalbeafocoaaGreatDoor
open Go.ChangeShapes Go.WideShapes Go.RowKit Go.Abs Go
theorem named3 : Tryz.pinned.checked.prog.funcNamed Rows.deskAloneRow.func = some 3 := by kernel_rfl
theorem inst3 : Tryz.f3.isInstance Tryz.pinned.checked.prog Rows.deskAloneRow.origin Rows.deskAloneRow.targs := of_decide_eq_true (by kernel_rfl)
theorem wrap3 : Tryz.f3.isWrapper Tryz.pinned.checked.prog Rows.deskAloneRow.wrapper Rows.deskAloneRow.mainSum := by unfold Func.isWrapper; first | (rw [if_pos (by decide +kernel)]; kernel_rfl) | (rw [if_neg (by decide +kernel)]; exact ⟨rfl, rfl⟩)
end Go.Proofs.YthhfalbeafocoaaGreatDoor
