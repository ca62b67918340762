/- TreeExps: for every expression FormatExp and ValidExp answer as the reference's, and the text of a valid one, if it is short enough, is parsed to the same expression: the law returns true, and the argument reads as before. Conditions: the row's own (no rings; the argument's bulk at most 1048576; the listed package variables as the program's text lays them). -/
import Derived.Test.YthmcdebdkbhbmaaGreatDoorR6
set_option maxRecDepth 100000
namespace Go.Proofs.YthmcdebdkbhbmaaGreatDoor
open Go.ChangeShapes Go.WideShapes Go.RowKit Go.Abs Go
theorem named7 : Tryz.pinned.checked.prog.funcNamed Rows.treeExpsUptoRow.func = some 7 := by kernel_rfl
theorem inst7 : Tryz.f7.isInstance Tryz.pinned.checked.prog Rows.treeExpsUptoRow.origin Rows.treeExpsUptoRow.targs := of_decide_eq_true (by kernel_rfl)
theorem wrap7 : Tryz.f7.isWrapper Tryz.pinned.checked.prog Rows.treeExpsUptoRow.wrapper Rows.treeExpsUptoRow.mainSum := by unfold Func.isWrapper; first | (rw [if_pos (by decide +kernel)]; kernel_rfl) | (rw [if_neg (by decide +kernel)]; exact ⟨rfl, rfl⟩)
end Go.Proofs.YthmcdebdkbhbmaaGreatDoor
