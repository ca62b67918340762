/- TreeSame: for every two programs tree.Same answers as the reference's Same, Same of a program and itself is true, and Awake is true: the law returns true, and the arguments read as before. Conditions: the row's own (no rings; the listed package variables as the program's text lays them). -/
import Derived.Test.YthmcdebdkbhbmaaGreatDoorR6
set_option maxRecDepth 100000
namespace Go.Proofs.YthmcdebdkbhbmaaGreatDoor
open Go.ChangeShapes Go.WideShapes Go.RowKit Go.Abs Go
theorem named4 : Tryz.pinned.checked.prog.funcNamed Rows.treeSameRow.func = some 4 := by kernel_rfl
theorem inst4 : Tryz.f4.isInstance Tryz.pinned.checked.prog Rows.treeSameRow.origin Rows.treeSameRow.targs := of_decide_eq_true (by kernel_rfl)
theorem wrap4 : Tryz.f4.isWrapper Tryz.pinned.checked.prog Rows.treeSameRow.wrapper Rows.treeSameRow.mainSum := by unfold Func.isWrapper; first | (rw [if_pos (by decide +kernel)]; kernel_rfl) | (rw [if_neg (by decide +kernel)]; exact ⟨rfl, rfl⟩)
end Go.Proofs.YthmcdebdkbhbmaaGreatDoor
