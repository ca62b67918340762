/- TreeParsesExps: for every text ParseExp answers as the reference's: the same expression and the same code; and where it is read without fault, the text of what is read is that of the tokens, one space between two: the law returns true, and the argument reads as before. Conditions: the row's own (the listed package variables as the program's text lays them). -/
import Derived.Test.YthmcdebdkbhbmaaGreatDoorR6
set_option maxRecDepth 100000
namespace Go.Proofs.YthmcdebdkbhbmaaGreatDoor
open Go.ChangeShapes Go.WideShapes Go.RowKit Go.Abs Go
theorem named8 : Tryz.pinned.checked.prog.funcNamed Rows.treeParsesExpsRow.func = some 8 := by kernel_rfl
theorem inst8 : Tryz.f8.isInstance Tryz.pinned.checked.prog Rows.treeParsesExpsRow.origin Rows.treeParsesExpsRow.targs := of_decide_eq_true (by kernel_rfl)
theorem wrap8 : Tryz.f8.isWrapper Tryz.pinned.checked.prog Rows.treeParsesExpsRow.wrapper Rows.treeParsesExpsRow.mainSum := by unfold Func.isWrapper; first | (rw [if_pos (by decide +kernel)]; kernel_rfl) | (rw [if_neg (by decide +kernel)]; exact ⟨rfl, rfl⟩)
end Go.Proofs.YthmcdebdkbhbmaaGreatDoor
