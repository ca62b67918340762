/- SaveForms: for every text of an image, the law returns true, and the argument reads as before: where the image is read it is no program or a program, and the program's own text is read as the same program and the same text again; a heap that was parked is read as the same heap. Conditions: the row's own (the listed package variables as the program's text lays them). -/
import Derived.Test.YteihidcjmfckeaaGreatDoorRd
set_option linter.all false
set_option maxRecDepth 1000000
namespace Go.Proofs.YteihidcjmfckeaaGreatDoor
open Go.ChangeShapes Go.WideShapes Go.RowKit Go.Abs Go
theorem named4:Tryz.pinned.checked.prog.funcNamed Rows.saveFormsRow.func=some 4:=by kernel_rfl
theorem inst4:Tryz.f4.isInstance Tryz.pinned.checked.prog Rows.saveFormsRow.origin Rows.saveFormsRow.targs:=of_decide_eq_true (by kernel_rfl)
theorem wrap4:Tryz.f4.isWrapper Tryz.pinned.checked.prog Rows.saveFormsRow.wrapper Rows.saveFormsRow.mainSum:=by unfold Func.isWrapper;first | (rw [if_pos (by decide +kernel)];kernel_rfl) | (rw [if_neg (by decide +kernel)];exact ⟨rfl,rfl⟩)
end Go.Proofs.YteihidcjmfckeaaGreatDoor
