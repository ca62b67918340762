/- DeskAlone: for every line a desk that is nil, and one that was not made by New, answers no text and the code ErrNil; and the check of the law answers true: the law returns true, and the argument reads as before. Conditions: the row's own (the listed package variables as the program's text lays them). -/
import Derived.Test.YthhfalbeafocoaaGreatDoorRows
import Derived.Test.YthhfalbeafocoaaGreatDoorKm
import Derived.KernelRfl
import Derived.Test.YthhfalbeafocoaaGreatDoorK4
set_option maxRecDepth 100000
namespace Go.Proofs.YthhfalbeafocoaaGreatDoor
open Go Go.Reach
theorem z33 : (Rows.deskAloneRow.inPlace == Tryz.pinned.checked.prog.inPlace 3) = true := by
  have e := inPlace_eq (P := Tryz.prog) rowsOk closOk
  exact (congrArg (fun x => (Rows.deskAloneRow.inPlace == x)) e).trans (by kernel_rfl)
theorem zu3 : Tryz.prog.unfollowed 3 = true := (unfollowed_eq (P := Tryz.prog) rowsOk closOk).trans (by kernel_rfl)
theorem z43 : (Rows.deskAloneRow.unfollowed == Tryz.pinned.checked.prog.unfollowed 3) = true := (congrArg (fun x => (Rows.deskAloneRow.unfollowed == x)) zu3).trans (by kernel_rfl)
theorem z53 : (Rows.deskAloneRow.recurses == Tryz.pinned.checked.prog.recurses 3) = true := (congrArg (fun x => (Rows.deskAloneRow.recurses == x)) (recurses_eq zu3)).trans (by kernel_rfl)
theorem z63 : (Rows.deskAloneRow.named == Tryz.pinned.checked.prog.varsNamed 3) = true := by
  have e := varsNamed_eq (P := Tryz.prog) rowsOk closOk
  exact (congrArg (fun x => (Rows.deskAloneRow.named == x)) e).trans (by kernel_rfl)
end Go.Proofs.YthhfalbeafocoaaGreatDoor
