/- DeskLines: for every line the desk's IsLine answers as the reference's Read; and the check of the law answers true: the law returns true, and the argument reads as before. Conditions: the row's own (the listed package variables as the program's text lays them). -/
import Derived.Test.YthhfalbeafocoaaGreatDoorRows
import Derived.Test.YthhfalbeafocoaaGreatDoorKm
import Derived.KernelRfl
import Derived.Test.YthhfalbeafocoaaGreatDoorK5
set_option maxRecDepth 100000
namespace Go.Proofs.YthhfalbeafocoaaGreatDoor
open Go Go.Reach
theorem z34 : (Rows.deskLinesRow.inPlace == Tryz.pinned.checked.prog.inPlace 4) = true := by
  have e := inPlace_eq (P := Tryz.prog) rowsOk closOk4
  exact (congrArg (fun x => (Rows.deskLinesRow.inPlace == x)) e).trans (by kernel_rfl)
theorem zu4 : Tryz.prog.unfollowed 4 = true := (unfollowed_eq (P := Tryz.prog) rowsOk closOk4).trans (by kernel_rfl)
theorem z44 : (Rows.deskLinesRow.unfollowed == Tryz.pinned.checked.prog.unfollowed 4) = true := (congrArg (fun x => (Rows.deskLinesRow.unfollowed == x)) zu4).trans (by kernel_rfl)
theorem z54 : (Rows.deskLinesRow.recurses == Tryz.pinned.checked.prog.recurses 4) = true := (congrArg (fun x => (Rows.deskLinesRow.recurses == x)) (recurses_eq zu4)).trans (by kernel_rfl)
theorem z64 : (Rows.deskLinesRow.named == Tryz.pinned.checked.prog.varsNamed 4) = true := by
  have e := varsNamed_eq (P := Tryz.prog) rowsOk closOk4
  exact (congrArg (fun x => (Rows.deskLinesRow.named == x)) e).trans (by kernel_rfl)
end Go.Proofs.YthhfalbeafocoaaGreatDoor
