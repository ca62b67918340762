/- LibraryHas: for every text of statements, the library is a program that has all procedures that are named, with their signatures, and its text with the statements is the source, a space and the statements; and the check of the law answers true: the law returns true, and the argument reads as before. Conditions: the row's own (the listed package variables as the program's text lays them). -/
import Derived.Test.YteihidcjmfckeaaGreatDoorRd
import Derived.Lay
set_option linter.all false
set_option maxRecDepth 1000000
namespace Go.Proofs.YteihidcjmfckeaaGreatDoor
open Go.ChangeShapes Go.WideShapes Go.RowKit Go.Abs Go
theorem met3 (os : Os) : laidMet Tryz.prog Rows.libraryHasRow.laid ((World.laidAll Tryz.prog os Rows.libraryHasRow.laid).forCall (fun _ _ => 0) ⟨#[], #[noS], []⟩).memory :=
 laidMet_laidAll _ (by kernel_rfl) (by kernel_rfl)
end Go.Proofs.YteihidcjmfckeaaGreatDoor
