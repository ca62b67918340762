/- SaveForms: for every text of an image, the law returns true, and the argument reads as before: where the image is read it is no program or a program, and the program's own text is read as the same program and the same text again; a heap that was parked is read as the same heap. Conditions: the row's own (the listed package variables as the program's text lays them). -/
import Derived.Test.YteihidcjmfckeaaGreatDoorRd
import Derived.Lay
set_option linter.all false
set_option maxRecDepth 1000000
namespace Go.Proofs.YteihidcjmfckeaaGreatDoor
open Go.ChangeShapes Go.WideShapes Go.RowKit Go.Abs Go
theorem met4 (os:Os):laidMet Tryz.prog Rows.saveFormsRow.laid ((World.laidAll Tryz.prog os Rows.saveFormsRow.laid).forCall (fun _ _=>0) ⟨#[],#[noS],[]⟩).memory:=
 laidMet_laidAll _ (by kernel_rfl) (by kernel_rfl)
end Go.Proofs.YteihidcjmfckeaaGreatDoor
