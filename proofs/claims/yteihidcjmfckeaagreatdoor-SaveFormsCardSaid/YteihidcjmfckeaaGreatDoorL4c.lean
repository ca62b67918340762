/- SaveForms: for every text of an image, the law returns true, and the argument reads as before: where the image is read it is no program or a program, and the program's own text is read as the same program and the same text again; a heap that was parked is read as the same heap. Conditions: the row's own (the listed package variables as the program's text lays them). -/
import Derived.Test.YteihidcjmfckeaaGreatDoorRd
import Derived.Lay
set_option linter.all false
set_option maxRecDepth 1000000
namespace Go.Proofs.YteihidcjmfckeaaGreatDoor
open Go.ChangeShapes Go.WideShapes Go.RowKit Go.Abs Go
theorem reads4 (os:Os) {H:Type} (enc:TypeId × Value→H):∃ places,DataW.whole enc Tryz.prog ((World.laidAll Tryz.prog os Rows.saveFormsRow.laid).forCall (fun _ _=>0) ⟨#[],#[noS],[]⟩).memory Tryz.f4.params.toList Rows.saveFormsSpec.vars false #[noS].toList 8=some ([.lit (.string [])],[],places):=
 ⟨[],by kernel_rfl⟩
theorem heap4 (os:Os):(((World.laidAll Tryz.prog os Rows.saveFormsRow.laid).forCall (fun _ _=>0) ⟨#[],#[noS],[]⟩).heap.toList.drop Tryz.checked.prog.globals.size).take ((begin Tryz.checked.prog (fun _ _=>0) default).world.heap.size - Tryz.checked.prog.globals.size) =
 (begin Tryz.checked.prog (fun _ _=>0) default).world.heap.toList.drop Tryz.checked.prog.globals.size:=by kernel_rfl
end Go.Proofs.YteihidcjmfckeaaGreatDoor
