/- SaveForms: for every text of an image, the law returns true, and the argument reads as before: where the image is read it is no program or a program, and the program's own text is read as the same program and the same text again; a heap that was parked is read as the same heap. Conditions: the row's own (the listed package variables as the program's text lays them). -/
import Derived.Test.YteihidcjmfckeaaGreatDoorRows
import Derived.Test.YteihidcjmfckeaaGreatDoorRa
import Derived.KernelRfl
import Derived.Test.YteihidcjmfckeaaGreatDoorRc
import Derived.Test.YteihidcjmfckeaaGreatDoorRd
set_option linter.all false
set_option maxRecDepth 1000000
namespace Go.Proofs.YteihidcjmfckeaaGreatDoor
open Go Go.Reach
theorem zA4:Rows.saveFormsRow.wf (OpenSpec.ofChange Rows.saveFormsSpec)=true:=by kernel_rfl
theorem zB4:(Tryz.f4.params.all (Tryz.pinned.checked.prog.readableRec ·)&&namedTie Tryz.pinned.checked.prog Rows.saveFormsRow.named Rows.saveFormsSpec.vars&&(Rows.saveFormsRow.stops == [])&&(Tryz.pinned.checked.prog.stops == [])&&(Rows.saveFormsRow.knobs == [])&&(Tryz.pinned.checked.prog.stopKnobs == []))=true:=by kernel_rfl
end Go.Proofs.YteihidcjmfckeaaGreatDoor
namespace Go.Proofs.YteihidcjmfckeaaGreatDoor
open Go Go.Reach
theorem zC4:((Rows.saveFormsRow.maps == (Tryz.f4.params.toList++Rows.saveFormsSpec.plain.varTypes Tryz.pinned.checked.prog).any (Tryz.pinned.checked.prog.mapsRec ·))&&(Rows.saveFormsRow.ifaces == (Tryz.f4.params.toList++Rows.saveFormsSpec.plain.varTypes Tryz.pinned.checked.prog).any (Tryz.pinned.checked.prog.ifacesRec ·))&&(Rows.saveFormsRow.mapsOut == Tryz.pinned.checked.prog.mapsAmong Tryz.f4.resultTypes.toList) &&
 (Rows.saveFormsRow.loops == (Tryz.f4.params.toList++Rows.saveFormsSpec.plain.varTypes Tryz.pinned.checked.prog).any (Tryz.pinned.checked.prog.loopsFrom ·))&&(Rows.saveFormsRow.wideKeys == (Tryz.f4.params.toList++Rows.saveFormsSpec.plain.varTypes Tryz.pinned.checked.prog++Tryz.f4.resultTypes.toList).any (Tryz.pinned.checked.prog.wideKeysFrom ·)) &&
 Rows.saveFormsSpec.vars.all (Tryz.pinned.checked.prog.varReadable ·)&&Tryz.f4.resultTypes.all (fun t=>Tryz.pinned.checked.prog.readableRec t&&decide (t<Tryz.pinned.checked.prog.types.size))&&(Rows.saveFormsRow.ifacesOut == Tryz.f4.resultTypes.toList.any (Tryz.pinned.checked.prog.ifacesRec ·))&&(Rows.saveFormsRow.loopsOut == Tryz.f4.resultTypes.toList.any (Tryz.pinned.checked.prog.loopsFrom ·)))=true:=by kernel_rfl
end Go.Proofs.YteihidcjmfckeaaGreatDoor
namespace Go.Proofs.YteihidcjmfckeaaGreatDoor
open Go Go.Reach
theorem z74:(Rows.saveFormsRow.plainKeys == Tryz.pinned.checked.prog.plainKeys)=true:=by kernel_rfl
theorem z84:Tryz.pinned.checked.prog.stopsHeard=true:=by kernel_rfl
theorem z94:Tryz.pinned.checked.prog.mayEnter=true:=by kernel_rfl
end Go.Proofs.YteihidcjmfckeaaGreatDoor
namespace Go.Proofs.YteihidcjmfckeaaGreatDoor
open Go Go.Reach
theorem zD4:(Rows.saveFormsRow.shortTexts.isNone&&(Rows.saveFormsRow.lifted == Tryz.pinned.checked.prog.liftsFinal)&&(Tryz.pinned.checked.prog.make == some Rows.saveFormsRow.make)&&(Rows.saveFormsRow.kinds == (if Rows.saveFormsRow.domain.isEmpty then [] else Tryz.f4.params.toList.map fun t=>match Tryz.pinned.checked.prog.underlying t with | some (.int k)=>some k | _=>none))&&(Rows.saveFormsRow.pinned == Rows.saveFormsRow.pinnedBy) &&
 (Rows.saveFormsRow.veiled == (Tryz.f4.params.toList++Rows.saveFormsSpec.plain.varTypes Tryz.pinned.checked.prog++Tryz.f4.resultTypes.toList).any (Tryz.pinned.checked.prog.veiledRec ·))&&Rows.saveFormsRow.veiledFits Tryz.pinned.checked.prog Tryz.f4.params.toList (Tryz.f4.params.toList++Rows.saveFormsSpec.plain.varTypes Tryz.pinned.checked.prog++Tryz.f4.resultTypes.toList))=true:=by kernel_rfl
end Go.Proofs.YteihidcjmfckeaaGreatDoor
namespace Go.Proofs.YteihidcjmfckeaaGreatDoor
open Go Go.Reach
theorem z34:(Rows.saveFormsRow.inPlace == Tryz.pinned.checked.prog.inPlace 4)=true:=by
 have e:=inPlace_eq (P:=Tryz.prog) pi closOk
 exact (congrArg (fun x=>(Rows.saveFormsRow.inPlace == x)) e).trans (by kernel_rfl)
theorem zu4:Tryz.prog.unfollowed 4=true:=(nK (P:=Tryz.prog) pi closOk).trans (by kernel_rfl)
theorem z44:(Rows.saveFormsRow.unfollowed == Tryz.pinned.checked.prog.unfollowed 4)=true:=(congrArg (fun x=>(Rows.saveFormsRow.unfollowed == x)) zu4).trans (by kernel_rfl)
theorem z54:(Rows.saveFormsRow.recurses == Tryz.pinned.checked.prog.recurses 4)=true:=(congrArg (fun x=>(Rows.saveFormsRow.recurses == x)) (recurses_eq zu4)).trans (by kernel_rfl)
theorem z64:(Rows.saveFormsRow.named == Tryz.pinned.checked.prog.varsNamed 4)=true:=by
 have e:=o7 (P:=Tryz.prog) pi closOk
 exact (congrArg (fun x=>(Rows.saveFormsRow.named == x)) e).trans (by kernel_rfl)
end Go.Proofs.YteihidcjmfckeaaGreatDoor
namespace Go.Proofs.YteihidcjmfckeaaGreatDoor
open Go Go.Reach
theorem closed4:joinedFacts Tryz.pinned.checked.prog 4 Tryz.f4 (OpenSpec.ofChange Rows.saveFormsSpec).bare Rows.saveFormsRow=true:=
 joined_mk zA4 laidOut mapsRow zB4 z34 z44 z54 z64 zC4 z74 z84 z94 zD4
end Go.Proofs.YteihidcjmfckeaaGreatDoor
