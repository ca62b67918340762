/- LibraryHas: for every text of statements, the library is a program that has all procedures that are named, with their signatures, and its text with the statements is the source, a space and the statements; and the check of the law answers true: the law returns true, and the argument reads as before. Conditions: the row's own (the listed package variables as the program's text lays them). -/
import Derived.Test.YteihidcjmfckeaaGreatDoorRows
import Derived.Test.YteihidcjmfckeaaGreatDoorRa
import Derived.KernelRfl
import Derived.Test.YteihidcjmfckeaaGreatDoorRc
import Derived.Test.YteihidcjmfckeaaGreatDoorRd
set_option linter.all false
set_option maxRecDepth 1000000
namespace Go.Proofs.YteihidcjmfckeaaGreatDoor
open Go Go.Reach
theorem zA3 : Rows.libraryHasRow.wf (OpenSpec.ofChange Rows.libraryHasSpec) = true := by kernel_rfl
theorem zB3 : (Tryz.f3.params.all (Tryz.pinned.checked.prog.readableRec ·) && namedTie Tryz.pinned.checked.prog Rows.libraryHasRow.named Rows.libraryHasSpec.vars && (Rows.libraryHasRow.stops == []) && (Tryz.pinned.checked.prog.stops == []) && (Rows.libraryHasRow.knobs == []) && (Tryz.pinned.checked.prog.stopKnobs == [])) = true := by kernel_rfl
end Go.Proofs.YteihidcjmfckeaaGreatDoor
namespace Go.Proofs.YteihidcjmfckeaaGreatDoor
open Go Go.Reach
theorem zC3 : ((Rows.libraryHasRow.maps == (Tryz.f3.params.toList ++ Rows.libraryHasSpec.plain.varTypes Tryz.pinned.checked.prog).any (Tryz.pinned.checked.prog.mapsRec ·)) && (Rows.libraryHasRow.ifaces == (Tryz.f3.params.toList ++ Rows.libraryHasSpec.plain.varTypes Tryz.pinned.checked.prog).any (Tryz.pinned.checked.prog.ifacesRec ·)) && (Rows.libraryHasRow.mapsOut == Tryz.pinned.checked.prog.mapsAmong Tryz.f3.resultTypes.toList) &&
 (Rows.libraryHasRow.loops == (Tryz.f3.params.toList ++ Rows.libraryHasSpec.plain.varTypes Tryz.pinned.checked.prog).any (Tryz.pinned.checked.prog.loopsFrom ·)) && (Rows.libraryHasRow.wideKeys == (Tryz.f3.params.toList ++ Rows.libraryHasSpec.plain.varTypes Tryz.pinned.checked.prog ++ Tryz.f3.resultTypes.toList).any (Tryz.pinned.checked.prog.wideKeysFrom ·)) &&
 Rows.libraryHasSpec.vars.all (Tryz.pinned.checked.prog.varReadable ·) && Tryz.f3.resultTypes.all (fun t => Tryz.pinned.checked.prog.readableRec t && decide (t < Tryz.pinned.checked.prog.types.size)) && (Rows.libraryHasRow.ifacesOut == Tryz.f3.resultTypes.toList.any (Tryz.pinned.checked.prog.ifacesRec ·)) && (Rows.libraryHasRow.loopsOut == Tryz.f3.resultTypes.toList.any (Tryz.pinned.checked.prog.loopsFrom ·))) = true := by kernel_rfl
end Go.Proofs.YteihidcjmfckeaaGreatDoor
namespace Go.Proofs.YteihidcjmfckeaaGreatDoor
open Go Go.Reach
theorem z73 : (Rows.libraryHasRow.plainKeys == Tryz.pinned.checked.prog.plainKeys) = true := by kernel_rfl
theorem z83 : Tryz.pinned.checked.prog.stopsHeard = true := by kernel_rfl
theorem z93 : Tryz.pinned.checked.prog.mayEnter = true := by kernel_rfl
end Go.Proofs.YteihidcjmfckeaaGreatDoor
namespace Go.Proofs.YteihidcjmfckeaaGreatDoor
open Go Go.Reach
theorem zD3 : (Rows.libraryHasRow.shortTexts.isNone && (Rows.libraryHasRow.lifted == Tryz.pinned.checked.prog.liftsFinal) && (Tryz.pinned.checked.prog.make == some Rows.libraryHasRow.make) && (Rows.libraryHasRow.kinds == (if Rows.libraryHasRow.domain.isEmpty then [] else Tryz.f3.params.toList.map fun t => match Tryz.pinned.checked.prog.underlying t with | some (.int k) => some k | _ => none)) && (Rows.libraryHasRow.pinned == Rows.libraryHasRow.pinnedBy) &&
 (Rows.libraryHasRow.veiled == (Tryz.f3.params.toList ++ Rows.libraryHasSpec.plain.varTypes Tryz.pinned.checked.prog ++ Tryz.f3.resultTypes.toList).any (Tryz.pinned.checked.prog.veiledRec ·)) && Rows.libraryHasRow.veiledFits Tryz.pinned.checked.prog Tryz.f3.params.toList (Tryz.f3.params.toList ++ Rows.libraryHasSpec.plain.varTypes Tryz.pinned.checked.prog ++ Tryz.f3.resultTypes.toList)) = true := by kernel_rfl
end Go.Proofs.YteihidcjmfckeaaGreatDoor
namespace Go.Proofs.YteihidcjmfckeaaGreatDoor
open Go Go.Reach
theorem z33 : (Rows.libraryHasRow.inPlace == Tryz.pinned.checked.prog.inPlace 3) = true := by
 have e := inPlace_eq (P := Tryz.prog) pA closOk
 exact (congrArg (fun x => (Rows.libraryHasRow.inPlace == x)) e).trans (by kernel_rfl)
theorem zu3 : Tryz.prog.unfollowed 3 = true := (my (P := Tryz.prog) pA closOk).trans (by kernel_rfl)
theorem z43 : (Rows.libraryHasRow.unfollowed == Tryz.pinned.checked.prog.unfollowed 3) = true := (congrArg (fun x => (Rows.libraryHasRow.unfollowed == x)) zu3).trans (by kernel_rfl)
theorem z53 : (Rows.libraryHasRow.recurses == Tryz.pinned.checked.prog.recurses 3) = true := (congrArg (fun x => (Rows.libraryHasRow.recurses == x)) (recurses_eq zu3)).trans (by kernel_rfl)
theorem z63 : (Rows.libraryHasRow.named == Tryz.pinned.checked.prog.varsNamed 3) = true := by
 have e := po (P := Tryz.prog) pA closOk
 exact (congrArg (fun x => (Rows.libraryHasRow.named == x)) e).trans (by kernel_rfl)
end Go.Proofs.YteihidcjmfckeaaGreatDoor
namespace Go.Proofs.YteihidcjmfckeaaGreatDoor
open Go Go.Reach
theorem closed3 : joinedFacts Tryz.pinned.checked.prog 3 Tryz.f3 (OpenSpec.ofChange Rows.libraryHasSpec).bare Rows.libraryHasRow = true :=
 joined_mk zA3 laidOut mapsRow zB3 z33 z43 z53 z63 zC3 z73 z83 z93 zD3
end Go.Proofs.YteihidcjmfckeaaGreatDoor
