/-
  DERIVED. GIVEN WITH THE SEED: THE CARDS: each row of YteihidcjmfckeaaGreatDoorRows.lean that lists a variable, with what it lists TIED to the program's text (the seventh form; the later family's looks); each row that meets fmt, with fmt's text TOLD by the authors' own Lean function (tested against real Go, not proved from fmt's source: count such statements apart). THE CARD IS WHAT COUNTS. Prove the row's statement (the work); the ties are given (YteihidcjmfckeaaGreatDoorTie.lean); close each card by the builder's one call (the guide's Derived/Test/ToyasCard.lean, 'card_holds'). Laid BY PROGRAM, IN A SANDBOX (cutbox-door.mjs). By AI agents, Wed Nov 11 2026. No macro, syntax, notation, axiom, sorry.
-/
import Derived.Test.YteihidcjmfckeaaGreatDoorRows
import GoSem.ClaimSeven
namespace Go.Proofs.YteihidcjmfckeaaGreatDoor
namespace Rows

/-- THE TIED CARD OF 'purlieulaw26.LibraryHas'. -/
def libraryHasCard : Claim7 := { stood := { row := libraryHasRow, standIns := [], harness := (true, "1cabdf9795ec4e0f8813cbf68d55efff4df880719a43d3b6639ad27ca2a205ee"), looks := true }, kinds := [], alts := [], laidByText := true, laidKinds := [.data, .listed, .sentinel, .sentinel, .data, .data, .data], laidTests := true, laidLooks := .later }
def LibraryHasCardSaid : Prop := Claim7.holds Tryz.pinned (.plain (OpenSpec.ofChange libraryHasSpec)) libraryHasCard

/-- THE TIED CARD OF 'purlieulaw24.SaveForms'. -/
def saveFormsCard : Claim7 := { stood := { row := saveFormsRow, standIns := [], harness := (true, "1cabdf9795ec4e0f8813cbf68d55efff4df880719a43d3b6639ad27ca2a205ee"), looks := true }, kinds := [], alts := [], laidByText := true, laidKinds := [.data, .listed, .data, .data, .data, .pinned, .data, .sentinel, .sentinel], laidTests := true, laidLooks := .later }
def SaveFormsCardSaid : Prop := Claim7.holds Tryz.pinned (.plain (OpenSpec.ofChange saveFormsSpec)) saveFormsCard

/-- THE SECOND FORM's CARD OF 'purlieulaw26.LibraryHas'. -/
def libraryHasUptoCard : Claim7 := { stood := { row := libraryHasUptoRow, standIns := [], harness := (true, "1cabdf9795ec4e0f8813cbf68d55efff4df880719a43d3b6639ad27ca2a205ee"), looks := true }, kinds := [], alts := [], laidByText := true, laidKinds := [.data, .listed, .sentinel, .sentinel, .data, .data, .data], laidTests := true, laidLooks := .later }
def LibraryHasUptoCardSaid : Prop := Claim7.holds Tryz.pinned (.plain (OpenSpec.upto libraryHasSpec)) libraryHasUptoCard

/-- THE SECOND FORM's CARD OF 'purlieulaw24.SaveForms'. -/
def saveFormsUptoCard : Claim7 := { stood := { row := saveFormsUptoRow, standIns := [], harness := (true, "1cabdf9795ec4e0f8813cbf68d55efff4df880719a43d3b6639ad27ca2a205ee"), looks := true }, kinds := [], alts := [], laidByText := true, laidKinds := [.data, .listed, .data, .data, .data, .pinned, .data, .sentinel, .sentinel], laidTests := true, laidLooks := .later }
def SaveFormsUptoCardSaid : Prop := Claim7.holds Tryz.pinned (.plain (OpenSpec.upto saveFormsSpec)) saveFormsUptoCard
end Rows
end Go.Proofs.YteihidcjmfckeaaGreatDoor
