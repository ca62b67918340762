/-
  DERIVED. GIVEN WITH THE SEED: THE CARDS: each row of YthhfalbeafocoaaGreatDoorRows.lean that lists a variable, with what it lists TIED to the program's text (the seventh form; the later family's looks); each row that meets fmt, with fmt's text TOLD by the authors' own Lean function (tested against real Go, not proved from fmt's source: count such statements apart). THE CARD IS WHAT COUNTS. Prove the row's statement (the work); the ties are given (YthhfalbeafocoaaGreatDoorTie.lean); close each card by the builder's one call (the guide's Derived/Test/ToyasCard.lean, 'card_holds'). Laid BY PROGRAM, IN A SANDBOX (cutbox-door.mjs). By AI agents, Wed Nov 11 2026. No macro, syntax, notation, axiom, sorry.
-/
import Derived.Test.YthhfalbeafocoaaGreatDoorRows
import GoSem.ClaimSeven
namespace Go.Proofs.YthhfalbeafocoaaGreatDoor
namespace Rows

/-- THE TIED CARD OF 'purlieulaw28.DeskAlone'. -/
def deskAloneCard : Claim7 := { stood := { row := deskAloneRow, standIns := [], harness := (true, "1195f2d0790eff6b5fa0efffd8cae0e11fbf122ed13c11031cfa5d279b4cf955"), looks := true }, kinds := [], alts := [], laidByText := true, laidKinds := [.pinned, .data, .data, .listed, .sentinel, .sentinel, .data, .data, .data], laidTests := true, laidLooks := .later }
def DeskAloneCardSaid : Prop := Claim7.holds Tryz.pinned (.plain (OpenSpec.ofChange deskAloneSpec)) deskAloneCard

/-- THE TIED CARD OF 'purlieulaw28.DeskLines'. -/
def deskLinesCard : Claim7 := { stood := { row := deskLinesRow, standIns := [], harness := (true, "1195f2d0790eff6b5fa0efffd8cae0e11fbf122ed13c11031cfa5d279b4cf955"), looks := true }, kinds := [], alts := [], laidByText := true, laidKinds := [.pinned, .data, .sentinel, .sentinel, .data, .data, .data, .data, .listed], laidTests := true, laidLooks := .later }
def DeskLinesCardSaid : Prop := Claim7.holds Tryz.pinned (.plain (OpenSpec.ofChange deskLinesSpec)) deskLinesCard

/-- THE SECOND FORM's CARD OF 'purlieulaw28.DeskAlone'. -/
def deskAloneUptoCard : Claim7 := { stood := { row := deskAloneUptoRow, standIns := [], harness := (true, "1195f2d0790eff6b5fa0efffd8cae0e11fbf122ed13c11031cfa5d279b4cf955"), looks := true }, kinds := [], alts := [], laidByText := true, laidKinds := [.pinned, .data, .data, .listed, .sentinel, .sentinel, .data, .data, .data], laidTests := true, laidLooks := .later }
def DeskAloneUptoCardSaid : Prop := Claim7.holds Tryz.pinned (.plain (OpenSpec.upto deskAloneSpec)) deskAloneUptoCard

/-- THE SECOND FORM's CARD OF 'purlieulaw28.DeskLines'. -/
def deskLinesUptoCard : Claim7 := { stood := { row := deskLinesUptoRow, standIns := [], harness := (true, "1195f2d0790eff6b5fa0efffd8cae0e11fbf122ed13c11031cfa5d279b4cf955"), looks := true }, kinds := [], alts := [], laidByText := true, laidKinds := [.pinned, .data, .sentinel, .sentinel, .data, .data, .data, .data, .listed], laidTests := true, laidLooks := .later }
def DeskLinesUptoCardSaid : Prop := Claim7.holds Tryz.pinned (.plain (OpenSpec.upto deskLinesSpec)) deskLinesUptoCard
end Rows
end Go.Proofs.YthhfalbeafocoaaGreatDoor
