/-
  DERIVED. GIVEN WITH THE SEED: THE CARDS: each row of YthmcdebdkbhbmaaGreatDoorRows.lean that lists a variable, with what it lists TIED to the program's text (the seventh form; the later family's looks); each row that meets fmt, with fmt's text TOLD by the authors' own Lean function (tested against real Go, not proved from fmt's source: count such statements apart). THE CARD IS WHAT COUNTS. Prove the row's statement (the work); the ties are given (YthmcdebdkbhbmaaGreatDoorTie.lean); close each card by the builder's one call (the guide's Derived/Test/ToyasCard.lean, 'card_holds'). Laid BY PROGRAM, IN A SANDBOX (cutbox-door.mjs). By AI agents, Wed Nov 11 2026. No macro, syntax, notation, axiom, sorry.
-/
import Derived.Test.YthmcdebdkbhbmaaGreatDoorRows
import GoSem.ClaimSeven
namespace Go.Proofs.YthmcdebdkbhbmaaGreatDoor
namespace Rows

/-- THE TIED CARD OF 'purlieulaw02.TreeSameExps'. -/
def treeSameExpsCard : Claim7 := { stood := { row := treeSameExpsRow, standIns := [], harness := (true, "afe55724122126e971786d681b0a5ab4580cc8a901327cf6bee6dd4f75bcdcda"), looks := true }, kinds := [], alts := [], laidByText := true, laidKinds := [.data, .data, .data, .sentinel, .sentinel, .listed, .data], laidTests := true, laidLooks := .later }
def TreeSameExpsCardSaid : Prop := Claim7.holds Tryz.pinned (.plain (OpenSpec.ofChange treeSameExpsSpec)) treeSameExpsCard

/-- THE TIED CARD OF 'purlieulaw02.TreeSame'. -/
def treeSameCard : Claim7 := { stood := { row := treeSameRow, standIns := [], harness := (true, "afe55724122126e971786d681b0a5ab4580cc8a901327cf6bee6dd4f75bcdcda"), looks := true }, kinds := [], alts := [], laidByText := true, laidKinds := [.data, .data, .data, .sentinel, .sentinel, .listed, .data], laidTests := true, laidLooks := .later }
def TreeSameCardSaid : Prop := Claim7.holds Tryz.pinned (.plain (OpenSpec.ofChange treeSameSpec)) treeSameCard

/-- THE TIED CARD OF 'purlieulaw02.TreeTexts'. -/
def treeTextsCard : Claim7 := { stood := { row := treeTextsRow, standIns := [], harness := (true, "afe55724122126e971786d681b0a5ab4580cc8a901327cf6bee6dd4f75bcdcda"), looks := true }, kinds := [], alts := [], laidByText := true, laidKinds := [.data, .data, .data, .data, .sentinel, .sentinel, .listed, .data, .pinned], laidTests := true, laidLooks := .later }
def TreeTextsCardSaid : Prop := Claim7.holds Tryz.pinned (.plain (OpenSpec.ofChange treeTextsSpec)) treeTextsCard

/-- THE TIED CARD OF 'purlieulaw02.TreeParses'. -/
def treeParsesCard : Claim7 := { stood := { row := treeParsesRow, standIns := [], harness := (true, "afe55724122126e971786d681b0a5ab4580cc8a901327cf6bee6dd4f75bcdcda"), looks := true }, kinds := [], alts := [], laidByText := true, laidKinds := [.data, .data, .data, .data, .sentinel, .sentinel, .listed, .data, .pinned], laidTests := true, laidLooks := .later }
def TreeParsesCardSaid : Prop := Claim7.holds Tryz.pinned (.plain (OpenSpec.ofChange treeParsesSpec)) treeParsesCard

/-- THE TIED CARD OF 'purlieulaw02.TreeExps'. -/
def treeExpsCard : Claim7 := { stood := { row := treeExpsRow, standIns := [], harness := (true, "afe55724122126e971786d681b0a5ab4580cc8a901327cf6bee6dd4f75bcdcda"), looks := true }, kinds := [], alts := [], laidByText := true, laidKinds := [.data, .data, .data, .data, .sentinel, .sentinel, .listed, .data, .pinned], laidTests := true, laidLooks := .later }
def TreeExpsCardSaid : Prop := Claim7.holds Tryz.pinned (.plain (OpenSpec.ofChange treeExpsSpec)) treeExpsCard

/-- THE TIED CARD OF 'purlieulaw02.TreeParsesExps'. -/
def treeParsesExpsCard : Claim7 := { stood := { row := treeParsesExpsRow, standIns := [], harness := (true, "afe55724122126e971786d681b0a5ab4580cc8a901327cf6bee6dd4f75bcdcda"), looks := true }, kinds := [], alts := [], laidByText := true, laidKinds := [.data, .data, .data, .data, .sentinel, .sentinel, .listed, .data, .pinned], laidTests := true, laidLooks := .later }
def TreeParsesExpsCardSaid : Prop := Claim7.holds Tryz.pinned (.plain (OpenSpec.ofChange treeParsesExpsSpec)) treeParsesExpsCard

/-- THE TIED CARD OF 'purlieulaw02.TreePaths'. -/
def treePathsCard : Claim7 := { stood := { row := treePathsRow, standIns := [], harness := (true, "afe55724122126e971786d681b0a5ab4580cc8a901327cf6bee6dd4f75bcdcda"), looks := true }, kinds := [], alts := [], laidByText := true, laidKinds := [.data, .data, .data, .data, .sentinel, .sentinel, .listed, .data, .pinned], laidTests := true, laidLooks := .later }
def TreePathsCardSaid : Prop := Claim7.holds Tryz.pinned (.plain (OpenSpec.ofChange treePathsSpec)) treePathsCard

/-- THE TIED CARD OF 'purlieulaw02.TreeSizes'. -/
def treeSizesCard : Claim7 := { stood := { row := treeSizesRow, standIns := [], harness := (true, "afe55724122126e971786d681b0a5ab4580cc8a901327cf6bee6dd4f75bcdcda"), looks := true }, kinds := [], alts := [], laidByText := true, laidKinds := [.data, .data, .data, .data, .sentinel, .sentinel, .listed, .data, .pinned], laidTests := true, laidLooks := .later }
def TreeSizesCardSaid : Prop := Claim7.holds Tryz.pinned (.plain (OpenSpec.ofChange treeSizesSpec)) treeSizesCard

/-- THE SECOND FORM's CARD OF 'purlieulaw02.TreeSameExps'. -/
def treeSameExpsUptoCard : Claim7 := { stood := { row := treeSameExpsUptoRow, standIns := [], harness := (true, "afe55724122126e971786d681b0a5ab4580cc8a901327cf6bee6dd4f75bcdcda"), looks := true }, kinds := [], alts := [], laidByText := true, laidKinds := [.data, .data, .data, .sentinel, .sentinel, .listed, .data], laidTests := true, laidLooks := .later }
def TreeSameExpsUptoCardSaid : Prop := Claim7.holds Tryz.pinned (.plain (OpenSpec.upto treeSameExpsSpec)) treeSameExpsUptoCard

/-- THE SECOND FORM's CARD OF 'purlieulaw02.TreeSame'. -/
def treeSameUptoCard : Claim7 := { stood := { row := treeSameUptoRow, standIns := [], harness := (true, "afe55724122126e971786d681b0a5ab4580cc8a901327cf6bee6dd4f75bcdcda"), looks := true }, kinds := [], alts := [], laidByText := true, laidKinds := [.data, .data, .data, .sentinel, .sentinel, .listed, .data], laidTests := true, laidLooks := .later }
def TreeSameUptoCardSaid : Prop := Claim7.holds Tryz.pinned (.plain (OpenSpec.upto treeSameSpec)) treeSameUptoCard

/-- THE SECOND FORM's CARD OF 'purlieulaw02.TreeTexts'. -/
def treeTextsUptoCard : Claim7 := { stood := { row := treeTextsUptoRow, standIns := [], harness := (true, "afe55724122126e971786d681b0a5ab4580cc8a901327cf6bee6dd4f75bcdcda"), looks := true }, kinds := [], alts := [], laidByText := true, laidKinds := [.data, .data, .data, .data, .sentinel, .sentinel, .listed, .data, .pinned], laidTests := true, laidLooks := .later }
def TreeTextsUptoCardSaid : Prop := Claim7.holds Tryz.pinned (.plain (OpenSpec.upto treeTextsSpec)) treeTextsUptoCard

/-- THE SECOND FORM's CARD OF 'purlieulaw02.TreeParses'. -/
def treeParsesUptoCard : Claim7 := { stood := { row := treeParsesUptoRow, standIns := [], harness := (true, "afe55724122126e971786d681b0a5ab4580cc8a901327cf6bee6dd4f75bcdcda"), looks := true }, kinds := [], alts := [], laidByText := true, laidKinds := [.data, .data, .data, .data, .sentinel, .sentinel, .listed, .data, .pinned], laidTests := true, laidLooks := .later }
def TreeParsesUptoCardSaid : Prop := Claim7.holds Tryz.pinned (.plain (OpenSpec.upto treeParsesSpec)) treeParsesUptoCard

/-- THE SECOND FORM's CARD OF 'purlieulaw02.TreeExps'. -/
def treeExpsUptoCard : Claim7 := { stood := { row := treeExpsUptoRow, standIns := [], harness := (true, "afe55724122126e971786d681b0a5ab4580cc8a901327cf6bee6dd4f75bcdcda"), looks := true }, kinds := [], alts := [], laidByText := true, laidKinds := [.data, .data, .data, .data, .sentinel, .sentinel, .listed, .data, .pinned], laidTests := true, laidLooks := .later }
def TreeExpsUptoCardSaid : Prop := Claim7.holds Tryz.pinned (.plain (OpenSpec.upto treeExpsSpec)) treeExpsUptoCard

/-- THE SECOND FORM's CARD OF 'purlieulaw02.TreeParsesExps'. -/
def treeParsesExpsUptoCard : Claim7 := { stood := { row := treeParsesExpsUptoRow, standIns := [], harness := (true, "afe55724122126e971786d681b0a5ab4580cc8a901327cf6bee6dd4f75bcdcda"), looks := true }, kinds := [], alts := [], laidByText := true, laidKinds := [.data, .data, .data, .data, .sentinel, .sentinel, .listed, .data, .pinned], laidTests := true, laidLooks := .later }
def TreeParsesExpsUptoCardSaid : Prop := Claim7.holds Tryz.pinned (.plain (OpenSpec.upto treeParsesExpsSpec)) treeParsesExpsUptoCard

/-- THE SECOND FORM's CARD OF 'purlieulaw02.TreePaths'. -/
def treePathsUptoCard : Claim7 := { stood := { row := treePathsUptoRow, standIns := [], harness := (true, "afe55724122126e971786d681b0a5ab4580cc8a901327cf6bee6dd4f75bcdcda"), looks := true }, kinds := [], alts := [], laidByText := true, laidKinds := [.data, .data, .data, .data, .sentinel, .sentinel, .listed, .data, .pinned], laidTests := true, laidLooks := .later }
def TreePathsUptoCardSaid : Prop := Claim7.holds Tryz.pinned (.plain (OpenSpec.upto treePathsSpec)) treePathsUptoCard

/-- THE SECOND FORM's CARD OF 'purlieulaw02.TreeSizes'. -/
def treeSizesUptoCard : Claim7 := { stood := { row := treeSizesUptoRow, standIns := [], harness := (true, "afe55724122126e971786d681b0a5ab4580cc8a901327cf6bee6dd4f75bcdcda"), looks := true }, kinds := [], alts := [], laidByText := true, laidKinds := [.data, .data, .data, .data, .sentinel, .sentinel, .listed, .data, .pinned], laidTests := true, laidLooks := .later }
def TreeSizesUptoCardSaid : Prop := Claim7.holds Tryz.pinned (.plain (OpenSpec.upto treeSizesSpec)) treeSizesUptoCard
end Rows
end Go.Proofs.YthmcdebdkbhbmaaGreatDoor
