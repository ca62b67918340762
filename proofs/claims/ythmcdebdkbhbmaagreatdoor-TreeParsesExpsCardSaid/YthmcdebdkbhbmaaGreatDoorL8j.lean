/- TreeParsesExps: for every text ParseExp answers as the reference's: the same expression and the same code; and where it is read without fault, the text of what is read is that of the tokens, one space between two: the law returns true, and the argument reads as before. Conditions: the row's own (the listed package variables as the program's text lays them). -/
import Derived.Test.YthmcdebdkbhbmaaGreatDoorL8h
import Derived.Test.YthmcdebdkbhbmaaGreatDoorL8i
set_option maxRecDepth 100000
namespace Go.Proofs.YthmcdebdkbhbmaaGreatDoor
open Go.ChangeShapes Go.WideShapes Go.RowKit Go.Abs Go
/-- THE CARD -/
theorem treeParsesExps_card : Rows.TreeParsesExpsCardSaid :=
  Claim7.holds_tied_plain_at .later [] _ _ _ _ said8 (fun _ h => by cases h) (by kernel_rfl) (fun _ h => by cases h) treeParsesExps_row_tie rfl ⟨rfl, rfl⟩ (by kernel_rfl) rfl plain8 (by kernel_rfl)
#print axioms treeParsesExps_card
end Go.Proofs.YthmcdebdkbhbmaaGreatDoor
