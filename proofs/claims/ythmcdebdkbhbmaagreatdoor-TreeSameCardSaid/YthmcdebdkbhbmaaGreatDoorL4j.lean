/- TreeSame: for every two programs tree.Same answers as the reference's Same, Same of a program and itself is true, and Awake is true: the law returns true, and the arguments read as before. Conditions: the row's own (no rings; the listed package variables as the program's text lays them). -/
import Derived.Test.YthmcdebdkbhbmaaGreatDoorL4h
import Derived.Test.YthmcdebdkbhbmaaGreatDoorL4i
set_option maxRecDepth 100000
namespace Go.Proofs.YthmcdebdkbhbmaaGreatDoor
open Go.ChangeShapes Go.WideShapes Go.RowKit Go.Abs Go
/-- THE CARD -/
theorem treeSame_card : Rows.TreeSameCardSaid :=
  Claim7.holds_tied_plain_at .later [] _ _ _ _ said4 (fun _ h => by cases h) (by kernel_rfl) (fun _ h => by cases h) treeSame_row_tie rfl ⟨rfl, rfl⟩ (by kernel_rfl) rfl plain4 (by kernel_rfl)
#print axioms treeSame_card
end Go.Proofs.YthmcdebdkbhbmaaGreatDoor
