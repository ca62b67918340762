/- DeskAlone: for every line a desk that is nil, and one that was not made by New, answers no text and the code ErrNil; and the check of the law answers true: the law returns true, and the argument reads as before. Conditions: the row's own (the listed package variables as the program's text lays them). -/
import Derived.Test.YthhfalbeafocoaaGreatDoorL3h
import Derived.Test.YthhfalbeafocoaaGreatDoorL3i
import Derived.Test.YthhfalbeafocoaaGreatDoorY3g
import Derived.Test.YthhfalbeafocoaaGreatDoorZ0
import Derived.Test.YthhfalbeafocoaaGreatDoorCards
set_option maxRecDepth 100000
namespace Go.Proofs.YthhfalbeafocoaaGreatDoor
open Go.ChangeShapes Go.WideShapes Go.RowKit Go.Abs Go
theorem goes3 : false = Rows.deskAloneRow.goesBy Tryz.pinned.checked.prog := by
  unfold OpenClaim.goesBy Program.goesAt Program.goesFrom
  rw [named3, Option.any_some, goes_none noGo 3]
  rfl
/-- THE CARD -/
theorem deskAlone_card : Rows.DeskAloneCardSaid :=
  Claim7.holds_tied_plain_at .later [] _ _ _ _ said3 (fun _ h => by cases h) (by kernel_rfl) (fun _ h => by cases h) rowTie3 rfl ⟨rfl, rfl⟩ mainIs0 rfl plain3 goes3
#print axioms deskAlone_card
end Go.Proofs.YthhfalbeafocoaaGreatDoor
