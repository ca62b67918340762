/- DeskLines: for every line the desk's IsLine answers as the reference's Read; and the check of the law answers true: the law returns true, and the argument reads as before. Conditions: the row's own (the listed package variables as the program's text lays them). -/
import Derived.Test.YthhfalbeafocoaaGreatDoorL4h
import Derived.Test.YthhfalbeafocoaaGreatDoorL4i
import Derived.Test.YthhfalbeafocoaaGreatDoorY4g
import Derived.Test.YthhfalbeafocoaaGreatDoorZ0
import Derived.Test.YthhfalbeafocoaaGreatDoorCards
set_option maxRecDepth 100000
namespace Go.Proofs.YthhfalbeafocoaaGreatDoor
open Go.ChangeShapes Go.WideShapes Go.RowKit Go.Abs Go
theorem goes4 : false = Rows.deskLinesRow.goesBy Tryz.pinned.checked.prog := by
  unfold OpenClaim.goesBy Program.goesAt Program.goesFrom
  rw [named4, Option.any_some, goes_none noGo 4]
  rfl
/-- THE CARD -/
theorem deskLines_card : Rows.DeskLinesCardSaid :=
  Claim7.holds_tied_plain_at .later [] _ _ _ _ said4 (fun _ h => by cases h) (by kernel_rfl) (fun _ h => by cases h) rowTie4 rfl ⟨rfl, rfl⟩ mainIs0 rfl plain4 goes4
#print axioms deskLines_card
end Go.Proofs.YthhfalbeafocoaaGreatDoor
