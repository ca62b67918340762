/- DeskAlone: for every line a desk that is nil, and one that was not made by New, answers no text and the code ErrNil; and the check of the law answers true: the law returns true, and the argument reads as before. Conditions: the row's own (the listed package variables as the program's text lays them). -/
import Derived.Test.YthhfalbeafocoaaGreatDoorZ3a
import Derived.Test.YthhfalbeafocoaaGreatDoorZ3b
import Derived.Test.YthhfalbeafocoaaGreatDoorZ3c
import Derived.Test.YthhfalbeafocoaaGreatDoorZ3d
import Derived.Test.YthhfalbeafocoaaGreatDoorZ3e
import Derived.Test.YthhfalbeafocoaaGreatDoorT6
set_option maxRecDepth 100000
namespace Go.Proofs.YthhfalbeafocoaaGreatDoor
open Go Go.Reach
theorem closed3 : joinedFacts Tryz.pinned.checked.prog 3 Tryz.f3 (OpenSpec.ofChange Rows.deskAloneSpec).bare Rows.deskAloneRow = true :=
  joined_mk zA3 laidOut mapsRow zB3 z33 z43 z53 z63 zC3 z73 z83 z93 zD3
end Go.Proofs.YthhfalbeafocoaaGreatDoor
