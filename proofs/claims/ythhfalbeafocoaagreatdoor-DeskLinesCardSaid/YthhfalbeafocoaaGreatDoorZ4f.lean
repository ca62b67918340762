/- DeskLines: for every line the desk's IsLine answers as the reference's Read; and the check of the law answers true: the law returns true, and the argument reads as before. Conditions: the row's own (the listed package variables as the program's text lays them). -/
import Derived.Test.YthhfalbeafocoaaGreatDoorZ4a
import Derived.Test.YthhfalbeafocoaaGreatDoorZ4b
import Derived.Test.YthhfalbeafocoaaGreatDoorZ4c
import Derived.Test.YthhfalbeafocoaaGreatDoorZ4d
import Derived.Test.YthhfalbeafocoaaGreatDoorZ4e
import Derived.Test.YthhfalbeafocoaaGreatDoorT6
set_option maxRecDepth 100000
namespace Go.Proofs.YthhfalbeafocoaaGreatDoor
open Go Go.Reach
theorem closed4 : joinedFacts Tryz.pinned.checked.prog 4 Tryz.f4 (OpenSpec.ofChange Rows.deskLinesSpec).bare Rows.deskLinesRow = true :=
  joined_mk zA4 laidOut mapsRow zB4 z34 z44 z54 z64 zC4 z74 z84 z94 zD4
end Go.Proofs.YthhfalbeafocoaaGreatDoor
