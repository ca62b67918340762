/- The tie of a row: a piece of it (each small enough for one process). -/
import Derived.Test.YthhfalbeafocoaaGreatDoorRows
import Derived.LaidByTextLater
import Derived.SevenTiedAt
import Derived.KernelRfl
import Derived.Test.YthhfalbeafocoaaGreatDoorY0
set_option maxRecDepth 100000
namespace Go.Proofs.YthhfalbeafocoaaGreatDoor
open Go Go.Reach
theorem tf3 (os : Os) (tape : Tape) : (([(6, 32), (4, 256), (7, 1), (19, 3), (18, 21), (2, 1), (17, 1), (3, 1), (16, 1), (1, 20), (8, 32), (9, 64)] : List (Nat × Nat)).all (rowChk Tryz.prog (varsWorld Tryz.prog 400 (varsId Tryz.prog) os tape).memory)) = true := by kernel_rfl
end Go.Proofs.YthhfalbeafocoaaGreatDoor
