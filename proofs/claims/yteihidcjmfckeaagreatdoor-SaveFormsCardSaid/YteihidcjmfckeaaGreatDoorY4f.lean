/- The tie of a row: a piece of it (each small enough for one process). -/
import Derived.Test.YteihidcjmfckeaaGreatDoorRows
import Derived.LaidByTextLater
import Derived.SevenTiedAt
import Derived.KernelRfl
import Derived.Test.YteihidcjmfckeaaGreatDoorRa
set_option linter.all false
set_option maxRecDepth 1000000
namespace Go.Proofs.YteihidcjmfckeaaGreatDoor
open Go Go.Reach
theorem tf4 (os:Os) (tape:Tape):(([(6,256),(9,1),(19,3),(18,21),(5,20),(7,32),(8,64),(4,32),(1,1),(17,1),(2,1),(16,1)]:List (Nat × Nat)).all (rowChk Tryz.prog (varsWorld Tryz.prog 400 (varsId Tryz.prog) os tape).memory))=true:=by kernel_rfl
end Go.Proofs.YteihidcjmfckeaaGreatDoor
