/- TreeParsesExps: for every text ParseExp answers as the reference's: the same expression and the same code; and where it is read without fault, the text of what is read is that of the tokens, one space between two: the law returns true, and the argument reads as before. Conditions: the row's own (the listed package variables as the program's text lays them). -/
import Derived.Test.YthmcdebdkbhbmaaGreatDoorR6
import Derived.Lay
import Derived.Test.YthmcdebdkbhbmaaGreatDoorR8
set_option maxRecDepth 100000
namespace Go.Proofs.YthmcdebdkbhbmaaGreatDoor
open Go.ChangeShapes Go.WideShapes Go.RowKit Go.Abs Go
theorem met8 (os : Os) : laidMet Tryz.prog Rows.treeParsesExpsRow.laid ((World.laidAll Tryz.prog os Rows.treeParsesExpsRow.laid).forCall (fun _ _ => 0) ⟨#[], #[noS], []⟩).memory :=
  laidMet_laidAll _ (by kernel_rfl) (by kernel_rfl)
end Go.Proofs.YthmcdebdkbhbmaaGreatDoor
