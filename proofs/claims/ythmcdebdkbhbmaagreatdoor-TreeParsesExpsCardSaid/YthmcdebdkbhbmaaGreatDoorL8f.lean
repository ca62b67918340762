/- TreeParsesExps: for every text ParseExp answers as the reference's: the same expression and the same code; and where it is read without fault, the text of what is read is that of the tokens, one space between two: the law returns true, and the argument reads as before. Conditions: the row's own (the listed package variables as the program's text lays them). -/
import Derived.Test.YthmcdebdkbhbmaaGreatDoorR6
set_option maxRecDepth 100000
namespace Go.Proofs.YthmcdebdkbhbmaaGreatDoor
open Go.ChangeShapes Go.WideShapes Go.RowKit Go.Abs Go
theorem closed8 : joinedFacts Tryz.pinned.checked.prog 8 Tryz.f8 (OpenSpec.ofChange Rows.treeParsesExpsSpec).bare Rows.treeParsesExpsRow = true := by kernel_rfl
end Go.Proofs.YthmcdebdkbhbmaaGreatDoor
