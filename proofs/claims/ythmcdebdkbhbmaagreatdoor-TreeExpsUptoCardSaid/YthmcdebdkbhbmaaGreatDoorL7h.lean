/- TreeExps: for every expression FormatExp and ValidExp answer as the reference's, and the text of a valid one, if it is short enough, is parsed to the same expression: the law returns true, and the argument reads as before. Conditions: the row's own (no rings; the argument's bulk at most 1048576; the listed package variables as the program's text lays them). -/
import Derived.Test.YthmcdebdkbhbmaaGreatDoorL7e
import Derived.Test.YthmcdebdkbhbmaaGreatDoorL7f
import Derived.Test.YthmcdebdkbhbmaaGreatDoorL7g
set_option maxRecDepth 100000
namespace Go.Proofs.YthmcdebdkbhbmaaGreatDoor
open Go.ChangeShapes Go.WideShapes Go.RowKit Go.Abs Go
theorem said7 : Rows.TreeExpsUptoSaid :=
  OpenClaim.holds_of_cond 7 Tryz.f7 rfl rfl rfl rfl rfl rfl rfl ⟨rfl, rfl, rfl, rfl, rfl⟩ rfl rfl rfl rfl rfl named7 Tryz.func7 closed7 inst7 wrap7
    (fun os started H enc _ F => by rw [OpenClaim.pre_eq_preRow]; exact lifted7 os started H enc F)
end Go.Proofs.YthmcdebdkbhbmaaGreatDoor
