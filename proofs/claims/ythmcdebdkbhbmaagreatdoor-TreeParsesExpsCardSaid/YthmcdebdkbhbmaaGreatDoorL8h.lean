/- TreeParsesExps: for every text ParseExp answers as the reference's: the same expression and the same code; and where it is read without fault, the text of what is read is that of the tokens, one space between two: the law returns true, and the argument reads as before. Conditions: the row's own (the listed package variables as the program's text lays them). -/
import Derived.Test.YthmcdebdkbhbmaaGreatDoorL8e
import Derived.Test.YthmcdebdkbhbmaaGreatDoorL8f
import Derived.Test.YthmcdebdkbhbmaaGreatDoorL8g
set_option maxRecDepth 100000
namespace Go.Proofs.YthmcdebdkbhbmaaGreatDoor
open Go.ChangeShapes Go.WideShapes Go.RowKit Go.Abs Go
theorem said8 : Rows.TreeParsesExpsSaid :=
  OpenClaim.holds_of_cond 8 Tryz.f8 rfl rfl rfl rfl rfl rfl rfl ⟨rfl, rfl, rfl, rfl, rfl⟩ rfl rfl rfl rfl rfl named8 Tryz.func8 closed8 inst8 wrap8
    (fun os started H enc _ F => by rw [OpenClaim.pre_eq_preRow]; exact lifted8 os started H enc F)
end Go.Proofs.YthmcdebdkbhbmaaGreatDoor
