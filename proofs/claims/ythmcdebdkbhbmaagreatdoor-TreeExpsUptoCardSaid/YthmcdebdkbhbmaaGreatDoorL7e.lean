/- TreeExps: for every expression FormatExp and ValidExp answer as the reference's, and the text of a valid one, if it is short enough, is parsed to the same expression: the law returns true, and the argument reads as before. Conditions: the row's own (no rings; the argument's bulk at most 1048576; the listed package variables as the program's text lays them). -/
import Derived.Test.YthmcdebdkbhbmaaGreatDoorL7a
import Derived.Test.YthmcdebdkbhbmaaGreatDoorL7b
import Derived.Test.YthmcdebdkbhbmaaGreatDoorL7c
import Derived.Test.YthmcdebdkbhbmaaGreatDoorL7d
set_option maxRecDepth 100000
namespace Go.Proofs.YthmcdebdkbhbmaaGreatDoor
open Go.ChangeShapes Go.WideShapes Go.RowKit Go.Abs Go
theorem lifted7 (os : Os) (started : os.Started) (H : Type) (enc : TypeId × Value → H) (F : Stop.Interp) :
    ReturnsInHanded {} Tryz.checked os 7 .any ((Rows.OpenSpec.upto Rows.treeExpsSpec).preRow enc Tryz.prog Tryz.f7 Rows.treeExpsUptoRow.domain false Rows.treeExpsUptoRow.laid) (((Rows.OpenSpec.upto Rows.treeExpsSpec).at F).post enc Tryz.prog Tryz.f7 false true false false) := by
  obtain ⟨places, hx⟩ := reads7 os enc
  refine returnsInHanded_of_row (C := Tryz.checked) (s := (Rows.OpenSpec.upto Rows.treeExpsSpec)) own started (by kernel_rfl) Tryz.func7
    (witness_row_atRef (enc := enc) (C := Tryz.checked) false (World.laidAll Tryz.prog os Rows.treeExpsUptoRow.laid) #[noE] (World.laidAll_os _ _ _) (vars7 os) (heap7 os) (okin7 os)
      (OpenSpec.preRow_of_cond 8 hx (by kernel_rfl) (fun k hk => by cases hk; kernel_rfl) (sized7 os enc) (met7 os))) ?_
  intro W base args ds gs before hval hW _ hcond hw hL hsh _
  exact contract7 H enc W base args ds gs before hval hW hw hL hsh (hcond _ rfl)
end Go.Proofs.YthmcdebdkbhbmaaGreatDoor
