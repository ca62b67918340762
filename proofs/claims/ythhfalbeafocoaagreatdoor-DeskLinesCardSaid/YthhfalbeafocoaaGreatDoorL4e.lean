/- DeskLines: for every line the desk's IsLine answers as the reference's Read; and the check of the law answers true: the law returns true, and the argument reads as before. Conditions: the row's own (the listed package variables as the program's text lays them). -/
import Derived.Test.YthhfalbeafocoaaGreatDoorL4a
import Derived.Test.YthhfalbeafocoaaGreatDoorL4b
import Derived.Test.YthhfalbeafocoaaGreatDoorL4c
import Derived.Test.YthhfalbeafocoaaGreatDoorL4v
import Derived.Test.YthhfalbeafocoaaGreatDoorL4d
set_option maxRecDepth 100000
namespace Go.Proofs.YthhfalbeafocoaaGreatDoor
open Go.ChangeShapes Go.WideShapes Go.RowKit Go.Abs Go
theorem lifted4 (os : Os) (started : os.Started) (H : Type) (enc : TypeId × Value → H) (F : Stop.Interp) :
    ReturnsInHanded {} Tryz.checked os 4 .any ((OpenSpec.ofChange Rows.deskLinesSpec).preRow enc Tryz.prog Tryz.f4 Rows.deskLinesRow.domain false Rows.deskLinesRow.laid) (((OpenSpec.ofChange Rows.deskLinesSpec).at F).post enc Tryz.prog Tryz.f4 false true false false) := by
  obtain ⟨places, hx⟩ := reads4 os enc
  refine returnsInHanded_of_row (C := Tryz.checked) (s := (OpenSpec.ofChange Rows.deskLinesSpec)) own started (by kernel_rfl) Tryz.func4
    (witness_row_atRef (enc := enc) (C := Tryz.checked) false (World.laidAll Tryz.prog os Rows.deskLinesRow.laid) #[noS] (World.laidAll_os _ _ _) (vars4 os) (heap4 os) (okin4 os)
      (OpenSpec.preRow_of_cond 8 hx (by kernel_rfl) (fun k hk => by cases hk) (sized4 os enc) (met4 os))) ?_
  intro W base args ds gs before hval hW _ _ hw hL hsh _
  exact contract4 H enc W base args ds gs before hval hW hw hL hsh
end Go.Proofs.YthhfalbeafocoaaGreatDoor
