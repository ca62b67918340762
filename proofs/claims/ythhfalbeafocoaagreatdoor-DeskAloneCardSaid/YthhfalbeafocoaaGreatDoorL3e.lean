/- DeskAlone: for every line a desk that is nil, and one that was not made by New, answers no text and the code ErrNil; and the check of the law answers true: the law returns true, and the argument reads as before. Conditions: the row's own (the listed package variables as the program's text lays them). -/
import Derived.Test.YthhfalbeafocoaaGreatDoorL3a
import Derived.Test.YthhfalbeafocoaaGreatDoorL3b
import Derived.Test.YthhfalbeafocoaaGreatDoorL3c
import Derived.Test.YthhfalbeafocoaaGreatDoorL3v
import Derived.Test.YthhfalbeafocoaaGreatDoorL3d
set_option maxRecDepth 100000
namespace Go.Proofs.YthhfalbeafocoaaGreatDoor
open Go.ChangeShapes Go.WideShapes Go.RowKit Go.Abs Go
theorem lifted3 (os : Os) (started : os.Started) (H : Type) (enc : TypeId × Value → H) (F : Stop.Interp) :
    ReturnsInHanded {} Tryz.checked os 3 .any ((OpenSpec.ofChange Rows.deskAloneSpec).preRow enc Tryz.prog Tryz.f3 Rows.deskAloneRow.domain false Rows.deskAloneRow.laid) (((OpenSpec.ofChange Rows.deskAloneSpec).at F).post enc Tryz.prog Tryz.f3 false true false false) := by
  obtain ⟨places, hx⟩ := reads3 os enc
  refine returnsInHanded_of_row (C := Tryz.checked) (s := (OpenSpec.ofChange Rows.deskAloneSpec)) own started (by kernel_rfl) Tryz.func3
    (witness_row_atRef (enc := enc) (C := Tryz.checked) false (World.laidAll Tryz.prog os Rows.deskAloneRow.laid) #[noS] (World.laidAll_os _ _ _) (vars3 os) (heap3 os) (okin3 os)
      (OpenSpec.preRow_of_cond 8 hx (by kernel_rfl) (fun k hk => by cases hk) (sized3 os enc) (met3 os))) ?_
  intro W base args ds gs before hval hW _ _ hw hL hsh _
  exact contract3 H enc W base args ds gs before hval hW hw hL hsh
end Go.Proofs.YthhfalbeafocoaaGreatDoor
