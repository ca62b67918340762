/- TreeSame: for every two programs tree.Same answers as the reference's Same, Same of a program and itself is true, and Awake is true: the law returns true, and the arguments read as before. Conditions: the row's own (no rings; the listed package variables as the program's text lays them). -/
import Derived.Test.YthmcdebdkbhbmaaGreatDoorL4a
import Derived.Test.YthmcdebdkbhbmaaGreatDoorL4b
import Derived.Test.YthmcdebdkbhbmaaGreatDoorL4c
import Derived.Test.YthmcdebdkbhbmaaGreatDoorL4d
set_option maxRecDepth 100000
namespace Go.Proofs.YthmcdebdkbhbmaaGreatDoor
open Go.ChangeShapes Go.WideShapes Go.RowKit Go.Abs Go
theorem lifted4 (os : Os) (started : os.Started) (H : Type) (enc : TypeId × Value → H) (F : Stop.Interp) :
    ReturnsInHanded {} Tryz.checked os 4 .any ((OpenSpec.ofChange Rows.treeSameSpec).preRow enc Tryz.prog Tryz.f4 Rows.treeSameRow.domain false Rows.treeSameRow.laid) (((OpenSpec.ofChange Rows.treeSameSpec).at F).post enc Tryz.prog Tryz.f4 false true false false) := by
  obtain ⟨places, hx⟩ := reads4 os enc
  refine returnsInHanded_of_row (C := Tryz.checked) (s := (OpenSpec.ofChange Rows.treeSameSpec)) own started (by kernel_rfl) Tryz.func4
    (witness_row_atRef (enc := enc) (C := Tryz.checked) false (World.doorLaid Tryz.prog 4000 os) #[noG, noG] rfl (vars4 os) (heap4 os) (okin4 os)
      (OpenSpec.preRow_of_cond 8 hx (by kernel_rfl) (fun k hk => by cases hk) (sized4 os enc) (met4 os))) ?_
  intro W base args ds gs before hval hW _ _ hw hL _ _
  exact contract4 H enc W base args ds gs before hval hW hw hL
end Go.Proofs.YthmcdebdkbhbmaaGreatDoor
