/- TreeParsesExps: for every text ParseExp answers as the reference's: the same expression and the same code; and where it is read without fault, the text of what is read is that of the tokens, one space between two: the law returns true, and the argument reads as before. Conditions: the row's own (the listed package variables as the program's text lays them). -/
import Derived.Test.YthmcdebdkbhbmaaGreatDoorL8a
import Derived.Test.YthmcdebdkbhbmaaGreatDoorL8b
import Derived.Test.YthmcdebdkbhbmaaGreatDoorL8c
import Derived.Test.YthmcdebdkbhbmaaGreatDoorL8d
set_option maxRecDepth 100000
namespace Go.Proofs.YthmcdebdkbhbmaaGreatDoor
open Go.ChangeShapes Go.WideShapes Go.RowKit Go.Abs Go
theorem lifted8 (os : Os) (started : os.Started) (H : Type) (enc : TypeId × Value → H) (F : Stop.Interp) :
    ReturnsInHanded {} Tryz.checked os 8 .any ((OpenSpec.ofChange Rows.treeParsesExpsSpec).preRow enc Tryz.prog Tryz.f8 Rows.treeParsesExpsRow.domain false Rows.treeParsesExpsRow.laid) (((OpenSpec.ofChange Rows.treeParsesExpsSpec).at F).post enc Tryz.prog Tryz.f8 false true false false) := by
  obtain ⟨places, hx⟩ := reads8 os enc
  refine returnsInHanded_of_row (C := Tryz.checked) (s := (OpenSpec.ofChange Rows.treeParsesExpsSpec)) own started (by kernel_rfl) Tryz.func8
    (witness_row_atRef (enc := enc) (C := Tryz.checked) false (World.laidAll Tryz.prog os Rows.treeParsesExpsRow.laid) #[noS] (World.laidAll_os _ _ _) (vars8 os) (heap8 os) (okin8 os)
      (OpenSpec.preRow_of_cond 8 hx (by kernel_rfl) (fun k hk => by cases hk) (sized8 os enc) (met8 os))) ?_
  intro W base args ds gs before hval hW _ _ hw hL hsh _
  exact contract8 H enc W base args ds gs before hval hW hw hL hsh
end Go.Proofs.YthmcdebdkbhbmaaGreatDoor
