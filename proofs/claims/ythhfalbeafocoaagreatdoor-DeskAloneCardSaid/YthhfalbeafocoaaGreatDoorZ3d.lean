/- DeskAlone: for every line a desk that is nil, and one that was not made by New, answers no text and the code ErrNil; and the check of the law answers true: the law returns true, and the argument reads as before. Conditions: the row's own (the listed package variables as the program's text lays them). -/
import Derived.Test.YthhfalbeafocoaaGreatDoorRows
import Derived.Test.YthhfalbeafocoaaGreatDoorKm
import Derived.KernelRfl
set_option maxRecDepth 100000
namespace Go.Proofs.YthhfalbeafocoaaGreatDoor
open Go Go.Reach
theorem zD3 : (Rows.deskAloneRow.shortTexts.isNone && (Rows.deskAloneRow.lifted == Tryz.pinned.checked.prog.liftsFinal) && (Tryz.pinned.checked.prog.make == some Rows.deskAloneRow.make) && (Rows.deskAloneRow.kinds == (if Rows.deskAloneRow.domain.isEmpty then [] else Tryz.f3.params.toList.map fun t => match Tryz.pinned.checked.prog.underlying t with | some (.int k) => some k | _ => none)) && (Rows.deskAloneRow.pinned == Rows.deskAloneRow.pinnedBy) &&
      (Rows.deskAloneRow.veiled == (Tryz.f3.params.toList ++ Rows.deskAloneSpec.plain.varTypes Tryz.pinned.checked.prog ++ Tryz.f3.resultTypes.toList).any (Tryz.pinned.checked.prog.veiledRec ·)) && Rows.deskAloneRow.veiledFits Tryz.pinned.checked.prog Tryz.f3.params.toList (Tryz.f3.params.toList ++ Rows.deskAloneSpec.plain.varTypes Tryz.pinned.checked.prog ++ Tryz.f3.resultTypes.toList)) = true := by kernel_rfl
end Go.Proofs.YthhfalbeafocoaaGreatDoor
