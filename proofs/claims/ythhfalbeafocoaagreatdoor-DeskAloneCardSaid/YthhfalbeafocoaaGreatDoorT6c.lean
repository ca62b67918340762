/- No slice's element is empty. -/
import Derived.Test.YthhfalbeafocoaaGreatDoorProg
import Derived.ClosedOfChecked
import Derived.KernelRfl
set_option maxRecDepth 100000
namespace Go.Proofs.YthhfalbeafocoaaGreatDoor
open Go
theorem fullRows : ((List.range Tryz.prog.types.size).all fun t => match Tryz.prog.underlying t with | some (.slice e) => decide (0 < Tryz.prog.cellsOf e) | _ => true) = true := by kernel_rfl
end Go.Proofs.YthhfalbeafocoaaGreatDoor
