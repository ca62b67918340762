/- The types of the variables and of the parameters lie in the table. -/
import Derived.Test.YthhfalbeafocoaaGreatDoorProg
import Derived.ClosedOfChecked
import Derived.KernelRfl
set_option maxRecDepth 100000
namespace Go.Proofs.YthhfalbeafocoaaGreatDoor
open Go
theorem restOk : (Tryz.prog.globals.all (fun g => decide (g.type < Tryz.prog.types.size)) && Tryz.prog.funcs.all (fun f => f.params.all fun t => decide (t < Tryz.prog.types.size))) = true := by kernel_rfl
end Go.Proofs.YthhfalbeafocoaaGreatDoor
