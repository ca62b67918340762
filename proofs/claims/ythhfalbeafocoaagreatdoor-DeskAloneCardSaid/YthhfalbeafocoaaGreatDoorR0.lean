/- How the arguments read: from the row's reader to the machine's data. -/
import Derived.Test.YthhfalbeafocoaaGreatDoorMc
import Derived.ChangeArms
import Derived.ChangeVars
import Derived.ReadAgain
import GoSem.ClaimJoined
namespace Go.Abs
open Go
def oldI (w : World) : Nat → Nat → Prop := fun b _ => b < w.heap.size
/-- these values are these data -/
def Cells (w : World) (ds : List Data) (cs : List Value) : Prop := cs.length = ds.length ∧ ∀ j dd, ds[j]? = some dd → RepD (oldI w) w dd (cs.getD j undef)
section
variable {H : Type} {enc : TypeId × Value → H} {P : Program} {w : World} {bk : DataW H → Nat}
theorem Cells.one {d : Data} {v : Value} (h : Cells w [d] [v]) : RepD (oldI w) w d v := h.2 0 d rfl
end
end Go.Abs
namespace Go.Abs
open Go
section
variable {H : Type} {enc : TypeId × Value → H} {P : Program} {w : World} {bk : DataW H → Nat}
end
end Go.Abs
