/- No body starts a goroutine: said once of the whole translation. -/
import Derived.Test.YthhfalbeafocoaaGreatDoorRows
import GoSem.ClaimGoes
import GoSem.ClaimWrapper
import Derived.KernelRfl
set_option maxRecDepth 100000
namespace Go.Proofs.YthhfalbeafocoaaGreatDoor
open Go
theorem goes_none {P : Program} (h : P.funcs.any Func.goes = false) (f : FuncId) : P.goes f = false := by
  have key : ∀ g : FuncId, (P.funcs[g]?).any Func.goes = false := by
    intro g
    cases hg : P.funcs[g]? with
    | none => rfl
    | some fn =>
      cases hb : fn.goes with
      | false => simp [hb]
      | true =>
        have : P.funcs.any Func.goes = true := Array.any_eq_true.2 (by obtain ⟨h1, h2⟩ := Array.getElem?_eq_some_iff.1 hg; exact ⟨g, h1, by rw [h2]; exact hb⟩)
        rw [h] at this; cases this
  unfold Program.goes
  rw [h, Bool.and_false, Bool.or_false, List.any_eq_false]
  intro x _
  rw [key x]; decide
theorem noGo : Tryz.pinned.checked.prog.funcs.any Func.goes = false := by kernel_rfl
theorem mainIs0 : Tryz.pinned.checked.prog.mainIs = some (true, "1195f2d0790eff6b5fa0efffd8cae0e11fbf122ed13c11031cfa5d279b4cf955".toList) := by kernel_rfl
end Go.Proofs.YthhfalbeafocoaaGreatDoor
