/- LibraryHas: for every text of statements, the library is a program that has all procedures that are named, with their signatures, and its text with the statements is the source, a space and the statements; and the check of the law answers true: the law returns true, and the argument reads as before. Conditions: the row's own (the listed package variables as the program's text lays them). -/
import Derived.Test.YteihidcjmfckeaaGreatDoorRd
set_option linter.all false
set_option maxRecDepth 1000000
namespace Go.Proofs.YteihidcjmfckeaaGreatDoor
open Go.ChangeShapes Go.WideShapes Go.RowKit Go.Abs Go
theorem plain3 (f : FuncId) (fn : Func) (hf : Tryz.pinned.checked.prog.funcNamed "purlieu/purlieulaw26.LibraryHas" = some f) (hfn : Tryz.pinned.checked.prog.funcs[f]? = some fn) :
  true = Tryz.pinned.checked.prog.looks [] ∧ ∀ (j : Nat) t, fn.params[j]? = some t → Tryz.pinned.checked.prog.wantsStandIn t = false := by
 obtain rfl : f = 3 := Option.some.inj ((show Tryz.prog.funcNamed "purlieu/purlieulaw26.LibraryHas" = some 3 by kernel_rfl).symm.trans hf) |>.symm
 obtain rfl : fn = Tryz.f3 := (Option.some.inj (Tryz.func3.symm.trans hfn)).symm
 refine ⟨by kernel_rfl, fun j t ht => ?_⟩
 rw [Tryz.params3] at ht
 obtain rfl : t = 9 := by simpa using Array.mem_of_getElem? ht
 exact (show Tryz.prog.wantsStandIn 9 = false by kernel_rfl)
end Go.Proofs.YteihidcjmfckeaaGreatDoor
