/- SaveForms: for every text of an image, the law returns true, and the argument reads as before: where the image is read it is no program or a program, and the program's own text is read as the same program and the same text again; a heap that was parked is read as the same heap. Conditions: the row's own (the listed package variables as the program's text lays them). -/
import Derived.Test.YteihidcjmfckeaaGreatDoorRd
set_option linter.all false
set_option maxRecDepth 1000000
namespace Go.Proofs.YteihidcjmfckeaaGreatDoor
open Go.ChangeShapes Go.WideShapes Go.RowKit Go.Abs Go
theorem plain4 (f:FuncId) (fn:Func) (hf:Tryz.pinned.checked.prog.funcNamed "purlieu/purlieulaw24.SaveForms"=some f) (hfn:Tryz.pinned.checked.prog.funcs[f]? = some fn) :
  true=Tryz.pinned.checked.prog.looks []∧∀ (j:Nat) t,fn.params[j]? = some t→Tryz.pinned.checked.prog.wantsStandIn t=false:=by
 obtain rfl:f=4:=Option.some.inj ((show Tryz.prog.funcNamed "purlieu/purlieulaw24.SaveForms"=some 4 by kernel_rfl).symm.trans hf) |>.symm
 obtain rfl:fn=Tryz.f4:=(Option.some.inj (Tryz.func4.symm.trans hfn)).symm
 refine ⟨by kernel_rfl,fun j t ht=>?_⟩
 rw [Tryz.params4] at ht
 obtain rfl:t=9:=by simpa using Array.mem_of_getElem? ht
 exact (show Tryz.prog.wantsStandIn 9=false by kernel_rfl)
end Go.Proofs.YteihidcjmfckeaaGreatDoor
