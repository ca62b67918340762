/- The tie of a row: a piece of it (each small enough for one process). -/
import Derived.Test.YteihidcjmfckeaaGreatDoorRows
import Derived.LaidByTextLater
import Derived.SevenTiedAt
import Derived.KernelRfl
import GoSem.ClaimGoes
import GoSem.ClaimWrapper
set_option linter.all false
set_option maxRecDepth 1000000
namespace Go.Proofs.YteihidcjmfckeaaGreatDoor
open Go
theorem pinFits4:Tryz.pinned.checked.prog.pinnedFits "unicode/utf8.first"=true:=by kernel_rfl
theorem noUns4:Tryz.pinned.checked.prog.headLifts.contains "ownunsafe"=false:=by kernel_rfl
theorem lfits4:Tryz.pinned.checked.prog.listedFits [("strings.asciiSpace",Rows.laid_strings_asciiSpace),("unicode.White_Space",Rows.laid_unicode_White_Space),("internal/strconv.uint64pow10",Rows.laid_internal_strconv_uint64pow10),("math/bits.deBruijn32tab",Rows.laid_math_bits_deBruijn32tab),("math/bits.deBruijn64tab",Rows.laid_math_bits_deBruijn64tab),("unicode/utf8.first",Rows.laid_unicode_utf8_first),("unicode/utf8.acceptRanges",Rows.laid_unicode_utf8_acceptRanges),("strconv.ErrSyntax",Rows.laid_strconv_ErrSyntax),("strconv.ErrRange",Rows.laid_strconv_ErrRange)]=true:=by
 unfold Program.listedFits
 rw [noUns4]
 kernel_rfl
end Go.Proofs.YteihidcjmfckeaaGreatDoor
namespace Go.Proofs.YteihidcjmfckeaaGreatDoor
open Go
theorem goes_none {P:Program} (h:P.funcs.any Func.goes=false) (f:FuncId):P.goes f=false:=by
 have key:∀ g:FuncId,(P.funcs[g]?).any Func.goes=false:=by
  intro g
  cases hg:P.funcs[g]? with
  | none=>rfl
  | some fn =>
    cases hb:fn.goes with
    | false=>simp [hb]
    | true =>
      have:P.funcs.any Func.goes=true:=Array.any_eq_true.2 (by obtain ⟨h1,h2⟩:=Array.getElem?_eq_some_iff.1 hg;exact ⟨g,h1,by rw [h2];exact hb⟩)
      rw [h] at this;cases this
 unfold Program.goes
 rw [h,Bool.and_false,Bool.or_false,List.any_eq_false]
 intro x _
 rw [key x];decide
theorem noGo:Tryz.pinned.checked.prog.funcs.any Func.goes=false:=by kernel_rfl
theorem mainIs0:Tryz.pinned.checked.prog.mainIs=some (true,"1cabdf9795ec4e0f8813cbf68d55efff4df880719a43d3b6639ad27ca2a205ee".toList):=by kernel_rfl
end Go.Proofs.YteihidcjmfckeaaGreatDoor
