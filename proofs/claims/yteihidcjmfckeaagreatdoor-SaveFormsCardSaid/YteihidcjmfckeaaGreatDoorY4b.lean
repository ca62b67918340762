/- The tie of a row: a piece of it (each small enough for one process). -/
import Derived.Test.YteihidcjmfckeaaGreatDoorRows
import Derived.LaidByTextLater
import Derived.SevenTiedAt
import Derived.KernelRfl
set_option linter.all false
set_option maxRecDepth 1000000
namespace Go.Proofs.YteihidcjmfckeaaGreatDoor
open Go
theorem tw4:Tryz.prog.worded (varsWordLater true)=true:=by kernel_rfl
theorem tx4:Tryz.prog.worded (varsWordLater !true)=false:=by kernel_rfl
theorem tr4:Tryz.prog.worded rootWordLater=true:=by kernel_rfl
theorem tk4:([("strings.asciiSpace",Rows.laid_strings_asciiSpace),("unicode.White_Space",Rows.laid_unicode_White_Space),("internal/strconv.uint64pow10",Rows.laid_internal_strconv_uint64pow10),("math/bits.deBruijn32tab",Rows.laid_math_bits_deBruijn32tab),("math/bits.deBruijn64tab",Rows.laid_math_bits_deBruijn64tab),("unicode/utf8.acceptRanges",Rows.laid_unicode_utf8_acceptRanges),("strconv.ErrSyntax",Rows.laid_strconv_ErrSyntax),("strconv.ErrRange",Rows.laid_strconv_ErrRange)]:List (String × DataW Unit)).map (fun x=>Tryz.prog.kindOfLater x.1)=([.data,.listed,.data,.data,.data,.data,.sentinel,.sentinel]:List LaidKind).map some:=by kernel_rfl
end Go.Proofs.YteihidcjmfckeaaGreatDoor
