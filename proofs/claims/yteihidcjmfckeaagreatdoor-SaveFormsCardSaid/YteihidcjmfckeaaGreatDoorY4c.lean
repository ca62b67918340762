/- The tie of a row: a piece of it (each small enough for one process). -/
import Derived.Test.YteihidcjmfckeaaGreatDoorRows
import Derived.LaidByTextLater
import Derived.SevenTiedAt
import Derived.KernelRfl
set_option linter.all false
set_option maxRecDepth 1000000
namespace Go.Proofs.YteihidcjmfckeaaGreatDoor
open Go
theorem tg4:(Tryz.prog.funcNamed "gosem.cut.vars").isSome=true:=by kernel_rfl
theorem tn4:varsNamedLaterB Tryz.prog (varsId Tryz.prog) [("strings.asciiSpace",Rows.laid_strings_asciiSpace),("unicode.White_Space",Rows.laid_unicode_White_Space),("internal/strconv.uint64pow10",Rows.laid_internal_strconv_uint64pow10),("math/bits.deBruijn32tab",Rows.laid_math_bits_deBruijn32tab),("math/bits.deBruijn64tab",Rows.laid_math_bits_deBruijn64tab),("unicode/utf8.acceptRanges",Rows.laid_unicode_utf8_acceptRanges),("strconv.ErrSyntax",Rows.laid_strconv_ErrSyntax),("strconv.ErrRange",Rows.laid_strconv_ErrRange)]=true:=by kernel_rfl
end Go.Proofs.YteihidcjmfckeaaGreatDoor
