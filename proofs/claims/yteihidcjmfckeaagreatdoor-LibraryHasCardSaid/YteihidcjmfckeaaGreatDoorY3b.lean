/- The tie of a row: a piece of it (each small enough for one process). -/
import Derived.Test.YteihidcjmfckeaaGreatDoorRows
import Derived.LaidByTextLater
import Derived.SevenTiedAt
import Derived.KernelRfl
set_option linter.all false
set_option maxRecDepth 1000000
namespace Go.Proofs.YteihidcjmfckeaaGreatDoor
open Go
theorem tw3 : Tryz.prog.worded (varsWordLater true) = true := by kernel_rfl
theorem tx3 : Tryz.prog.worded (varsWordLater !true) = false := by kernel_rfl
theorem tr3 : Tryz.prog.worded rootWordLater = true := by kernel_rfl
theorem tk3 : ([("strings.asciiSpace", Rows.laid_strings_asciiSpace), ("unicode.White_Space", Rows.laid_unicode_White_Space), ("strconv.ErrSyntax", Rows.laid_strconv_ErrSyntax), ("strconv.ErrRange", Rows.laid_strconv_ErrRange), ("internal/strconv.uint64pow10", Rows.laid_internal_strconv_uint64pow10), ("math/bits.deBruijn32tab", Rows.laid_math_bits_deBruijn32tab), ("math/bits.deBruijn64tab", Rows.laid_math_bits_deBruijn64tab)] : List (String × DataW Unit)).map (fun x => Tryz.prog.kindOfLater x.1) = ([.data, .listed, .sentinel, .sentinel, .data, .data, .data] : List LaidKind).map some := by kernel_rfl
end Go.Proofs.YteihidcjmfckeaaGreatDoor
