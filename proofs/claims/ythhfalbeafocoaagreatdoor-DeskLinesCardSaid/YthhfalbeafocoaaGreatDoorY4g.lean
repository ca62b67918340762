/- The tie of a row: a piece of it (each small enough for one process). -/
import Derived.Test.YthhfalbeafocoaaGreatDoorY4a
import Derived.Test.YthhfalbeafocoaaGreatDoorY4b
import Derived.Test.YthhfalbeafocoaaGreatDoorY4c
import Derived.Test.YthhfalbeafocoaaGreatDoorY4d
import Derived.Test.YthhfalbeafocoaaGreatDoorY4e
import Derived.Test.YthhfalbeafocoaaGreatDoorY4f
set_option maxRecDepth 100000
namespace Go.Proofs.YthhfalbeafocoaaGreatDoor
open Go Go.Reach
theorem ties4 : Tryz.prog.laidByTextLater [("unicode/utf8.acceptRanges", Rows.laid_unicode_utf8_acceptRanges), ("strconv.ErrSyntax", Rows.laid_strconv_ErrSyntax), ("strconv.ErrRange", Rows.laid_strconv_ErrRange), ("internal/strconv.uint64pow10", Rows.laid_internal_strconv_uint64pow10), ("math/bits.deBruijn32tab", Rows.laid_math_bits_deBruijn32tab), ("math/bits.deBruijn64tab", Rows.laid_math_bits_deBruijn64tab), ("strings.asciiSpace", Rows.laid_strings_asciiSpace), ("unicode.White_Space", Rows.laid_unicode_White_Space)] [.data, .sentinel, .sentinel, .data, .data, .data, .data, .listed] true :=
  Program.laidByTextLater_by_run 400 8 tw4 tx4 tr4 tk4 tg4 tn4 td4
    (fun os tape => by rw [te4 os tape]; rfl) (fun os tape => by rw [te4 os tape]; simp only [Option.map_some, decide_eq_true (placesOf_nodup (RL := RL4) (by decide)), laidRowsB_of (RL := RL4) (tf4 os tape), Bool.and_self])
theorem rowTie4 : Rows.deskLinesRow.laidByTextAt .later Tryz.pinned [.pinned, .data, .sentinel, .sentinel, .data, .data, .data, .data, .listed] true :=
  OpenClaim.laidByTextAt_pinned rfl rfl ties4 rfl rfl rfl rfl (fun y hy _e => by
    simp only [Rows.deskLinesRow, List.zip_cons_cons, List.zip_nil_right, List.mem_cons, List.mem_nil_iff, or_false] at hy
    rcases hy with rfl | rfl | rfl | rfl | rfl | rfl | rfl | rfl | rfl
    · exact ⟨pinFits4, by kernel_rfl⟩
    · cases _e
    · cases _e
    · cases _e
    · cases _e
    · cases _e
    · cases _e
    · cases _e
    · cases _e) lfits4
end Go.Proofs.YthhfalbeafocoaaGreatDoor
