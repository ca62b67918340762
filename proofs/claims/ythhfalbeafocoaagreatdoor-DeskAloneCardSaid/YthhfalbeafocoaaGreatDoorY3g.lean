/- The tie of a row: a piece of it (each small enough for one process). -/
import Derived.Test.YthhfalbeafocoaaGreatDoorY3a
import Derived.Test.YthhfalbeafocoaaGreatDoorY3b
import Derived.Test.YthhfalbeafocoaaGreatDoorY3c
import Derived.Test.YthhfalbeafocoaaGreatDoorY3d
import Derived.Test.YthhfalbeafocoaaGreatDoorY3e
import Derived.Test.YthhfalbeafocoaaGreatDoorY3f
set_option maxRecDepth 100000
namespace Go.Proofs.YthhfalbeafocoaaGreatDoor
open Go Go.Reach
theorem ties3 : Tryz.prog.laidByTextLater [("unicode/utf8.acceptRanges", Rows.laid_unicode_utf8_acceptRanges), ("strings.asciiSpace", Rows.laid_strings_asciiSpace), ("unicode.White_Space", Rows.laid_unicode_White_Space), ("strconv.ErrSyntax", Rows.laid_strconv_ErrSyntax), ("strconv.ErrRange", Rows.laid_strconv_ErrRange), ("internal/strconv.uint64pow10", Rows.laid_internal_strconv_uint64pow10), ("math/bits.deBruijn32tab", Rows.laid_math_bits_deBruijn32tab), ("math/bits.deBruijn64tab", Rows.laid_math_bits_deBruijn64tab)] [.data, .data, .listed, .sentinel, .sentinel, .data, .data, .data] true :=
  Program.laidByTextLater_by_run 400 8 tw3 tx3 tr3 tk3 tg3 tn3 td3
    (fun os tape => by rw [te3 os tape]; rfl) (fun os tape => by rw [te3 os tape]; simp only [Option.map_some, decide_eq_true (placesOf_nodup (RL := RL3) (by decide)), laidRowsB_of (RL := RL3) (tf3 os tape), Bool.and_self])
theorem rowTie3 : Rows.deskAloneRow.laidByTextAt .later Tryz.pinned [.pinned, .data, .data, .listed, .sentinel, .sentinel, .data, .data, .data] true :=
  OpenClaim.laidByTextAt_pinned rfl rfl ties3 rfl rfl rfl rfl (fun y hy _e => by
    simp only [Rows.deskAloneRow, List.zip_cons_cons, List.zip_nil_right, List.mem_cons, List.mem_nil_iff, or_false] at hy
    rcases hy with rfl | rfl | rfl | rfl | rfl | rfl | rfl | rfl | rfl
    · exact ⟨pinFits3, by kernel_rfl⟩
    · cases _e
    · cases _e
    · cases _e
    · cases _e
    · cases _e
    · cases _e
    · cases _e
    · cases _e) lfits3
end Go.Proofs.YthhfalbeafocoaaGreatDoor
