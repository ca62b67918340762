/- tree.Parse of one text: one run of the machine. -/
import Derived.Test.YthhfalbeafocoaaGreatDoorMc
set_option maxRecDepth 1000000
namespace Go.Abs
open Go.Proofs
/-- THE PARSER READS THE TEXT -/
theorem awP : runX (compT Tryz.prog annD) libD 60 14 [.sc (.s txtA)] [] = some (progA, []) := by kernel_rfl
theorem cP (W0 : Go.World) (htab : Go.Lib.TabIs Tryz.prog W0 "strings.asciiSpace" .u8 Go.Lib.asciiSpaceTab) (hpow : Go.Lib.TabIs Tryz.prog W0 "internal/strconv.uint64pow10" .u64 Go.Lib.pow10Tab) (hm : ∃ m, W0.cell? ⟨0, 0, none⟩ = some (.int .i64 m)) : Ctr Tryz.prog W0 14 [.sc (.s txtA)] [] progA [] :=
  runX_s (by kernel_rfl) (compT_ok fun f g cells h => by unfold annD at h; split at h <;> cases h) (libD_ok W0 htab hpow hm) 60 14 [.sc (.s txtA)] [] _ _ awP
end Go.Abs
