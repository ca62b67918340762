/- Awake of the desk's law: one run of the machine. -/
import Derived.Test.YthhfalbeafocoaaGreatDoorS5d
set_option maxRecDepth 1000000
namespace Go.Abs
open Go.Proofs
/-- AWAKE ANSWERS TRUE -/
theorem aw21 : runX (compT Tryz.prog annD) libR 60 6 [] [] = some (.sc (.b true), []) := by kernel_rfl
theorem c21 (W0 : Go.World) (htab : Go.Lib.TabIs Tryz.prog W0 "strings.asciiSpace" .u8 Go.Lib.asciiSpaceTab) (hpow : Go.Lib.TabIs Tryz.prog W0 "internal/strconv.uint64pow10" .u64 Go.Lib.pow10Tab) (hm : ∃ m, W0.cell? ⟨0, 0, none⟩ = some (.int .i64 m)) :
    Ctr Tryz.prog W0 6 [] [] (.sc (.b true)) [] :=
  runX_s (by kernel_rfl) (compT_ok fun f g cells h => by unfold annD at h; split at h <;> cases h) (libR_ok W0 htab hpow hm) 60 6 [] [] _ _ aw21
end Go.Abs
