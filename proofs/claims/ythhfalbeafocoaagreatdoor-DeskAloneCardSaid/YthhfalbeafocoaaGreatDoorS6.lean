/- DeskAlone's function answers true. -/
import Derived.Test.YthhfalbeafocoaaGreatDoorS5
set_option maxRecDepth 1000000
namespace Go.Abs
open Go.Proofs
def libE : Go.FuncId → List AV → List (List AV) → Option (AV × List (List AV))
  | 6, [], [] => some (.sc (.b true), [])
  | _, _, _ => none
theorem r5 (s : List UInt8) : runX (compT Tryz.prog annD) libE 60 3 [.sc (.s s)] [] = some (.sc (.b true), []) := by kernel_rfl
theorem c5 (W0 : Go.World) (htab : Go.Lib.TabIs Tryz.prog W0 "strings.asciiSpace" .u8 Go.Lib.asciiSpaceTab) (hpow : Go.Lib.TabIs Tryz.prog W0 "internal/strconv.uint64pow10" .u64 Go.Lib.pow10Tab) (hm : ∃ m, W0.cell? ⟨0, 0, none⟩ = some (.int .i64 m)) (s : List UInt8) :
    Ctr Tryz.prog W0 3 [.sc (.s s)] [] (.sc (.b true)) [] :=
  runX_s (by kernel_rfl) (compT_ok fun f g cells h => by unfold annD at h; split at h <;> cases h) (fun f args H res H' h => by
    unfold libE at h
    split at h
    · cases h; exact c21 W0 htab hpow hm
    · cases h) 60 3 [.sc (.s s)] [] _ _ (r5 s)
end Go.Abs
