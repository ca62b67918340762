/- lower.Lower of one program: one run of the machine. -/
import Derived.Test.YthhfalbeafocoaaGreatDoorS5b
set_option maxRecDepth 1000000
namespace Go.Abs
open Go.Proofs
/-- WHAT IS READ IS LOWERED TO ITSELF -/
theorem awL : runX (compT Tryz.prog annD) libD 60 37 [argA] [] = some (progA, []) := by kernel_rfl
theorem cL (W0 : Go.World) (htab : Go.Lib.TabIs Tryz.prog W0 "strings.asciiSpace" .u8 Go.Lib.asciiSpaceTab) (hpow : Go.Lib.TabIs Tryz.prog W0 "internal/strconv.uint64pow10" .u64 Go.Lib.pow10Tab) (hm : ∃ m, W0.cell? ⟨0, 0, none⟩ = some (.int .i64 m)) : Ctr Tryz.prog W0 37 [argA] [] progA [] :=
  runX_s (by kernel_rfl) (compT_ok fun f g cells h => by unfold annD at h; split at h <;> cases h) (libD_ok W0 htab hpow hm) 60 37 [argA] [] _ _ awL
/-- the library, and lower.Lower of this program -/
def libL : Go.FuncId → List AV → List (List AV) → Option (AV × List (List AV))
  | 37, [.agg [.sl 4 [] .none, .sl 8 els .none]], [] => tst (eEq els elsA) (some (progA, []))
  | f, args, H => libD f args H
theorem libL_ok (W0 : Go.World) (htab : Go.Lib.TabIs Tryz.prog W0 "strings.asciiSpace" .u8 Go.Lib.asciiSpaceTab) (hpow : Go.Lib.TabIs Tryz.prog W0 "internal/strconv.uint64pow10" .u64 Go.Lib.pow10Tab) (hm : ∃ m, W0.cell? ⟨0, 0, none⟩ = some (.int .i64 m)) : ∀ f args H res H', libL f args H = some (res, H') → Ctr Tryz.prog W0 f args H res H' := by
  intro f args H res H' h
  unfold libL at h
  split at h
  · obtain ⟨h1, h2⟩ := tst_s h
    cases h2
    rw [eEq_s h1]
    exact cL W0 htab hpow hm
  · exact libD_ok W0 htab hpow hm _ _ _ _ _ h
end Go.Abs
