/- plain.Run of one program: one run of the machine. -/
import Derived.Test.YthhfalbeafocoaaGreatDoorS5c
set_option maxRecDepth 1000000
namespace Go.Abs
open Go.Proofs
/-- IT TELLS 3 -/
theorem awR : runX (compT Tryz.prog annD) libL 60 41 [argA, .sc (.i .i64 2000)] [] = some (toldA, []) := by kernel_rfl
theorem cR (W0 : Go.World) (htab : Go.Lib.TabIs Tryz.prog W0 "strings.asciiSpace" .u8 Go.Lib.asciiSpaceTab) (hpow : Go.Lib.TabIs Tryz.prog W0 "internal/strconv.uint64pow10" .u64 Go.Lib.pow10Tab) (hm : ∃ m, W0.cell? ⟨0, 0, none⟩ = some (.int .i64 m)) : Ctr Tryz.prog W0 41 [argA, .sc (.i .i64 2000)] [] toldA [] :=
  runX_s (by kernel_rfl) (compT_ok fun f g cells h => by unfold annD at h; split at h <;> cases h) (libL_ok W0 htab hpow hm) 60 41 [argA, .sc (.i .i64 2000)] [] _ _ awR
/-- the library, and what the three layers answer here -/
def libR : Go.FuncId → List AV → List (List AV) → Option (AV × List (List AV))
  | 14, [.sc (.s l)], [] => tst (decide (l = txtA)) (some (progA, []))
  | 41, [.agg [.sl 4 [] .none, .sl 8 els .none], .sc (.i .i64 n)], [] => tst (eEq els elsA && decide (n = 2000)) (some (toldA, []))
  | f, args, H => libL f args H
theorem libR_ok (W0 : Go.World) (htab : Go.Lib.TabIs Tryz.prog W0 "strings.asciiSpace" .u8 Go.Lib.asciiSpaceTab) (hpow : Go.Lib.TabIs Tryz.prog W0 "internal/strconv.uint64pow10" .u64 Go.Lib.pow10Tab) (hm : ∃ m, W0.cell? ⟨0, 0, none⟩ = some (.int .i64 m)) : ∀ f args H res H', libR f args H = some (res, H') → Ctr Tryz.prog W0 f args H res H' := by
  intro f args H res H' h
  unfold libR at h
  split at h
  · obtain ⟨h1, h2⟩ := tst_s h
    cases h2
    rw [of_decide_eq_true h1]
    exact cP W0 htab hpow hm
  · obtain ⟨h1, h2⟩ := tst_s h
    cases h2
    simp only [Bool.and_eq_true, decide_eq_true_eq] at h1
    rw [eEq_s h1.1, h1.2]
    exact cR W0 htab hpow hm
  · exact libL_ok W0 htab hpow hm _ _ _ _ _ h
end Go.Abs
