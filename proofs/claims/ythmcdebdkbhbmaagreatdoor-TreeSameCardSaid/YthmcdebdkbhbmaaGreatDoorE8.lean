/- The law TreeSame. -/
import Derived.Test.YthmcdebdkbhbmaaGreatDoorC4
import Derived.Test.YthmcdebdkbhbmaaGreatDoorMd
set_option maxRecDepth 100000
namespace Go.Abs
open Go.Proofs
def F4 : Fn := ⟨.seq (.reg [⟨none, .box 2 (.t 0)⟩, ⟨none, .box 3 (.t 1)⟩, ⟨none, .mv 4 (.c (.sc (.b false)))⟩]) (.seq (.regD [⟨none, .ld 5 2 true (.t 2)⟩, ⟨none, .ld 6 2 true (.t 3)⟩, ⟨none, .call (some 7) (.c (.fn 14 [])) [.t 5, .t 6]⟩, ⟨none, .ld 8 2 true (.t 2)⟩, ⟨none, .ld 9 2 true (.t 3)⟩, ⟨none, .call (some 10) (.c (.fn 15 [])) [.t 8, .t 9]⟩, ⟨none, .binB 11 false (.t 7) (.t 10)⟩, ⟨none, .mv 12 (.t 11)⟩, ⟨some (12, true), .ld 13 2 true (.t 2)⟩, ⟨some (12, true), .ld 14 2 true (.t 2)⟩, ⟨some (12, true), .call (some 15) (.c (.fn 14 [])) [.t 13, .t 14]⟩, ⟨none, .pick 16 (.t 12) (.t 15) (.c (.sc (.b false)))⟩, ⟨none, .mv 17 (.t 16)⟩, ⟨some (17, true), .call (some 18) (.c (.fn 13 [])) []⟩, ⟨none, .pick 19 (.t 17) (.t 18) (.c (.sc (.b false)))⟩, ⟨none, .mv 4 (.t 19)⟩] [0, 0, 3, 0, 0, 31, 63, 127, 255, 255, 1023, 2047, 4095, 8191, 16383, 32767]) .ret), [(4, 0)], 20⟩
theorem F4_ok : compT Tryz.prog (fun _ => an0) 4 = some F4 := by kernel_rfl
theorem c4 (W0 : Go.World) (htab : Go.Lib.TabIs Tryz.prog W0 "strings.asciiSpace" .u8 Go.Lib.asciiSpaceTab) (x y : Prg) (hx : x.ok) (hy : y.ok) : Ctr Tryz.prog W0 4 [eG x, eG y] [] (.sc (.b true)) [] := by
  have h14 := c14 W0 x y hx hy
  have h15 := c15 W0 x y hx hy
  have h14' := c14 W0 x x hx hx
  have h13 := c13 W0 htab
  rw [samePrg_refl] at h14'
  refine ctr_body follows F4_ok rfl (fun _ _ h => by cases h) rfl rfl ?_
  obtain ⟨a, b⟩ := x
  obtain ⟨a', b'⟩ := y
  conv => whnf
  refine .pure _ h14 ⟨rfl, rfl⟩ ?_
  conv => whnf
  refine .pure _ h15 ⟨rfl, rfl⟩ ?_
  conv => whnf
  refine brec (fun h => ?_) (fun _ => ?_)
  · simp at h
  · conv => whnf
    refine .pure _ h14' ⟨rfl, rfl⟩ ?_
    conv => whnf
    refine .pure _ h13 ⟨rfl, rfl⟩ ?_
    conv => whnf
    exact fin_b rfl
end Go.Abs
