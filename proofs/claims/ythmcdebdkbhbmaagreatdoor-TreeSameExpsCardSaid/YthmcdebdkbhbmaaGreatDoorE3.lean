/- The law TreeSameExps. -/
import Derived.Test.YthmcdebdkbhbmaaGreatDoorC4
set_option maxRecDepth 100000
namespace Go.Abs
open Go.Proofs
def F3 : Fn := ⟨.seq (.reg [⟨none, .box 2 (.t 0)⟩, ⟨none, .box 3 (.t 1)⟩, ⟨none, .mv 4 (.c (.sc (.b false)))⟩]) (.seq (.regD [⟨none, .ld 5 4 true (.t 2)⟩, ⟨none, .ld 6 4 true (.t 3)⟩, ⟨none, .call (some 7) (.c (.fn 11 [])) [.t 5, .t 6]⟩, ⟨none, .ld 8 4 true (.t 2)⟩, ⟨none, .ld 9 4 true (.t 3)⟩, ⟨none, .call (some 10) (.c (.fn 12 [])) [.t 8, .t 9]⟩, ⟨none, .binB 11 false (.t 7) (.t 10)⟩, ⟨none, .mv 12 (.t 11)⟩, ⟨some (12, true), .ld 13 4 true (.t 3)⟩, ⟨some (12, true), .ld 14 4 true (.t 3)⟩, ⟨some (12, true), .call (some 15) (.c (.fn 11 [])) [.t 13, .t 14]⟩, ⟨none, .pick 16 (.t 12) (.t 15) (.c (.sc (.b false)))⟩, ⟨none, .mv 17 (.t 16)⟩, ⟨some (17, true), .call (some 18) (.c (.fn 13 [])) []⟩, ⟨none, .pick 19 (.t 17) (.t 18) (.c (.sc (.b false)))⟩, ⟨none, .mv 4 (.t 19)⟩] [0, 0, 3, 0, 0, 31, 63, 127, 255, 255, 1023, 2047, 4095, 8191, 16383, 32767]) .ret), [(4, 0)], 20⟩
theorem F3_ok : compT Tryz.prog (fun _ => an0) 3 = some F3 := by kernel_rfl
theorem c3 (W0 : Go.World) (htab : Go.Lib.TabIs Tryz.prog W0 "strings.asciiSpace" .u8 Go.Lib.asciiSpaceTab) (x y : Exp) (hx : x.ok) (hy : y.ok) : Ctr Tryz.prog W0 3 [eE x, eE y] [] (.sc (.b true)) [] := by
  have h11 := c11 W0 x y hx hy
  have h12 := c12 W0 x y hx hy
  have h11' := c11 W0 y y hy hy
  have h13 := c13 W0 htab
  rw [sameE_refl] at h11'
  refine ctr_body follows F3_ok rfl (fun _ _ h => by cases h) rfl (by cases x; cases y; rfl) ?_
  cases x with
  | mk a b n l =>
  cases y with
  | mk a' b' n' l' =>
  conv => whnf
  refine .pure _ h11 ⟨rfl, rfl⟩ ?_
  conv => whnf
  refine .pure _ h12 ⟨rfl, rfl⟩ ?_
  conv => whnf
  refine brec (fun h => ?_) (fun _ => ?_)
  · simp at h
  · conv => whnf
    refine .pure _ h11' ⟨rfl, rfl⟩ ?_
    conv => whnf
    refine .pure _ h13 ⟨rfl, rfl⟩ ?_
    conv => whnf
    exact fin_b rfl
end Go.Abs
