/- What the rows of this seat share: the closed facts of the program, the listed tables, the arguments' readings. -/
import Derived.Test.YthmcdebdkbhbmaaGreatDoorR2
import Derived.Test.YthmcdebdkbhbmaaGreatDoorR1
import Derived.Test.YthmcdebdkbhbmaaGreatDoorMc
import Derived.Test.YthmcdebdkbhbmaaGreatDoorC3
import Derived.Test.YthmcdebdkbhbmaaGreatDoorCards
import Derived.Test.YthmcdebdkbhbmaaGreatDoorTie
import Derived.SevenTiedAt
import Derived.Deep.DeepWitnessRowRef
set_option maxRecDepth 100000
namespace Go.Proofs.YthmcdebdkbhbmaaGreatDoor
open Go.ChangeShapes Go.WideShapes Go.RowKit Go.Abs Go
theorem own : ownKnob Tryz.prog.godebug = none := by kernel_rfl
theorem tabSp {W : World} {laid : List (String × DataW Unit)} (hmem : ("strings.asciiSpace", Lib.tabData .u8 Lib.asciiSpaceTab) ∈ laid) (h : laidMet Tryz.prog laid W) : Lib.TabIs Tryz.prog W "strings.asciiSpace" .u8 Lib.asciiSpaceTab :=
  tab_of_laid (g := 4) (by kernel_rfl) (t := 247) (by kernel_rfl) (n := 256) (e := 5) (by kernel_rfl) (by kernel_rfl) (by kernel_rfl) (by kernel_rfl) hmem h
theorem spDatum : (Rows.laid_strings_asciiSpace : DataW Unit) = Lib.tabData .u8 Lib.asciiSpaceTab := by kernel_rfl
theorem laidOut : laidOutB Tryz.prog = true := by kernel_rfl
theorem mapsRow : mapsRowed Tryz.prog = true := by kernel_rfl
theorem fullRows : ((List.range Tryz.prog.types.size).all fun t => match Tryz.prog.underlying t with | some (.slice e) => decide (0 < Tryz.prog.cellsOf e) | _ => true) = true := by kernel_rfl
theorem bk_upto {H : Type} : Bk (H := H) Rows.uptoBulk := by
  have all : ∀ l : List (DataW H), Rows.uptoBulkAll l = (l.map Rows.uptoBulk).sum := by
    intro l
    induction l with
    | nil => simp [Rows.uptoBulkAll]
    | cons d r ih => simp [Rows.uptoBulkAll, ih]
  refine ⟨fun l => by simp [Rows.uptoBulk], fun k n => by simp [Rows.uptoBulk], by simp [Rows.uptoBulk], fun els sp => ?_, fun ps => ?_⟩
  · simp only [Rows.uptoBulk, all]; omega
  · simp only [Rows.uptoBulk, all]; omega
end Go.Proofs.YthmcdebdkbhbmaaGreatDoor
