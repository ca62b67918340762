/- What the rows of this seat share: the closed facts of the program, the listed tables, the arguments' readings. -/
import Derived.Test.YthmcdebdkbhbmaaGreatDoorR2
import Derived.Test.YthmcdebdkbhbmaaGreatDoorR5
import Derived.Test.YthmcdebdkbhbmaaGreatDoorC3
import Derived.Test.YthmcdebdkbhbmaaGreatDoorCards
import Derived.Test.YthmcdebdkbhbmaaGreatDoorTie
import Derived.SevenTiedAt
import Derived.Deep.DeepWitnessRowRef
set_option maxRecDepth 100000
namespace Go.Proofs.YthmcdebdkbhbmaaGreatDoor
open Go.ChangeShapes Go.WideShapes Go.RowKit Go.Abs Go
theorem own : ownKnob Tryz.prog.godebug = none := by kernel_rfl
theorem tabSp {W : World} {laid : List (String × DataW Unit)} (hmem : ("strings.asciiSpace", Lib.tabData .u8 Lib.asciiSpaceTab) ∈ laid) (h : laidMet Tryz.prog laid W) : Lib.TabIs Tryz.prog W "strings.asciiSpace" .u8 Lib.asciiSpaceTab :=
  tab_of_laid (g := 4) (by kernel_rfl) (t := 247) (by kernel_rfl) (n := 256) (e := 5) (by kernel_rfl) (by kernel_rfl) (by kernel_rfl) (by kernel_rfl) hmem h
theorem spDatum : (Rows.laid_strings_asciiSpace : DataW Unit) = Lib.tabData .u8 Lib.asciiSpaceTab := by kernel_rfl
theorem laidOut : laidOutB Tryz.prog = true := by kernel_rfl
theorem mapsRow : mapsRowed Tryz.prog = true := by kernel_rfl
theorem fullRows : ((List.range Tryz.prog.types.size).all fun t => match Tryz.prog.underlying t with | some (.slice e) => decide (0 < Tryz.prog.cellsOf e) | _ => true) = true := by kernel_rfl
theorem bk_upto {H : Type} : Bk (H := H) Rows.uptoBulk := by
  have all : ∀ l : List (DataW H), Rows.uptoBulkAll l = (l.map Rows.uptoBulk).sum := by
    intro l
    induction l with
    | nil => simp [Rows.uptoBulkAll]
    | cons d r ih => simp [Rows.uptoBulkAll, ih]
  refine ⟨fun l => by simp [Rows.uptoBulk], fun k n => by simp [Rows.uptoBulk], by simp [Rows.uptoBulk], fun els sp => ?_, fun ps => ?_⟩
  · simp only [Rows.uptoBulk, all]; omega
  · simp only [Rows.uptoBulk, all]; omega
/-- a struct among the arguments -/
theorem arg_of {H : Type} {enc : TypeId × Value → H} {W : World} {base : Nat} {v : Value} {d : DataW H} {p : List MemPlace} {t : TypeId} {α : Type} {en : α → List Abs.Data} {ok : α → Prop} {fs : Array Field} (hu : Tryz.prog.underlying t = some (.struct fs))
    (rd : ∀ n, Rd enc Tryz.prog W Rows.uptoBulk t en ok n) (hval : Value.okWide Tryz.prog W .any base t v) (h : DataW.Trod enc Tryz.prog W 0 (fun _ => true) true t v d p)
    (hw : (d.weights Tryz.prog t).all (· ≤ reachBytes) = true) : ∃ x : α, ok x ∧ RepV (κ0 W) W (.agg ((en x).map dcell)) v ∧ bulkL (en x) ≤ Rows.uptoBulk d := by
  unfold Value.okWide at hval
  rw [hu] at hval
  obtain ⟨cs, rfl, _, _⟩ := hval
  obtain ⟨n, hn⟩ := h
  obtain ⟨x, h1, h2, h3⟩ := rd n _ _ hn hw
  refine ⟨x, h1, ?_, h3⟩
  have e : (Value.agg cs).cells = cs := rfl
  rw [e] at h2
  refine .agg _ cs (by rw [List.length_map, ← h2.1, Array.length_toList]) ?_ ?_
  · intro v hv
    obtain ⟨d, _, rfl⟩ := List.mem_map.1 hv
    cases d <;> rfl
  · intro j v hj
    rw [List.getElem?_map] at hj
    cases hd : (en x)[j]? with
    | none => rw [hd] at hj; cases hj
    | some dd =>
      rw [hd] at hj
      simp only [Option.map_some, Option.some.injEq] at hj
      subst hj
      have := h2.2 j dd hd
      rw [List.getD_eq_getElem?_getD, Array.getElem?_toList] at this
      rw [Array.getD_eq_getD_getElem?]
      exact (dcell_rep (κ := κ0 W) this).1
/-- the empty expression, the empty program -/
def noE : Value := .agg #[.string ⟨#[]⟩, .string ⟨#[]⟩, .int .i64 0, .slice none 0 0]
def noG : Value := .agg #[.slice none 0 0, .slice none 0 0]
end Go.Proofs.YthmcdebdkbhbmaaGreatDoor
