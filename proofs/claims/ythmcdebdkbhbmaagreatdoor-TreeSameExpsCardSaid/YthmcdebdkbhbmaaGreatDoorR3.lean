/- TreeSameExps: for every two expressions the program's SameExp answers as the reference's, SameExp of an expression and itself is true, and Awake is true: the law returns true, and the arguments read as before. Conditions: the row's own (no rings; the listed package variables as the program's text lays them). -/
import Derived.Test.YthmcdebdkbhbmaaGreatDoorR2
import Derived.Test.YthmcdebdkbhbmaaGreatDoorE3
import Derived.Test.YthmcdebdkbhbmaaGreatDoorCards
import Derived.Test.YthmcdebdkbhbmaaGreatDoorTie
import Derived.SevenTiedAt
set_option maxRecDepth 100000
namespace Go.Proofs.YthmcdebdkbhbmaaGreatDoor
open Go.ChangeShapes Go.WideShapes Go.RowKit Go.Abs Go
theorem own : ownKnob Tryz.prog.godebug = none := by kernel_rfl
theorem tabSp {W : World} {laid : List (String × DataW Unit)} (hmem : ("strings.asciiSpace", Lib.tabData .u8 Lib.asciiSpaceTab) ∈ laid) (h : laidMet Tryz.prog laid W) : Lib.TabIs Tryz.prog W "strings.asciiSpace" .u8 Lib.asciiSpaceTab :=
  tab_of_laid (g := 4) (by kernel_rfl) (t := 247) (by kernel_rfl) (n := 256) (e := 5) (by kernel_rfl) (by kernel_rfl) (by kernel_rfl) (by kernel_rfl) hmem h
theorem spDatum : (Rows.laid_strings_asciiSpace : DataW Unit) = Lib.tabData .u8 Lib.asciiSpaceTab := by kernel_rfl
theorem laidOut : laidOutB Tryz.prog = true := by kernel_rfl
theorem mapsRow : mapsRowed Tryz.prog = true := by kernel_rfl
theorem fullRows : ((List.range Tryz.prog.types.size).all fun t => match Tryz.prog.underlying t with | some (.slice e) => decide (0 < Tryz.prog.cellsOf e) | _ => true) = true := by kernel_rfl
theorem bk_upto {H : Type} : Bk (H := H) Rows.uptoBulk := by
  have all : ∀ l : List (DataW H), Rows.uptoBulkAll l = (l.map Rows.uptoBulk).sum := by
    intro l
    induction l with
    | nil => simp [Rows.uptoBulkAll]
    | cons d r ih => simp [Rows.uptoBulkAll, ih]
  refine ⟨fun l => by simp [Rows.uptoBulk], fun k n => by simp [Rows.uptoBulk], by simp [Rows.uptoBulk], fun els sp => ?_, fun ps => ?_⟩
  · simp only [Rows.uptoBulk, all]; omega
  · simp only [Rows.uptoBulk, all]; omega
/-- an expression among the arguments -/
theorem arg_exp {H : Type} {enc : TypeId × Value → H} {W : World} {base : Nat} {v : Value} {d : DataW H} {p : List MemPlace} (hval : Value.okWide Tryz.prog W .any base 24 v) (h : DataW.Trod enc Tryz.prog W 0 (fun _ => true) true 24 v d p)
    (hw : (d.weights Tryz.prog 24).all (· ≤ reachBytes) = true) : ∃ x : Abs.Exp, x.ok ∧ RepV (κ0 W) W (eE x) v ∧ bulkL x.d ≤ Rows.uptoBulk d := by
  have hu := u24
  unfold Value.okWide at hval
  rw [hu] at hval
  obtain ⟨cs, rfl, _, _⟩ := hval
  obtain ⟨n, hn⟩ := h
  obtain ⟨x, h1, h2, h3⟩ := (rdE bk_upto n).1 _ _ hn hw
  refine ⟨x, h1, ?_, h3⟩
  have e : (Value.agg cs).cells = cs := rfl
  rw [e] at h2
  refine .agg _ cs (by rw [List.length_map, ← h2.1, Array.length_toList]) ?_ ?_
  · intro v hv
    obtain ⟨d, _, rfl⟩ := List.mem_map.1 hv
    cases d <;> rfl
  · intro j v hj
    rw [List.getElem?_map] at hj
    cases hd : x.d[j]? with
    | none => rw [hd] at hj; cases hj
    | some dd =>
      rw [hd] at hj
      simp only [Option.map_some, Option.some.injEq] at hj
      subst hj
      have := h2.2 j dd hd
      rw [List.getD_eq_getElem?_getD, Array.getElem?_toList] at this
      rw [Array.getD_eq_getD_getElem?]
      exact (dcell_rep (κ := κ0 W) this).1
theorem contract3 (H : Type) (enc : TypeId × Value → H) (W : World) (base : Nat) (args : Array Value) (ds gs : List (DataW H)) (before : List MemPlace)
    (hval : ∀ (j : Nat) t v, Tryz.f3.params[j]? = some t → args[j]? = some v → Value.okWide Tryz.prog W .any base t v)
    (hW : DataW.Whole enc Tryz.prog Tryz.f3.params.toList Rows.treeSameExpsSpec.vars false W args.toList ds gs before) (hw : (DataW.weightsEach Tryz.prog (Tryz.f3.params.toList ++ (OpenSpec.ofChange Rows.treeSameExpsSpec).bare.plain.varTypes Tryz.prog) (ds ++ gs)).all (· ≤ reachBytes) = true) (hL : laidMetH Tryz.prog Rows.treeSameExpsRow.laid W) :
    Calls Tryz.prog 3 args W fun e W' => ∃ v, e = .returned v ∧ Rows.treeSameExpsSpec.post enc Tryz.prog Tryz.f3 false true false false W args v W' := by
  have hW' := hW
  obtain ⟨p, q, hA0, hV, rfl, hfz, hnd⟩ := hW
  have hA : DataW.TrodAll enc Tryz.prog W 0 (fun _ => true) true Tryz.f3.params.toList args.toList ds p := hA0
  rw [Tryz.params3] at hA hval
  obtain ⟨v0, v1, d0, d1, p0, p1, hargs, rfl, rfl, h0, h1⟩ := trodAll_two hA
  subst hargs
  obtain ⟨rfl, rfl⟩ := trodVars_none hV
  have hwe : (DataW.weightsEach Tryz.prog [24, 24] [d0, d1]).all (· ≤ reachBytes) = true := by
    have e : Tryz.f3.params.toList ++ (OpenSpec.ofChange Rows.treeSameExpsSpec).bare.plain.varTypes Tryz.prog = [24, 24] := by kernel_rfl
    rw [e] at hw
    exact hw
  simp only [DataW.weightsEach, List.all_append, Bool.and_eq_true, List.append_nil] at hwe
  obtain ⟨x, hx, rx, _⟩ := arg_exp (hval 0 24 v0 rfl rfl) h0 hwe.1
  obtain ⟨y, hy, ry, _⟩ := arg_exp (hval 1 24 v1 rfl rfl) h1 hwe.2
  have hL' : laidMet Tryz.prog Rows.treeSameExpsRow.laid W := hL
  have hc := c3 W (tabSp (by rw [← spDatum]; simp [Rows.treeSameExpsRow]) hL') x y hx hy
  refine (ctr_enter hc rfl (by cases x; cases y; rfl) ?_).mono ?_
  · intro j v hj
    match j, hj with
    | 0, hj => simp at hj; subst hj; exact rx
    | 1, hj => simp at hj; subst hj; exact ry
    | j + 2, hj => simp at hj
  · rintro e W' ⟨rfl, hb⟩
    simp only [List.append_nil] at hW'
    exact ⟨_, rfl, law_post laidOut mapsRow fullRows (by rw [Tryz.params3]; intro t ht; simp at ht; subst ht; exact of_decide_eq_true (by kernel_rfl)) (tb := 4) (by kernel_rfl) (by kernel_rfl) rfl rfl hW' hb⟩
end Go.Proofs.YthmcdebdkbhbmaaGreatDoor
