/- TreeExps: for every expression FormatExp and ValidExp answer as the reference's, and the text of a valid one, if it is short enough, is parsed to the same expression: the law returns true, and the argument reads as before. Conditions: the row's own (no rings; the argument's bulk at most 1048576; the listed package variables as the program's text lays them). -/
import Derived.Test.YthmcdebdkbhbmaaGreatDoorR6
import Derived.Test.YthmcdebdkbhbmaaGreatDoorMo
import Derived.Test.YthmcdebdkbhbmaaGreatDoorR7
set_option maxRecDepth 100000
namespace Go.Proofs.YthmcdebdkbhbmaaGreatDoor
open Go.ChangeShapes Go.WideShapes Go.RowKit Go.Abs Go
theorem contract7 (H : Type) (enc : TypeId × Value → H) (W : World) (base : Nat) (args : Array Value) (ds gs : List (DataW H)) (before : List MemPlace)
    (hval : ∀ (j : Nat) t v, Tryz.f7.params[j]? = some t → args[j]? = some v → Value.okWide Tryz.prog W .any base t v)
    (hW : DataW.Whole enc Tryz.prog Tryz.f7.params.toList Rows.treeExpsSpec.vars false W args.toList ds gs before) (hw : (DataW.weightsEach Tryz.prog (Tryz.f7.params.toList ++ (Rows.OpenSpec.upto Rows.treeExpsSpec).bare.plain.varTypes Tryz.prog) (ds ++ gs)).all (· ≤ reachBytes) = true) (hL : laidMetH Tryz.prog Rows.treeExpsUptoRow.laid W) (hsh : W.ShapedOpen Tryz.prog) (hk : Rows.uptoSmall H (ds ++ gs) = true) :
    Calls Tryz.prog 7 args W fun e W' => ∃ v, e = .returned v ∧ Rows.treeExpsSpec.post enc Tryz.prog Tryz.f7 false true false false W args v W' := by
  have hW' := hW
  obtain ⟨p, q, hA0, hV, rfl, hfz, hnd⟩ := hW
  have hA : DataW.TrodAll enc Tryz.prog W 0 (fun _ => true) true Tryz.f7.params.toList args.toList ds p := hA0
  rw [Tryz.params7] at hA hval
  obtain ⟨v0, d0, hargs, rfl, h0⟩ := trodAll_one hA
  subst hargs
  obtain ⟨rfl, rfl⟩ := trodVars_none hV
  have hwe : (DataW.weightsEach Tryz.prog [24] [d0]).all (· ≤ reachBytes) = true := by
    have e : Tryz.f7.params.toList ++ (Rows.OpenSpec.upto Rows.treeExpsSpec).bare.plain.varTypes Tryz.prog = [24] := by kernel_rfl
    rw [e] at hw
    exact hw
  simp only [DataW.weightsEach, List.all_append, Bool.and_eq_true, List.append_nil] at hwe
  have hbulk := of_decide_eq_true hk
  simp only [Rows.uptoBulkAll, List.append_nil] at hbulk
  obtain ⟨x0, hx0, rx0, bx0⟩ := arg_of u24 (fun n => (rdE bk_upto n).1) (hval 0 24 v0 rfl rfl) h0 hwe
  have hL' : laidMet Tryz.prog Rows.treeExpsUptoRow.laid W := hL
  have tsp := tabSp (W := W) (laid := Rows.treeExpsUptoRow.laid) (by rw [← spDatum]; simp [Rows.treeExpsUptoRow]) hL'
  have tpow := tabPow (W := W) (laid := Rows.treeExpsUptoRow.laid) (by rw [← powDatum]; simp [Rows.treeExpsUptoRow]) hL'
  have hc := c7 W ⟨tsp, tpow, maxLen hsh⟩ x0 hx0 (by omega)
  refine (ctr_enter hc rfl (by cases x0; rfl) ?_).mono ?_
  · intro j v hj
    match j, hj with
    | 0, hj => simp at hj; subst hj; exact rx0
    | j + 1, hj => simp at hj
  · rintro e W' ⟨rfl, hb⟩
    simp only [List.append_nil] at hW'
    exact ⟨_, rfl, law_post laidOut mapsRow fullRows (by rw [Tryz.params7]; intro t ht; simp at ht; subst ht; exact of_decide_eq_true (by kernel_rfl)) (tb := 4) (by kernel_rfl) (by kernel_rfl) rfl rfl hW' hb⟩
end Go.Proofs.YthmcdebdkbhbmaaGreatDoor
