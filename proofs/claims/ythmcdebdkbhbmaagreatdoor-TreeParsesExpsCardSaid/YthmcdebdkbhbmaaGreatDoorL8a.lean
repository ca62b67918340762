/- TreeParsesExps: for every text ParseExp answers as the reference's: the same expression and the same code; and where it is read without fault, the text of what is read is that of the tokens, one space between two: the law returns true, and the argument reads as before. Conditions: the row's own (the listed package variables as the program's text lays them). -/
import Derived.Test.YthmcdebdkbhbmaaGreatDoorR6
import Derived.Test.YthmcdebdkbhbmaaGreatDoorMw
import Derived.Test.YthmcdebdkbhbmaaGreatDoorR7
import Derived.Test.YthmcdebdkbhbmaaGreatDoorR8
set_option maxRecDepth 100000
namespace Go.Proofs.YthmcdebdkbhbmaaGreatDoor
open Go.ChangeShapes Go.WideShapes Go.RowKit Go.Abs Go
theorem contract8 (H : Type) (enc : TypeId × Value → H) (W : World) (base : Nat) (args : Array Value) (ds gs : List (DataW H)) (before : List MemPlace)
    (hval : ∀ (j : Nat) t v, Tryz.f8.params[j]? = some t → args[j]? = some v → Value.okWide Tryz.prog W .any base t v)
    (hW : DataW.Whole enc Tryz.prog Tryz.f8.params.toList Rows.treeParsesExpsSpec.vars false W args.toList ds gs before) (hw : (DataW.weightsEach Tryz.prog (Tryz.f8.params.toList ++ (OpenSpec.ofChange Rows.treeParsesExpsSpec).bare.plain.varTypes Tryz.prog) (ds ++ gs)).all (· ≤ reachBytes) = true) (hL : laidMetH Tryz.prog Rows.treeParsesExpsRow.laid W) (hsh : W.ShapedOpen Tryz.prog) :
    Calls Tryz.prog 8 args W fun e W' => ∃ v, e = .returned v ∧ Rows.treeParsesExpsSpec.post enc Tryz.prog Tryz.f8 false true false false W args v W' := by
  have hW' := hW
  obtain ⟨p, q, hA0, hV, rfl, hfz, hnd⟩ := hW
  have hA : DataW.TrodAll enc Tryz.prog W 0 (fun _ => true) true Tryz.f8.params.toList args.toList ds p := hA0
  rw [Tryz.params8] at hA hval
  obtain ⟨v0, d0, hargs, rfl, h0⟩ := trodAll_one hA
  subst hargs
  obtain ⟨rfl, rfl⟩ := trodVars_none hV
  have hwe : (DataW.weightsEach Tryz.prog [9] [d0]).all (· ≤ reachBytes) = true := by
    have e : Tryz.f8.params.toList ++ (OpenSpec.ofChange Rows.treeParsesExpsSpec).bare.plain.varTypes Tryz.prog = [9] := by kernel_rfl
    rw [e] at hw
    exact hw
  simp only [DataW.weightsEach, List.all_append, Bool.and_eq_true, List.append_nil] at hwe
  obtain ⟨x0, hx0, rx0, bx0⟩ := arg_str (hval 0 9 v0 rfl rfl) h0 hwe
  have hL' : laidMet Tryz.prog Rows.treeParsesExpsRow.laid W := hL
  have tsp := tabSp (W := W) (laid := Rows.treeParsesExpsRow.laid) (by rw [← spDatum]; simp [Rows.treeParsesExpsRow]) hL'
  have tpow := tabPow (W := W) (laid := Rows.treeParsesExpsRow.laid) (by rw [← powDatum]; simp [Rows.treeParsesExpsRow]) hL'
  have hc := c8 W ⟨tsp, tpow, maxLen hsh⟩ x0 hx0
  refine (ctr_enter hc rfl (by rfl) ?_).mono ?_
  · intro j v hj
    match j, hj with
    | 0, hj => simp at hj; subst hj; exact rx0
    | j + 1, hj => simp at hj
  · rintro e W' ⟨rfl, hb⟩
    simp only [List.append_nil] at hW'
    exact ⟨_, rfl, law_post laidOut mapsRow fullRows (by rw [Tryz.params8]; intro t ht; simp at ht; subst ht; exact of_decide_eq_true (by kernel_rfl)) (tb := 4) (by kernel_rfl) (by kernel_rfl) rfl rfl hW' hb⟩
end Go.Proofs.YthmcdebdkbhbmaaGreatDoor
