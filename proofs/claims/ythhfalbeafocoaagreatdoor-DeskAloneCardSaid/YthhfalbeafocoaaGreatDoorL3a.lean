/- DeskAlone: for every line a desk that is nil, and one that was not made by New, answers no text and the code ErrNil; and the check of the law answers true: the law returns true, and the argument reads as before. Conditions: the row's own (the listed package variables as the program's text lays them). -/
import Derived.Test.YthhfalbeafocoaaGreatDoorT6
import Derived.Test.YthhfalbeafocoaaGreatDoorS5
set_option maxRecDepth 100000
namespace Go.Proofs.YthhfalbeafocoaaGreatDoor
open Go.ChangeShapes Go.WideShapes Go.RowKit Go.Abs Go
theorem contract3 (H : Type) (enc : TypeId × Value → H) (W : World) (base : Nat) (args : Array Value) (ds gs : List (DataW H)) (before : List MemPlace)
    (hval : ∀ (j : Nat) t v, Tryz.f3.params[j]? = some t → args[j]? = some v → Value.okWide Tryz.prog W .any base t v)
    (hW : DataW.Whole enc Tryz.prog Tryz.f3.params.toList Rows.deskAloneSpec.vars false W args.toList ds gs before) (hw : (DataW.weightsEach Tryz.prog (Tryz.f3.params.toList ++ (OpenSpec.ofChange Rows.deskAloneSpec).bare.plain.varTypes Tryz.prog) (ds ++ gs)).all (· ≤ reachBytes) = true) (hL : laidMetH Tryz.prog Rows.deskAloneRow.laid W) (hsh : W.ShapedOpen Tryz.prog) :
    Calls Tryz.prog 3 args W fun e W' => ∃ v, e = .returned v ∧ Rows.deskAloneSpec.post enc Tryz.prog Tryz.f3 false true false false W args v W' := by
  have hW' := hW
  obtain ⟨p, q, hA0, hV, rfl, hfz, hnd⟩ := hW
  have hA : DataW.TrodAll enc Tryz.prog W 0 (fun _ => true) true Tryz.f3.params.toList args.toList ds p := hA0
  rw [Tryz.params3] at hA hval
  obtain ⟨v0, d0, hargs, rfl, h0⟩ := trodAll_one hA
  subst hargs
  obtain ⟨rfl, rfl⟩ := trodVars_none hV
  have hwe : (DataW.weightsEach Tryz.prog [9] [d0]).all (· ≤ reachBytes) = true := by
    have e : Tryz.f3.params.toList ++ (OpenSpec.ofChange Rows.deskAloneSpec).bare.plain.varTypes Tryz.prog = [9] := by kernel_rfl
    rw [e] at hw
    exact hw
  simp only [DataW.weightsEach, List.all_append, Bool.and_eq_true, List.append_nil] at hwe
  obtain ⟨x0, hx0, rx0, bx0⟩ := arg_str (hval 0 9 v0 rfl rfl) h0 hwe
  have hL' : laidMet Tryz.prog Rows.deskAloneRow.laid W := hL
  have tsp := tabSp (W := W) (laid := Rows.deskAloneRow.laid) (by rw [← spDatum]; simp [Rows.deskAloneRow]) hL'
  have tpow := tabPow (W := W) (laid := Rows.deskAloneRow.laid) (by rw [← powDatum]; simp [Rows.deskAloneRow]) hL'
  have hc := c5 W tsp tpow (maxLen' hsh) x0
  refine (ctr_enter hc rfl (by rfl) ?_).mono ?_
  · intro j v hj
    match j, hj with
    | 0, hj => simp at hj; subst hj; exact rx0
    | j + 1, hj => simp at hj
  · rintro e W' ⟨rfl, hb⟩
    simp only [List.append_nil] at hW'
    exact ⟨_, rfl, law_post laidOut mapsRow fullRows (by rw [Tryz.params3]; intro t ht; simp at ht; subst ht; exact of_decide_eq_true (by kernel_rfl)) (tb := 4) (by kernel_rfl) (by kernel_rfl) rfl rfl hW' hb⟩
end Go.Proofs.YthhfalbeafocoaaGreatDoor
