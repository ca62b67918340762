/- TreeSame: for every two programs tree.Same answers as the reference's Same, Same of a program and itself is true, and Awake is true: the law returns true, and the arguments read as before. Conditions: the row's own (no rings; the listed package variables as the program's text lays them). -/
import Derived.Test.YthmcdebdkbhbmaaGreatDoorR6
import Derived.Test.YthmcdebdkbhbmaaGreatDoorE8
set_option maxRecDepth 100000
namespace Go.Proofs.YthmcdebdkbhbmaaGreatDoor
open Go.ChangeShapes Go.WideShapes Go.RowKit Go.Abs Go
theorem contract4 (H : Type) (enc : TypeId × Value → H) (W : World) (base : Nat) (args : Array Value) (ds gs : List (DataW H)) (before : List MemPlace)
    (hval : ∀ (j : Nat) t v, Tryz.f4.params[j]? = some t → args[j]? = some v → Value.okWide Tryz.prog W .any base t v)
    (hW : DataW.Whole enc Tryz.prog Tryz.f4.params.toList Rows.treeSameSpec.vars false W args.toList ds gs before) (hw : (DataW.weightsEach Tryz.prog (Tryz.f4.params.toList ++ (OpenSpec.ofChange Rows.treeSameSpec).bare.plain.varTypes Tryz.prog) (ds ++ gs)).all (· ≤ reachBytes) = true) (hL : laidMetH Tryz.prog Rows.treeSameRow.laid W) :
    Calls Tryz.prog 4 args W fun e W' => ∃ v, e = .returned v ∧ Rows.treeSameSpec.post enc Tryz.prog Tryz.f4 false true false false W args v W' := by
  have hW' := hW
  obtain ⟨p, q, hA0, hV, rfl, hfz, hnd⟩ := hW
  have hA : DataW.TrodAll enc Tryz.prog W 0 (fun _ => true) true Tryz.f4.params.toList args.toList ds p := hA0
  rw [Tryz.params4] at hA hval
  obtain ⟨v0, v1, d0, d1, p0, p1, hargs, rfl, rfl, h0, h1⟩ := trodAll_two hA
  subst hargs
  obtain ⟨rfl, rfl⟩ := trodVars_none hV
  have hwe : (DataW.weightsEach Tryz.prog [30, 30] [d0, d1]).all (· ≤ reachBytes) = true := by
    have e : Tryz.f4.params.toList ++ (OpenSpec.ofChange Rows.treeSameSpec).bare.plain.varTypes Tryz.prog = [30, 30] := by kernel_rfl
    rw [e] at hw
    exact hw
  simp only [DataW.weightsEach, List.all_append, Bool.and_eq_true, List.append_nil] at hwe
  obtain ⟨x0, hx0, rx0, bx0⟩ := arg_of u30 (fun n => rdG' bk_upto n) (hval 0 30 v0 rfl rfl) h0 hwe.1
  obtain ⟨x1, hx1, rx1, bx1⟩ := arg_of u30 (fun n => rdG' bk_upto n) (hval 1 30 v1 rfl rfl) h1 hwe.2
  have hL' : laidMet Tryz.prog Rows.treeSameRow.laid W := hL
  have tsp := tabSp (W := W) (laid := Rows.treeSameRow.laid) (by rw [← spDatum]; simp [Rows.treeSameRow]) hL'
  have hc := c4 W tsp x0 x1 hx0 hx1
  refine (ctr_enter hc rfl (by rfl) ?_).mono ?_
  · intro j v hj
    match j, hj with
    | 0, hj => simp at hj; subst hj; exact rx0
    | 1, hj => simp at hj; subst hj; exact rx1
    | j + 2, hj => simp at hj
  · rintro e W' ⟨rfl, hb⟩
    simp only [List.append_nil] at hW'
    exact ⟨_, rfl, law_post laidOut mapsRow fullRows (by rw [Tryz.params4]; intro t ht; simp at ht; subst ht; exact of_decide_eq_true (by kernel_rfl)) (tb := 4) (by kernel_rfl) (by kernel_rfl) rfl rfl hW' hb⟩
end Go.Proofs.YthmcdebdkbhbmaaGreatDoor
