/- An argument that is a string. -/
import Derived.Test.YthmcdebdkbhbmaaGreatDoorR6
set_option maxRecDepth 100000
namespace Go.Proofs.YthmcdebdkbhbmaaGreatDoor
open Go.ChangeShapes Go.WideShapes Go.RowKit Go.Abs Go
theorem arg_str {H : Type} {enc : TypeId × Value → H} {W : World} {base : Nat} {v : Value} {d : DataW H} {p : List MemPlace}
    (hval : Value.okWide Tryz.prog W .any base 9 v) (h : DataW.Trod enc Tryz.prog W 0 (fun _ => true) true 9 v d p)
    (hw : (d.weights Tryz.prog 9).all (· ≤ reachBytes) = true) : ∃ x : S, x.length ≤ 140737488355328 ∧ RepV (κ0 W) W (.sc (.s x)) v ∧ x.length + 1 ≤ Rows.uptoBulk d := by
  unfold Value.okWide at hval
  rw [u9] at hval
  obtain ⟨n, hn⟩ := h
  obtain ⟨x, h1, h2, h3⟩ := rd_string bk_upto u9 n _ _ hn hw
  refine ⟨x, h1, ?_, by simpa [bulkL, bulkD] using h3⟩
  have e : v.cells = #[v] := by
    cases v with
    | agg cs =>
      exfalso
      have hval : Cell.okWide Tryz.prog W Reach.any base 9 (Value.agg cs) := hval
      unfold Cell.okWide at hval
      rw [u9] at hval
      have hval : Cell.ok Tryz.prog W Reach.any base 9 (Value.agg cs) := by simpa using hval
      unfold Cell.ok at hval
      rw [u9] at hval
      simp at hval
    | _ => rfl
  rw [e] at h2
  have h2' : Cells W [.sc (.s x)] [v] := h2
  exact (dcell_rep (κ := κ0 W) h2'.one).1
/-- the empty text -/
def noS : Value := .string ⟨#[]⟩
end Go.Proofs.YthmcdebdkbhbmaaGreatDoor
