/- Places that lie in rows of their own: none is there twice, and each row is asked once. -/
import Derived.LaidLaws
namespace Go.Reach
open Go
def placesOf (RL : List (Nat × Nat)) : List MemPlace := RL.flatMap fun x => MemPlace.row ⟨x.1, 0, none⟩ x.2
def rowChk (P : Program) (w : World) (x : Nat × Nat) : Bool := match w.heap[x.1]? with
  | some (.cells C _ (0, 0)) => C.toList.all fun v => match v with | .iface u y => Value.okWideB P w u y | _ => true
  | _ => false
theorem mem_row {b n : Nat} {p : MemPlace} (h : p ∈ MemPlace.row ⟨b, 0, none⟩ n) : ∃ o, p = .cell b o := by
  simp only [MemPlace.row, List.mem_map] at h
  obtain ⟨i, _, rfl⟩ := h
  exact ⟨_, rfl⟩
theorem row_nodup (b n : Nat) : (MemPlace.row ⟨b, 0, none⟩ n).Nodup := by
  unfold MemPlace.row
  unfold List.Nodup
  rw [List.pairwise_map]
  exact List.Pairwise.imp (fun hne e => hne (by simpa using e)) (List.nodup_range (n := n))
theorem placesOf_nodup : ∀ {RL : List (Nat × Nat)}, (RL.map (·.1)).Nodup → (placesOf RL).Nodup
  | [], _ => by simp [placesOf]
  | x :: r, h => by
    rw [List.map_cons, List.nodup_cons] at h
    have ih := placesOf_nodup h.2
    show (MemPlace.row ⟨x.1, 0, none⟩ x.2 ++ placesOf r).Nodup
    rw [List.nodup_append]
    refine ⟨row_nodup _ _, ih, fun p hp q hq e => ?_⟩
    subst e
    obtain ⟨o, rfl⟩ := mem_row hp
    simp only [placesOf, List.mem_flatMap] at hq
    obtain ⟨y, hy, hq⟩ := hq
    obtain ⟨o', he⟩ := mem_row hq
    have he' : x.1 = y.1 := by injection he
    exact h.1 (List.mem_map.2 ⟨y, hy, he'.symm⟩)
theorem laidRowsB_of {P : Program} {w : World} {RL : List (Nat × Nat)} (h : RL.all (rowChk P w) = true) : laidRowsB P w (placesOf RL) = true := by
  unfold laidRowsB
  rw [List.all_eq_true]
  intro p hp
  simp only [placesOf, List.mem_flatMap] at hp
  obtain ⟨x, hx, hp⟩ := hp
  obtain ⟨o, rfl⟩ := mem_row hp
  have := List.all_eq_true.1 h x hx
  unfold rowChk at this
  split at this
  · rename_i C t hC
    have hcell : w.cell? ⟨x.1, o, none⟩ = C[o]? := by simp [World.cell?, hC]
    simp only [hC, hcell, Bool.true_and]
    cases hv : C[o]? with
    | none => rfl
    | some v =>
      have hm : v ∈ C.toList := by
        have := Array.mem_of_getElem? hv
        simpa using this
      have := List.all_eq_true.1 this v hm
      cases v <;> first | rfl | exact this
  · cases this
end Go.Reach
