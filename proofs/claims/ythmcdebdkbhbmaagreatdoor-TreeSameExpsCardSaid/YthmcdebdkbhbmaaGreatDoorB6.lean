/- Open appends: the step. -/
import Derived.Test.YthmcdebdkbhbmaaGreatDoorB5
namespace Go.Abs
open Go
section ops
variable {P : Program} {W0 : World} {κ : Gh} {σ : Log} {a : Act} {w : World} {id : Nat} {F : Log → Prop} {call : CallP} {o : Oper} {Q : Exit → Act → World → Prop} {d : Nat} {z : Option Nat}

/-- a live token whose room begins with these cells: they become the box of an open slice -/
theorem open_step {κ1 : Gh} {σ1 : Log} {w1 : World} (hs : RepS W0 κ1 σ1 a w1) {k id : Nat} (hk : look σ1 (.t k) = some (.tk true)) (hid : ¬ κ1.Db id) (hidt : ¬ κ1.Dt id) {g p sz cap off : Nat} {e1 e2 : List (List Data)} {L2 : List Value}
    (hp : p = off + e1.length * sz) (hτ : κ1.τ k = (g, p, off + cap * sz)) (hpos : 0 < e2.length * sz) (hcap : e1.length + e2.length ≤ cap) (f2 : Flat κ1.I w1 sz e2 L2) {C : Array Value} {ty : TypeId} (hg : w1.heap[g]? = some (.cells C ty (0, 0)))
    (hC : ∀ j, j < L2.length → C[p + j]? = L2[j]?) (hCs : off + cap * sz ≤ C.size) (hD : RepD κ1.I w1 (.lst sz e1) (.slice (some ⟨g, off, none⟩) e1.length cap)) :
    ∃ κ2, RepS W0 κ2 ((.b id, .bx (e2.flatten.map dcell)) :: (.t id, .tk true) :: (.t k, .tk false) :: σ1) a w1 ∧ Step κ1 σ1 w1 κ2 ((.b id, .bx (e2.flatten.map dcell)) :: (.t id, .tk true) :: (.t k, .tk false) :: σ1) w1 ∧
      RepV κ2 w1 (.mx sz e1 id e2.length (.t id)) (.slice (some ⟨g, off, none⟩) (e1.length + e2.length) cap) ∧ (∀ b, κ2.Db b → κ1.Db b ∨ b = id) ∧ (∀ b, κ2.Dt b → κ1.Dt b ∨ b = id) := by
  obtain ⟨hl, hrep⟩ := flat_cells f2
  have hll : (e2.flatten.map dcell).length = e2.length * sz := by rw [hl, f2.len]
  have hfit : p + (e2.flatten.map dcell).length ≤ off + cap * sz := by
    rw [hll, hp, Nat.add_assoc, ← Nat.add_mul]
    exact Nat.add_le_add_left (Nat.mul_le_mul_right _ hcap) _
  have hR : RepC κ1 w1 (e2.flatten.map dcell) C p := by
    refine ⟨Nat.le_trans hfit hCs, fun v hv => ?_, fun j v hj => ?_⟩
    · obtain ⟨j, hj⟩ := List.mem_iff_getElem?.1 hv
      exact (hrep j v hj).2
    · have hjl : j < L2.length := by rw [← hl]; exact (List.getElem?_eq_some_iff.1 hj).1
      have := (hrep j v hj).1
      rw [List.getD_eq_getElem?_getD] at this
      rw [Array.getD_eq_getD_getElem?, hC j hjl]
      exact this
  obtain ⟨r, s, e⟩ := hs.split hk hid hidt hτ (by rw [hll]; exact hpos) hfit hg hR
  refine ⟨_, r, s, ?_, fun b hb => hb, fun b hb => hb⟩
  have := RepV.mx (κ := { κ1 with Db := fun b => κ1.Db b ∨ b = id, ι := fun b => if b = id then (g, p) else κ1.ι b, Dt := fun j => κ1.Dt j ∨ j = id, τ := fun j => if j = id then (g, p + (e2.flatten.map dcell).length, off + cap * sz) else κ1.τ j })
    (w := w1) sz e1 id e2.length (.t id) off cap (.inr rfl) (by simpa using hp) hcap (by simpa using hD) ⟨.inr rfl, by
      intro A n c ev _
      simp only [if_true, Value.slice.injEq, Option.some.injEq] at ev
      obtain ⟨rfl, rfl, rfl⟩ := ev
      simp only [if_true, hll, hp, Nat.add_mul, Nat.add_assoc]⟩
  simpa using this
end ops
end Go.Abs
