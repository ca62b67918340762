/- How long the words of an expression are. -/
import Derived.Test.YthmcdebdkbhbmaaGreatDoorMn
import Derived.Test.YthmcdebdkbhbmaaGreatDoorR6
set_option maxRecDepth 100000
namespace Go.Abs
open Go.Proofs
def Sm (B : Nat) (ws : List S) : Prop := ∀ w ∈ ws, w.length ≤ B
theorem Sm.mono {B C : Nat} {ws : List S} (h : Sm B ws) (hc : B ≤ C) : Sm C ws := fun w hw => Nat.le_trans (h w hw) hc
theorem Sm.nil {B : Nat} : Sm B [] := fun _ h => by simp at h
theorem Sm.cons {B : Nat} {w : S} {r : List S} (h : w.length ≤ B) (hr : Sm B r) : Sm B (w :: r) := by
  intro v hv
  rcases List.mem_cons.1 hv with rfl | hv
  · exact h
  · exact hr v hv
theorem Sm.app {B : Nat} {a b : List S} (ha : Sm B a) (hb : Sm B b) : Sm B (a ++ b) := by
  intro v hv
  rcases List.mem_append.1 hv with h | h
  · exact ha v h
  · exact hb v h
theorem Sm.around {B : Nat} {o c : S} {ws : List S} (ho : o.length ≤ B) (h : Sm B ws) (hc : c.length ≤ B) : Sm B (aroundW o ws c) := by
  rw [aroundW_eq]; exact .cons ho (h.app (.cons hc .nil))
theorem join_sm {B : Nat} : ∀ (ws : List S), Sm B ws → (Go.Lib.join ws [32]).length ≤ ws.length * (B + 1)
  | [], _ => by simp [Go.Lib.join, List.intercalate, List.intersperse]
  | [w], h => by rw [join_one]; have := h w (by simp); simp; omega
  | w :: v :: r, h => by
    have := join_sm (v :: r) (fun u hu => h u (by simp at hu ⊢; exact .inr hu))
    have hw := h w (by simp)
    rw [join_two]
    simp only [List.length_append, List.length_cons] at this ⊢
    have e : (r.length + 1 + 1) * (B + 1) = (r.length + 1) * (B + 1) + (B + 1) := Nat.succ_mul _ _
    omega
end Go.Abs
