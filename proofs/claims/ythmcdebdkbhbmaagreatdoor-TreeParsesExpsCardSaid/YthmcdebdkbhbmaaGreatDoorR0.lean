/- How the arguments read: from the row's reader to the machine's data. -/
import Derived.Test.YthmcdebdkbhbmaaGreatDoorMc
import Derived.ChangeArms
import Derived.ChangeVars
import Derived.ReadAgain
import GoSem.ClaimJoined
namespace Go.Abs
open Go
def oldI (w : World) : Nat → Nat → Prop := fun b _ => b < w.heap.size
/-- these values are these data -/
def Cells (w : World) (ds : List Data) (cs : List Value) : Prop := cs.length = ds.length ∧ ∀ j dd, ds[j]? = some dd → RepD (oldI w) w dd (cs.getD j undef)
mutual
/-- how much a datum holds -/
def bulkD : Data → Nat
  | .sc c => match c with | .s l => l.length + 1 | _ => 1
  | .lst _ els => bulkLL els + 1
def bulkL : List Data → Nat
  | [] => 0
  | d :: r => bulkD d + bulkL r
def bulkLL : List (List Data) → Nat
  | [] => 0
  | e :: r => bulkL e + bulkLL r
end
/-- a measure of readings -/
structure Bk {H : Type} (bk : DataW H → Nat) : Prop where
  str : ∀ l, l.length + 1 ≤ bk (.lit (.string l))
  int : ∀ k n, 1 ≤ bk (.lit (.int k n))
  nil : 1 ≤ bk .nil
  slice : ∀ (els sp : List (DataW H)), (els.map bk).sum + 1 ≤ bk (.slice els sp)
  agg : ∀ (ps : List (DataW H)), (ps.map bk).sum ≤ bk (.agg ps)
section
variable {H : Type} {enc : TypeId × Value → H} {P : Program} {w : World} {bk : DataW H → Nat}
/-- readings of type t, with fuel n -/
def Rd {H : Type} (enc : TypeId × Value → H) (P : Program) (w : World) (bk : DataW H → Nat) (t : TypeId) {α : Type} (en : α → List Data) (ok : α → Prop) (n : Nat) : Prop :=
  ∀ cs x, DataW.trod enc P w 0 (fun _ => true) true n t cs = some x → (x.1.weights P t).all (· ≤ reachBytes) = true → ∃ a, ok a ∧ Cells w (en a) cs ∧ bulkL (en a) ≤ bk x.1
theorem cells1 {d : Data} {v : Value} (h : RepD (oldI w) w d v) : Cells w [d] [v] := ⟨rfl, fun j dd hj => by
  cases j with
  | zero => simp at hj; subst hj; exact h
  | succ j => simp at hj⟩
theorem Cells.one {d : Data} {v : Value} (h : Cells w [d] [v]) : RepD (oldI w) w d v := h.2 0 d rfl
theorem rd_string (hb : Bk bk) {t : TypeId} (ht : P.underlying t = some .string) (n : Nat) : Rd enc P w bk t (fun s : S => [.sc (.s s)]) (fun s => s.length ≤ 140737488355328) n := by
  intro cs x h hw
  obtain ⟨s, rfl, rfl, hs⟩ := DataW.trod_string ht h
  have h1 := hb.str s.data.toList
  have e : (⟨s.data.toList.toArray⟩ : ByteArray) = s := by simp
  refine ⟨s.data.toList, ?_, cells1 ?_, by simp only [bulkL, bulkD]; omega⟩
  · simp only [DataW.weights, List.all_cons, List.all_nil, Bool.and_true] at hw
    have := of_decide_eq_true hw
    simp only [reachBytes] at this
    omega
  · have := RepD.sc (I := oldI w) (w := w) (.s s.data.toList)
    simp only [Sc.val, e] at this
    exact this
end
end Go.Abs
namespace Go.Abs
open Go
section
variable {H : Type} {enc : TypeId × Value → H} {P : Program} {w : World} {bk : DataW H → Nat}
end
end Go.Abs
