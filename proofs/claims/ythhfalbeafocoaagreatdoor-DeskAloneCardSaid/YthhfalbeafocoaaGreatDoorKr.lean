/- The closed facts of a row over a great program: what each function leads to is read off once, in pieces, and the closure is walked over the table. No program in sight. -/
import Derived.JoinedOf
namespace Go.Reach
open Go
/-- what is asked of one function -/
structure Row where
  lead : List Nat
  unf : Bool
  inp : Option String
  gls : List Nat
  rd : Option String
def rowOf (P : Program) (g : FuncId) : Row where
  lead := (P.funcs[g]?).elim [] P.leadsTo
  unf := (P.funcs[g]?).any fun fn => match fn.body with | some c => c.unfollowed | none => entryCalls fn
  inp := (P.funcs[g]?).bind fun fn => if fn.ours || fn.body.isNone || fn.name == "runtime.NumGoroutine" then some fn.name else none
  gls := ((P.funcs[g]?).bind (·.body)).elim [] Code.globalsNamed
  rd := (P.funcs[g]?).bind fun fn => if fn.body.isNone then entryReads.lookup fn.name else none
/-- the closure, over a table, what is seen as the bits of a number -/
def via (T : Nat → List Nat) : Nat → List Nat → Nat → List Nat → List Nat
  | 0, _, _, acc => acc.reverse
  | _ + 1, [], _, acc => acc.reverse
  | n + 1, f :: todo, m, acc => match Nat.beq (Nat.land 1 (Nat.shiftRight m f)) 0 with
    | false => via T n todo m acc
    | true => via T n (T f ++ todo) (Nat.lor m (Nat.shiftLeft 1 f)) (f :: acc)
theorem bit_beq (m f : Nat) : Nat.beq (Nat.land 1 (Nat.shiftRight m f)) 0 = !Nat.testBit m f := by
  have e : Nat.testBit m f = (1 &&& (m >>> f) != 0) := rfl
  rw [e]
  show Nat.beq (1 &&& (m >>> f)) 0 = _
  cases h : (1 &&& (m >>> f)) with
  | zero => simp
  | succ k => rfl
theorem via_eq {P : Program} {T : Nat → List Nat} (hT : ∀ g, (P.funcs[g]?).elim [] P.leadsTo = T g) : ∀ (n : Nat) (todo : List Nat) (m : Nat) (seen : List Nat), (∀ x, Nat.testBit m x = seen.contains x) →
    P.closureVia n todo seen = via T n todo m seen
  | 0, _, _, _, _ => by simp [Program.closureVia, via]
  | _ + 1, [], _, _, _ => by simp [Program.closureVia, via]
  | n + 1, f :: todo, m, seen, h => by
    rw [Program.closureVia, via, bit_beq, h f]
    cases hc : seen.contains f with
    | true =>
      simp only [Bool.not_true, if_true]
      exact via_eq hT n todo m seen h
    | false =>
      simp only [Bool.not_false, Bool.false_eq_true, if_false]
      rw [hT f]
      refine via_eq hT n _ _ _ fun x => ?_
      show Nat.testBit (m ||| (1 <<< f)) x = _
      rw [Nat.testBit_or, h x, List.contains_cons, Nat.one_shiftLeft, Nat.testBit_two_pow]
      rw [Bool.or_comm]
      congr 1
      by_cases hx : f = x
      · subst hx; simp
      · have : x ≠ f := fun e => hx e.symm
        simp [hx, this]
theorem map_range_get {α : Type} (F : Nat → α) (n g : Nat) : ((List.range n).map F)[g]? = if g < n then some (F g) else none := by
  by_cases h : g < n
  · simp [h]
  · simp [h]
/-- the table's row -/
def at' (rows : List Row) (g : Nat) : Row := (rows[g]?).getD ⟨[], false, none, [], none⟩
theorem rowOf_out {P : Program} {g : Nat} (h : ¬ g < P.funcs.size) : rowOf P g = ⟨[], false, none, [], none⟩ := by
  have e : P.funcs[g]? = none := by simp; omega
  simp [rowOf, e]
theorem at_eq {P : Program} {rows : List Row} (h : (List.range P.funcs.size).map (rowOf P) = rows) (g : Nat) : at' rows g = rowOf P g := by
  unfold at'
  rw [← h, map_range_get]
  by_cases hg : g < P.funcs.size
  · rw [if_pos hg]; rfl
  · rw [if_neg hg, rowOf_out hg]; rfl
theorem fuel_eq {P : Program} {rows : List Row} (h : (List.range P.funcs.size).map (rowOf P) = rows) : (P.funcs.toList.map fun g => (P.leadsTo g).length + 1).sum = (rows.map fun r => r.lead.length + 1).sum := by
  rw [← h, List.map_map]
  congr 1
  apply List.ext_getElem
  · simp
  · intro i h1 h2
    have hi : i < P.funcs.size := by simpa using h1
    simp [rowOf, hi]
/-- what the table says of the closure of f -/
theorem closure_eq {P : Program} {rows : List Row} (h : (List.range P.funcs.size).map (rowOf P) = rows) {f : Nat} {L : List Nat}
    (hL : via (fun g => (at' rows g).lead) (1 + (rows.map fun r => r.lead.length + 1).sum) [f] 0 [] = L) : P.closure f = L := by
  unfold Program.closure
  rw [fuel_eq h, ← hL]
  exact via_eq (fun g => by rw [at_eq h]; rfl) _ _ _ _ (fun x => by simp)
theorem inPlace_eq {P : Program} {rows : List Row} (h : (List.range P.funcs.size).map (rowOf P) = rows) {f : Nat} {L : List Nat} (hL : P.closure f = L) : P.inPlace f = L.filterMap fun g => (at' rows g).inp := by
  unfold Program.inPlace
  rw [hL]
  simp only [at_eq h]
  rfl
theorem unfollowed_eq {P : Program} {rows : List Row} (h : (List.range P.funcs.size).map (rowOf P) = rows) {f : Nat} {L : List Nat} (hL : P.closure f = L) : P.unfollowed f = L.any fun g => (at' rows g).unf := by
  unfold Program.unfollowed
  rw [hL]
  simp only [at_eq h]
  rfl
theorem recurses_eq {P : Program} {f : Nat} (h : P.unfollowed f = true) : P.recurses f = true := by
  unfold Program.recurses
  rw [h, Bool.true_or]
theorem varsNamed_eq {P : Program} {rows : List Row} (h : (List.range P.funcs.size).map (rowOf P) = rows) {f : Nat} {L : List Nat} (hL : P.closure f = L) :
    P.varsNamed f = (((L.flatMap fun g => (at' rows g).gls).eraseDups).filterMap (fun g => (P.globals[g]?).map (·.name)) ++ L.filterMap fun g => (at' rows g).rd).eraseDups := by
  unfold Program.varsNamed
  rw [hL]
  simp only [at_eq h]
  rfl
/-- a table in pieces -/
theorem rows_append {F : Nat → Row} {a n m : Nat} {x y : List Row} (hx : (List.range' a n).map F = x) (hy : (List.range' (a + n) m).map F = y) : (List.range' a (n + m)).map F = x ++ y := by
  rw [← hx, ← hy, ← List.map_append, List.range'_append_1]
end Go.Reach
