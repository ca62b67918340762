/- How great what is read may be. -/
import Derived.Test.YthmcdebdkbhbmaaGreatDoorMs
import Derived.Test.YthmcdebdkbhbmaaGreatDoorMm
import Derived.Test.YthmcdebdkbhbmaaGreatDoorMt
import Derived.Test.YthmcdebdkbhbmaaGreatDoorMj
import Derived.Test.YthmcdebdkbhbmaaGreatDoorMh
set_option maxRecDepth 100000
namespace Go.Abs
open Go.Proofs
mutual
def smE : Exp → Prop | .mk a b n l => (a.length ≤ 10000 ∧ b.length ≤ 10000 ∧ Fits .i64 n) ∧ smL l
def smL : List Exp → Prop | [] => True | x :: r => smE x ∧ smL r
end
theorem len_nL : ∀ l : List Exp, (l.length : Int) ≤ nL l
  | [] => by simp [nL]
  | x :: r => by have := len_nL r; have := nE_pos x; simp only [List.length_cons, nL]; omega
mutual
theorem ok_smE : ∀ x : Exp, smE x → nE x ≤ 140737488355328 → x.ok
  | .mk a b n l, ⟨⟨h1, h2, h3⟩, h4⟩, hn => by
    have hl := len_nL l
    simp only [nE] at hn
    exact ⟨⟨by omega, by omega, h3⟩, by omega, ok_smL l h4 (by omega)⟩
theorem ok_smL : ∀ l : List Exp, smL l → nL l ≤ 140737488355328 → oksE l
  | [], _, _ => trivial
  | x :: r, ⟨h1, h2⟩, hn => by
    simp only [nL] at hn
    have := nE_pos x
    have := nL_pos r
    exact ⟨ok_smE x h1 (by omega), ok_smL r h2 (by omega)⟩
end
theorem numV_fits (s : S) : Fits .i64 (numV s) := by
  cases hv : validT [105, 110, 116] s with
  | false => rw [(num_bad hv).1]; constructor <;> omega
  | true =>
    obtain ⟨h9, h1, hd, _⟩ := int_spec2 hv
    have key : ∀ (t : S) (acc : Nat), (∀ c ∈ t, digI ((c.toNat : Nat) : Int) = true) → ∃ m, Go.Lib.decFrom acc t = some m ∧ m + 1 ≤ (acc + 1) * 10 ^ t.length := by
      intro t
      induction t with
      | nil => intro acc _; exact ⟨acc, rfl, by simp⟩
      | cons c r ih =>
        intro acc h
        have hc := h c (by simp)
        have hc2 := hc
        simp only [digI, Bool.and_eq_true, decide_eq_true_eq] at hc2
        obtain ⟨m, h1, h2⟩ := ih (acc * 10 + (c.toNat - 48)) (fun d hd => h d (by simp [hd]))
        refine ⟨m, by simp only [Go.Lib.decFrom, dec_val hc]; exact h1, ?_⟩
        have h3 : acc * 10 + (c.toNat - 48) + 1 ≤ (acc + 1) * 10 := by omega
        have := Nat.mul_le_mul_right (10 ^ r.length) h3
        rw [List.length_cons, Nat.pow_succ, Nat.mul_comm (10 ^ r.length) 10, ← Nat.mul_assoc]
        omega
    obtain ⟨m, hm, hb⟩ := key s 0 hd
    rw [(num_good hv hm).1]
    have : 10 ^ s.length ≤ 10 ^ 9 := Nat.pow_le_pow_right (by decide) h9
    have h10 : (10 : Nat) ^ 9 = 1000000000 := by decide
    constructor <;> omega
structure Sz (k : Int) (s : PS) (r : Exp × PS) : Prop where
  le : s.a ≤ r.2.a
  sz : nE r.1 + 4 * (s.a : Int) ≤ 4 * (r.2.a : Int) + k
  sm : smE r.1
structure SzL (s : PS) (r : List Exp × PS) : Prop where
  le : s.a ≤ r.2.a
  sz : nL r.1 + 4 * (s.a : Int) ≤ 4 * (r.2.a : Int) + 1
  sm : smL r.1
theorem cndP {α : Type} {c : Bool} {a b : α} {P : α → Prop} (ha : c = true → P a) (hb : c = false → P b) : P (bif c then a else b) := by cases c with | true => exact ha rfl | false => exact hb rfl
theorem sm0 : smE ex0 := ⟨⟨by decide, by decide, by constructor <;> decide⟩, trivial⟩
theorem f0 : Fits .i64 0 := by constructor <;> decide
theorem f1 : Fits .i64 1 := by constructor <;> decide
theorem n0 : nE ex0 = 1 := rfl
section rd
variable {l : List T} {E : PS → Exp × PS}
theorem sz_rloop (hE : ∀ s, Sz 1 s (E s)) : ∀ (f : Nat) (s : PS), SzL s (rLoop l E f s)
  | 0, s => ⟨Nat.le_refl _, by simp only [rLoop, nL]; omega, trivial⟩
  | f + 1, s => by
    have h1 := hE s
    have h2 := sz_rloop hE f ⟨(E s).2.a + 1, (E s).2.bad⟩
    have e1 := h1.le; have e2 := h1.sz; have e3 := h2.le; have e4 := h2.sz
    simp only at e3 e4
    simp only [rLoop]
    refine cndP (P := SzL s) (fun _ => ⟨Nat.le_refl _, by simp only [nL]; omega, trivial⟩) (fun _ => ?_)
    refine cndP (P := SzL s) (fun _ => ⟨by simp only; omega, by simp only [nL]; omega, h1.sm, h2.sm⟩) (fun _ => ⟨e1, by simp only [nL]; omega, h1.sm, trivial⟩)
theorem sz_rexps (hE : ∀ s, Sz 1 s (E s)) (x : S) (s : PS) : SzL s (rExps l E x s) := by
  have h := sz_rloop (l := l) hE (l.length + 2) s
  have e1 := h.le; have e2 := h.sz
  simp only [rExps]
  exact cndP (P := SzL s) (fun _ => ⟨by simp only; omega, by simp only [nL]; omega, trivial⟩) (fun _ => ⟨by simp only [rWant]; omega, by simp only [rWant]; omega, h.sm⟩)
theorem sz_rinside (hE : ∀ s, Sz 1 s (E s)) (ht : tOK l) (s : PS) : Sz 3 s (rInside l E s) := by
  have hp := fun s => pPeek_ok (s := s) ht
  have e1 := hE s
  have e2 := hE (rWord l (E s).2 opWs)
  have e3 := hE ⟨s.a + 1, s.bad⟩
  have e4 := hE (E ⟨s.a + 1, s.bad⟩).2
  have e5 := hE (rNum l (rTake l ⟨s.a + 1, s.bad⟩ [110, 97, 109, 101]))
  have e6 := sz_rexps (l := l) hE [93] (rWant l (rTake l ⟨s.a + 1, s.bad⟩ [110, 97, 109, 101]) [91])
  have a1 := e1.le; have b1 := e1.sz; have a2 := e2.le; have b2 := e2.sz; have a3 := e3.le; have b3 := e3.sz; have a4 := e4.le; have b4 := e4.sz; have a5 := e5.le; have b5 := e5.sz; have a6 := e6.le; have b6 := e6.sz
  simp only [rWord, rNum, rTake, rWant] at a2 b2 a3 b3 a5 b5 a6 b6
  simp only [rInside]
  refine cndP (P := Sz 3 s) (fun _ => ?_) (fun _ => ⟨by simp only [rWord]; omega, by simp only [nE, nL, rWord]; omega, ⟨by decide, hp _, f0⟩, e1.sm, e2.sm, trivial⟩)
  refine cndP (P := Sz 3 s) (fun _ => ⟨by simp only; omega, by simp only [nE, nL]; omega, ⟨by decide, hp _, f0⟩, e3.sm, e4.sm, trivial⟩) (fun _ => ?_)
  refine cndP (P := Sz 3 s) (fun _ => ⟨by simp only; omega, by simp only [nE, nL]; omega, ⟨by decide, hp _, f0⟩, e3.sm, trivial⟩) (fun _ => ?_)
  refine cndP (P := Sz 3 s) (fun _ => ⟨by simp only [rWord]; omega, by simp only [nE, nL, rWord]; omega, ⟨hp _, hp _, f0⟩, trivial⟩) (fun _ => ?_)
  refine cndP (P := Sz 3 s) (fun _ => ⟨by simp only [rTake]; omega, by simp only [nE, nL, rTake]; omega, ⟨hp _, hp _, f0⟩, trivial⟩) (fun _ => ?_)
  refine cndP (P := Sz 3 s) (fun _ => ⟨by simp only [rNum, rTake]; omega, by simp only [nE, nL, rNum, rTake]; omega, ⟨hp _, hp _, numV_fits _⟩, trivial⟩) (fun _ => ?_)
  refine cndP (P := Sz 3 s) (fun _ => ⟨by simp only [rWant, rTake]; omega, by simp only [nE, rWant, rTake]; omega, ⟨hp _, hp _, f0⟩, e6.sm⟩) (fun _ => ?_)
  refine cndP (P := Sz 3 s) (fun _ => ⟨by simp only [rNum, rTake]; omega, by simp only [nE, nL, rNum, rTake]; omega, ⟨hp _, hp _, numV_fits _⟩, e5.sm, trivial⟩) (fun _ => ⟨by simp only; omega, by simp only [n0]; omega, sm0⟩)
theorem sz_rstep (hE : ∀ s, Sz 1 s (E s)) (ht : tOK l) (s : PS) : Sz 1 s (rStep l E s) := by
  have hp := fun s => pPeek_ok (s := s) ht
  have e1 := sz_rexps (l := l) hE [93] ⟨s.a + 1 + 1, s.bad⟩
  have e2 := sz_rexps (l := l) hE [41] ⟨s.a + 1 + 1, s.bad⟩
  have e3 := sz_rinside hE ht (rWant l s [40])
  have a1 := e1.le; have b1 := e1.sz; have a2 := e2.le; have b2 := e2.sz; have a3 := e3.le; have b3 := e3.sz
  simp only [rWant] at a1 b1 a2 b2 a3 b3
  simp only [rStep]
  refine cndP (P := Sz 1 s) (fun _ => ⟨by simp only [rNum]; omega, by simp only [nE, nL, rNum]; omega, ⟨by decide, by decide, numV_fits _⟩, trivial⟩) (fun _ => ?_)
  refine cndP (P := Sz 1 s) (fun _ => ⟨by simp only; omega, by simp only [nE, nL]; omega, ⟨by decide, by decide, cndP (P := Fits .i64) (fun _ => f1) (fun _ => f0)⟩, trivial⟩) (fun _ => ?_)
  refine cndP (P := Sz 1 s) (fun _ => ?_) (fun _ => ⟨by simp only [rWant]; omega, by simp only [rWant]; omega, e3.sm⟩)
  refine cndP (P := Sz 1 s) (fun _ => ⟨by simp only; omega, by simp only [nE]; omega, ⟨by decide, hp _, f0⟩, e1.sm⟩) (fun _ => ?_)
  exact cndP (P := Sz 1 s) (fun _ => ⟨by simp only; omega, by simp only [nE]; omega, ⟨by decide, hp _, f0⟩, e2.sm⟩) (fun _ => ⟨by simp only; omega, by simp only [nE, nL]; omega, ⟨by decide, hp _, f0⟩, trivial⟩)
end rd
theorem sz_rE (l : List T) (ht : tOK l) : ∀ (n : Nat) (s : PS), l.length - s.a < n → Sz 1 s (rE l s)
  | 0, _, h => absurd h (Nat.not_lt_zero _)
  | n + 1, s, hn => by
    by_cases h : s.bad = false ∧ s.a ≤ l.length
    · rw [rE_eq l s h.1 h.2]
      refine sz_rstep (fun s' => ?_) ht s
      unfold rG
      by_cases h' : s'.bad = false ∧ s.a < s'.a ∧ s'.a ≤ l.length
      · rw [if_pos h']; exact sz_rE l ht n s' (by omega)
      · rw [if_neg h']; exact ⟨Nat.le_refl _, by simp only [n0]; omega, sm0⟩
    · rw [rE, dif_neg h]; exact ⟨Nat.le_refl _, by simp only [n0]; omega, sm0⟩
end Go.Abs

set_option maxRecDepth 100000
namespace Go.Abs
open Go.Proofs
section rd
variable {l : List T} {E : PS → Exp × PS}
def ESz (l : List T) (E : PS → Exp × PS) : Prop := ∀ s, s.a ≤ l.length → Sz 1 s (E s) ∧ (E s).2.a ≤ l.length
theorem sz_ploop (hE : ESz l E) : ∀ (f : Nat) (s : PS), s.a ≤ l.length → SzL s (pLoop l E f s) ∧ (pLoop l E f s).2.a ≤ l.length
  | 0, s, h => ⟨⟨Nat.le_refl _, by simp only [pLoop, nL]; omega, trivial⟩, h⟩
  | f + 1, s, h => by
    obtain ⟨h1, h1'⟩ := hE s h
    have e1 := h1.le; have e2 := h1.sz
    simp only [pLoop]
    cases hq : (pHas l (E s).2 [44]).1 with
    | true =>
      obtain ⟨q1, q2, q3⟩ := pHas_t hq
      rw [q3]
      obtain ⟨h2, h2'⟩ := sz_ploop hE f ⟨(E s).2.a + 1, false⟩ q1
      have e3 := h2.le; have e4 := h2.sz
      simp only at e3 e4
      exact ⟨⟨by simp only [cond_true]; omega, by simp only [cond_true, nL]; omega, h1.sm, h2.sm⟩, h2'⟩
    | false =>
      rw [pHas_f hq]
      exact ⟨⟨e1, by simp only [cond_false, nL]; omega, h1.sm, trivial⟩, h1'⟩
theorem sz_pexps (hE : ESz l E) (x : S) (s : PS) (h : s.a ≤ l.length) : SzL s (pExps l E x s) ∧ (pExps l E x s).2.a ≤ l.length := by
  obtain ⟨h1, h1'⟩ := sz_ploop hE (l.length + 2) s h
  have e1 := h1.le; have e2 := h1.sz
  have m1 := pMust_le (x := x) h
  have m2 := pMust_le (x := x) h1'
  have m3 := pHas_le (x := x) h
  simp only [pExps]
  refine cndP (P := fun r => SzL s r ∧ r.2.a ≤ l.length) (fun _ => ⟨⟨by simp only; omega, by simp only [nL]; omega, trivial⟩, m3.2⟩) (fun _ => ?_)
  exact cndP (P := fun r => SzL s r ∧ r.2.a ≤ l.length) (fun _ => ⟨⟨by simp only; omega, by simp only [nL]; omega, trivial⟩, m1.2⟩) (fun _ => ⟨⟨by simp only; omega, by simp only; omega, h1.sm⟩, m2.2⟩)
theorem sz_pinner (hE : ESz l E) (ht : tOK l) (s : PS) (h : s.a ≤ l.length) : Sz 3 s (pInner l E s) := by
  have hp := fun s => pPeek_ok (s := s) ht
  have hn := fun s => pNext_ok (s := s) ht
  obtain ⟨e1, e1'⟩ := hE s h
  have bb := pBin_le e1'
  obtain ⟨e2, e2'⟩ := hE _ bb.2
  have a1 := e1.le; have b1 := e1.sz; have a2 := e2.le; have b2 := e2.sz
  by_cases hin : s.a < l.length
  · have a0 : (⟨s.a + 1, s.bad⟩ : PS).a ≤ l.length := hin
    obtain ⟨e3, e3'⟩ := hE _ a0
    obtain ⟨e4, e4'⟩ := hE _ e3'
    have p1 := pOp_le a0
    have p2 := pName_le a0
    have p3 := pNum_le p2.2
    have p4 := pMust_le (x := [91]) p2.2
    obtain ⟨e5, e5'⟩ := hE _ p3.2
    obtain ⟨e6, e6'⟩ := sz_pexps hE [93] _ p4.2
    have a3 := e3.le; have b3 := e3.sz; have a4 := e4.le; have b4 := e4.sz; have a5 := e5.le; have b5 := e5.sz; have a6 := e6.le; have b6 := e6.sz
    simp only at a3 b3 p1 p2
    have hop : (pOp l ⟨s.a + 1, s.bad⟩).1.length ≤ 10000 := hn _
    have hnm : (pName l ⟨s.a + 1, s.bad⟩).1.length ≤ 10000 := hn _
    simp only [pInner]
    refine cndP (P := Sz 3 s) (fun _ => ⟨by simp only; omega, by simp only [nE, nL]; omega, ⟨by decide, hp _, f0⟩, e3.sm, e4.sm, trivial⟩) (fun _ => ?_)
    refine cndP (P := Sz 3 s) (fun _ => ⟨by simp only; omega, by simp only [nE, nL]; omega, ⟨by decide, hp _, f0⟩, e3.sm, trivial⟩) (fun _ => ?_)
    refine cndP (P := Sz 3 s) (fun _ => ⟨by simp only; omega, by simp only [nE, nL]; omega, ⟨by decide, hop, f0⟩, trivial⟩) (fun _ => ?_)
    refine cndP (P := Sz 3 s) (fun _ => ⟨by simp only; omega, by simp only [nE, nL]; omega, ⟨hp _, hnm, f0⟩, trivial⟩) (fun _ => ?_)
    refine cndP (P := Sz 3 s) (fun _ => ⟨by simp only; omega, by simp only [nE, nL]; omega, ⟨hp _, hnm, numV_fits _⟩, trivial⟩) (fun _ => ?_)
    refine cndP (P := Sz 3 s) (fun _ => ⟨by simp only; omega, by simp only [nE]; omega, ⟨hp _, hnm, f0⟩, e6.sm⟩) (fun _ => ?_)
    exact cndP (P := Sz 3 s) (fun _ => ⟨by simp only; omega, by simp only [nE, nL]; omega, ⟨hp _, hnm, numV_fits _⟩, e5.sm, trivial⟩) (fun _ => ⟨by simp only; omega, by simp only [nE, nL]; omega, ⟨by decide, hn _, f0⟩, e1.sm, e2.sm, trivial⟩)
  · have hp0 : pPeek l s = t0 := pPeek_out (by omega)
    have e : pInner l E s = (Exp.mk [111, 112] (pNext l (E s).2).1.2.1 0 [(E s).1, (E (pBin l (E s).2)).1], (E (pBin l (E s).2)).2) := by
      simp [pInner, hp0, t0, hasB, beqL]
    rw [e]
    exact ⟨by simp only; omega, by simp only [nE, nL]; omega, ⟨by decide, hn _, f0⟩, e1.sm, e2.sm, trivial⟩
theorem sz_pstep (hE : ESz l E) (ht : tOK l) (s : PS) (h : s.a ≤ l.length) : Sz 1 s (pStep l E s) := by
  have hn := fun s => pNext_ok (s := s) ht
  obtain ⟨d1, d2, d3⟩ := pNext_le h
  have hh := pHas_le (x := [91]) d2
  have hm := pMust_le (x := [40]) d2
  obtain ⟨e1, e1'⟩ := sz_pexps hE [93] _ hh.2
  obtain ⟨e2, e2'⟩ := sz_pexps hE [41] _ hm.2
  have e3 := sz_pinner hE ht _ d2
  have a1 := e1.le; have b1 := e1.sz; have a2 := e2.le; have b2 := e2.sz; have a3 := e3.le; have b3 := e3.sz
  cases hb : (pNext l s).2.bad with
  | true =>
    simp only [pStep, hb, cond_true]
    exact ⟨by simp only; omega, by simp only [nE, nL]; omega, ⟨by decide, by decide, f0⟩, trivial⟩
  | false =>
    have d4 := d3 hb
    have hE3 : (pInner l E (pNext l s).2).2.a ≤ l.length := (pInner_le (fun s' hs => ⟨(hE s' hs).1.le, (hE s' hs).2⟩) _ d2).2
    have hm3 := pMust_le (x := [41]) hE3
    simp only [pStep, hb, cond_false]
    refine cndP (P := Sz 1 s) (fun _ => ⟨by simp only; omega, by simp only [nE, nL]; omega, ⟨by decide, by decide, numV_fits _⟩, trivial⟩) (fun _ => ?_)
    refine cndP (P := Sz 1 s) (fun _ => ?_) (fun _ => ?_)
    · refine cndP (P := Sz 1 s) (fun _ => ⟨by simp only; omega, by simp only [nE]; omega, ⟨by decide, hn _, f0⟩, e1.sm⟩) (fun _ => ?_)
      exact cndP (P := Sz 1 s) (fun _ => ⟨by simp only; omega, by simp only [nE]; omega, ⟨by decide, hn _, f0⟩, e2.sm⟩) (fun _ => ⟨by simp only; omega, by simp only [nE, nL]; omega, ⟨by decide, hn _, f0⟩, trivial⟩)
    refine cndP (P := Sz 1 s) (fun _ => ⟨by simp only; omega, by simp only [nE, nL]; omega, ⟨by decide, by decide, cndP (P := Fits .i64) (fun _ => f1) (fun _ => f0)⟩, trivial⟩) (fun _ => ?_)
    exact cndP (P := Sz 1 s) (fun _ => ⟨by simp only; omega, by simp only; omega, e3.sm⟩) (fun _ => ⟨by simp only; omega, by simp only [nE, nL]; omega, ⟨by decide, by decide, f0⟩, trivial⟩)
end rd
theorem sz_pExp (l : List T) (ht : tOK l) : ∀ (n : Nat), ESz l (pExp l n)
  | 0 => fun s h => ⟨⟨Nat.le_refl _, by simp only [pExp, nE, nL]; omega, ⟨by decide, by decide, f0⟩, trivial⟩, h⟩
  | n + 1 => fun s h => ⟨sz_pstep (sz_pExp l ht n) ht s h, (pExp_le (n + 1) s h).2⟩
end Go.Abs

set_option maxRecDepth 100000
namespace Go.Abs
open Go.Proofs
def F29 : Fn := ⟨.seq (.reg [⟨none, .alloc 2 [.sc (.s []), .sc (.s []), .sc (.i .i64 0), .sl 4 [] .full]⟩, ⟨none, .mv 3 (.c (.sc (.i .i64 0)))⟩]) (.seq (.reg [⟨none, .mv 11 (.t 0)⟩, ⟨none, .call (some 12) (.c (.fn 22 [])) [.t 11]⟩, ⟨none, .mv 10 (.t 12)⟩, ⟨none, .ext 13 (.t 10) 0⟩, ⟨none, .ext 14 (.t 10) 1⟩, ⟨none, .mv 4 (.t 13)⟩, ⟨none, .mv 5 (.t 14)⟩]) (.seq (.seq (.reg [⟨none, .mv 15 (.t 5)⟩, ⟨none, .bin 16 .neq (.t 15) (.c (.sc (.i .i64 0)))⟩]) (.cond (.t 16) (.seq (.reg [⟨none, .build 17 [.sc (.s []), .sc (.s []), .sc (.i .i64 0), .sl 4 [] .full] []⟩, ⟨none, .mv 18 (.t 5)⟩, ⟨none, .st (.t 2) 4 (.t 17)⟩, ⟨none, .mv 3 (.t 18)⟩]) .ret) .skip)) (.seq (.reg [⟨none, .mv 19 (.t 4)⟩, ⟨none, .mkM 20⟩, ⟨none, .build 21 [.sl 3 [] .full, .sc (.i .i64 0), .sc (.b false), .sc .nm] [(0, (1, .t 19)), (3, (1, .t 20))]⟩, ⟨none, .box 22 (.t 21)⟩, ⟨none, .mv 6 (.t 22)⟩]) (.seq (.reg [⟨none, .mv 23 (.t 6)⟩, ⟨none, .call (some 24) (.c (.fn 74 [])) [.t 23]⟩, ⟨none, .alloc 7 [.sc (.s []), .sc (.s []), .sc (.i .i64 0), .sl 4 [] .full]⟩, ⟨none, .st (.t 7) 4 (.t 24)⟩]) (.seq (.reg [⟨none, .ld 26 4 true (.t 7)⟩, ⟨none, .call (some 27) (.c (.fn 71 [])) [.t 26]⟩, ⟨none, .mv 25 (.t 27)⟩, ⟨none, .ext 28 (.t 25) 0⟩, ⟨none, .ext 29 (.t 25) 1⟩, ⟨none, .mv 8 (.t 28)⟩, ⟨none, .mv 9 (.t 29)⟩]) (.seq (.block 0 (.seq (.regD [⟨none, .mv 31 (.t 6)⟩, ⟨none, .nc 32 (.t 31)⟩, ⟨none, .fa 33 (.t 32) 2⟩, ⟨none, .ld 34 1 false (.t 33)⟩, ⟨none, .mv 35 (.t 34)⟩, ⟨some (35, false), .mv 36 (.t 6)⟩, ⟨some (35, false), .nc 37 (.t 36)⟩, ⟨some (35, false), .fa 38 (.t 37) 1⟩, ⟨some (35, false), .ld 39 1 false (.t 38)⟩, ⟨some (35, false), .mv 40 (.t 6)⟩, ⟨some (35, false), .nc 41 (.t 40)⟩, ⟨some (35, false), .fa 42 (.t 41) 0⟩, ⟨some (35, false), .ld 43 1 false (.t 42)⟩, ⟨some (35, false), .len 44 (.t 43)⟩, ⟨some (35, false), .bin 45 .neq (.t 39) (.t 44)⟩, ⟨none, .pick 46 (.t 35) (.c (.sc (.b true))) (.t 45)⟩, ⟨none, .mv 47 (.t 46)⟩, ⟨some (47, false), .ld 48 4 true (.t 7)⟩, ⟨some (47, false), .call (some 49) (.c (.fn 70 [])) [.t 48]⟩, ⟨some (47, false), .no 50 (.t 49)⟩, ⟨none, .pick 51 (.t 47) (.c (.sc (.b true))) (.t 50)⟩, ⟨none, .mv 30 (.t 51)⟩] [0, 1, 3, 7, 15, 31, 63, 127, 255, 31, 543, 1567, 3615, 7711, 16383, 32767, 65535, 131071, 262143, 524287, 1048575, 2097151]) (.cond (.t 30) (.seq (.reg [⟨none, .build 52 [.sc (.s []), .sc (.s []), .sc (.i .i64 0), .sl 4 [] .full] []⟩, ⟨none, .st (.t 2) 4 (.t 52)⟩, ⟨none, .mv 3 (.c (.sc (.i .i64 20)))⟩]) .ret) (.seq (.reg [⟨none, .mv 54 (.t 8)⟩, ⟨none, .mv 55 (.t 9)⟩, ⟨none, .call (some 56) (.c (.fn 72 [])) [.t 54, .t 55]⟩, ⟨none, .no 57 (.t 56)⟩, ⟨none, .mv 53 (.t 57)⟩]) (.cond (.t 53) (.seq (.reg [⟨none, .build 58 [.sc (.s []), .sc (.s []), .sc (.i .i64 0), .sl 4 [] .full] []⟩, ⟨none, .st (.t 2) 4 (.t 58)⟩, ⟨none, .mv 3 (.c (.sc (.i .i64 4)))⟩]) .ret) .skip))))) (.seq (.reg [⟨none, .ld 59 4 true (.t 7)⟩, ⟨none, .st (.t 2) 4 (.t 59)⟩, ⟨none, .mv 3 (.c (.sc (.i .i64 0)))⟩]) .ret))))))), [(2, 4), (3, 0)], 60⟩
theorem F29_ok : compT Tryz.prog (fun _ => an0) 29 = some F29 := by kernel_rfl
def endC (l : List T) (s : PS) (ok : Bool) (a b : Int) : Int := bif (s.bad || !decide (((s.a : Nat) : Int) = ((l.length : Nat) : Int))) || !ok then 20 else bif !(decide (a ≤ 1500) && decide (b ≤ 60)) then 4 else 0
set_option maxHeartbeats 4000000 in
theorem b55g (W0 : Go.World) (hk : Wk W0) (s : S) (hl : s.length ≤ 140737488355328) : Body (Ctr Tryz.prog W0) F55.ac F55.rs [.sc (.s s)] [] (.tup [.ptr 0 0, .sc (.i .i64 (tokR2 s))]) [pbx (tokR1 s) ⟨0, false⟩] := by
  conv => whnf
  refine callP.pure _ (c107 W0 hk s hl) ⟨rfl, rfl⟩ ?_
  conv => whnf
  exact ⟨⟨[2100], [], ⟨rfl, rfl, rfl, rfl⟩, ⟨rfl, rfl, trivial⟩, ⟨⟨⟨rfl, rfl, .inl rfl⟩, rfl, rfl, trivial⟩, trivial⟩, trivial⟩⟩
theorem c55g (W0 : Go.World) (hk : Wk W0) (s : S) (hl : s.length ≤ 140737488355328) : Ctr Tryz.prog W0 55 [.sc (.s s)] [] (.tup [.ptr 0 0, .sc (.i .i64 (tokR2 s))]) [pbx (tokR1 s) ⟨0, false⟩] :=
  ctr_body follows F55_ok rfl (fun _ _ h => by cases h) rfl rfl (b55g W0 hk s hl)
theorem end4 {l : List T} {p : Nat} {a b : Int} (q1 : (!(decide (a ≤ 1500) && decide (b ≤ 60))) = true) (q2 : (!decide ((p : Int) = (l.length : Int))) = false) : (4 : Int) = endC l ⟨p, false⟩ true a b := by
  simp only [endC, q1, q2, Bool.or_self, Bool.not_true, cond_true, cond_false]
set_option maxHeartbeats 4000000 in
theorem b59_tt (W0 : Go.World) (l : List T) (p : Nat) (a b : Int) : Body (Ctr Tryz.prog W0) F59.ac F59.rs [.ptr 0 0, .sc (.b true), pairA a b] [pbx l ⟨p, true⟩] (.sc (.i .i64 (endC l ⟨p, true⟩ true a b))) [pbx l ⟨p, true⟩] := by
  have hd := toksD_length l
  repeat' ((conv => whnf); (first | with_reducible refine brec (fun _ => ?_) (fun _ => ?_) | (refine callP.pure _ (c51 W0 a b) ⟨rfl, rfl⟩ ?_) | fail))
  all_goals (conv => whnf)
  all_goals (simp only [hd] at *)
  all_goals (first | (refine fin_pb rfl (congrArg (fun z => AV.sc (Sc.i .i64 z)) (end4 (by assumption) (by assumption))) rfl rfl rfl rfl rfl rfl) | (refine fin_pb rfl (congrArg (fun z => AV.sc (Sc.i .i64 z)) ?_) rfl rfl rfl rfl rfl rfl; simp only [endC]; simp_all; done))
set_option maxHeartbeats 4000000 in
theorem b59_tf (W0 : Go.World) (l : List T) (p : Nat) (a b : Int) : Body (Ctr Tryz.prog W0) F59.ac F59.rs [.ptr 0 0, .sc (.b false), pairA a b] [pbx l ⟨p, true⟩] (.sc (.i .i64 (endC l ⟨p, true⟩ false a b))) [pbx l ⟨p, true⟩] := by
  have hd := toksD_length l
  repeat' ((conv => whnf); (first | with_reducible refine brec (fun _ => ?_) (fun _ => ?_) | (refine callP.pure _ (c51 W0 a b) ⟨rfl, rfl⟩ ?_) | fail))
  all_goals (conv => whnf)
  all_goals (simp only [hd] at *)
  all_goals (first | (refine fin_pb rfl (congrArg (fun z => AV.sc (Sc.i .i64 z)) (end4 (by assumption) (by assumption))) rfl rfl rfl rfl rfl rfl) | (refine fin_pb rfl (congrArg (fun z => AV.sc (Sc.i .i64 z)) ?_) rfl rfl rfl rfl rfl rfl; simp only [endC]; simp_all; done))
set_option maxHeartbeats 4000000 in
theorem b59_ft (W0 : Go.World) (l : List T) (p : Nat) (a b : Int) : Body (Ctr Tryz.prog W0) F59.ac F59.rs [.ptr 0 0, .sc (.b true), pairA a b] [pbx l ⟨p, false⟩] (.sc (.i .i64 (endC l ⟨p, false⟩ true a b))) [pbx l ⟨p, false⟩] := by
  have hd := toksD_length l
  repeat' ((conv => whnf); (first | with_reducible refine brec (fun _ => ?_) (fun _ => ?_) | (refine callP.pure _ (c51 W0 a b) ⟨rfl, rfl⟩ ?_) | fail))
  all_goals (conv => whnf)
  all_goals (simp only [hd] at *)
  all_goals (first | (refine fin_pb rfl (congrArg (fun z => AV.sc (Sc.i .i64 z)) (end4 (by assumption) (by assumption))) rfl rfl rfl rfl rfl rfl) | (refine fin_pb rfl (congrArg (fun z => AV.sc (Sc.i .i64 z)) ?_) rfl rfl rfl rfl rfl rfl; simp only [endC]; simp_all; done))
set_option maxHeartbeats 4000000 in
theorem b59_ff (W0 : Go.World) (l : List T) (p : Nat) (a b : Int) : Body (Ctr Tryz.prog W0) F59.ac F59.rs [.ptr 0 0, .sc (.b false), pairA a b] [pbx l ⟨p, false⟩] (.sc (.i .i64 (endC l ⟨p, false⟩ false a b))) [pbx l ⟨p, false⟩] := by
  have hd := toksD_length l
  repeat' ((conv => whnf); (first | with_reducible refine brec (fun _ => ?_) (fun _ => ?_) | (refine callP.pure _ (c51 W0 a b) ⟨rfl, rfl⟩ ?_) | fail))
  all_goals (conv => whnf)
  all_goals (simp only [hd] at *)
  all_goals (first | (refine fin_pb rfl (congrArg (fun z => AV.sc (Sc.i .i64 z)) (end4 (by assumption) (by assumption))) rfl rfl rfl rfl rfl rfl) | (refine fin_pb rfl (congrArg (fun z => AV.sc (Sc.i .i64 z)) ?_) rfl rfl rfl rfl rfl rfl; simp only [endC]; simp_all; done))
theorem c59g (W0 : Go.World) (l : List T) (s : PS) (ok : Bool) (a b : Int) : Ctr Tryz.prog W0 59 [.ptr 0 0, .sc (.b ok), pairA a b] [pbx l s] (.sc (.i .i64 (endC l s ok a b))) [pbx l s] := by
  refine ctr_body follows F59_ok rfl (fun _ _ h => by cases h) rfl rfl ?_
  obtain ⟨p, bad⟩ := s
  cases bad <;> cases ok
  · exact b59_ff W0 l p a b
  · exact b59_ft W0 l p a b
  · exact b59_tf W0 l p a b
  · exact b59_tt W0 l p a b
def prC (l : List T) (q : Exp × PS) : Int := endC l q.2 (wellE q.1) (nE q.1) (dpE q.1)
def prX (l : List T) (q : Exp × PS) : Exp := bif decide (prC l q = 0) then q.1 else ex0
def paX (s : S) (q : Exp × PS) : Exp := bif decide (tokR2 s = 0) then prX (tokR1 s) q else ex0
def paC (s : S) (q : Exp × PS) : Int := bif decide (tokR2 s = 0) then prC (tokR1 s) q else tokR2 s
theorem fin_tx0 {σ : Log} {v : AV} {e e' : Int} {x y : S} {n : Int} {l : List (List Data)} {t : Tok} {xs : List Exp} (hv : v = .tup [.agg [.sc (.s x), .sc (.s y), .sc (.i .i64 n), .sl 4 l t], .sc (.i .i64 e)]) (h1 : l = expsD xs) (h2 : e = e') : FinOK σ v 0 0 (txtX (.mk x y n xs) e') [] := by
  subst hv; subst h1; subst h2
  exact ⟨⟨[], [], ⟨rfl, rfl, rfl, rfl⟩, ⟨⟨rfl, rfl, rfl, ⟨rfl, rfl, .inl rfl⟩, trivial⟩, rfl, trivial⟩, trivial, trivial⟩⟩
set_option maxHeartbeats 4000000 in
theorem b28_err (W0 : Go.World) (hk : Wk W0) (s : S) (hl : s.length ≤ 140737488355328) (h : ¬ tokR2 s = 0) : Body (Ctr Tryz.prog W0) F28.ac F28.rs [.sc (.s s)] [] (txtX ex0 (tokR2 s)) [] := by
  conv => whnf
  refine callP.full [] [] [.sc (.s s)] [] [pbx (tokR1 s) ⟨0, false⟩] _ (c55g W0 hk s hl) ⟨rfl, rfl, rfl, rfl, rfl, rfl, rfl, rfl, rfl, rfl, ⟨rfl, trivial⟩, trivial, trivial⟩ ?_
  conv => whnf
  refine brec (fun h1 => absurd h1 (by simp [h])) (fun _ => ?_)
  conv => whnf
  exact fin_tx0 rfl rfl rfl
set_option maxHeartbeats 8000000 in
theorem b28_ok (W0 : Go.World) (hk : Wk W0) (s : S) (hl : s.length ≤ 140737488355328) (l : List T) (hR : tokR1 s = l) (h : tokR2 s = 0) (s1 : PS) (a b : S) (m : Int) (xs : List Exp) (hx : (Exp.mk a b m xs).ok) (hn : nE (.mk a b m xs) ≤ 1152921504606846976)
    (hc : Ctr Tryz.prog W0 73 [.ptr 0 0] [pbx l ⟨0, false⟩] (eE (.mk a b m xs)) [pbx l s1]) : Body (Ctr Tryz.prog W0) F28.ac F28.rs [.sc (.s s)] [] (txtX (prX l (.mk a b m xs, s1)) (prC l (.mk a b m xs, s1))) [] := by
  have h55 := c55g W0 hk s hl
  rw [hR, h] at h55
  have h69 := c69 W0 hk [.mk a b m xs] (by simp) ⟨hx, trivial⟩
  have e1 : wellL [.mk a b m xs] = wellE (.mk a b m xs) := by simp [wellL]
  have h68 := c68 W0 [.mk a b m xs] (by simp) ⟨hx, trivial⟩ (by simpa [nL] using hn)
  have e2 : nL [.mk a b m xs] = nE (.mk a b m xs) := by simp [nL]
  have e3 : dpL [.mk a b m xs] = dpE (.mk a b m xs) := by
    have := (dpE_le (.mk a b m xs)).1
    simp only [dpL]; omega
  rw [e1] at h69
  rw [e2, e3] at h68
  have h59 := c59g W0 l s1 (wellE (.mk a b m xs)) (nE (.mk a b m xs)) (dpE (.mk a b m xs))
  have ec : endC l s1 (wellE (.mk a b m xs)) (nE (.mk a b m xs)) (dpE (.mk a b m xs)) = prC l (.mk a b m xs, s1) := rfl
  rw [ec] at h59
  have ex : prX l (.mk a b m xs, s1) = bif decide (prC l (.mk a b m xs, s1) = 0) then .mk a b m xs else ex0 := rfl
  rw [ex]
  generalize prC l (.mk a b m xs, s1) = c at h59 ⊢
  conv => whnf
  refine callP.full [] [] [.sc (.s s)] [] [pbx l ⟨0, false⟩] _ h55 ⟨rfl, rfl, rfl, rfl, rfl, rfl, rfl, rfl, rfl, rfl, ⟨rfl, trivial⟩, trivial, trivial⟩ ?_
  conv => whnf
  refine callP.full [1300] [] [.ptr 0 0] [pbx l ⟨0, false⟩] [pbx l s1] _ hc ⟨rfl, rfl, rfl, rfl, rfl, rfl, rfl, rfl, rfl, rfl, ⟨rfl, trivial⟩, ⟨⟨⟨rfl, rfl, .inl rfl⟩, rfl, rfl, trivial⟩, trivial⟩, trivial⟩ ?_
  conv => whnf
  refine callP.pure _ h69 ⟨rfl, rfl⟩ ?_
  conv => whnf
  refine callP.pure _ h68 ⟨rfl, rfl⟩ ?_
  conv => whnf
  refine callP.full [1300] [] [.ptr 0 0, .sc (.b (wellE (.mk a b m xs))), pairA (nE (.mk a b m xs)) (dpE (.mk a b m xs))] [pbx l s1] [pbx l s1] _ h59 ⟨rfl, rfl, rfl, rfl, rfl, rfl, rfl, rfl, rfl, rfl, ⟨rfl, rfl, ⟨rfl, rfl, trivial⟩, trivial⟩, ⟨⟨⟨rfl, rfl, .inl rfl⟩, rfl, rfl, trivial⟩, trivial⟩, trivial⟩ ?_
  conv => whnf
  refine brec (fun h1 => ?_) (fun h1 => ?_)
  · have c0 : c = 0 := by simpa using h1
    subst c0
    conv => whnf
    exact fin_tx0 rfl rfl rfl
  · have c0 : ¬ c = 0 := by simpa using h1
    rw [show (decide (c = 0)) = false from decide_eq_false c0]
    conv => whnf
    exact fin_tx0 rfl rfl rfl
end Go.Abs

set_option maxRecDepth 100000
namespace Go.Abs
open Go.Proofs
theorem c28g (W0 : Go.World) (hk : Wk W0) (s : S) (hl : s.length ≤ 140737488355328) (n : Nat) (hn : (tokR1 s).length < n) (hlen : (tokR1 s).length ≤ 1048576) (ht : tOK (tokR1 s)) :
    Ctr Tryz.prog W0 28 [.sc (.s s)] [] (txtX (paX s (pExp (tokR1 s) n ⟨0, false⟩)) (paC s (pExp (tokR1 s) n ⟨0, false⟩))) [] := by
  by_cases h : tokR2 s = 0
  · have hc := c73 W0 hk (tokR1 s) ht (by omega) n ⟨0, false⟩ (Nat.zero_le _) (by simpa using hn)
    obtain ⟨hz, hle⟩ := sz_pExp (tokR1 s) ht n ⟨0, false⟩ (Nat.zero_le _)
    have e1 : paX s (pExp (tokR1 s) n ⟨0, false⟩) = prX (tokR1 s) (pExp (tokR1 s) n ⟨0, false⟩) := by simp [paX, h]
    have e2 : paC s (pExp (tokR1 s) n ⟨0, false⟩) = prC (tokR1 s) (pExp (tokR1 s) n ⟨0, false⟩) := by simp [paC, h]
    rw [e1, e2]
    generalize pExp (tokR1 s) n ⟨0, false⟩ = q at hc hz hle ⊢
    obtain ⟨⟨a, b, m, xs⟩, s1⟩ := q
    have hsz := hz.sz
    simp only at hsz hle hc
    exact ctr_body follows F28_ok rfl (fun _ _ h => by cases h) rfl rfl (b28_ok W0 hk s hl _ rfl h s1 a b m xs (ok_smE _ hz.sm (by omega)) (by omega) hc)
  · have e1 : paX s (pExp (tokR1 s) n ⟨0, false⟩) = ex0 := by simp [paX, h]
    have e2 : paC s (pExp (tokR1 s) n ⟨0, false⟩) = tokR2 s := by simp [paC, h]
    rw [e1, e2]
    exact ctr_body follows F28_ok rfl (fun _ _ h => by cases h) rfl rfl (b28_err W0 hk s hl h)
theorem en0 {l : List T} {p : Nat} {n1 d1 : Int} (q2 : (!decide ((p : Int) = ((toksD l).length : Int))) = false) (q1 : (!fitsR n1 d1) = false) : endC l ⟨p, false⟩ true n1 d1 = 0 := by
  rw [toksD_length] at q2
  have q1' : (!(decide (n1 ≤ 1500) && decide (d1 ≤ 60))) = false := q1
  simp only [endC, q1', q2, Bool.or_self, Bool.not_true, cond_false]
theorem en4 {l : List T} {p : Nat} {n1 d1 : Int} (q2 : (!decide ((p : Int) = ((toksD l).length : Int))) = false) (q1 : (!fitsR n1 d1) = true) : endC l ⟨p, false⟩ true n1 d1 = 4 := by
  rw [toksD_length] at q2
  have q1' : (!(decide (n1 ≤ 1500) && decide (d1 ≤ 60))) = true := q1
  simp only [endC, q1', q2, Bool.or_self, Bool.not_true, cond_false, cond_true]
theorem en20 {l : List T} {p : Nat} {w : Bool} {n1 d1 : Int} (q2 : (!decide ((p : Int) = ((toksD l).length : Int))) = true) : endC l ⟨p, false⟩ w n1 d1 = 20 := by
  rw [toksD_length] at q2
  simp only [endC, q2, Bool.or_true, Bool.true_or, cond_true]
theorem en20b {l : List T} {p : Nat} {w : Bool} {n1 d1 : Int} : endC l ⟨p, true⟩ w n1 d1 = 20 := by
  simp only [endC, Bool.true_or, cond_true]
theorem en20w {l : List T} {p : Nat} {b : Bool} {n1 d1 : Int} : endC l ⟨p, b⟩ false n1 d1 = 20 := by
  simp only [endC, Bool.not_false, Bool.or_true, cond_true]
set_option maxHeartbeats 4000000 in
theorem b29_err (W0 : Go.World) (s : S) (hl : s.length ≤ 140737488355328) (h : ¬ tokR2 s = 0) : Body (Ctr Tryz.prog W0) F29.ac F29.rs [.sc (.s s)] [] (txtX ex0 (tokR2 s)) [] := by
  conv => whnf
  refine callP.pure _ (c22 W0 s hl) ⟨rfl, rfl⟩ ?_
  conv => whnf
  refine brec (fun h1 => absurd h1 (by simp [h])) (fun _ => ?_)
  conv => whnf
  exact fin_tx0 rfl rfl rfl
set_option maxHeartbeats 8000000 in
theorem b29_ft (W0 : Go.World) (s : S) (hl : s.length ≤ 140737488355328) (l : List T) (hR : tokR1 s = l) (h : tokR2 s = 0) (p : Nat) (M : Mem) (a b : S) (m : Int) (xs : List Exp)
    (h71 : Ctr Tryz.prog W0 71 [eE (.mk a b m xs)] [] (pairT (nE (.mk a b m xs)) (dpE (.mk a b m xs))) []) (h70 : Ctr Tryz.prog W0 70 [eE (.mk a b m xs)] [] (.sc (.b true)) []) (hw : wellE (.mk a b m xs) = true)
    (hc : Ctr Tryz.prog W0 74 [.ptr 0 0] [rbx l ⟨0, false⟩, mbx []] (eE (.mk a b m xs)) [rbx l ⟨p, false⟩, mbx M]) : Body (Ctr Tryz.prog W0) F29.ac F29.rs [.sc (.s s)] [] (txtX (prX l (.mk a b m xs, ⟨p, false⟩)) (prC l (.mk a b m xs, ⟨p, false⟩))) [] := by
  have h22 := c22 W0 s hl
  rw [hR, h] at h22
  have hd := toksD_length l
  have h72 := c72 W0 (nE (.mk a b m xs)) (dpE (.mk a b m xs))
  have ec : prC l (.mk a b m xs, ⟨p, false⟩) = endC l ⟨p, false⟩ true (nE (.mk a b m xs)) (dpE (.mk a b m xs)) := by simp only [prC, hw]
  have ex : prX l (.mk a b m xs, ⟨p, false⟩) = bif decide (endC l ⟨p, false⟩ true (nE (.mk a b m xs)) (dpE (.mk a b m xs)) = 0) then .mk a b m xs else ex0 := by simp only [prX, ec]
  rw [ec, ex]
  generalize nE (.mk a b m xs) = n1 at h71 h72 ⊢
  generalize dpE (.mk a b m xs) = d1 at h71 h72 ⊢
  conv => whnf
  refine callP.pure _ h22 ⟨rfl, rfl⟩ ?_
  conv => whnf
  refine callP.full [2400, 2200] [] [.ptr 0 0] [rbx l ⟨0, false⟩, mbx []] [rbx l ⟨p, false⟩, mbx M] _ hc ⟨rfl, rfl, rfl, rfl, rfl, rfl, rfl, rfl, rfl, rfl, ⟨rfl, trivial⟩, ⟨⟨⟨rfl, rfl, .inl rfl⟩, rfl, rfl, rfl, trivial⟩, ⟨rfl, trivial⟩, trivial⟩, trivial⟩ ?_
  conv => whnf
  refine callP.pure _ h71 ⟨rfl, rfl⟩ ?_
  repeat' ((conv => whnf); (first | with_reducible refine brec (fun _ => ?_) (fun _ => ?_) | (refine callP.pure _ h70 ⟨rfl, rfl⟩ ?_) | (refine callP.pure _ h72 ⟨rfl, rfl⟩ ?_) | fail))
  all_goals (conv => whnf)
  all_goals (first | (rw [en20b]; exact fin_tx0 rfl rfl rfl) | (rw [en20w]; exact fin_tx0 rfl rfl rfl) | (rw [en20 (by assumption)]; exact fin_tx0 rfl rfl rfl) | (rw [en4 (by assumption) (by assumption)]; exact fin_tx0 rfl rfl rfl) | (rw [en0 (by assumption) (by assumption)]; exact fin_tx0 rfl rfl rfl))
set_option maxHeartbeats 8000000 in
theorem b29_ff (W0 : Go.World) (s : S) (hl : s.length ≤ 140737488355328) (l : List T) (hR : tokR1 s = l) (h : tokR2 s = 0) (p : Nat) (M : Mem) (a b : S) (m : Int) (xs : List Exp)
    (h71 : Ctr Tryz.prog W0 71 [eE (.mk a b m xs)] [] (pairT (nE (.mk a b m xs)) (dpE (.mk a b m xs))) []) (h70 : Ctr Tryz.prog W0 70 [eE (.mk a b m xs)] [] (.sc (.b false)) []) (hw : wellE (.mk a b m xs) = false)
    (hc : Ctr Tryz.prog W0 74 [.ptr 0 0] [rbx l ⟨0, false⟩, mbx []] (eE (.mk a b m xs)) [rbx l ⟨p, false⟩, mbx M]) : Body (Ctr Tryz.prog W0) F29.ac F29.rs [.sc (.s s)] [] (txtX (prX l (.mk a b m xs, ⟨p, false⟩)) (prC l (.mk a b m xs, ⟨p, false⟩))) [] := by
  have h22 := c22 W0 s hl
  rw [hR, h] at h22
  have hd := toksD_length l
  have h72 := c72 W0 (nE (.mk a b m xs)) (dpE (.mk a b m xs))
  have ec : prC l (.mk a b m xs, ⟨p, false⟩) = endC l ⟨p, false⟩ false (nE (.mk a b m xs)) (dpE (.mk a b m xs)) := by simp only [prC, hw]
  have ex : prX l (.mk a b m xs, ⟨p, false⟩) = bif decide (endC l ⟨p, false⟩ false (nE (.mk a b m xs)) (dpE (.mk a b m xs)) = 0) then .mk a b m xs else ex0 := by simp only [prX, ec]
  rw [ec, ex]
  generalize nE (.mk a b m xs) = n1 at h71 h72 ⊢
  generalize dpE (.mk a b m xs) = d1 at h71 h72 ⊢
  conv => whnf
  refine callP.pure _ h22 ⟨rfl, rfl⟩ ?_
  conv => whnf
  refine callP.full [2400, 2200] [] [.ptr 0 0] [rbx l ⟨0, false⟩, mbx []] [rbx l ⟨p, false⟩, mbx M] _ hc ⟨rfl, rfl, rfl, rfl, rfl, rfl, rfl, rfl, rfl, rfl, ⟨rfl, trivial⟩, ⟨⟨⟨rfl, rfl, .inl rfl⟩, rfl, rfl, rfl, trivial⟩, ⟨rfl, trivial⟩, trivial⟩, trivial⟩ ?_
  conv => whnf
  refine callP.pure _ h71 ⟨rfl, rfl⟩ ?_
  repeat' ((conv => whnf); (first | with_reducible refine brec (fun _ => ?_) (fun _ => ?_) | (refine callP.pure _ h70 ⟨rfl, rfl⟩ ?_) | (refine callP.pure _ h72 ⟨rfl, rfl⟩ ?_) | fail))
  all_goals (conv => whnf)
  all_goals (first | (rw [en20b]; exact fin_tx0 rfl rfl rfl) | (rw [en20w]; exact fin_tx0 rfl rfl rfl) | (rw [en20 (by assumption)]; exact fin_tx0 rfl rfl rfl) | (rw [en4 (by assumption) (by assumption)]; exact fin_tx0 rfl rfl rfl) | (rw [en0 (by assumption) (by assumption)]; exact fin_tx0 rfl rfl rfl))
set_option maxHeartbeats 8000000 in
theorem b29_tt (W0 : Go.World) (s : S) (hl : s.length ≤ 140737488355328) (l : List T) (hR : tokR1 s = l) (h : tokR2 s = 0) (p : Nat) (M : Mem) (a b : S) (m : Int) (xs : List Exp)
    (h71 : Ctr Tryz.prog W0 71 [eE (.mk a b m xs)] [] (pairT (nE (.mk a b m xs)) (dpE (.mk a b m xs))) []) (h70 : Ctr Tryz.prog W0 70 [eE (.mk a b m xs)] [] (.sc (.b true)) []) (hw : wellE (.mk a b m xs) = true)
    (hc : Ctr Tryz.prog W0 74 [.ptr 0 0] [rbx l ⟨0, false⟩, mbx []] (eE (.mk a b m xs)) [rbx l ⟨p, true⟩, mbx M]) : Body (Ctr Tryz.prog W0) F29.ac F29.rs [.sc (.s s)] [] (txtX (prX l (.mk a b m xs, ⟨p, true⟩)) (prC l (.mk a b m xs, ⟨p, true⟩))) [] := by
  have h22 := c22 W0 s hl
  rw [hR, h] at h22
  have hd := toksD_length l
  have h72 := c72 W0 (nE (.mk a b m xs)) (dpE (.mk a b m xs))
  have ec : prC l (.mk a b m xs, ⟨p, true⟩) = endC l ⟨p, true⟩ true (nE (.mk a b m xs)) (dpE (.mk a b m xs)) := by simp only [prC, hw]
  have ex : prX l (.mk a b m xs, ⟨p, true⟩) = bif decide (endC l ⟨p, true⟩ true (nE (.mk a b m xs)) (dpE (.mk a b m xs)) = 0) then .mk a b m xs else ex0 := by simp only [prX, ec]
  rw [ec, ex]
  generalize nE (.mk a b m xs) = n1 at h71 h72 ⊢
  generalize dpE (.mk a b m xs) = d1 at h71 h72 ⊢
  conv => whnf
  refine callP.pure _ h22 ⟨rfl, rfl⟩ ?_
  conv => whnf
  refine callP.full [2400, 2200] [] [.ptr 0 0] [rbx l ⟨0, false⟩, mbx []] [rbx l ⟨p, true⟩, mbx M] _ hc ⟨rfl, rfl, rfl, rfl, rfl, rfl, rfl, rfl, rfl, rfl, ⟨rfl, trivial⟩, ⟨⟨⟨rfl, rfl, .inl rfl⟩, rfl, rfl, rfl, trivial⟩, ⟨rfl, trivial⟩, trivial⟩, trivial⟩ ?_
  conv => whnf
  refine callP.pure _ h71 ⟨rfl, rfl⟩ ?_
  repeat' ((conv => whnf); (first | with_reducible refine brec (fun _ => ?_) (fun _ => ?_) | (refine callP.pure _ h70 ⟨rfl, rfl⟩ ?_) | (refine callP.pure _ h72 ⟨rfl, rfl⟩ ?_) | fail))
  all_goals (conv => whnf)
  all_goals (first | (rw [en20b]; exact fin_tx0 rfl rfl rfl) | (rw [en20w]; exact fin_tx0 rfl rfl rfl) | (rw [en20 (by assumption)]; exact fin_tx0 rfl rfl rfl) | (rw [en4 (by assumption) (by assumption)]; exact fin_tx0 rfl rfl rfl) | (rw [en0 (by assumption) (by assumption)]; exact fin_tx0 rfl rfl rfl))
set_option maxHeartbeats 8000000 in
theorem b29_tf (W0 : Go.World) (s : S) (hl : s.length ≤ 140737488355328) (l : List T) (hR : tokR1 s = l) (h : tokR2 s = 0) (p : Nat) (M : Mem) (a b : S) (m : Int) (xs : List Exp)
    (h71 : Ctr Tryz.prog W0 71 [eE (.mk a b m xs)] [] (pairT (nE (.mk a b m xs)) (dpE (.mk a b m xs))) []) (h70 : Ctr Tryz.prog W0 70 [eE (.mk a b m xs)] [] (.sc (.b false)) []) (hw : wellE (.mk a b m xs) = false)
    (hc : Ctr Tryz.prog W0 74 [.ptr 0 0] [rbx l ⟨0, false⟩, mbx []] (eE (.mk a b m xs)) [rbx l ⟨p, true⟩, mbx M]) : Body (Ctr Tryz.prog W0) F29.ac F29.rs [.sc (.s s)] [] (txtX (prX l (.mk a b m xs, ⟨p, true⟩)) (prC l (.mk a b m xs, ⟨p, true⟩))) [] := by
  have h22 := c22 W0 s hl
  rw [hR, h] at h22
  have hd := toksD_length l
  have h72 := c72 W0 (nE (.mk a b m xs)) (dpE (.mk a b m xs))
  have ec : prC l (.mk a b m xs, ⟨p, true⟩) = endC l ⟨p, true⟩ false (nE (.mk a b m xs)) (dpE (.mk a b m xs)) := by simp only [prC, hw]
  have ex : prX l (.mk a b m xs, ⟨p, true⟩) = bif decide (endC l ⟨p, true⟩ false (nE (.mk a b m xs)) (dpE (.mk a b m xs)) = 0) then .mk a b m xs else ex0 := by simp only [prX, ec]
  rw [ec, ex]
  generalize nE (.mk a b m xs) = n1 at h71 h72 ⊢
  generalize dpE (.mk a b m xs) = d1 at h71 h72 ⊢
  conv => whnf
  refine callP.pure _ h22 ⟨rfl, rfl⟩ ?_
  conv => whnf
  refine callP.full [2400, 2200] [] [.ptr 0 0] [rbx l ⟨0, false⟩, mbx []] [rbx l ⟨p, true⟩, mbx M] _ hc ⟨rfl, rfl, rfl, rfl, rfl, rfl, rfl, rfl, rfl, rfl, ⟨rfl, trivial⟩, ⟨⟨⟨rfl, rfl, .inl rfl⟩, rfl, rfl, rfl, trivial⟩, ⟨rfl, trivial⟩, trivial⟩, trivial⟩ ?_
  conv => whnf
  refine callP.pure _ h71 ⟨rfl, rfl⟩ ?_
  repeat' ((conv => whnf); (first | with_reducible refine brec (fun _ => ?_) (fun _ => ?_) | (refine callP.pure _ h70 ⟨rfl, rfl⟩ ?_) | (refine callP.pure _ h72 ⟨rfl, rfl⟩ ?_) | fail))
  all_goals (conv => whnf)
  all_goals (first | (rw [en20b]; exact fin_tx0 rfl rfl rfl) | (rw [en20w]; exact fin_tx0 rfl rfl rfl) | (rw [en20 (by assumption)]; exact fin_tx0 rfl rfl rfl) | (rw [en4 (by assumption) (by assumption)]; exact fin_tx0 rfl rfl rfl) | (rw [en0 (by assumption) (by assumption)]; exact fin_tx0 rfl rfl rfl))
theorem c29 (W0 : Go.World) (hk : Wk W0) (s : S) (hl : s.length ≤ 140737488355328) (hlen : (tokR1 s).length ≤ 1048576) (ht : tOK (tokR1 s)) :
    Ctr Tryz.prog W0 29 [.sc (.s s)] [] (txtX (paX s (rE (tokR1 s) ⟨0, false⟩)) (paC s (rE (tokR1 s) ⟨0, false⟩))) [] := by
  by_cases h : tokR2 s = 0
  · have hph : Ph (tokR1 s) ⟨0, false⟩ ≤ 4000000000000 := by simp only [Ph, cond_false]; omega
    obtain ⟨M, _, hc⟩ := c74 W0 hk (tokR1 s) (by omega) ht _ ⟨0, false⟩ [] (Nat.lt_succ_self _) (fun _ => Nat.zero_le _) hph (fun _ _ h => by cases h)
    have hz := sz_rE (tokR1 s) ht _ ⟨0, false⟩ (Nat.lt_succ_self _)
    have hmv := (mv_rE (tokR1 s) _ ⟨0, false⟩ (Nat.lt_succ_self _) (fun _ => Nat.zero_le _))
    have hpe := hmv.ph
    have hwf := hmv.wf
    have e1 : paX s (rE (tokR1 s) ⟨0, false⟩) = prX (tokR1 s) (rE (tokR1 s) ⟨0, false⟩) := by simp [paX, h]
    have e2 : paC s (rE (tokR1 s) ⟨0, false⟩) = prC (tokR1 s) (rE (tokR1 s) ⟨0, false⟩) := by simp [paC, h]
    rw [e1, e2]
    generalize rE (tokR1 s) ⟨0, false⟩ = q at hc hz hpe hwf ⊢
    obtain ⟨⟨a, b, m, xs⟩, ⟨p, bad⟩⟩ := q
    have hsz := hz.sz
    simp only at hsz hpe hc hwf
    have hp : (p : Int) ≤ 10000000 := by
      cases bad with
      | true => simp only [Ph, cond_true, cond_false] at hpe; omega
      | false => have := hwf rfl; omega
    have hx := ok_smE _ hz.sm (by simp only; omega)
    have hn : nE (.mk a b m xs) ≤ 1152921504606846976 := by omega
    have h71 := c71 W0 _ hx hn
    have h70 := c70 W0 hk _ hx
    rw [shE_eq] at h70
    refine ctr_body follows F29_ok rfl (fun _ _ h => by cases h) rfl rfl ?_
    cases hw : wellE (.mk a b m xs) with
    | true =>
      rw [hw] at h70
      cases bad with
      | true => exact b29_tt W0 s hl _ rfl h p M a b m xs h71 h70 hw hc
      | false => exact b29_ft W0 s hl _ rfl h p M a b m xs h71 h70 hw hc
    | false =>
      rw [hw] at h70
      cases bad with
      | true => exact b29_tf W0 s hl _ rfl h p M a b m xs h71 h70 hw hc
      | false => exact b29_ff W0 s hl _ rfl h p M a b m xs h71 h70 hw hc
  · have e1 : paX s (rE (tokR1 s) ⟨0, false⟩) = ex0 := by simp [paX, h]
    have e2 : paC s (rE (tokR1 s) ⟨0, false⟩) = tokR2 s := by simp [paC, h]
    rw [e1, e2]
    exact ctr_body follows F29_ok rfl (fun _ _ h => by cases h) rfl rfl (b29_err W0 s hl h)
end Go.Abs
