/- The reader of the reference, as a pure function; how far it goes. -/
import Derived.Test.YthmcdebdkbhbmaaGreatDoorMp
import Derived.Test.YthmcdebdkbhbmaaGreatDoorMl
set_option maxRecDepth 100000
namespace Go.Abs
open Go.Proofs
def ex0 : Exp := .mk [] [] 0 []
/-- where a call may stand: behind place a0, if nothing is bad -/
def Cd (l : List T) (a0 : Nat) (s : PS) : Prop := s.bad = false → a0 < s.a ∧ s.a ≤ l.length
def Ph (l : List T) (s : PS) : Int := bif s.bad then (s.a : Int) else (l.length : Int) + 6 * ((l.length : Int) + 1 - s.a)
structure Mv (l : List T) (k : Int) (j : Nat) (s s1 : PS) : Prop where
  ph : Ph l s1 ≤ Ph l s + k
  ok : s1.bad = false → s.bad = false ∧ s.a + j ≤ s1.a ∧ s1.a ≤ l.length
theorem Mv.refl {l : List T} {s : PS} (h : s.bad = false → s.a ≤ l.length) : Mv l 0 0 s s := ⟨by omega, fun hb => ⟨hb, Nat.le_refl _, h hb⟩⟩
theorem Mv.trans {l : List T} {k k' : Int} {j j' : Nat} {s s1 s2 : PS} (h : Mv l k j s s1) (g : Mv l k' j' s1 s2) : Mv l (k + k') (j + j') s s2 :=
  ⟨by have := h.ph; have := g.ph; omega, fun hb => by
    obtain ⟨g1, g2, g3⟩ := g.ok hb
    obtain ⟨h1, h2, _⟩ := h.ok g1
    exact ⟨h1, by omega, g3⟩⟩
theorem Mv.mono {l : List T} {k k' : Int} {j j' : Nat} {s s1 : PS} (h : Mv l k j s s1) (hk : k ≤ k') (hj : j' ≤ j) : Mv l k' j' s s1 :=
  ⟨by have := h.ph; omega, fun hb => by obtain ⟨h1, h2, h3⟩ := h.ok hb; exact ⟨h1, by omega, h3⟩⟩
theorem Mv.wf {l : List T} {k : Int} {j : Nat} {s s1 : PS} (h : Mv l k j s s1) : s1.bad = false → s1.a ≤ l.length := fun hb => (h.ok hb).2.2
theorem Mv.cd {l : List T} {k : Int} {j a0 : Nat} {s s1 : PS} (h : Mv l k j s s1) (hc : Cd l a0 s) : Cd l a0 s1 := fun hb => by
  obtain ⟨h1, h2, h3⟩ := h.ok hb
  exact ⟨by have := (hc h1).1; omega, h3⟩
theorem Mv.cd1 {l : List T} {k : Int} {j : Nat} {s s1 : PS} (h : Mv l k (j + 1) s s1) : Cd l s.a s1 := fun hb => by
  obtain ⟨h1, h2, h3⟩ := h.ok hb
  exact ⟨by omega, h3⟩
/-- a token is taken -/
theorem mv_step {l : List T} {s : PS} {c : Bool} (h : s.bad = false → s.a ≤ l.length) (hc : s.bad = false → c = false → s.a < l.length) : Mv l 1 1 s ⟨s.a + 1, s.bad || c⟩ := by
  obtain ⟨a, b⟩ := s
  cases b with
  | true => exact ⟨by simp [Ph], by simp⟩
  | false =>
    have h := h rfl
    cases c with
    | true => exact ⟨by simp only [Ph, Bool.false_or, cond_true, cond_false] at h ⊢; omega, by simp⟩
    | false =>
      have hc := hc rfl rfl
      exact ⟨by simp only [Ph, Bool.false_or, cond_false] at h hc ⊢; omega, fun _ => ⟨rfl, Nat.le_refl _, hc⟩⟩
theorem mv_first {l : List T} {s : PS} {c : Bool} (hb : s.bad = false) (h : s.a ≤ l.length) (hc : c = false → s.a < l.length) : Mv l (-5) 1 s ⟨s.a + 1, s.bad || c⟩ := by
  obtain ⟨a, b⟩ := s
  cases hb
  cases c with
  | true => exact ⟨by simp only [Ph, Bool.false_or, cond_true, cond_false] at h ⊢; omega, by simp⟩
  | false =>
    have hc := hc rfl
    exact ⟨by simp only [Ph, Bool.false_or, cond_false] at h hc ⊢; omega, fun _ => ⟨rfl, Nat.le_refl _, hc⟩⟩
theorem peek_lt {l : List T} {s : PS} (h : (pPeek l s).1 ≠ [] ∨ (pPeek l s).2.1 ≠ []) : s.bad = false ∧ s.a < l.length := by
  have : ¬ (s.bad = true ∨ l.length ≤ s.a) := fun hh => by rw [pPeek_not hh] at h; rcases h with h | h <;> exact h rfl
  constructor
  · cases hb : s.bad with
    | false => rfl
    | true => exact absurd (.inl hb) this
  · exact Nat.lt_of_not_le fun hh => this (.inr hh)
theorem is_lt {l : List T} {s : PS} {x : S} (h : pIs l s x = true) : s.bad = false ∧ s.a < l.length := by
  refine peek_lt (.inl fun e => ?_)
  simp [pIs, e, beqL] at h
theorem mv_want {l : List T} {s : PS} (x : S) (h : s.bad = false → s.a ≤ l.length) : Mv l 1 1 s (rWant l s x) :=
  mv_step h fun _ hc => (is_lt (by simpa using hc)).2
theorem mv_want1 {l : List T} {s : PS} (x : S) (hb : s.bad = false) (h : s.a ≤ l.length) : Mv l (-5) 1 s (rWant l s x) :=
  mv_first hb h fun hc => (is_lt (by simpa using hc)).2
theorem mv_take {l : List T} {s : PS} {x : S} (hx : x ≠ []) (h : s.bad = false → s.a ≤ l.length) : Mv l 1 1 s (rTake l s x) :=
  mv_step h fun _ hc => (peek_lt (.inl fun e => by rw [e] at hc; simp [beqL] at hc; first | exact hx hc | exact hx hc.symm)).2
theorem mv_num {l : List T} {s : PS} (h : s.bad = false → s.a ≤ l.length) : Mv l 1 1 s (rNum l s) := by
  have := mv_step (l := l) (s := s) (c := !beqL (pPeek l s).1 [105, 110, 116] || !decide (numC (pPeek l s).2.1 = 0)) h fun _ hc => (peek_lt (.inl fun e => by rw [e] at hc; simp [beqL] at hc)).2
  rw [← Bool.or_assoc] at this
  exact this
theorem mv_num1 {l : List T} {s : PS} (hb : s.bad = false) (h : s.a ≤ l.length) : Mv l (-5) 1 s (rNum l s) := by
  have := mv_first (l := l) (s := s) (c := !beqL (pPeek l s).1 [105, 110, 116] || !decide (numC (pPeek l s).2.1 = 0)) hb h fun hc => (peek_lt (.inl fun e => by rw [e] at hc; simp [beqL] at hc)).2
  rw [← Bool.or_assoc] at this
  exact this
theorem mv_word {l : List T} {s : PS} {W : List S} (h : s.bad = false → s.a ≤ l.length) : Mv l 1 1 s (rWord l s W) :=
  mv_step h fun _ hc => (peek_lt (.inl fun e => by rw [e] at hc; simp [beqL] at hc)).2
theorem mv_at {l : List T} {s : PS} (hb : s.bad = false) (h : s.a < l.length) : Mv l (-6) 1 s ⟨s.a + 1, s.bad⟩ := by
  obtain ⟨a, b⟩ := s
  cases hb
  exact ⟨by simp only [Ph, cond_false] at h ⊢; omega, fun _ => ⟨rfl, Nat.le_refl _, h⟩⟩
/-- what is asked of a reader of expressions -/
def Rd0 (l : List T) (a0 : Nat) (E : PS → Exp × PS) : Prop := ∀ s, Cd l a0 s → Mv l 0 1 s (E s).2
def rLoop (l : List T) (E : PS → Exp × PS) : Nat → PS → List Exp × PS
  | 0, s => ([], s)
  | f + 1, s => bif s.bad then ([], s) else
    bif pIs l (E s).2 [44] then ((E s).1 :: (rLoop l E f ⟨(E s).2.a + 1, (E s).2.bad⟩).1, (rLoop l E f ⟨(E s).2.a + 1, (E s).2.bad⟩).2)
    else ([(E s).1], (E s).2)
def rExps (l : List T) (E : PS → Exp × PS) (x : S) (s : PS) : List Exp × PS :=
  bif pIs l s x then ([], ⟨s.a + 1, s.bad⟩) else ((rLoop l E (l.length + 2) s).1, rWant l (rLoop l E (l.length + 2) s).2 x)
theorem mv_loop {l : List T} {a0 : Nat} {E : PS → Exp × PS} (hE : Rd0 l a0 E) : ∀ (f : Nat) (s : PS), Cd l a0 s → Mv l 0 0 s (rLoop l E f s).2
  | 0, s, h => .refl fun hb => (h hb).2
  | f + 1, s, h => by
    have h1 := hE s h
    simp only [rLoop]
    cases hb : s.bad with
    | true => exact .refl fun hb' => absurd hb' (by simp [hb])
    | false =>
      simp only [cond_false]
      cases hc : pIs l (E s).2 [44] with
      | true =>
        obtain ⟨g1, g2⟩ := is_lt hc
        have h2 := mv_at g1 g2
        exact ((h1.trans h2).trans (mv_loop hE f _ ((h1.trans h2).cd h))).mono (by omega) (by omega)
      | false => exact h1.mono (by omega) (by omega)
theorem mv_exps {l : List T} {a0 : Nat} {E : PS → Exp × PS} {x : S} (hE : Rd0 l a0 E) (s : PS) (h : Cd l a0 s) : Mv l 1 1 s (rExps l E x s).2 := by
  simp only [rExps]
  cases hc : pIs l s x with
  | true =>
    obtain ⟨g1, g2⟩ := is_lt hc
    exact (mv_at g1 g2).mono (by omega) (Nat.le_refl _)
  | false =>
    have h1 := mv_loop hE (l.length + 2) s h
    exact (h1.trans (mv_want x h1.wf)).mono (by omega) (by omega)
def rIsCall (l : List T) (E : PS → Exp × PS) (s : PS) : Bool :=
  bif pIs l s [40] then (bif pIs l ⟨s.a + 1, s.bad⟩ [41] then true else (pIs l (E ⟨s.a + 1, s.bad⟩).2 [44] || pIs l (E ⟨s.a + 1, s.bad⟩).2 [41])) else false
def opWs : List S := [[43], [45], [42], [47], [37], [60], [60, 61], [61, 61], [38], [124]]
def rInside (l : List T) (E : PS → Exp × PS) (s : PS) : Exp × PS :=
  bif (beqL (pPeek l s).1 [107, 101, 121] && (!beqL (pPeek l s).2.1 [116, 114, 117, 101] && !beqL (pPeek l s).2.1 [102, 97, 108, 115, 101])) || beqL (pPeek l s).2.1 [33] then
    (bif hasB (pPeek l s).2.1 [[109, 105, 110], [109, 97, 120]] then (.mk [111, 112] (pPeek l s).2.1 0 [(E ⟨s.a + 1, s.bad⟩).1, (E (E ⟨s.a + 1, s.bad⟩).2).1], (E (E ⟨s.a + 1, s.bad⟩).2).2) else
     bif hasB (pPeek l s).2.1 [[33], [105, 110, 116]] then (.mk [111, 112] (pPeek l s).2.1 0 [(E ⟨s.a + 1, s.bad⟩).1], (E ⟨s.a + 1, s.bad⟩).2) else
     bif hasB (pPeek l s).2.1 [[110, 111, 110, 101]] then (.mk (pPeek l s).2.1 (pPeek l ⟨s.a + 1, s.bad⟩).2.1 0 [], rWord l ⟨s.a + 1, s.bad⟩ ws0) else
     bif hasB (pPeek l s).2.1 [[114, 101, 97, 100], [103, 101, 116], [99, 111, 117, 110, 116]] then (.mk (pPeek l s).2.1 (pPeek l ⟨s.a + 1, s.bad⟩).2.1 0 [], rTake l ⟨s.a + 1, s.bad⟩ [110, 97, 109, 101]) else
     bif hasB (pPeek l s).2.1 [[108, 111, 119], [104, 105, 103, 104]] then (.mk (pPeek l s).2.1 (pPeek l ⟨s.a + 1, s.bad⟩).2.1 (numV (pPeek l (rTake l ⟨s.a + 1, s.bad⟩ [110, 97, 109, 101])).2.1) [], rNum l (rTake l ⟨s.a + 1, s.bad⟩ [110, 97, 109, 101])) else
     bif hasB (pPeek l s).2.1 [[111, 114, 100], [104, 97, 115]] then (.mk (pPeek l s).2.1 (pPeek l ⟨s.a + 1, s.bad⟩).2.1 0 (rExps l E [93] (rWant l (rTake l ⟨s.a + 1, s.bad⟩ [110, 97, 109, 101]) [91])).1, (rExps l E [93] (rWant l (rTake l ⟨s.a + 1, s.bad⟩ [110, 97, 109, 101]) [91])).2) else
     bif hasB (pPeek l s).2.1 [[110, 116, 104]] then (.mk (pPeek l s).2.1 (pPeek l ⟨s.a + 1, s.bad⟩).2.1 (numV (pPeek l (rTake l ⟨s.a + 1, s.bad⟩ [110, 97, 109, 101])).2.1) [(E (rNum l (rTake l ⟨s.a + 1, s.bad⟩ [110, 97, 109, 101]))).1], (E (rNum l (rTake l ⟨s.a + 1, s.bad⟩ [110, 97, 109, 101]))).2) else
     (ex0, ⟨s.a + 1, true⟩))
  else (.mk [111, 112] (pPeek l (E s).2).2.1 0 [(E s).1, (E (rWord l (E s).2 opWs)).1], (E (rWord l (E s).2 opWs)).2)
def rStep (l : List T) (E : PS → Exp × PS) (s : PS) : Exp × PS :=
  bif beqL (pPeek l s).1 [105, 110, 116] then (.mk [105, 110, 116] [] (numV (pPeek l s).2.1) [], rNum l s) else
  bif pIs l s [116, 114, 117, 101] || pIs l s [102, 97, 108, 115, 101] then (.mk [98, 111, 111, 108] [] (bif beqL (pPeek l s).2.1 [116, 114, 117, 101] then 1 else 0) [], ⟨s.a + 1, s.bad⟩) else
  bif beqL (pPeek l s).1 [110, 97, 109, 101] then
    (bif pIs l ⟨s.a + 1, s.bad⟩ [91] then (.mk [97, 116] (pPeek l s).2.1 0 (rExps l E [93] ⟨s.a + 1 + 1, s.bad⟩).1, (rExps l E [93] ⟨s.a + 1 + 1, s.bad⟩).2) else
     bif rIsCall l E ⟨s.a + 1, s.bad⟩ then (.mk [99, 97, 108, 108] (pPeek l s).2.1 0 (rExps l E [41] ⟨s.a + 1 + 1, s.bad⟩).1, (rExps l E [41] ⟨s.a + 1 + 1, s.bad⟩).2) else
     (.mk [118, 97, 114] (pPeek l s).2.1 0 [], ⟨s.a + 1, s.bad⟩)) else
  ((rInside l E (rWant l s [40])).1, rWant l (rInside l E (rWant l s [40])).2 [41])
theorem cndS {α : Type} {c : Bool} {a b : α × PS} {P : PS → Prop} (ha : P a.2) (hb : P b.2) : P (bif c then a else b).2 := by cases c <;> assumption
theorem cndM {α : Type} {c : Bool} {a b : α × PS} {P : PS → Prop} (ha : c = true → P a.2) (hb : c = false → P b.2) : P (bif c then a else b).2 := by cases c with | true => exact ha rfl | false => exact hb rfl
theorem mv_inside {l : List T} {a0 : Nat} {E : PS → Exp × PS} (hE : Rd0 l a0 E) (s : PS) (h : Cd l a0 s) : Mv l 1 1 s (rInside l E s).2 := by
  simp only [rInside]
  refine cndM (P := Mv l 1 1 s) (fun hc => ?_) (fun _ => ?_)
  · have hlt : s.bad = false ∧ s.a < l.length := by
      refine peek_lt ?_
      rw [Bool.or_eq_true] at hc
      rcases hc with hc | hc
      · left; intro e; simp [e, beqL] at hc
      · right; intro e; simp [e, beqL] at hc
    have h1 := mv_at hlt.1 hlt.2
    have c1 := h1.cd h
    have e1 := hE _ c1
    have hn : ([110, 97, 109, 101] : S) ≠ [] := by decide
    have t1 := mv_take (x := [110, 97, 109, 101]) hn h1.wf
    have n1 := mv_num t1.wf
    have w1 := mv_want [91] t1.wf
    repeat' (with_reducible refine cndS (P := Mv l 1 1 s) ?_ ?_)
    · exact ((h1.trans e1).trans (hE _ (e1.cd c1))).mono (by omega) (by omega)
    · exact (h1.trans e1).mono (by omega) (by omega)
    · exact (h1.trans (mv_word h1.wf)).mono (by omega) (by omega)
    · exact (h1.trans t1).mono (by omega) (by omega)
    · exact ((h1.trans t1).trans n1).mono (by omega) (by omega)
    · exact (((h1.trans t1).trans w1).trans (mv_exps hE _ (w1.cd (t1.cd c1)))).mono (by omega) (by omega)
    · exact (((h1.trans t1).trans n1).trans (hE _ (n1.cd (t1.cd c1)))).mono (by omega) (by omega)
    · have := mv_first (l := l) (s := s) (c := true) hlt.1 (by omega) (by simp)
      rw [Bool.or_true] at this
      exact this.mono (by omega) (by omega)
  · have e1 := hE s h
    have w1 := mv_word (W := opWs) e1.wf
    exact ((e1.trans w1).trans (hE _ (w1.cd (e1.cd h)))).mono (by omega) (by omega)
theorem mv_rstep {l : List T} {E : PS → Exp × PS} (s : PS) (hE : Rd0 l s.a E) (hb : s.bad = false) (hs : s.a ≤ l.length) : Mv l 0 1 s (rStep l E s).2 := by
  simp only [rStep]
  refine cndM (P := Mv l 0 1 s) (fun _ => (mv_num1 hb hs).mono (by omega) (by omega)) (fun _ => ?_)
  refine cndM (P := Mv l 0 1 s) (fun hc => ?_) (fun _ => ?_)
  · have : s.a < l.length := by
      rw [Bool.or_eq_true] at hc
      rcases hc with hc | hc <;> exact (is_lt hc).2
    exact (mv_at hb this).mono (by omega) (by omega)
  refine cndM (P := Mv l 0 1 s) (fun hc => ?_) (fun _ => ?_)
  · have hlt : s.a < l.length := (peek_lt (.inl fun e => by simp [e, beqL] at hc)).2
    have h1 := mv_at hb hlt
    refine cndM (P := Mv l 0 1 s) (fun hq => ?_) (fun _ => ?_)
    · obtain ⟨_, q2⟩ := is_lt hq
      have h2 := mv_at (s := ⟨s.a + 1, s.bad⟩) hb q2
      exact ((h1.trans h2).trans (mv_exps hE _ (h2.cd h1.cd1))).mono (by omega) (by omega)
    refine cndM (P := Mv l 0 1 s) (fun hq => ?_) (fun _ => h1.mono (by omega) (by omega))
    have hq2 : pIs l ⟨s.a + 1, s.bad⟩ [40] = true := by
      cases hp : pIs l ⟨s.a + 1, s.bad⟩ [40] with
      | true => rfl
      | false => simp [rIsCall, hp] at hq
    obtain ⟨_, q2⟩ := is_lt hq2
    have h2 := mv_at (s := ⟨s.a + 1, s.bad⟩) hb q2
    exact ((h1.trans h2).trans (mv_exps hE _ (h2.cd h1.cd1))).mono (by omega) (by omega)
  · have w1 := mv_want1 [40] hb hs
    have i1 := mv_inside hE _ w1.cd1
    exact ((w1.trans i1).trans (mv_want [41] i1.wf)).mono (by omega) (by omega)
/-- the reader, guarded by places -/
def rE (l : List T) (s : PS) : Exp × PS :=
  if _h : s.bad = false ∧ s.a ≤ l.length then rStep l (fun s' => if _h' : s'.bad = false ∧ s.a < s'.a ∧ s'.a ≤ l.length then rE l s' else (ex0, ⟨s'.a, true⟩)) s
  else (ex0, ⟨s.a, true⟩)
termination_by l.length - s.a
/-- what is read behind place a -/
def rG (l : List T) (a : Nat) (s : PS) : Exp × PS := if s.bad = false ∧ a < s.a ∧ s.a ≤ l.length then rE l s else (ex0, ⟨s.a, true⟩)
theorem rE_eq (l : List T) (s : PS) (hb : s.bad = false) (hs : s.a ≤ l.length) : rE l s = rStep l (rG l s.a) s := by
  rw [rE, dif_pos ⟨hb, hs⟩]
  congr 1
theorem rE_bad (l : List T) (s : PS) (hb : s.bad = true) : rE l s = (ex0, s) := by
  rw [rE, dif_neg (by simp [hb])]
  obtain ⟨a, b⟩ := s
  cases hb; rfl
theorem rG_eq {l : List T} {a0 : Nat} {s : PS} (h : Cd l a0 s) : rG l a0 s = rE l s := by
  unfold rG
  cases hb : s.bad with
  | true => rw [if_neg (by simp), rE_bad l s hb]; obtain ⟨a, b⟩ := s; cases hb; rfl
  | false => rw [if_pos ⟨rfl, h hb⟩]
theorem mv_rE (l : List T) : ∀ (n : Nat) (s : PS), l.length - s.a < n → (s.bad = false → s.a ≤ l.length) → Mv l 0 1 s (rE l s).2
  | 0, _, h, _ => absurd h (Nat.not_lt_zero _)
  | n + 1, s, hn, h => by
    cases hb : s.bad with
    | true => rw [rE_bad l s hb]; exact ⟨by simp only; omega, fun h' => by simp only at h'; rw [hb] at h'; cases h'⟩
    | false =>
      rw [rE_eq l s hb (h hb)]
      refine mv_rstep s (fun s' hc => ?_) hb (h hb)
      rw [rG_eq hc]
      cases hb' : s'.bad with
      | true => rw [rE_bad l s' hb']; exact ⟨by simp only; omega, fun h' => by simp only at h'; rw [hb'] at h'; cases h'⟩
      | false => exact mv_rE l n s' (by have := hc hb'; omega) (fun hb => (hc hb).2)
theorem rd_rG (l : List T) (a0 : Nat) : Rd0 l a0 (rG l a0) := fun s hc => by rw [rG_eq hc]; exact mv_rE l _ s (Nat.lt_succ_self _) (fun hb => (hc hb).2)
end Go.Abs

set_option maxRecDepth 100000
namespace Go.Abs
open Go.Proofs
def F182 : Fn := ⟨.seq (.reg [⟨none, .mv 4 (.c (.sl 4 [] .full))⟩]) (.seq (.reg [⟨none, .mv 5 (.c (.sl 4 [] .full))⟩]) (.seq (.seq (.reg [⟨none, .mv 6 (.t 0)⟩, ⟨none, .mv 7 (.t 1)⟩, ⟨none, .call (some 8) (.c (.fn 60 [])) [.t 6, .t 7]⟩]) (.cond (.t 8) (.seq (.reg [⟨none, .mv 9 (.t 0)⟩, ⟨none, .nc 10 (.t 9)⟩, ⟨none, .fa 11 (.t 10) 1⟩, ⟨none, .ld 12 1 false (.t 11)⟩, ⟨none, .bin 13 .add (.t 12) (.c (.sc (.i .i64 1)))⟩, ⟨none, .nc 14 (.t 9)⟩, ⟨none, .fa 15 (.t 14) 1⟩, ⟨none, .st (.t 15) 1 (.t 13)⟩]) (.seq (.reg [⟨none, .mv 4 (.c (.sl 4 [] .full))⟩]) .ret)) .skip)) (.seq (.block 0 (.loop (.seq (.seq (.reg [⟨none, .mv 16 (.t 0)⟩, ⟨none, .nc 17 (.t 16)⟩, ⟨none, .fa 18 (.t 17) 2⟩, ⟨none, .ld 19 1 false (.t 18)⟩, ⟨none, .no 20 (.t 19)⟩]) (.cond (.t 20) .skip (.exit 0))) (.block 1 (.seq (.reg [⟨none, .mv 21 (.t 5)⟩, ⟨none, .mv 22 (.t 0)⟩, ⟨none, .call (some 23) (.c (.fn 74 [])) [.t 22]⟩, ⟨none, .bsl 24 4 [.t 23]⟩, ⟨none, .app 25 4 64 (.t 21) (.t 24)⟩, ⟨none, .mv 5 (.t 25)⟩]) (.seq (.seq (.reg [⟨none, .mv 26 (.t 0)⟩, ⟨none, .call (some 27) (.c (.fn 60 [])) [.t 26, .c (.sc (.s [44]))]⟩, ⟨none, .no 28 (.t 27)⟩]) (.cond (.t 28) (.exit 0) .skip)) (.reg [⟨none, .mv 29 (.t 0)⟩, ⟨none, .nc 30 (.t 29)⟩, ⟨none, .fa 31 (.t 30) 1⟩, ⟨none, .ld 32 1 false (.t 31)⟩, ⟨none, .bin 33 .add (.t 32) (.c (.sc (.i .i64 1)))⟩, ⟨none, .nc 34 (.t 29)⟩, ⟨none, .fa 35 (.t 34) 1⟩, ⟨none, .st (.t 35) 1 (.t 33)⟩]))))))) (.seq (.reg [⟨none, .mv 36 (.t 0)⟩, ⟨none, .mv 37 (.t 1)⟩, ⟨none, .bsl 38 1 [.t 37]⟩, ⟨none, .call (some 39) (.c (.fn 119 [])) [.t 36, .t 38]⟩]) (.seq (.reg [⟨none, .mv 40 (.t 5)⟩, ⟨none, .mv 4 (.t 40)⟩]) .ret))))), [(4, 0)], 41⟩
def F190 : Fn := ⟨.seq (.reg [⟨none, .mv 2 (.c (.sc (.b false)))⟩]) (.seq (.seq (.reg [⟨none, .mv 5 (.t 0)⟩, ⟨none, .call (some 6) (.c (.fn 60 [])) [.t 5, .c (.sc (.s [40]))]⟩, ⟨none, .no 7 (.t 6)⟩]) (.cond (.t 7) (.seq (.reg [⟨none, .mv 2 (.c (.sc (.b false)))⟩]) .ret) .skip)) (.seq (.reg [⟨none, .mv 8 (.t 0)⟩, ⟨none, .nc 9 (.t 8)⟩, ⟨none, .fa 10 (.t 9) 1⟩, ⟨none, .ld 11 1 false (.t 10)⟩, ⟨none, .mv 3 (.t 11)⟩]) (.seq (.reg [⟨none, .mv 12 (.t 0)⟩, ⟨none, .nc 13 (.t 12)⟩, ⟨none, .fa 14 (.t 13) 1⟩, ⟨none, .ld 15 1 false (.t 14)⟩, ⟨none, .bin 16 .add (.t 15) (.c (.sc (.i .i64 1)))⟩, ⟨none, .nc 17 (.t 12)⟩, ⟨none, .fa 18 (.t 17) 1⟩, ⟨none, .st (.t 18) 1 (.t 16)⟩]) (.seq (.reg [⟨none, .mv 19 (.t 0)⟩, ⟨none, .call (some 20) (.c (.fn 60 [])) [.t 19, .c (.sc (.s [41]))]⟩, ⟨none, .mv 4 (.t 20)⟩]) (.seq (.seq (.reg [⟨none, .mv 21 (.t 4)⟩, ⟨none, .no 22 (.t 21)⟩]) (.cond (.t 22) (.seq (.reg [⟨none, .mv 23 (.t 0)⟩, ⟨none, .call (some 24) (.c (.fn 74 [])) [.t 23]⟩]) (.reg [⟨none, .mv 25 (.t 0)⟩, ⟨none, .call (some 26) (.c (.fn 60 [])) [.t 25, .c (.sc (.s [44]))]⟩, ⟨none, .mv 27 (.t 26)⟩, ⟨some (27, false), .mv 28 (.t 0)⟩, ⟨some (27, false), .call (some 29) (.c (.fn 60 [])) [.t 28, .c (.sc (.s [41]))]⟩, ⟨none, .pick 30 (.t 27) (.c (.sc (.b true))) (.t 29)⟩, ⟨none, .mv 4 (.t 30)⟩])) .skip)) (.seq (.reg [⟨none, .mv 31 (.t 0)⟩, ⟨none, .mv 32 (.t 0)⟩, ⟨none, .mv 33 (.t 3)⟩, ⟨none, .nc 34 (.t 31)⟩, ⟨none, .fa 35 (.t 34) 1⟩, ⟨none, .st (.t 35) 1 (.t 33)⟩, ⟨none, .nc 36 (.t 32)⟩, ⟨none, .fa 37 (.t 36) 2⟩, ⟨none, .st (.t 37) 1 (.c (.sc (.b false)))⟩]) (.seq (.reg [⟨none, .mv 38 (.t 4)⟩, ⟨none, .mv 2 (.t 38)⟩]) .ret))))))), [(2, 0)], 39⟩
theorem F182_ok : compT Tryz.prog (fun _ => an0) 182 = some F182 := by kernel_rfl
theorem F190_ok : compT Tryz.prog (fun _ => an0) 190 = some F190 := by kernel_rfl
/-- a memo's entry -/
def findA (k : Int) : Mem → Option (Exp × Nat × Bool)
  | [] => none
  | (n, x) :: r => match decide (k = n) with | true => some x | false => findA k r
def insA (k : Int) (x : Exp × Nat × Bool) : Mem → Mem
  | [] => [(k, x)]
  | (n, y) :: r => match decide (k = n) with | true => (n, x) :: r | false => (n, y) :: insA k x r
theorem find_enc (k : Int) : ∀ M : Mem, findM k (encM M) = (findA k M).map entM
  | [] => rfl
  | (n, x) :: r => by
    have ih := find_enc k r
    simp only [encM, List.map_cons, findM, findA] at ih ⊢
    cases decide (k = n) <;> simp [ih]
theorem ins_enc (k : Int) (x : Exp × Nat × Bool) : ∀ M : Mem, insM k (entM x) (encM M) = encM (insA k x M)
  | [] => rfl
  | (n, y) :: r => by
    have ih := ins_enc k x r
    simp only [encM, List.map_cons, insM, insA] at ih ⊢
    cases decide (k = n) <;> simp [ih]
theorem find_ins (k n : Int) (x : Exp × Nat × Bool) : ∀ M : Mem, findA n (insA k x M) = if n = k then some x else findA n M
  | [] => by by_cases h : n = k <;> simp [insA, findA, h]
  | (q, y) :: r => by
    have ih := find_ins k n x r
    by_cases h1 : k = q
    · subst h1
      by_cases h : n = k <;> simp [insA, findA, h]
    · by_cases h2 : n = q
      · subst h2
        have : ¬ n = k := fun e => h1 e.symm
        simp [insA, findA, h1, this]
      · simp [insA, findA, h1, h2, ih]
/-- what is noted is what is read -/
def Inv (l : List T) (M : Mem) : Prop := ∀ (k : Int) (x : Exp × Nat × Bool), findA k M = some x → ∃ a : Nat, k = a ∧ x = ((rE l ⟨a, false⟩).1, (rE l ⟨a, false⟩).2.a, (rE l ⟨a, false⟩).2.bad)
theorem ph_a {l : List T} {s : PS} {k : Int} (h : s.bad = false → s.a ≤ l.length) (hl : l.length ≤ 549755813888) (hp : Ph l s ≤ k) (hk : k ≤ 4000000001000) : s.a ≤ 4000000001000 := by
  obtain ⟨a, b⟩ := s
  cases b with
  | true => simp only [Ph, cond_true] at hp; simp only; omega
  | false => have := h rfl; simp only at this ⊢; omega
structure RdC (W0 : Go.World) (l : List T) (a0 : Nat) (E : PS → Exp × PS) (m : PS → Mem → Mem) : Prop where
  rd : Rd0 l a0 E
  c : ∀ s M, Cd l a0 s → Ph l s ≤ 4000000000000 → Inv l M → Inv l (m s M) ∧ Ctr Tryz.prog W0 74 [.ptr 0 0] [rbx l s, mbx M] (eE (E s).1) [rbx l (E s).2, mbx (m s M)]
def mLoop (l : List T) (E : PS → Exp × PS) (m : PS → Mem → Mem) : Nat → PS → Mem → Mem
  | 0, _, M => M
  | f + 1, s, M => bif s.bad then M else bif pIs l (E s).2 [44] then mLoop l E m f ⟨(E s).2.a + 1, (E s).2.bad⟩ (m s M) else m s M
def mExps (l : List T) (E : PS → Exp × PS) (m : PS → Mem → Mem) (x : S) (s : PS) (M : Mem) : Mem := bif pIs l s x then M else mLoop l E m (l.length + 2) s M
theorem inv_loop {W0 : Go.World} {l : List T} {a0 : Nat} {E : PS → Exp × PS} {m : PS → Mem → Mem} (hR : RdC W0 l a0 E m) : ∀ (f : Nat) (s : PS) (M : Mem), Cd l a0 s → Ph l s ≤ 4000000000000 → Inv l M → Inv l (mLoop l E m f s M)
  | 0, _, _, _, _, h => h
  | f + 1, s, M, hc, hp, h => by
    have h1 := hR.rd s hc
    simp only [mLoop]
    cases s.bad with
    | true => exact h
    | false =>
      simp only [cond_false]
      cases hq : pIs l (E s).2 [44] with
      | true =>
        obtain ⟨g1, g2⟩ := is_lt hq
        have h2 := h1.trans (mv_at g1 g2)
        exact inv_loop hR f _ _ (h2.cd hc) (by have := h2.ph; omega) (hR.c s M hc hp h).1
      | false => exact (hR.c s M hc hp h).1
theorem inv_exps {W0 : Go.World} {l : List T} {a0 : Nat} {E : PS → Exp × PS} {m : PS → Mem → Mem} (hR : RdC W0 l a0 E m) (x : S) (s : PS) (M : Mem) (hc : Cd l a0 s) (hp : Ph l s ≤ 4000000000000) (h : Inv l M) : Inv l (mExps l E m x s M) := by
  simp only [mExps]
  cases pIs l s x with
  | true => exact h
  | false => exact inv_loop hR _ s M hc hp h
theorem fin_rw {σ : Log} {v res : AV} {l : List T} {s' : PS} {M : Mem} {e : List (List Data)} {t : Tok} {x : Int} {y : Bool} {es : List (Int × List Data)} (hb : look σ (.b 0) = some (.bx [.sl 3 e t, .sc (.i .i64 x), .sc (.b y), .mr 1])) (hm : look σ (.b 1) = some (.bx [.mpv es])) (hes : es = encM M)
    (he : e = toksD l) (hx : x = (s'.a : Nat)) (hy : y = s'.bad)
    (h1 : inR 2 0 res = true) (h2 : wk3 v (ren [0, 1] [] 0 res)) (h3 : toks res = []) : FinOK σ v 2 0 res [rbx l s', mbx M] := by
  subst he; subst hx; subst hy; subst hes
  refine ⟨⟨[], [], ⟨rfl, rfl, h1, rfl⟩, h2, ?_, ?_⟩⟩
  · refine ⟨?_, ?_, trivial⟩
    · show (match look σ (.b 0) with | some (.bx l') => wkL2 l' _ | _ => False)
      rw [hb]
      exact ⟨⟨rfl, rfl, .inl rfl⟩, rfl, rfl, rfl, trivial⟩
    · show (match look σ (.b 1) with | some (.bx l') => wkL2 l' _ | _ => False)
      rw [hm]
      exact ⟨rfl, trivial⟩
  · rw [h3]; exact trivial
set_option maxHeartbeats 8000000 in
theorem b182 (W0 : Go.World) (l : List T) (a0 : Nat) (E : PS → Exp × PS) (m : PS → Mem → Mem) (s : PS) (M : Mem) (hl : l.length ≤ 549755813888) (hR : RdC W0 l a0 E m) (hc : Cd l a0 s) (hp : Ph l s ≤ 4000000000000) (hI : Inv l M) (x : S) : Body (Ctr Tryz.prog W0) F182.ac F182.rs [.ptr 0 0, .sc (.s x)] [rbx l s, mbx M] (eL (rExps l E x s).1) [rbx l (rExps l E x s).2, mbx (mExps l E m x s M)] := by
  have hwf : s.bad = false → s.a ≤ l.length := fun h => (hc h).2
  have ha : s.a ≤ 4611686018427387904 := Nat.le_trans (ph_a hwf hl hp (by decide)) (by decide)
  cases hq : pIs l s x with
  | true =>
    have e1 : rExps l E x s = ([], ⟨s.a + 1, s.bad⟩) := by simp [rExps, hq]
    have e2 : mExps l E m x s M = M := by simp [mExps, hq]
    rw [e1, e2]
    conv => whnf
    (refine callP.full [0, 1] [] [.ptr 0 0, .sc (.s x)] [rbx l _, mbx _] [rbx l _, mbx _] _ (c60 W0 l s M x (Nat.le_trans hl (by decide)) ha) ⟨rfl, rfl, rfl, rfl, rfl, rfl, rfl, rfl, rfl, rfl, ⟨rfl, rfl, trivial⟩, ⟨⟨⟨rfl, rfl, .inr rfl⟩, rfl, rfl, rfl, trivial⟩, ⟨rfl, trivial⟩, trivial⟩, trivial⟩ ?_)
    rw [hq]
    conv => whnf
    refine And.intro (by constructor <;> ((try simp only); omega)) ?_
    conv => whnf
    refine fin_rw rfl rfl rfl rfl rfl rfl rfl ?_ rfl
    exact ⟨rfl, rfl, .inl rfl⟩
  | false =>
    have e1 : rExps l E x s = ((rLoop l E (l.length + 2) s).1, rWant l (rLoop l E (l.length + 2) s).2 x) := by simp [rExps, hq]
    have e2 : mExps l E m x s M = mLoop l E m (l.length + 2) s M := by simp [mExps, hq]
    rw [e1, e2]
    have hmv := mv_loop hR.rd (l.length + 2) s hc
    have hpe := hmv.ph
    have hae : (rLoop l E (l.length + 2) s).2.a ≤ 4611686018427387904 := Nat.le_trans (ph_a hmv.wf hl (by omega) (by decide : ((4000000000000 : Int)) ≤ _)) (by decide)
    generalize hL : rLoop l E (l.length + 2) s = LL at hmv hpe hae ⊢
    generalize hM : mLoop l E m (l.length + 2) s M = MM
    conv => whnf
    (refine callP.full [0, 1] [] [.ptr 0 0, .sc (.s x)] [rbx l _, mbx _] [rbx l _, mbx _] _ (c60 W0 l s M x (Nat.le_trans hl (by decide)) ha) ⟨rfl, rfl, rfl, rfl, rfl, rfl, rfl, rfl, rfl, rfl, ⟨rfl, rfl, trivial⟩, ⟨⟨⟨rfl, rfl, .inr rfl⟩, rfl, rfl, rfl, trivial⟩, ⟨rfl, trivial⟩, trivial⟩, trivial⟩ ?_)
    rw [hq]
    conv => whnf
    refine .st (α := Nat × PS × Mem × List Exp) 10000 (fun a => a.1) (fun a => [(.s 0, .av (.ptr 0 0)), (.s 1, .av (.sc (.s x))), (.s 5, .av (.sl 4 (expsD a.2.2.2) (.t 9000))), (.b 0, .bx (rbx l a.2.1)), (.b 1, .bx (mbx a.2.2.1)), (.t 9000, .tk true)])
      (fun a => Cd l a0 a.2.1 ∧ Ph l a.2.1 ≤ 4000000000000 ∧ Inv l a.2.2.1 ∧ LL = (a.2.2.2 ++ (rLoop l E a.1 a.2.1).1, (rLoop l E a.1 a.2.1).2) ∧ MM = mLoop l E m a.1 a.2.1 a.2.2.1 ∧ (a.2.1.bad = false → l.length + 2 ≤ a.1 + a.2.1.a ∧ a.2.2.2.length ≤ a.2.1.a) ∧ a.2.2.2.length ≤ l.length + 1) (l.length + 2, s, M, []) ?_ ⟨hc, hp, hI, by simp [hL], by simp [hM], fun _ => ⟨by simp, Nat.zero_le _⟩, Nat.zero_le _⟩ ?_
    · (refine le_of rfl rfl ?_; repeat' (first | exact rfl | exact trivial | refine ⟨?_, ?_⟩))
    · rintro ⟨f, s1, M1, acc⟩ ⟨i1, i2, i3, i4, i5, i6, i7⟩
      simp only at i1 i2 i3 i4 i5 i6 i7
      have wf1 : s1.bad = false → s1.a ≤ l.length := fun h => (i1 h).2
      obtain ⟨a1, b1⟩ := s1
      cases b1 with
      | true =>
        have er : rLoop l E f ⟨a1, true⟩ = ([], ⟨a1, true⟩) := by cases f <;> rfl
        have em : mLoop l E m f ⟨a1, true⟩ M1 = M1 := by cases f <;> rfl
        rw [er, List.append_nil] at i4
        rw [em] at i5
        subst i4; subst i5
        conv => whnf
        (refine callP.full [0, 1] [] [.ptr 0 0, .sl 1 [[.sc (.s x)]] .none] [rbx l _, mbx _] [rbx l _, mbx _] _ (c119 W0 l _ _ x (Nat.le_trans hl (by decide)) hae) ⟨rfl, rfl, rfl, rfl, rfl, rfl, rfl, rfl, rfl, rfl, ⟨rfl, ⟨rfl, rfl, .inl rfl⟩, trivial⟩, ⟨⟨⟨rfl, rfl, .inr rfl⟩, rfl, rfl, rfl, trivial⟩, ⟨rfl, trivial⟩, trivial⟩, trivial⟩ ?_)
        conv => whnf
        refine fin_rw rfl rfl rfl rfl rfl rfl rfl ?_ rfl
        exact ⟨rfl, rfl, .inl rfl⟩
      | false =>
        have w1 := wf1 rfl
        obtain ⟨j1, j2⟩ := i6 rfl
        simp only at w1 j1 j2
        obtain ⟨f, rfl⟩ : ∃ f', f = f' + 1 := ⟨f - 1, by omega⟩
        have hE := hR.c ⟨a1, false⟩ M1 i1 i2 i3
        have hv := hR.rd ⟨a1, false⟩ i1
        simp only [rLoop, mLoop, cond_false] at i4 i5
        generalize E ⟨a1, false⟩ = q at hE hv i4 i5
        generalize m ⟨a1, false⟩ M1 = M2 at hE i5
        obtain ⟨⟨xa, xb, xn, xl⟩, s2⟩ := q
        obtain ⟨hI2, hE⟩ := hE
        simp only at hE hv i4 i5
        have hph := hv.ph
        have hok := hv.ok
        have wf2 := hv.wf
        have ha2 : s2.a ≤ 4611686018427387904 := Nat.le_trans (ph_a wf2 hl (by omega) (by decide : ((4000000000000 : Int)) ≤ _)) (by decide)
        obtain ⟨a2, b2⟩ := s2
        simp only at ha2 hok
        have hap : expsD acc ++ [[Data.sc (.s xa), .sc (.s xb), .sc (.i .i64 xn), .lst 4 (expsD xl)]] = expsD (acc ++ [Exp.mk xa xb xn xl]) := by rw [expsD_append]; rfl
        conv => whnf
        (refine callP.full [0, 1] [] [.ptr 0 0] [rbx l _, mbx _] [rbx l _, mbx _] _ (hE) ⟨rfl, rfl, rfl, rfl, rfl, rfl, rfl, rfl, rfl, rfl, ⟨rfl, trivial⟩, ⟨⟨⟨rfl, rfl, .inr rfl⟩, rfl, rfl, rfl, trivial⟩, ⟨rfl, trivial⟩, trivial⟩, trivial⟩ ?_)
        conv => whnf
        refine And.intro (by rw [expsD_length]; constructor <;> (simp only [List.length_cons, List.length_nil]; omega)) ?_
        conv => whnf
        (refine callP.full [0, 1] [] [.ptr 0 0, .sc (.s [44])] [rbx l _, mbx _] [rbx l _, mbx _] _ (c60 W0 l ⟨a2, b2⟩ M2 [44] (Nat.le_trans hl (by decide)) ha2) ⟨rfl, rfl, rfl, rfl, rfl, rfl, rfl, rfl, rfl, rfl, ⟨rfl, rfl, trivial⟩, ⟨⟨⟨rfl, rfl, .inr rfl⟩, rfl, rfl, rfl, trivial⟩, ⟨rfl, trivial⟩, trivial⟩, trivial⟩ ?_)
        cases hq2 : pIs l ⟨a2, b2⟩ [44] with
        | true =>
          rw [hq2] at i4 i5
          simp only [cond_true] at i4 i5
          obtain ⟨g1, g2⟩ := is_lt hq2
          have h2 := hv.trans (mv_at g1 g2)
          simp only at g1 g2
          subst g1
          have hp2 : Ph l ⟨a2 + 1, false⟩ ≤ Ph l ⟨a1, false⟩ + (0 + -6) := h2.ph
          have hok2 := hok rfl
          conv => whnf
          refine And.intro (by constructor <;> ((try simp only); omega)) ?_
          conv => whnf
          refine nxt (f, ⟨a2 + 1, false⟩, M2, acc ++ [Exp.mk xa xb xn xl]) ⟨by simp only; omega, h2.cd i1, by simp only; omega, hI2, by rw [i4]; simp, i5, fun _ => ⟨by simp only; omega, by simp only [List.length_append, List.length_cons, List.length_nil]; omega⟩, by simp only [List.length_append, List.length_cons, List.length_nil]; omega⟩ ?_
          (apply le_tok (h1 := rfl); (case h3 => repeat' (first | exact rfl | exact trivial | exact hap | refine ⟨?_, ?_⟩)); all_goals exact rfl)
        | false =>
          rw [hq2] at i4 i5
          simp only [cond_false] at i4 i5
          subst i4; subst i5
          simp only at hae
          conv => whnf
          (refine callP.full [0, 1] [] [.ptr 0 0, .sl 1 [[.sc (.s x)]] .none] [rbx l _, mbx _] [rbx l _, mbx _] _ (c119 W0 l ⟨a2, b2⟩ _ x (Nat.le_trans hl (by decide)) ha2) ⟨rfl, rfl, rfl, rfl, rfl, rfl, rfl, rfl, rfl, rfl, ⟨rfl, ⟨rfl, rfl, .inl rfl⟩, trivial⟩, ⟨⟨⟨rfl, rfl, .inr rfl⟩, rfl, rfl, rfl, trivial⟩, ⟨rfl, trivial⟩, trivial⟩, trivial⟩ ?_)
          conv => whnf
          refine fin_rw rfl rfl rfl rfl rfl rfl rfl ?_ rfl
          exact ⟨rfl, hap, .inl rfl⟩
theorem c182 (W0 : Go.World) (l : List T) (a0 : Nat) (E : PS → Exp × PS) (m : PS → Mem → Mem) (s : PS) (M : Mem) (hl : l.length ≤ 549755813888) (hR : RdC W0 l a0 E m) (hc : Cd l a0 s) (hp : Ph l s ≤ 4000000000000) (hI : Inv l M) (x : S) : Ctr Tryz.prog W0 182 [.ptr 0 0, .sc (.s x)] [rbx l s, mbx M] (eL (rExps l E x s).1) [rbx l (rExps l E x s).2, mbx (mExps l E m x s M)] :=
  ctr_body follows F182_ok rfl (fun _ _ h => by cases h) rfl rfl (b182 W0 l a0 E m s M hl hR hc hp hI x)
def mCall (l : List T) (m : PS → Mem → Mem) (s : PS) (M : Mem) : Mem := bif pIs l s [40] then (bif pIs l ⟨s.a + 1, s.bad⟩ [41] then M else m ⟨s.a + 1, s.bad⟩ M) else M
theorem inv_call {W0 : Go.World} {l : List T} {a0 : Nat} {E : PS → Exp × PS} {m : PS → Mem → Mem} (hR : RdC W0 l a0 E m) (s : PS) (M : Mem) (hc : Cd l a0 s) (hp : Ph l s ≤ 4000000000000) (h : Inv l M) : Inv l (mCall l m s M) := by
  simp only [mCall]
  cases hq : pIs l s [40] with
  | true =>
    obtain ⟨g1, g2⟩ := is_lt hq
    have h2 := mv_at g1 g2
    cases pIs l ⟨s.a + 1, s.bad⟩ [41] with
    | true => exact h
    | false => exact (hR.c _ M (h2.cd hc) (by have := h2.ph; omega) h).1
  | false => exact h
set_option maxHeartbeats 8000000 in
theorem b190 (W0 : Go.World) (l : List T) (a0 : Nat) (E : PS → Exp × PS) (m : PS → Mem → Mem) (s : PS) (M : Mem) (hl : l.length ≤ 549755813888) (hR : RdC W0 l a0 E m) (hc : Cd l a0 s) (hp : Ph l s ≤ 4000000000000) (hI : Inv l M) : Body (Ctr Tryz.prog W0) F190.ac F190.rs [.ptr 0 0] [rbx l s, mbx M] (.sc (.b (rIsCall l E s))) [rbx l s, mbx (mCall l m s M)] := by
  have hwf : s.bad = false → s.a ≤ l.length := fun h => (hc h).2
  have ha : s.a ≤ 4611686018427387904 := Nat.le_trans (ph_a hwf hl hp (by decide)) (by decide)
  conv => whnf
  (refine callP.full [0, 1] [] [.ptr 0 0, .sc (.s [40])] [rbx l _, mbx _] [rbx l _, mbx _] _ (c60 W0 l s M [40] (Nat.le_trans hl (by decide)) ha) ⟨rfl, rfl, rfl, rfl, rfl, rfl, rfl, rfl, rfl, rfl, ⟨rfl, rfl, trivial⟩, ⟨⟨⟨rfl, rfl, .inr rfl⟩, rfl, rfl, rfl, trivial⟩, ⟨rfl, trivial⟩, trivial⟩, trivial⟩ ?_)
  cases hq : pIs l s [40] with
  | false =>
    have e1 : rIsCall l E s = false := by simp [rIsCall, hq]
    have e2 : mCall l m s M = M := by simp [mCall, hq]
    rw [e1, e2]
    conv => whnf
    refine fin_rw rfl rfl rfl rfl rfl rfl rfl ?_ rfl
    exact rfl
  | true =>
    obtain ⟨g1, g2⟩ := is_lt hq
    have h2 := mv_at g1 g2
    have hp2 := h2.ph
    have c2 := h2.cd hc
    obtain ⟨a, b⟩ := s
    simp only at g1 g2 ha
    subst g1
    simp only at h2 hp2 c2
    conv => whnf
    refine And.intro (by constructor <;> ((try simp only); omega)) ?_
    conv => whnf
    (refine callP.full [0, 1] [] [.ptr 0 0, .sc (.s [41])] [rbx l _, mbx _] [rbx l _, mbx _] _ (c60 W0 l ⟨a + 1, false⟩ M [41] (Nat.le_trans hl (by decide)) (by simp only; omega)) ⟨rfl, rfl, rfl, rfl, rfl, rfl, rfl, rfl, rfl, rfl, ⟨rfl, rfl, trivial⟩, ⟨⟨⟨rfl, rfl, .inr rfl⟩, rfl, rfl, rfl, trivial⟩, ⟨rfl, trivial⟩, trivial⟩, trivial⟩ ?_)
    cases hq2 : pIs l ⟨a + 1, false⟩ [41] with
    | true =>
      have e1 : rIsCall l E ⟨a, false⟩ = true := by simp [rIsCall, hq, hq2]
      have e2 : mCall l m ⟨a, false⟩ M = M := by simp [mCall, hq, hq2]
      rw [e1, e2]
      conv => whnf
      refine fin_rw rfl rfl rfl rfl rfl rfl rfl ?_ rfl
      exact rfl
    | false =>
      have hE := hR.c ⟨a + 1, false⟩ M c2 (by omega) hI
      have hv := hR.rd ⟨a + 1, false⟩ c2
      have e1 : rIsCall l E ⟨a, false⟩ = (pIs l (E ⟨a + 1, false⟩).2 [44] || pIs l (E ⟨a + 1, false⟩).2 [41]) := by simp [rIsCall, hq, hq2]
      have e2 : mCall l m ⟨a, false⟩ M = m ⟨a + 1, false⟩ M := by simp [mCall, hq, hq2]
      rw [e1, e2]
      generalize E ⟨a + 1, false⟩ = q at hE hv ⊢
      generalize m ⟨a + 1, false⟩ M = M2 at hE ⊢
      obtain ⟨⟨xa, xb, xn, xl⟩, s2⟩ := q
      obtain ⟨hI2, hE⟩ := hE
      simp only at hE hv ⊢
      have hph := hv.ph
      have ha2 : s2.a ≤ 4611686018427387904 := Nat.le_trans (ph_a hv.wf hl (by omega) (by decide : ((4000000000000 : Int)) ≤ _)) (by decide)
      obtain ⟨a2, b2⟩ := s2
      simp only at ha2
      conv => whnf
      (refine callP.full [0, 1] [] [.ptr 0 0] [rbx l _, mbx _] [rbx l _, mbx _] _ (hE) ⟨rfl, rfl, rfl, rfl, rfl, rfl, rfl, rfl, rfl, rfl, ⟨rfl, trivial⟩, ⟨⟨⟨rfl, rfl, .inr rfl⟩, rfl, rfl, rfl, trivial⟩, ⟨rfl, trivial⟩, trivial⟩, trivial⟩ ?_)
      conv => whnf
      (refine callP.full [0, 1] [] [.ptr 0 0, .sc (.s [44])] [rbx l _, mbx _] [rbx l _, mbx _] _ (c60 W0 l ⟨a2, b2⟩ M2 [44] (Nat.le_trans hl (by decide)) ha2) ⟨rfl, rfl, rfl, rfl, rfl, rfl, rfl, rfl, rfl, rfl, ⟨rfl, rfl, trivial⟩, ⟨⟨⟨rfl, rfl, .inr rfl⟩, rfl, rfl, rfl, trivial⟩, ⟨rfl, trivial⟩, trivial⟩, trivial⟩ ?_)
      cases hq3 : pIs l ⟨a2, b2⟩ [44] with
      | true =>
        conv => whnf
        refine fin_rw rfl rfl rfl rfl rfl rfl rfl ?_ rfl
        exact rfl
      | false =>
        conv => whnf
        (refine callP.full [0, 1] [] [.ptr 0 0, .sc (.s [41])] [rbx l _, mbx _] [rbx l _, mbx _] _ (c60 W0 l ⟨a2, b2⟩ M2 [41] (Nat.le_trans hl (by decide)) ha2) ⟨rfl, rfl, rfl, rfl, rfl, rfl, rfl, rfl, rfl, rfl, ⟨rfl, rfl, trivial⟩, ⟨⟨⟨rfl, rfl, .inr rfl⟩, rfl, rfl, rfl, trivial⟩, ⟨rfl, trivial⟩, trivial⟩, trivial⟩ ?_)
        conv => whnf
        refine fin_rw rfl rfl rfl rfl rfl rfl rfl ?_ rfl
        exact rfl
theorem c190 (W0 : Go.World) (l : List T) (a0 : Nat) (E : PS → Exp × PS) (m : PS → Mem → Mem) (s : PS) (M : Mem) (hl : l.length ≤ 549755813888) (hR : RdC W0 l a0 E m) (hc : Cd l a0 s) (hp : Ph l s ≤ 4000000000000) (hI : Inv l M) : Ctr Tryz.prog W0 190 [.ptr 0 0] [rbx l s, mbx M] (.sc (.b (rIsCall l E s))) [rbx l s, mbx (mCall l m s M)] :=
  ctr_body follows F190_ok rfl (fun _ _ h => by cases h) rfl rfl (b190 W0 l a0 E m s M hl hR hc hp hI)
end Go.Abs
