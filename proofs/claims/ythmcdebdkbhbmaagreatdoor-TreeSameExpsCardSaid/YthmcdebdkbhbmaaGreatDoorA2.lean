/- How the log and the world change together. -/
import Derived.Test.YthmcdebdkbhbmaaGreatDoorA1
namespace Go.Abs
open Go

theorem Loc.beq_iff {a b : Loc} : Loc.beq a b = true ↔ a = b := by
  cases a <;> cases b <;> simp [Loc.beq, Nat.beq_eq]

instance : DecidableEq Loc := fun a b => match h : Loc.beq a b with
  | true => isTrue (Loc.beq_iff.1 h)
  | false => isFalse fun e => by rw [Loc.beq_iff.2 e] at h; cases h

theorem Loc.beq_self (a : Loc) : Loc.beq a a = true := Loc.beq_iff.2 rfl

theorem look_cons (k : Loc) (c : Cell) (σ : Log) (l : Loc) : look ((k, c) :: σ) l = if k = l then some c else look σ l := by
  have e : look ((k, c) :: σ) l = match Loc.beq k l with | true => some c | false => look σ l := rfl
  rw [e]
  by_cases h : k = l
  · simp [h, Loc.beq_self]
  · have : Loc.beq k l = false := by
      cases hb : Loc.beq k l with
      | true => exact absurd (Loc.beq_iff.1 hb) h
      | false => rfl
    simp [h, this]

theorem look_nil (l : Loc) : look [] l = none := rfl

theorem look_append (δ σ : Log) (l : Loc) : look (δ ++ σ) l = match look δ l with | some c => some c | none => look σ l := by
  induction δ with
  | nil => rfl
  | cons x r ih =>
    obtain ⟨k, c⟩ := x
    rw [List.cons_append, look_cons, look_cons, ih]
    by_cases h : k = l <;> simp [h]

theorem put_getD {a : Act} {d n : Nat} {x : Value} (h : d < a.tmps.size) : (a.put (some d) x).tmps.getD n undef = if d = n then x else a.tmps.getD n undef := by
  simp only [Act.put, Array.getD_eq_getD_getElem?, Array.getElem?_setIfInBounds]
  by_cases hd : d = n
  · subst hd; simp [h]
  · simp [hd]

theorem put_size {a : Act} {d : Option Nat} {x : Value} : (a.put d x).tmps.size = a.tmps.size := by
  cases d <;> simp [Act.put]

theorem put_defers {a : Act} {d : Option Nat} {x : Value} : (a.put d x).defers = a.defers := by
  cases d <;> rfl

/-- the logs say the same -/
def Same (σ σ' : Log) : Prop := ∀ l, look σ' l = look σ l

theorem Own.same {κ : Gh} {σ σ' : Log} (h : Same σ σ') {b o : Nat} : Own κ σ' b o ↔ Own κ σ b o := by
  unfold Own
  have h1 : ∀ l, look σ' l = look σ l := h
  simp [h1]

theorem RepS.same {W0 : World} {κ : Gh} {σ σ' : Log} {a : Act} {w : World} (h : Same σ σ') (hs : RepS W0 κ σ a w) : RepS W0 κ σ' a w := {
  slots n v e := hs.slots n v (by rw [← h]; exact e)
  boxes b l e := hs.boxes b l (by rw [← h]; exact e)
  binj b b' l l' e e' := hs.binj b b' l l' (by rw [← h]; exact e) (by rw [← h]; exact e')
  toks k e := hs.toks k (by rw [← h]; exact e)
  tdis k k' e e' := hs.tdis k k' (by rw [← h]; exact e) (by rw [← h]; exact e')
  tbox k id l e e' := hs.tbox k id l (by rw [← h]; exact e) (by rw [← h]; exact e')
  sepI b o ho := hs.sepI b o ((Own.same h).1 ho)
  Icell := hs.Icell
  old := hs.old
  size0 := hs.size0
  amb := hs.amb
  defers := hs.defers
  os := hs.os
  tape := hs.tape
  output := hs.output }

theorem Step.same {κ κ' : Gh} {σ σ' τ τ' : Log} {w w' : World} (h : Same σ τ) (h' : Same σ' τ') (hs : Step κ σ w κ' σ' w') : Step κ τ w κ' τ' w' := by
  have ho : ∀ b o, Own κ τ b o ↔ Own κ σ b o := fun b o => Own.same h
  have ho' : ∀ b o, Own κ' τ' b o ↔ Own κ' σ' b o := fun b o => Own.same h'
  refine ⟨⟨hs.chg.os, hs.chg.tape, hs.chg.output, hs.chg.size, fun b hb hn => hs.chg.same b hb fun o hh => hn o ((ho b o).2 hh), fun b C ty fz hC => ?_⟩, ?_, hs.I_, ?_, hs.low, hs.lowt⟩
  · obtain ⟨C', h1, h2, h3⟩ := hs.chg.cells b C ty fz hC
    exact ⟨C', h1, h2, fun o hn => h3 o fun hh => hn ((ho b o).2 hh)⟩
  · intro b o hh
    rcases hs.own b o ((ho' b o).1 hh) with g | g
    · exact .inl ((ho b o).2 g)
    · exact .inr g
  · intro b o hh
    rcases hs.In b o hh with g | g | g
    · exact .inl g
    · exact .inr (.inl ((ho b o).2 g))
    · exact .inr (.inr g)

/-- an unused draw -/
theorem RepS.drawn {W0 : World} {κ : Gh} {σ : Log} {a : Act} {w : World} (hs : RepS W0 κ σ a w) (n : Nat) : RepS W0 κ σ a { w with drawn := n } := by
  have e : Ext κ w κ { w with drawn := n } := ⟨fun _ _ h => h, fun _ _ _ => rfl, fun _ h => ⟨h, rfl⟩, fun _ h => ⟨h, rfl⟩⟩
  refine ⟨fun n v h => (hs.slots n v h).mono e, fun b l h => ?_, hs.binj, hs.toks, hs.tdis, hs.tbox, hs.sepI, hs.Icell, hs.old, hs.size0, hs.amb, hs.defers, hs.os, hs.tape, hs.output⟩
  obtain ⟨h1, h2, C, ty, h3, h4⟩ := hs.boxes b l h
  exact ⟨h1, h2, C, ty, h3, h4.mono e⟩

theorem Step.drawn {κ : Gh} {σ : Log} {w : World} (n : Nat) : Step κ σ w κ σ { w with drawn := n } :=
  ⟨⟨rfl, rfl, rfl, Nat.le_refl _, fun _ _ _ => rfl, fun _ C _ _ h => ⟨C, h, rfl, fun _ _ => rfl⟩⟩, fun _ _ h => .inl h, fun _ _ h => h, fun _ _ h => .inl h, fun _ _ h => ⟨h, rfl⟩, fun _ _ h => ⟨h, rfl⟩⟩

theorem look_s_b {d : Nat} {v : AV} {σ : Log} {b : Nat} : look ((.s d, .av v) :: σ) (.b b) = look σ (.b b) := by simp [look_cons]
theorem look_s_t {d : Nat} {v : AV} {σ : Log} {b : Nat} : look ((.s d, .av v) :: σ) (.t b) = look σ (.t b) := by simp [look_cons]

theorem Own_s {κ : Gh} {σ : Log} {d : Nat} {v : AV} {b o : Nat} : Own κ ((.s d, .av v) :: σ) b o ↔ Own κ σ b o := by
  simp only [Own, look_s_b, look_s_t]

/-- a slot is written -/
theorem RepS.put {W0 : World} {κ : Gh} {σ : Log} {a : Act} {w : World} (hs : RepS W0 κ σ a w) {d : Nat} {v : AV} {x : Value} (hd : d < a.tmps.size) (hv : RepV κ w v x) :
    RepS W0 κ ((.s d, .av v) :: σ) (a.put (some d) x) w := {
  slots n u e := by
    rw [look_cons] at e
    rw [put_getD hd]
    by_cases h : d = n
    · subst h; simp at e; subst e; simpa using hv
    · have : (Loc.s d = Loc.s n) = False := by simp [h]
      simp only [this, if_false] at e
      simp only [h, if_false]
      exact hs.slots n u e
  boxes b l e := hs.boxes b l (by rwa [look_s_b] at e)
  binj b b' l l' e e' := hs.binj b b' l l' (by rwa [look_s_b] at e) (by rwa [look_s_b] at e')
  toks k e := hs.toks k (by rwa [look_s_t] at e)
  tdis k k' e e' := hs.tdis k k' (by rwa [look_s_t] at e) (by rwa [look_s_t] at e')
  tbox k id l e e' := hs.tbox k id l (by rwa [look_s_t] at e) (by rwa [look_s_b] at e')
  sepI b o ho := hs.sepI b o (Own_s.1 ho)
  Icell := hs.Icell
  old := hs.old
  size0 := hs.size0
  amb := hs.amb
  defers := by rw [put_defers]; exact hs.defers
  os := hs.os
  tape := hs.tape
  output := hs.output }

theorem Step.put {κ : Gh} {σ : Log} {w : World} {d : Nat} {v : AV} : Step κ σ w κ ((.s d, .av v) :: σ) w :=
  ⟨.refl _ _, fun _ _ h => .inl (Own_s.1 h), fun _ _ h => h, fun _ _ h => .inl h, fun _ _ h => ⟨h, rfl⟩, fun _ _ h => ⟨h, rfl⟩⟩

/-- the slot's Bool, known by now, is written down -/
theorem known {σ : Log} {n : Nat} {v : AV} (h : look σ (.s n) = some (.av v)) :
    Same σ ((.s n, .av v) :: σ) := fun l => by
  rw [look_cons]
  by_cases e : Loc.s n = l
  · subst e; simp [h]
  · simp [e]

theorem alloc_heap (w : World) (o : Obj) : (w.alloc o).heap = w.heap.push o := rfl
theorem alloc_size (w : World) (o : Obj) : (w.alloc o).heap.size = w.heap.size + 1 := by rw [alloc_heap, Array.size_push]

theorem heap_alloc_lt {w : World} {o : Obj} {b : Nat} (h : b < w.heap.size) : (w.alloc o).heap[b]? = w.heap[b]? := by
  rw [alloc_heap, Array.getElem?_push, if_neg (by omega)]

theorem heap_alloc_new {w : World} {o : Obj} : (w.alloc o).heap[w.heap.size]? = some o := by
  rw [alloc_heap, Array.getElem?_push, if_pos rfl]

theorem chg_alloc {O : Nat → Nat → Prop} {w : World} {o : Obj} : Chg O w (w.alloc o) := {
  os := rfl
  tape := rfl
  output := rfl
  size := by rw [alloc_size]; omega
  same b hb _ := heap_alloc_lt hb
  cells b C ty fz h := ⟨C, by rw [heap_alloc_lt (lt_of_heap h)]; exact h, rfl, fun _ _ => rfl⟩ }

/-- a new box -/
theorem RepS.box {W0 : World} {κ : Gh} {σ : Log} {a : Act} {w : World} (hs : RepS W0 κ σ a w) {id : Nat} (hid : ¬ κ.Db id) {l : List AV} {C : Array Value} (hl : RepL κ w l C) (ty : TypeId) :
    RepS W0 { κ with Db := fun b => κ.Db b ∨ b = id, ι := fun b => if b = id then (w.heap.size, 0) else κ.ι b } ((.b id, .bx l) :: σ) a (w.alloc (.cells C ty)) ∧
    Step κ σ w { κ with Db := fun b => κ.Db b ∨ b = id, ι := fun b => if b = id then (w.heap.size, 0) else κ.ι b } ((.b id, .bx l) :: σ) (w.alloc (.cells C ty)) ∧
    Ext κ w { κ with Db := fun b => κ.Db b ∨ b = id, ι := fun b => if b = id then (w.heap.size, 0) else κ.ι b } (w.alloc (.cells C ty)) := by
  have hne : ∀ b, κ.Db b → b ≠ id := fun b hb e => hid (e ▸ hb)
  have e : Ext κ w { κ with Db := fun b => κ.Db b ∨ b = id, ι := fun b => if b = id then (w.heap.size, 0) else κ.ι b } (w.alloc (.cells C ty)) := by
    refine ⟨fun _ _ h => h, fun b o h => chg_alloc.cell hs h, fun b hb => ⟨.inl hb, by simp [hne b hb]⟩, fun _ h => ⟨h, rfl⟩⟩
  have hb_old : ∀ {b m}, look ((.b id, .bx l) :: σ) (.b b) = some (.bx m) → (b = id ∧ m = l) ∨ (b ≠ id ∧ look σ (.b b) = some (.bx m)) := by
    intro b m h
    rw [look_cons] at h
    by_cases hh : id = b
    · subst hh; simp at h; exact .inl ⟨rfl, h.symm⟩
    · have : (Loc.b id = Loc.b b) = False := by simp [hh]
      simp only [this, if_false] at h
      exact .inr ⟨fun x => hh x.symm, h⟩
  have ht : ∀ k, look ((.b id, .bx l) :: σ) (.t k) = look σ (.t k) := fun k => by simp [look_cons]
  have hss : ∀ k, look ((.b id, .bx l) :: σ) (.s k) = look σ (.s k) := fun k => by simp [look_cons]
  have hown : ∀ b o, Own { κ with Db := fun b => κ.Db b ∨ b = id, ι := fun b => if b = id then (w.heap.size, 0) else κ.ι b } ((.b id, .bx l) :: σ) b o → Own κ σ b o ∨ w.heap.size ≤ b := by
    rintro b o (⟨id', m, hm, hi⟩ | ⟨k, hk, hi⟩)
    · rcases hb_old hm with ⟨rfl, rfl⟩ | ⟨hn, hm⟩
      · simp [spb, inSp] at hi; exact .inr (Nat.le_of_eq hi.1)
      · simp only [spb, hn, if_false] at hi; exact .inl (.inl ⟨id', m, hm, hi⟩)
    · rw [ht] at hk; exact .inl (.inr ⟨k, hk, hi⟩)
  have hblk : ∀ b m, look σ (.b b) = some (.bx m) → (κ.ι b).1 < w.heap.size := fun b m h => by
    obtain ⟨_, _, C', ty', h3, _⟩ := hs.boxes b m h
    exact lt_of_heap h3
  refine ⟨⟨?_, ?_, ?_, ?_, ?_, ?_, ?_, ?_, hs.old, ?_, ?_, hs.defers, hs.os, hs.tape, hs.output⟩, ⟨chg_alloc, hown, fun _ _ h => h, fun _ _ h => .inl h, fun b _ hb => ⟨.inl hb, by simp [hne b hb]⟩, fun _ _ h => ⟨h, rfl⟩⟩, e⟩
  · intro n v h
    rw [hss] at h
    exact (hs.slots n v h).mono e
  · intro b m h
    rcases hb_old h with ⟨rfl, rfl⟩ | ⟨hn, h⟩
    · refine ⟨.inr rfl, by simpa using hs.size0, C, ty, ?_, ?_⟩
      · simp only [if_true]; exact heap_alloc_new
      · simp only [if_true]; exact hl.repC.mono e
    · obtain ⟨h1, h2, C', ty', h3, h4⟩ := hs.boxes b m h
      refine ⟨.inl h1, by simpa [hn] using h2, C', ty', ?_, ?_⟩
      · simp only [hn, if_false]
        rw [heap_alloc_lt (lt_of_heap h3)]; exact h3
      · simp only [hn, if_false]; exact h4.mono e
  · intro b b' m m' h h' hne' x o hi hi'
    rcases hb_old h with ⟨e1, e2⟩ | ⟨hn, g⟩ <;> rcases hb_old h' with ⟨e1', e2'⟩ | ⟨hn', g'⟩
    · exact hne' (e1.trans e1'.symm)
    · simp [spb, inSp, e1] at hi; simp only [spb, inSp, hn', if_false] at hi'; have := hblk _ _ g'; omega
    · simp [spb, inSp, e1'] at hi'; simp only [spb, inSp, hn, if_false] at hi; have := hblk _ _ g; omega
    · simp only [spb, hn, hn', if_false] at hi hi'; exact hs.binj _ _ _ _ g g' hne' x o hi hi' 
  · intro k h
    rw [ht] at h
    obtain ⟨h1, h2⟩ := hs.toks k h
    refine ⟨h1, fun hh => ?_⟩
    obtain ⟨h3, C', ty', h4, h5⟩ := h2 hh
    exact ⟨h3, C', ty', by rw [heap_alloc_lt (lt_of_heap h4)]; exact h4, h5⟩
  · intro k k' h h'
    rw [ht] at h h'
    exact hs.tdis k k' h h'
  · intro k id' m h h' x o ho hi
    rw [ht] at h
    rcases hb_old h' with ⟨rfl, rfl⟩ | ⟨hn, h'⟩
    · obtain ⟨h1, h2, h3⟩ : (κ.τ k).1 = x ∧ (κ.τ k).2.1 ≤ o ∧ o < (κ.τ k).2.2 := ho
      obtain ⟨_, hh⟩ := hs.toks k h
      obtain ⟨_, C', ty', h4, h5⟩ := hh (Nat.lt_of_le_of_lt h2 h3)
      have := lt_of_heap h4
      simp [spb, inSp] at hi
      omega
    · simp only [spb, hn, if_false] at hi
      exact hs.tbox k id' m h h' x o ho hi
  · intro b o ho hI
    rcases hown b o ho with h | h
    · exact hs.sepI b o h hI
    · exact absurd (hs.Icell b o hI) (Nat.not_lt.2 h)
  · intro b o h
    have := hs.Icell b o h
    rw [alloc_size]; omega
  · have := hs.size0; rw [alloc_size]; omega
  · intro b hb
    rw [heap_alloc_lt (Nat.lt_of_lt_of_le hb hs.size0)]
    exact hs.amb b hb

/-- a new row of data that nothing writes any more -/
theorem RepS.row {W0 : World} {κ : Gh} {σ : Log} {a : Act} {w : World} (hs : RepS W0 κ σ a w) (C : Array Value) (ty : TypeId) (n : Nat) :
    RepS W0 { κ with I := fun b o => κ.I b o ∨ (b = w.heap.size ∧ o < n) } σ a (w.alloc (.cells C ty)) ∧
    Step κ σ w { κ with I := fun b o => κ.I b o ∨ (b = w.heap.size ∧ o < n) } σ (w.alloc (.cells C ty)) ∧
    Ext κ w { κ with I := fun b o => κ.I b o ∨ (b = w.heap.size ∧ o < n) } (w.alloc (.cells C ty)) := by
  have e : Ext κ w { κ with I := fun b o => κ.I b o ∨ (b = w.heap.size ∧ o < n) } (w.alloc (.cells C ty)) :=
    ⟨fun _ _ h => .inl h, fun b o h => chg_alloc.cell hs h, fun b hb => ⟨hb, rfl⟩, fun _ h => ⟨h, rfl⟩⟩
  have hown : ∀ b o, Own { κ with I := fun b o => κ.I b o ∨ (b = w.heap.size ∧ o < n) } σ b o → Own κ σ b o := fun b o h => h
  refine ⟨⟨fun n v h => (hs.slots n v h).mono e, ?_, hs.binj, ?_, hs.tdis, hs.tbox, ?_, ?_, fun b o h => .inl (hs.old b o h), ?_, ?_, hs.defers, hs.os, hs.tape, hs.output⟩,
    ⟨chg_alloc, fun b o h => .inl h, fun _ _ h => .inl h, ?_, fun b _ hb => ⟨hb, rfl⟩, fun _ _ h => ⟨h, rfl⟩⟩, e⟩
  · intro b m h
    obtain ⟨h1, h2, C', ty', h3, h4⟩ := hs.boxes b m h
    exact ⟨h1, h2, C', ty', by rw [heap_alloc_lt (lt_of_heap h3)]; exact h3, h4.mono e⟩
  · intro k h
    obtain ⟨h1, h2⟩ := hs.toks k h
    refine ⟨h1, fun hh => ?_⟩
    obtain ⟨h3, C', ty', h4, h5⟩ := h2 hh
    exact ⟨h3, C', ty', by rw [heap_alloc_lt (lt_of_heap h4)]; exact h4, h5⟩
  · rintro b o ho (hI | ⟨rfl, _⟩)
    · exact hs.sepI b o ho hI
    · obtain ⟨C', ty', h⟩ := hs.ownCells (hown _ _ ho)
      exact absurd (lt_of_heap h) (Nat.lt_irrefl _)
  · rintro b o (h | ⟨rfl, _⟩)
    · have := hs.Icell b o h
      rw [alloc_size]; omega
    · rw [alloc_size]; omega
  · have := hs.size0; rw [alloc_size]; omega
  · intro b hb
    rw [heap_alloc_lt (Nat.lt_of_lt_of_le hb hs.size0)]
    exact hs.amb b hb
  · rintro b o (h | ⟨rfl, _⟩)
    · exact .inl h
    · exact .inr (.inr (Nat.le_refl _))
end Go.Abs
