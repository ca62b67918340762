/- Stores, tokens, appends: how the log and the world change together. -/
import Derived.Test.YthmcdebdkbhbmaaGreatDoorA2
import Derived.Laws.CopyRow
import Derived.Laws.AppendOwn
namespace Go.Abs
open Go

theorem chg_setRow {O : Nat → Nat → Prop} {w : World} {g : Nat} {cur arr : Array Value} {ty : TypeId} (hg : w.heap[g]? = some (.cells cur ty (0, 0))) (hs : arr.size = cur.size)
    (ho : ∀ o : Nat, ¬ O g o → arr[o]? = cur[o]?) : Chg O w (w.setRow g arr) := {
  os := rfl
  tape := rfl
  output := rfl
  size := by rw [size_setRow]; exact Nat.le_refl _
  same b hb hn := by
    by_cases h : b = g
    · subst h
      have : arr = cur := Array.ext_getElem? fun i => ho i (hn i)
      rw [this, setRow_self w b cur ty (0, 0) hg]
    · exact setRow_other w g b arr h
  cells b C ty' fz h := by
    by_cases e : b = g
    · subst e
      rw [hg] at h
      cases h
      exact ⟨arr, setRow_heap w b cur arr ty (0, 0) hg, hs, ho⟩
    · exact ⟨C, by rw [setRow_other w g b arr e]; exact h, rfl, fun _ _ => rfl⟩ }

/-- a box is written -/
theorem RepS.store {W0 : World} {κ : Gh} {σ : Log} {a : Act} {w : World} (hs : RepS W0 κ σ a w) {b : Nat} {l l' : List AV} (hb : look σ (.b b) = some (.bx l))
    {cur arr : Array Value} {ty : TypeId} (hg : w.heap[(κ.ι b).1]? = some (.cells cur ty (0, 0))) (hsz : arr.size = cur.size) (hll : l'.length = l.length) (hl : RepC κ w l' arr (κ.ι b).2)
    (hsame : ∀ o : Nat, ¬ inSp (spb κ b l) (κ.ι b).1 o → arr[o]? = cur[o]?) :
    RepS W0 κ ((.b b, .bx l') :: σ) a (w.setRow (κ.ι b).1 arr) ∧ Step κ σ w κ ((.b b, .bx l') :: σ) (w.setRow (κ.ι b).1 arr) ∧ Ext κ w κ (w.setRow (κ.ι b).1 arr) := by
  have hchg : Chg (Own κ σ) w (w.setRow (κ.ι b).1 arr) := chg_setRow hg hsz fun o h => hsame o fun hh => h (.inl ⟨b, l, hb, hh⟩)
  have e : Ext κ w κ (w.setRow (κ.ι b).1 arr) := ⟨fun _ _ h => h, fun b o h => hchg.cell hs h, fun _ h => ⟨h, rfl⟩, fun _ h => ⟨h, rfl⟩⟩
  have hB : ∀ {b' m}, look ((.b b, .bx l') :: σ) (.b b') = some (.bx m) → (b' = b ∧ m = l') ∨ (b' ≠ b ∧ look σ (.b b') = some (.bx m)) := by
    intro b' m h
    rw [look_cons] at h
    by_cases hh : b = b'
    · subst hh; simp at h; exact .inl ⟨rfl, h.symm⟩
    · have : (Loc.b b = Loc.b b') = False := by simp [hh]
      simp only [this, if_false] at h
      exact .inr ⟨fun x => hh x.symm, h⟩
  have hB' : ∀ {b' m}, look ((.b b, .bx l') :: σ) (.b b') = some (.bx m) → ∃ m', look σ (.b b') = some (.bx m') ∧ spb κ b' m = spb κ b' m' := by
    intro b' m h
    rcases hB h with ⟨rfl, rfl⟩ | ⟨_, h⟩
    · exact ⟨l, hb, by simp only [spb, hll]⟩
    · exact ⟨m, h, rfl⟩
  have ht : ∀ k, look ((.b b, .bx l') :: σ) (.t k) = look σ (.t k) := fun k => by simp [look_cons]
  have hss : ∀ k, look ((.b b, .bx l') :: σ) (.s k) = look σ (.s k) := fun k => by simp [look_cons]
  have hown' : ∀ b' o, Own κ ((.b b, .bx l') :: σ) b' o → Own κ σ b' o := by
    rintro b' o (⟨id, m, hm, hi⟩ | ⟨k, hk, hi⟩)
    · obtain ⟨m', hm', hsp⟩ := hB' hm; exact .inl ⟨id, m', hm', hsp ▸ hi⟩
    · rw [ht] at hk; exact .inr ⟨k, hk, hi⟩
  have hheap : ∀ k, k ≠ (κ.ι b).1 → (w.setRow (κ.ι b).1 arr).heap[k]? = w.heap[k]? := fun k h => setRow_other w _ k arr h
  refine ⟨⟨fun n v h => by rw [hss] at h; exact (hs.slots n v h).mono e, ?_, ?_, ?_, ?_, ?_, fun b' o ho => hs.sepI b' o (hown' b' o ho), ?_, hs.old, ?_, hchg.amb hs, hs.defers, hs.os, hs.tape, hs.output⟩,
    ⟨hchg, fun b' o h => .inl (hown' b' o h), fun _ _ h => h, fun _ _ h => .inl h, fun _ _ h => ⟨h, rfl⟩, fun _ _ h => ⟨h, rfl⟩⟩, e⟩
  · intro b' m h
    rcases hB h with ⟨rfl, rfl⟩ | ⟨hn, h⟩
    · obtain ⟨h1, h2, _⟩ := hs.boxes b' l hb
      exact ⟨h1, h2, arr, ty, setRow_heap w _ cur arr ty (0, 0) hg, hl.mono e⟩
    · obtain ⟨h1, h2, C, ty', h3, h4⟩ := hs.boxes b' m h
      by_cases hx : (κ.ι b').1 = (κ.ι b).1
      · rw [hx, hg] at h3
        cases h3
        refine ⟨h1, h2, arr, ty, by rw [hx]; exact setRow_heap w _ cur arr ty (0, 0) hg, by rw [hsz]; exact h4.1, h4.2.1, fun j v hj => ?_⟩
        have hno : ¬ inSp (spb κ b l) (κ.ι b).1 ((κ.ι b').2 + j) := fun hh => hs.binj b b' l m hb h (fun x => hn x.symm) _ _ hh ⟨hx, Nat.le_add_right _ _, Nat.add_lt_add_left (List.getElem?_eq_some_iff.1 hj).1 _⟩
        have := (h4.2.2 j v hj).mono e
        rwa [Array.getD_eq_getD_getElem?, hsame _ hno, ← Array.getD_eq_getD_getElem?]
      · exact ⟨h1, h2, C, ty', by rw [hheap _ hx]; exact h3, h4.mono e⟩
  · intro b1 b2 m1 m2 h1 h2 hne x o hi hi'
    obtain ⟨m1', h1', e1⟩ := hB' h1
    obtain ⟨m2', h2', e2⟩ := hB' h2
    rw [e1] at hi
    rw [e2] at hi'
    exact hs.binj b1 b2 m1' m2' h1' h2' hne x o hi hi'
  · intro k h
    rw [ht] at h
    obtain ⟨h1, h2⟩ := hs.toks k h
    refine ⟨h1, fun hh => ?_⟩
    obtain ⟨h3, C', ty', h4, h5⟩ := h2 hh
    by_cases hx : (κ.τ k).1 = (κ.ι b).1
    · rw [hx, hg] at h4
      cases h4
      exact ⟨h3, arr, ty, by rw [hx]; exact setRow_heap w _ cur arr ty (0, 0) hg, by omega⟩
    · exact ⟨h3, C', ty', by rw [hheap _ hx]; exact h4, h5⟩
  · intro k k' h h'; rw [ht] at h h'; exact hs.tdis k k' h h'
  · intro k id m h h' x o hi hi'
    rw [ht] at h
    obtain ⟨m', hm', e1⟩ := hB' h'
    rw [e1] at hi'
    exact hs.tbox k id m' h hm' x o hi hi'
  · intro b' o h; rw [size_setRow]; exact hs.Icell b' o h
  · rw [size_setRow]; exact hs.size0

/-- spare room of a live token is written: nothing that is represented turns -/
theorem RepS.spare {W0 : World} {κ : Gh} {σ : Log} {a : Act} {w : World} (hs : RepS W0 κ σ a w) {k : Nat} (hk : look σ (.t k) = some (.tk true))
    {g : Nat} {cur arr : Array Value} {ty : TypeId} (hg : w.heap[g]? = some (.cells cur ty (0, 0))) (hsz : arr.size = cur.size)
    (hsame : ∀ o : Nat, ¬ inSp (κ.τ k) g o → arr[o]? = cur[o]?) :
    RepS W0 κ σ a (w.setRow g arr) ∧ Step κ σ w κ σ (w.setRow g arr) ∧ Ext κ w κ (w.setRow g arr) := by
  have hchg : Chg (Own κ σ) w (w.setRow g arr) := chg_setRow hg hsz fun o h => hsame o fun hh => h (.inr ⟨k, hk, hh⟩)
  have e : Ext κ w κ (w.setRow g arr) := ⟨fun _ _ h => h, fun b o h => hchg.cell hs h, fun _ h => ⟨h, rfl⟩, fun _ h => ⟨h, rfl⟩⟩
  have hheap : ∀ k, k ≠ g → (w.setRow g arr).heap[k]? = w.heap[k]? := fun k h => setRow_other w _ k arr h
  refine ⟨⟨fun n v h => (hs.slots n v h).mono e, ?_, hs.binj, ?_, hs.tdis, hs.tbox, hs.sepI, ?_, hs.old, ?_, hchg.amb hs, hs.defers, hs.os, hs.tape, hs.output⟩,
    ⟨hchg, fun b' o h => .inl h, fun _ _ h => h, fun _ _ h => .inl h, fun _ _ h => ⟨h, rfl⟩, fun _ _ h => ⟨h, rfl⟩⟩, e⟩
  · intro b' m h
    obtain ⟨h1, h2, C, ty', h3, h4⟩ := hs.boxes b' m h
    by_cases hx : (κ.ι b').1 = g
    · rw [hx, hg] at h3
      cases h3
      refine ⟨h1, h2, arr, ty, by rw [hx]; exact setRow_heap w _ cur arr ty (0, 0) hg, by rw [hsz]; exact h4.1, h4.2.1, fun j v hj => ?_⟩
      have hno : ¬ inSp (κ.τ k) g ((κ.ι b').2 + j) := fun hh => hs.tbox k b' m hk h _ _ hh ⟨hx, Nat.le_add_right _ _, Nat.add_lt_add_left (List.getElem?_eq_some_iff.1 hj).1 _⟩
      have := (h4.2.2 j v hj).mono e
      rwa [Array.getD_eq_getD_getElem?, hsame _ hno, ← Array.getD_eq_getD_getElem?]
    · exact ⟨h1, h2, C, ty', by rw [hheap _ hx]; exact h3, h4.mono e⟩
  · intro k' h
    obtain ⟨h1, h2⟩ := hs.toks k' h
    refine ⟨h1, fun hh => ?_⟩
    obtain ⟨h3, C', ty', h4, h5⟩ := h2 hh
    by_cases hx : (κ.τ k').1 = g
    · rw [hx, hg] at h4
      cases h4
      exact ⟨h3, arr, ty, by rw [hx]; exact setRow_heap w _ cur arr ty (0, 0) hg, by omega⟩
    · exact ⟨h3, C', ty', by rw [hheap _ hx]; exact h4, h5⟩
  · intro b' o h; rw [size_setRow]; exact hs.Icell b' o h
  · rw [size_setRow]; exact hs.size0

/-- a live token (if any) gives up its room; a part of it becomes data (J), a part the new token's -/
theorem RepS.retok {W0 : World} {κ : Gh} {σ : Log} {a : Act} {w : World} (hs : RepS W0 κ σ a w) (off : Option Nat) (hoff : ∀ k, off = some k → look σ (.t k) = some (.tk true))
    {id : Nat} (hid : ¬ κ.Dt id) (hid' : ∀ k, off = some k → k ≠ id) (J : Nat → Nat → Prop) (sp : Nat × Nat × Nat)
    (hJ : ∀ b o, J b o → b < w.heap.size ∧ (Own κ σ b o → ∃ k, off = some k ∧ inSp (κ.τ k) b o) ∧ ¬ inSp sp b o ∧ (Own κ σ b o ∨ κ.I b o))
    (hsp : sp.2.1 < sp.2.2 → W0.heap.size ≤ sp.1 ∧ ∃ C ty, w.heap[sp.1]? = some (.cells C ty (0, 0)) ∧ sp.2.2 ≤ C.size)
    (hspo : ∀ b o, inSp sp b o → ¬ κ.I b o ∧ ∃ k, off = some k ∧ inSp (κ.τ k) b o)
    (δ : Log) (hδ : δ = (.t id, .tk true) :: (match off with | some k => [(.t k, .tk false)] | none => [])) :
    RepS W0 { κ with I := fun b o => κ.I b o ∨ J b o, Dt := fun k => κ.Dt k ∨ k = id, τ := fun k => if k = id then sp else κ.τ k } (δ ++ σ) a w ∧
    Step κ σ w { κ with I := fun b o => κ.I b o ∨ J b o, Dt := fun k => κ.Dt k ∨ k = id, τ := fun k => if k = id then sp else κ.τ k } (δ ++ σ) w ∧
    Ext κ w { κ with I := fun b o => κ.I b o ∨ J b o, Dt := fun k => κ.Dt k ∨ k = id, τ := fun k => if k = id then sp else κ.τ k } w := by
  have hne : ∀ k, κ.Dt k → k ≠ id := fun k hk e => hid (e ▸ hk)
  have e : Ext κ w { κ with I := fun b o => κ.I b o ∨ J b o, Dt := fun k => κ.Dt k ∨ k = id, τ := fun k => if k = id then sp else κ.τ k } w :=
    ⟨fun _ _ h => .inl h, fun _ _ _ => rfl, fun _ h => ⟨h, rfl⟩, fun k h => ⟨.inl h, by simp [hne k h]⟩⟩
  have hss : ∀ n, look (δ ++ σ) (.s n) = look σ (.s n) := by
    intro n; subst hδ; cases off <;> simp [look_cons]
  have hbb : ∀ n, look (δ ++ σ) (.b n) = look σ (.b n) := by
    intro n; subst hδ; cases off <;> simp [look_cons]
  have htt : ∀ k, look (δ ++ σ) (.t k) = some (.tk true) → k = id ∨ (k ≠ id ∧ off ≠ some k ∧ look σ (.t k) = some (.tk true)) := by
    intro k h
    by_cases hk : k = id
    · exact .inl hk
    · subst hδ
      have hk' : ¬ id = k := fun x => hk x.symm
      cases off with
      | none => simp [look_cons, hk'] at h; exact .inr ⟨hk, by simp, h⟩
      | some j =>
        by_cases hj : j = k
        · simp [look_cons, hk', hj] at h
        · simp [look_cons, hk', hj] at h; exact .inr ⟨hk, by simp [hj], h⟩
  have hown : ∀ b o, Own { κ with I := fun b o => κ.I b o ∨ J b o, Dt := fun k => κ.Dt k ∨ k = id, τ := fun k => if k = id then sp else κ.τ k } (δ ++ σ) b o →
      inSp sp b o ∨ (Own κ σ b o ∧ ∀ k, off = some k → ¬ inSp (κ.τ k) b o) := by
    rintro b o (⟨i, l, hl, hi⟩ | ⟨k, hk, hi⟩)
    · rw [hbb] at hl
      refine .inr ⟨.inl ⟨i, l, hl, hi⟩, fun k hk hh => ?_⟩
      exact hs.tbox k i l (hoff k hk) hl b o hh hi
    · rcases htt k hk with rfl | ⟨h1, h2, h3⟩
      · simp at hi; exact .inl hi
      · simp only [h1, if_false] at hi
        refine .inr ⟨.inr ⟨k, h3, hi⟩, fun k' hk' hh => ?_⟩
        exact hs.tdis k k' h3 (hoff k' hk') (fun x => h2 (x ▸ hk')) b o hi hh
  have hown2 : ∀ b o, inSp sp b o → Own κ σ b o := fun b o h => by
    obtain ⟨_, k, hk, hh⟩ := hspo b o h
    exact .inr ⟨k, hoff k hk, hh⟩
  refine ⟨⟨fun n v h => by rw [hss] at h; exact (hs.slots n v h).mono e, ?_, ?_, ?_, ?_, ?_, ?_, ?_, fun b o h => .inl (hs.old b o h), hs.size0, hs.amb, hs.defers, hs.os, hs.tape, hs.output⟩,
    ⟨.refl _ _, ?_, fun _ _ h => .inl h, ?_, fun _ _ h => ⟨h, rfl⟩, fun k _ h => ⟨.inl h, by simp [hne k h]⟩⟩, e⟩
  · intro b l h
    rw [hbb] at h
    obtain ⟨h1, h2, C, ty, h3, h4⟩ := hs.boxes b l h
    exact ⟨h1, h2, C, ty, h3, h4.mono e⟩
  · intro b b' l l' h h'
    rw [hbb] at h h'
    exact hs.binj b b' l l' h h'
  · intro k h
    rcases htt k h with rfl | ⟨h1, h2, h3⟩
    · refine ⟨.inr rfl, fun hh => ?_⟩
      simp at hh ⊢
      simpa using hsp hh
    · obtain ⟨g1, g2⟩ := hs.toks k h3
      refine ⟨.inl g1, ?_⟩
      simpa [h1] using g2
  · intro k k' h h' hkk b o hi hi'
    rcases htt k h with rfl | ⟨h1, h2, h3⟩ <;> rcases htt k' h' with e' | ⟨h1', h2', h3'⟩
    · exact hkk e'.symm
    · simp at hi
      simp only [h1', if_false] at hi'
      obtain ⟨_, j, hj, hh⟩ := hspo b o hi
      exact hs.tdis k' j h3' (hoff j hj) (fun x => h2' (x ▸ hj)) b o hi' hh
    · subst e'
      simp at hi'
      simp only [h1, if_false] at hi
      obtain ⟨_, j, hj, hh⟩ := hspo b o hi'
      exact hs.tdis k j h3 (hoff j hj) (fun x => h2 (x ▸ hj)) b o hi hh
    · simp only [h1, h1', if_false] at hi hi'
      exact hs.tdis k k' h3 h3' hkk b o hi hi'
  · intro k i l h h' x o ho
    rw [hbb] at h'
    rcases htt k h with rfl | ⟨h1, h2, h3⟩
    · simp at ho
      obtain ⟨_, j, hj, hh⟩ := hspo _ o ho
      exact hs.tbox j i l (hoff j hj) h' x o hh
    · simp only [h1, if_false] at ho
      exact hs.tbox k i l h3 h' x o ho
  · intro b o ho hI
    rcases hown b o ho with h | ⟨h, hn⟩
    · rcases hI with hI | hI
      · exact (hspo b o h).1 hI
      · exact (hJ b o hI).2.2.1 h
    · rcases hI with hI | hI
      · exact hs.sepI b o h hI
      · obtain ⟨k, hk, hh⟩ := (hJ b o hI).2.1 h
        exact hn k hk hh
  · rintro b o (h | h)
    · exact hs.Icell b o h
    · exact (hJ b o h).1
  · intro b o h
    rcases hown b o h with h | ⟨h, _⟩
    · exact .inl (hown2 b o h)
    · exact .inl h
  · rintro b o (h | h)
    · exact .inl h
    · rcases (hJ b o h).2.2.2 with h | h
      · exact .inr (.inl h)
      · exact .inl h

/-- a row of the call's own: the first n cells are data, the rest belongs to the new token -/
theorem RepS.rowTok {W0 : World} {κ : Gh} {σ : Log} {a : Act} {w : World} (hs : RepS W0 κ σ a w) (off : Option Nat) (hoff : ∀ k, off = some k → look σ (.t k) = some (.tk true))
    {id : Nat} (hid : ¬ κ.Dt id) (C : Array Value) (ty : TypeId) (n m : Nat) (hm : m ≤ C.size)
    (δ : Log) (hδ : δ = (.t id, .tk true) :: (match off with | some k => [(.t k, .tk false)] | none => [])) :
    RepS W0 { κ with I := fun b o => κ.I b o ∨ (b = w.heap.size ∧ o < n), Dt := fun k => κ.Dt k ∨ k = id, τ := fun k => if k = id then (w.heap.size, n, m) else κ.τ k } (δ ++ σ) a (w.alloc (.cells C ty)) ∧
    Step κ σ w { κ with I := fun b o => κ.I b o ∨ (b = w.heap.size ∧ o < n), Dt := fun k => κ.Dt k ∨ k = id, τ := fun k => if k = id then (w.heap.size, n, m) else κ.τ k } (δ ++ σ) (w.alloc (.cells C ty)) ∧
    Ext κ w { κ with I := fun b o => κ.I b o ∨ (b = w.heap.size ∧ o < n), Dt := fun k => κ.Dt k ∨ k = id, τ := fun k => if k = id then (w.heap.size, n, m) else κ.τ k } (w.alloc (.cells C ty)) := by
  have hne : ∀ k, κ.Dt k → k ≠ id := fun k hk e => hid (e ▸ hk)
  have e : Ext κ w { κ with I := fun b o => κ.I b o ∨ (b = w.heap.size ∧ o < n), Dt := fun k => κ.Dt k ∨ k = id, τ := fun k => if k = id then (w.heap.size, n, m) else κ.τ k } (w.alloc (.cells C ty)) :=
    ⟨fun _ _ h => .inl h, fun b o h => chg_alloc.cell hs h, fun _ h => ⟨h, rfl⟩, fun k h => ⟨.inl h, by simp [hne k h]⟩⟩
  have hss : ∀ n, look (δ ++ σ) (.s n) = look σ (.s n) := by
    intro n; subst hδ; cases off <;> simp [look_cons]
  have hbb : ∀ n, look (δ ++ σ) (.b n) = look σ (.b n) := by
    intro n; subst hδ; cases off <;> simp [look_cons]
  have htt : ∀ k, look (δ ++ σ) (.t k) = some (.tk true) → k = id ∨ (k ≠ id ∧ look σ (.t k) = some (.tk true)) := by
    intro k h
    by_cases hk : k = id
    · exact .inl hk
    · subst hδ
      have hk' : ¬ id = k := fun x => hk x.symm
      cases off with
      | none => simp [look_cons, hk'] at h; exact .inr ⟨hk, h⟩
      | some j =>
        by_cases hj : j = k
        · simp [look_cons, hk', hj] at h
        · simp [look_cons, hk', hj] at h; exact .inr ⟨hk, h⟩
  have hold : ∀ b o, Own κ σ b o → b < w.heap.size := fun b o h => by obtain ⟨C, ty, hh⟩ := hs.ownCells h; exact lt_of_heap hh
  have hown : ∀ b o, Own { κ with I := fun b o => κ.I b o ∨ (b = w.heap.size ∧ o < n), Dt := fun k => κ.Dt k ∨ k = id, τ := fun k => if k = id then (w.heap.size, n, m) else κ.τ k } (δ ++ σ) b o →
      (b = w.heap.size ∧ n ≤ o) ∨ Own κ σ b o := by
    rintro b o (⟨i, l, hl, hi⟩ | ⟨k, hk, hi⟩)
    · rw [hbb] at hl; exact .inr (.inl ⟨i, l, hl, hi⟩)
    · rcases htt k hk with rfl | ⟨h1, h3⟩
      · simp [inSp] at hi; exact .inl ⟨hi.1.symm, hi.2.1⟩
      · simp only [h1, if_false] at hi; exact .inr (.inr ⟨k, h3, hi⟩)
  refine ⟨⟨fun n v h => by rw [hss] at h; exact (hs.slots n v h).mono e, ?_, ?_, ?_, ?_, ?_, ?_, ?_, fun b o h => .inl (hs.old b o h), ?_, chg_alloc.amb hs, hs.defers, hs.os, hs.tape, hs.output⟩,
    ⟨chg_alloc, ?_, fun _ _ h => .inl h, ?_, fun _ _ h => ⟨h, rfl⟩, fun k _ h => ⟨.inl h, by simp [hne k h]⟩⟩, e⟩
  · intro b l h
    rw [hbb] at h
    obtain ⟨h1, h2, C', ty', h3, h4⟩ := hs.boxes b l h
    exact ⟨h1, h2, C', ty', by rw [heap_alloc_lt (lt_of_heap h3)]; exact h3, h4.mono e⟩
  · intro b b' l l' h h'
    rw [hbb] at h h'
    exact hs.binj b b' l l' h h'
  · intro k h
    rcases htt k h with rfl | ⟨h1, h3⟩
    · refine ⟨.inr rfl, fun hh => ?_⟩
      simp only [if_true] at hh ⊢
      exact ⟨hs.size0, C, ty, heap_alloc_new, hm⟩
    · obtain ⟨g1, g2⟩ := hs.toks k h3
      refine ⟨.inl g1, ?_⟩
      simp only [h1, if_false]
      intro hh
      obtain ⟨h5, C', ty', h6, h7⟩ := g2 hh
      exact ⟨h5, C', ty', by rw [heap_alloc_lt (lt_of_heap h6)]; exact h6, h7⟩
  · intro k k' h h' hkk b o hi hi'
    rcases htt k h with rfl | ⟨h1, h3⟩ <;> rcases htt k' h' with e' | ⟨h1', h3'⟩
    · exact hkk e'.symm
    · simp [inSp] at hi
      simp only [h1', if_false] at hi'
      have := hold b o (.inr ⟨k', h3', hi'⟩)
      omega
    · subst e'
      simp [inSp] at hi'
      simp only [h1, if_false] at hi
      have := hold b o (.inr ⟨k, h3, hi⟩)
      omega
    · simp only [h1, h1', if_false] at hi hi'
      exact hs.tdis k k' h3 h3' hkk b o hi hi'
  · intro k i l h h' x o ho hi
    rw [hbb] at h'
    rcases htt k h with rfl | ⟨h1, h3⟩
    · simp [inSp] at ho
      obtain ⟨_, _, C', ty', h5, _⟩ := hs.boxes i l h'
      have := lt_of_heap h5
      have := hi.1
      simp only [spb] at this
      omega
    · simp only [h1, if_false] at ho
      exact hs.tbox k i l h3 h' x o ho hi
  · rintro b o ho (hI | ⟨h1, h2⟩)
    · rcases hown b o ho with ⟨h, _⟩ | h
      · have := hs.Icell b o hI; omega
      · exact hs.sepI b o h hI
    · rcases hown b o ho with ⟨_, h⟩ | h
      · omega
      · have := hold b o h; omega
  · rintro b o (h | ⟨h, _⟩)
    · have := hs.Icell b o h; rw [alloc_size]; omega
    · rw [alloc_size]; omega
  · have := hs.size0; rw [alloc_size]; omega
  · intro b o h
    rcases hown b o h with ⟨h, _⟩ | h
    · exact .inr (by omega)
    · exact .inl h
  · rintro b o (h | ⟨h, _⟩)
    · exact .inl h
    · exact .inr (.inr (by omega))
end Go.Abs
