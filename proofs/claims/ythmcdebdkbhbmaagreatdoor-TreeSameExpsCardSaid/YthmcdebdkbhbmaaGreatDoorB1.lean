/- Boxes are frozen, split off a token's room, and given back to it. -/
import Derived.Test.YthmcdebdkbhbmaaGreatDoorA3
namespace Go.Abs
open Go

section
variable {W0 : World} {κ : Gh} {σ : Log} {a : Act} {w : World}

/-- a box is given up: its cells are data from now on -/
theorem RepS.freeze (hs : RepS W0 κ σ a w) {b : Nat} {l : List AV} (hb : look σ (.b b) = some (.bx l)) :
    RepS W0 { κ with I := fun x o => κ.I x o ∨ inSp (spb κ b l) x o } ((.b b, .tk false) :: σ) a w ∧
    Step κ σ w { κ with I := fun x o => κ.I x o ∨ inSp (spb κ b l) x o } ((.b b, .tk false) :: σ) w ∧
    Ext κ w { κ with I := fun x o => κ.I x o ∨ inSp (spb κ b l) x o } w := by
  have e : Ext κ w { κ with I := fun x o => κ.I x o ∨ inSp (spb κ b l) x o } w := ⟨fun _ _ h => .inl h, fun _ _ _ => rfl, fun _ h => ⟨h, rfl⟩, fun _ h => ⟨h, rfl⟩⟩
  have hB : ∀ {b' m}, look ((.b b, .tk false) :: σ) (.b b') = some (.bx m) → b' ≠ b ∧ look σ (.b b') = some (.bx m) := by
    intro b' m h
    rw [look_cons] at h
    by_cases hh : b = b'
    · subst hh; simp at h
    · simp [hh] at h; exact ⟨fun x => hh x.symm, h⟩
  have ht : ∀ k, look ((.b b, .tk false) :: σ) (.t k) = look σ (.t k) := fun k => by simp [look_cons]
  have hss : ∀ k, look ((.b b, .tk false) :: σ) (.s k) = look σ (.s k) := fun k => by simp [look_cons]
  have hown : ∀ x o, Own { κ with I := fun x o => κ.I x o ∨ inSp (spb κ b l) x o } ((.b b, .tk false) :: σ) x o → Own κ σ x o ∧ ¬ inSp (spb κ b l) x o := by
    rintro x o (⟨id, m, hm, hi⟩ | ⟨k, hk, hi⟩)
    · obtain ⟨h1, h2⟩ := hB hm
      exact ⟨.inl ⟨id, m, h2, hi⟩, hs.binj id b m l h2 hb h1 x o hi⟩
    · rw [ht] at hk
      exact ⟨.inr ⟨k, hk, hi⟩, hs.tbox k b l hk hb x o hi⟩
  refine ⟨⟨fun n v h => by rw [hss] at h; exact (hs.slots n v h).mono e, ?_, ?_, ?_, ?_, ?_, ?_, ?_, fun b o h => .inl (hs.old b o h), hs.size0, hs.amb, hs.defers, hs.os, hs.tape, hs.output⟩,
    ⟨.refl _ _, fun x o h => .inl (hown x o h).1, fun _ _ h => .inl h, ?_, fun _ _ h => ⟨h, rfl⟩, fun _ _ h => ⟨h, rfl⟩⟩, e⟩
  · intro b' m h
    obtain ⟨h1, h2, C, ty, h3, h4⟩ := hs.boxes b' m (hB h).2
    exact ⟨h1, h2, C, ty, h3, h4.mono e⟩
  · intro b1 b2 m1 m2 h1 h2
    exact hs.binj b1 b2 m1 m2 (hB h1).2 (hB h2).2
  · intro k h; rw [ht] at h; exact hs.toks k h
  · intro k k' h h'; rw [ht] at h h'; exact hs.tdis k k' h h'
  · intro k id m h h'; rw [ht] at h; exact hs.tbox k id m h (hB h').2
  · rintro x o ho (hI | hI)
    · exact hs.sepI x o (hown x o ho).1 hI
    · exact (hown x o ho).2 hI
  · rintro x o (hI | ⟨h1, _⟩)
    · exact hs.Icell x o hI
    · obtain ⟨_, _, C, ty, h3, _⟩ := hs.boxes b l hb
      exact h1 ▸ lt_of_heap h3
  · rintro x o (hI | hI)
    · exact .inl hI
    · exact .inr (.inl (.inl ⟨b, l, hb, hI⟩))

/-- the first cells of a token's room become a box -/
theorem RepS.split (hs : RepS W0 κ σ a w) {k : Nat} (hk : look σ (.t k) = some (.tk true)) {id : Nat} (hid : ¬ κ.Db id) (hidt : ¬ κ.Dt id) {g p q : Nat} (hτ : κ.τ k = (g, p, q)) {l : List AV} (hl0 : 0 < l.length)
    (hfit : p + l.length ≤ q) {C : Array Value} {ty : TypeId} (hg : w.heap[g]? = some (.cells C ty (0, 0))) (hl : RepC κ w l C p) :
    RepS W0 { κ with Db := fun b => κ.Db b ∨ b = id, ι := fun b => if b = id then (g, p) else κ.ι b, Dt := fun j => κ.Dt j ∨ j = id, τ := fun j => if j = id then (g, p + l.length, q) else κ.τ j } ((.b id, .bx l) :: (.t id, .tk true) :: (.t k, .tk false) :: σ) a w ∧
    Step κ σ w { κ with Db := fun b => κ.Db b ∨ b = id, ι := fun b => if b = id then (g, p) else κ.ι b, Dt := fun j => κ.Dt j ∨ j = id, τ := fun j => if j = id then (g, p + l.length, q) else κ.τ j } ((.b id, .bx l) :: (.t id, .tk true) :: (.t k, .tk false) :: σ) w ∧
    Ext κ w { κ with Db := fun b => κ.Db b ∨ b = id, ι := fun b => if b = id then (g, p) else κ.ι b, Dt := fun j => κ.Dt j ∨ j = id, τ := fun j => if j = id then (g, p + l.length, q) else κ.τ j } w := by
  have hne : ∀ b, κ.Db b → b ≠ id := fun b hb e => hid (e ▸ hb)
  have hnet : ∀ j, κ.Dt j → j ≠ id := fun b hb e => hidt (e ▸ hb)
  obtain ⟨hDk, hroom⟩ := hs.toks k hk
  have hkid : k ≠ id := hnet k hDk
  have hge : W0.heap.size ≤ g := by
    have := (hroom (by rw [hτ]; simp only; omega)).1
    rw [hτ] at this; exact this
  have hCq : q ≤ C.size := by
    obtain ⟨_, C', ty', h4, h5⟩ := hroom (by rw [hτ]; simp only; omega)
    rw [hτ] at h4 h5
    rw [hg] at h4
    cases h4
    exact h5
  have e : Ext κ w { κ with Db := fun b => κ.Db b ∨ b = id, ι := fun b => if b = id then (g, p) else κ.ι b, Dt := fun j => κ.Dt j ∨ j = id, τ := fun j => if j = id then (g, p + l.length, q) else κ.τ j } w :=
    ⟨fun _ _ h => h, fun _ _ _ => rfl, fun b h => ⟨.inl h, by simp [hne b h]⟩, fun j h => ⟨.inl h, by simp [hnet j h]⟩⟩
  have hss : ∀ n, look ((.b id, .bx l) :: (.t id, .tk true) :: (.t k, .tk false) :: σ) (.s n) = look σ (.s n) := fun n => by simp [look_cons]
  have hB : ∀ {b m}, look ((.b id, .bx l) :: (.t id, .tk true) :: (.t k, .tk false) :: σ) (.b b) = some (.bx m) → (b = id ∧ m = l) ∨ (b ≠ id ∧ look σ (.b b) = some (.bx m)) := by
    intro b m h
    by_cases hh : b = id
    · subst hh; simp [look_cons] at h; exact .inl ⟨rfl, h.symm⟩
    · have : ¬ id = b := fun x => hh x.symm
      simp [look_cons, this] at h; exact .inr ⟨hh, h⟩
  have hT : ∀ {j}, look ((.b id, .bx l) :: (.t id, .tk true) :: (.t k, .tk false) :: σ) (.t j) = some (.tk true) → j = id ∨ (j ≠ id ∧ j ≠ k ∧ look σ (.t j) = some (.tk true)) := by
    intro j h
    by_cases hh : j = id
    · exact .inl hh
    · have h1 : ¬ id = j := fun x => hh x.symm
      by_cases hjk : j = k
      · subst hjk; simp [look_cons, h1] at h
      · have h2 : ¬ k = j := fun x => hjk x.symm
        simp [look_cons, h1, h2] at h; exact .inr ⟨hh, hjk, h⟩
  have inK : ∀ {x o}, inSp (g, p, p + l.length) x o → inSp (κ.τ k) x o := by rintro x o ⟨h1, h2, h3⟩; rw [hτ]; exact ⟨h1, h2, by simp only at h3 ⊢; omega⟩
  have inK' : ∀ {x o}, inSp (g, p + l.length, q) x o → inSp (κ.τ k) x o := by rintro x o ⟨h1, h2, h3⟩; rw [hτ]; exact ⟨h1, by simp only at h2 ⊢; omega, h3⟩
  have hown : ∀ x o, Own { κ with Db := fun b => κ.Db b ∨ b = id, ι := fun b => if b = id then (g, p) else κ.ι b, Dt := fun j => κ.Dt j ∨ j = id, τ := fun j => if j = id then (g, p + l.length, q) else κ.τ j } ((.b id, .bx l) :: (.t id, .tk true) :: (.t k, .tk false) :: σ) x o → Own κ σ x o := by
    rintro x o (⟨i, m, hm, hi⟩ | ⟨j, hj, hi⟩)
    · rcases hB hm with ⟨rfl, rfl⟩ | ⟨h1, h2⟩
      · simp only [spb, if_true] at hi; exact .inr ⟨k, hk, inK hi⟩
      · simp only [spb, h1, if_false] at hi; exact .inl ⟨i, m, h2, hi⟩
    · rcases hT hj with rfl | ⟨h1, h2, h3⟩
      · simp only [if_true] at hi; exact .inr ⟨k, hk, inK' hi⟩
      · simp only [h1, if_false] at hi; exact .inr ⟨j, h3, hi⟩
  refine ⟨⟨fun n v h => by rw [hss] at h; exact (hs.slots n v h).mono e, ?_, ?_, ?_, ?_, ?_, fun x o ho => hs.sepI x o (hown x o ho), hs.Icell, hs.old, hs.size0, hs.amb, hs.defers, hs.os, hs.tape, hs.output⟩,
    ⟨.refl _ _, fun x o h => .inl (hown x o h), fun _ _ h => h, fun _ _ h => .inl h, fun b _ h => ⟨.inl h, by simp [hne b h]⟩, fun j _ h => ⟨.inl h, by simp [hnet j h]⟩⟩, e⟩
  · intro b m h
    rcases hB h with ⟨rfl, rfl⟩ | ⟨h1, h2⟩
    · refine ⟨.inr rfl, by simpa using hge, C, ty, by simpa using hg, ?_⟩
      simp only [if_true]
      exact hl.mono e
    · obtain ⟨g1, g2, C', ty', g3, g4⟩ := hs.boxes b m h2
      refine ⟨.inl g1, by simpa [h1] using g2, C', ty', by simpa [h1] using g3, ?_⟩
      simp only [h1, if_false]
      exact g4.mono e
  · intro b b' m m' h h' hbb x o hi hi'
    rcases hB h with ⟨rfl, rfl⟩ | ⟨h1, h2⟩ <;> rcases hB h' with ⟨e1, e2⟩ | ⟨h1', h2'⟩
    · exact hbb e1.symm
    · simp only [spb, if_true] at hi
      simp only [spb, h1', if_false] at hi'
      exact hs.tbox k b' m' hk h2' x o (inK hi) hi'
    · subst e1; subst e2
      simp only [spb, if_true] at hi'
      simp only [spb, h1, if_false] at hi
      exact hs.tbox k b m hk h2 x o (inK hi') hi
    · simp only [spb, h1, if_false] at hi
      simp only [spb, h1', if_false] at hi'
      exact hs.binj b b' m m' h2 h2' hbb x o hi hi'
  · intro j h
    rcases hT h with rfl | ⟨h1, h2, h3⟩
    · refine ⟨.inr rfl, fun _ => ?_⟩
      simp only [if_true]
      exact ⟨hge, C, ty, hg, hCq⟩
    · obtain ⟨g1, g2⟩ := hs.toks j h3
      refine ⟨.inl g1, ?_⟩
      simpa only [h1, if_false] using g2
  · intro j j' h h' hjj x o hi hi'
    rcases hT h with rfl | ⟨h1, h2, h3⟩ <;> rcases hT h' with e1 | ⟨h1', h2', h3'⟩
    · exact hjj e1.symm
    · simp only [if_true] at hi
      simp only [h1', if_false] at hi'
      exact hs.tdis k j' hk h3' (fun x => h2' x.symm) x o (inK' hi) hi'
    · subst e1
      simp only [if_true] at hi'
      simp only [h1, if_false] at hi
      exact hs.tdis k j hk h3 (fun x => h2 x.symm) x o (inK' hi') hi
    · simp only [h1, if_false] at hi
      simp only [h1', if_false] at hi'
      exact hs.tdis j j' h3 h3' hjj x o hi hi'
  · intro j i m h h' x o hi hi'
    rcases hT h with rfl | ⟨h1, h2, h3⟩ <;> rcases hB h' with ⟨e1, e2⟩ | ⟨h1', h2'⟩
    · subst e1; subst e2
      simp only [if_true] at hi
      simp only [spb, if_true] at hi'
      have := hi.2.1; have := hi'.2.2
      simp only at *
      omega
    · simp only [if_true] at hi
      simp only [spb, h1', if_false] at hi'
      exact hs.tbox k i m hk h2' x o (inK' hi) hi'
    · subst e1; subst e2
      simp only [h1, if_false] at hi
      simp only [spb, if_true] at hi'
      exact hs.tdis k j hk h3 (fun x => h2 x.symm) x o (inK hi') hi
    · simp only [h1, if_false] at hi
      simp only [spb, h1', if_false] at hi'
      exact hs.tbox j i m h3 h2' x o hi hi'

/-- a box is given back to the room behind it -/
theorem RepS.merge (hs : RepS W0 κ σ a w) {b : Nat} {l : List AV} (hb : look σ (.b b) = some (.bx l)) (off : Option Nat) (hoff : ∀ k, off = some k → look σ (.t k) = some (.tk true))
    {id : Nat} (hid : ¬ κ.Dt id) (sp : Nat × Nat × Nat) (hsp : ∀ x o, inSp sp x o → inSp (spb κ b l) x o ∨ ∃ k, off = some k ∧ inSp (κ.τ k) x o)
    (hroom : sp.2.1 < sp.2.2 → W0.heap.size ≤ sp.1 ∧ ∃ C ty, w.heap[sp.1]? = some (.cells C ty (0, 0)) ∧ sp.2.2 ≤ C.size)
    (δ : Log) (hδ : δ = (.t id, .tk true) :: (.b b, .tk false) :: (match off with | some k => [(.t k, .tk false)] | none => [])) :
    RepS W0 { κ with Dt := fun k => κ.Dt k ∨ k = id, τ := fun k => if k = id then sp else κ.τ k } (δ ++ σ) a w ∧
    Step κ σ w { κ with Dt := fun k => κ.Dt k ∨ k = id, τ := fun k => if k = id then sp else κ.τ k } (δ ++ σ) w ∧
    Ext κ w { κ with Dt := fun k => κ.Dt k ∨ k = id, τ := fun k => if k = id then sp else κ.τ k } w := by
  have hne : ∀ k, κ.Dt k → k ≠ id := fun k hk e => hid (e ▸ hk)
  have e : Ext κ w { κ with Dt := fun k => κ.Dt k ∨ k = id, τ := fun k => if k = id then sp else κ.τ k } w :=
    ⟨fun _ _ h => h, fun _ _ _ => rfl, fun _ h => ⟨h, rfl⟩, fun k h => ⟨.inl h, by simp [hne k h]⟩⟩
  have hss : ∀ n, look (δ ++ σ) (.s n) = look σ (.s n) := by
    intro n; subst hδ; cases off <;> simp [look_cons]
  have hB : ∀ {b' m}, look (δ ++ σ) (.b b') = some (.bx m) → b' ≠ b ∧ look σ (.b b') = some (.bx m) := by
    intro b' m h
    by_cases hh : b = b'
    · subst hh; subst hδ; cases off <;> simp [look_cons] at h
    · refine ⟨fun x => hh x.symm, ?_⟩
      subst hδ; cases off <;> simpa [look_cons, hh] using h
  have htt : ∀ k, look (δ ++ σ) (.t k) = some (.tk true) → k = id ∨ (k ≠ id ∧ off ≠ some k ∧ look σ (.t k) = some (.tk true)) := by
    intro k h
    by_cases hk : k = id
    · exact .inl hk
    · subst hδ
      have hk' : ¬ id = k := fun x => hk x.symm
      cases off with
      | none => simp [look_cons, hk'] at h; exact .inr ⟨hk, by simp, h⟩
      | some j =>
        by_cases hj : j = k
        · simp [look_cons, hk', hj] at h
        · simp [look_cons, hk', hj] at h; exact .inr ⟨hk, by simp [hj], h⟩
  have hown : ∀ x o, Own { κ with Dt := fun k => κ.Dt k ∨ k = id, τ := fun k => if k = id then sp else κ.τ k } (δ ++ σ) x o → Own κ σ x o := by
    rintro x o (⟨i, m, hm, hi⟩ | ⟨k, hk, hi⟩)
    · exact .inl ⟨i, m, (hB hm).2, hi⟩
    · rcases htt k hk with rfl | ⟨h1, h2, h3⟩
      · simp only [if_true] at hi
        rcases hsp x o hi with h | ⟨j, hj, h⟩
        · exact .inl ⟨b, l, hb, h⟩
        · exact .inr ⟨j, hoff j hj, h⟩
      · simp only [h1, if_false] at hi; exact .inr ⟨k, h3, hi⟩
  refine ⟨⟨fun n v h => by rw [hss] at h; exact (hs.slots n v h).mono e, ?_, ?_, ?_, ?_, ?_, fun x o ho => hs.sepI x o (hown x o ho), hs.Icell, hs.old, hs.size0, hs.amb, hs.defers, hs.os, hs.tape, hs.output⟩,
    ⟨.refl _ _, fun x o h => .inl (hown x o h), fun _ _ h => h, fun _ _ h => .inl h, fun _ _ h => ⟨h, rfl⟩, fun k _ h => ⟨.inl h, by simp [hne k h]⟩⟩, e⟩
  · intro b' m h
    obtain ⟨h1, h2, C, ty, h3, h4⟩ := hs.boxes b' m (hB h).2
    exact ⟨h1, h2, C, ty, h3, h4.mono e⟩
  · intro b1 b2 m1 m2 h1 h2
    exact hs.binj b1 b2 m1 m2 (hB h1).2 (hB h2).2
  · intro k h
    rcases htt k h with rfl | ⟨h1, h2, h3⟩
    · refine ⟨.inr rfl, fun hh => ?_⟩
      simp only [if_true] at hh ⊢
      exact hroom hh
    · obtain ⟨g1, g2⟩ := hs.toks k h3
      refine ⟨.inl g1, ?_⟩
      simpa only [h1, if_false] using g2
  · intro k k' h h' hkk x o hi hi'
    rcases htt k h with rfl | ⟨h1, h2, h3⟩ <;> rcases htt k' h' with e' | ⟨h1', h2', h3'⟩
    · exact hkk e'.symm
    · simp only [if_true] at hi
      simp only [h1', if_false] at hi'
      rcases hsp x o hi with h | ⟨j, hj, h⟩
      · exact hs.tbox k' b l h3' hb x o hi' h
      · exact hs.tdis j k' (hoff j hj) h3' (fun e => h2' (e ▸ hj)) x o h hi'
    · subst e'
      simp only [if_true] at hi'
      simp only [h1, if_false] at hi
      rcases hsp x o hi' with h | ⟨j, hj, h⟩
      · exact hs.tbox k b l h3 hb x o hi h
      · exact hs.tdis j k (hoff j hj) h3 (fun e => h2 (e ▸ hj)) x o h hi
    · simp only [h1, if_false] at hi
      simp only [h1', if_false] at hi'
      exact hs.tdis k k' h3 h3' hkk x o hi hi'
  · intro k i m h h' x o hi hi'
    obtain ⟨hib, him⟩ := hB h'
    rcases htt k h with rfl | ⟨h1, h2, h3⟩
    · simp only [if_true] at hi
      rcases hsp x o hi with h | ⟨j, hj, h⟩
      · exact hs.binj b i l m hb him (fun e => hib e.symm) x o h hi'
      · exact hs.tbox j i m (hoff j hj) him x o h hi'
    · simp only [h1, if_false] at hi
      exact hs.tbox k i m h3 him x o hi hi'
end
end Go.Abs
