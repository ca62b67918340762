/- A mixed slice is frozen. -/
import Derived.Test.YthmcdebdkbhbmaaGreatDoorB3
namespace Go.Abs
open Go

theorem flatten_get {α : Type} {sz : Nat} : ∀ {ch : List (List α)} {i j : Nat} {e : List α} {d : α}, (∀ e, e ∈ ch → e.length = sz) → ch[i]? = some e → e[j]? = some d → ch.flatten[i * sz + j]? = some d
  | [], i, j, e, d, _, h, _ => by simp at h
  | x :: ch, i, j, e, d, hs, h, hj => by
    have hx := hs x (by simp)
    rw [List.flatten_cons]
    cases i with
    | zero =>
      simp at h; subst h
      have hlt := (List.getElem?_eq_some_iff.1 hj).1
      rw [Nat.zero_mul, Nat.zero_add, List.getElem?_append_left hlt]
      exact hj
    | succ i =>
      have := flatten_get (ch := ch) (fun e he => hs e (by simp [he])) (by simpa using h) hj
      rw [List.getElem?_append_right (by rw [hx, Nat.succ_mul]; omega), hx]
      rw [show (i + 1) * sz + j - sz = i * sz + j by rw [Nat.succ_mul]; omega]
      exact this

theorem look_thaw {b sz n : Nat} {ch : List (List Data)} : ∀ {σ : Log} {l : Loc}, look (thaw b sz n ch σ) l = (look σ l).map (thawC b sz n ch)
  | [], l => rfl
  | (k, c) :: r, l => by
    rw [thaw, look_cons, look_cons, look_thaw]
    by_cases h : k = l <;> simp [h]

section
variable {W0 : World} {κ : Gh} {σ : Log} {a : Act} {w : World}

theorem thaw_rep (hs : RepS W0 κ σ a w) {b sz n : Nat} {l : List AV} (hb : look σ (.b b) = some (.bx l)) {ch : List (List Data)} (hc : cellsD l = some ch.flatten) (hn : ch.length = n) (hz : ∀ e, e ∈ ch → e.length = sz)
    {els : List (List Data)} {t : Tok} {x : Value} (hv : RepV { κ with I := fun x o => κ.I x o ∨ inSp (spb κ b l) x o } w (.mx sz els b n t) x) :
    RepV { κ with I := fun x o => κ.I x o ∨ inSp (spb κ b l) x o } w (.sl sz (els ++ ch) t) x := by
  obtain ⟨off, cap, h1, h2, h3, h4, h5, rfl⟩ := hv.mx_inv
  have h2 : (κ.ι b).2 = off + els.length * sz := h2
  obtain ⟨_, _, C, ty, hC, hR⟩ := hs.boxes b l hb
  obtain ⟨hcl, hcd⟩ := cellsD_spec hc
  have hfl : ch.flatten.length = n * sz := by
    rw [← hn]
    clear hc hn hcl hcd
    induction ch with
    | nil => simp
    | cons e ch ih =>
      rw [List.flatten_cons, List.length_append, hz e (by simp), ih (fun e he => hz e (by simp [he])), List.length_cons, Nat.succ_mul]
      omega
  have hll : l.length = n * sz := by rw [← hcl, hfl]
  have hlen : (els ++ ch).length = els.length + n := by rw [List.length_append, hn]
  have key : ∀ (i j : Nat), i < els.length + n → j < sz → ∃ c, (κ.I (κ.ι b).1 (off + i * sz + j) ∨ inSp (spb κ b l) (κ.ι b).1 (off + i * sz + j)) ∧ w.cell? ⟨(κ.ι b).1, off + i * sz + j, none⟩ = some c ∧
      ∀ e d, (els ++ ch)[i]? = some e → e[j]? = some d → RepD (fun x o => κ.I x o ∨ inSp (spb κ b l) x o) w d c := by
    intro i j hi hj
    by_cases hie : i < els.length
    · generalize hD : Value.slice (some ⟨(κ.ι b).1, off, none⟩) els.length cap = v at h4
      cases h4 with
      | nil => simp at hie
      | lst _ _ b' q cap' C' hnc hl hI hcc hr =>
        cases hD
        refine ⟨C' i j, hI i j hie hj, hcc i j hie hj, fun e d he hd => ?_⟩
        rw [List.getElem?_append_left hie] at he
        exact hr i j e d he hd
    · have hk : (i - els.length) * sz + j < l.length := by
        rw [hll]
        have : (i - els.length) * sz + sz ≤ n * sz := by
          rw [← Nat.succ_mul]
          exact Nat.mul_le_mul_right _ (by omega)
        omega
      have hoff : off + i * sz + j = (κ.ι b).2 + ((i - els.length) * sz + j) := by
        rw [h2]
        have : i * sz = els.length * sz + (i - els.length) * sz := by rw [← Nat.add_mul]; congr 1; omega
        omega
      have hCs : (κ.ι b).2 + ((i - els.length) * sz + j) < C.size := by have := hR.1; omega
      refine ⟨C.getD ((κ.ι b).2 + ((i - els.length) * sz + j)) undef, .inr ⟨rfl, by simp only [spb]; omega, by simp only [spb]; omega⟩, ?_, fun e d he hd => ?_⟩
      · rw [hoff, cell?_of_cells hC]
        simp [Array.getD, hCs]
      · rw [List.getElem?_append_right (by omega)] at he
        have hf := flatten_get hz he hd
        obtain ⟨d', hd', hcell⟩ := hcd _ _ (List.getElem?_eq_getElem hk)
        rw [hf] at hd'
        cases hd'
        have hrep := hR.2.2 _ _ (List.getElem?_eq_getElem hk)
        exact (cellD_rep hrep hcell).mono (fun _ _ h => .inl h) (fun _ _ _ => rfl)
  refine .sl sz (els ++ ch) t _ ?_ h5
  rw [← hlen]
  refine .lst sz (els ++ ch) _ off cap (fun i j => (w.cell? ⟨(κ.ι b).1, off + i * sz + j, none⟩).getD undef) (by rw [hlen]; exact h3) ?_ ?_ ?_ ?_
  · intro e he
    rcases List.mem_append.1 he with he | he
    · generalize hD : Value.slice (some ⟨(κ.ι b).1, off, none⟩) els.length cap = v at h4
      cases h4 with
      | nil => simp at he
      | lst _ _ b' q cap' C' hnc hl hI hcc hr => exact hl e he
    · exact hz e he
  · intro i j hi hj
    rw [hlen] at hi
    obtain ⟨c, g1, _⟩ := key i j hi hj
    exact g1
  · intro i j hi hj
    rw [hlen] at hi
    obtain ⟨c, _, g2, _⟩ := key i j hi hj
    rw [g2]; rfl
  · intro i j e d he hd
    have hi : i < els.length + n := by rw [← hlen]; exact (List.getElem?_eq_some_iff.1 he).1
    have hj : j < sz := by
      have hel : e.length = sz := by
        rcases List.mem_append.1 (List.mem_of_getElem? he) with he | he
        · generalize hD : Value.slice (some ⟨(κ.ι b).1, off, none⟩) els.length cap = v at h4
          cases h4 with
          | nil => simp at he
          | lst _ _ b' q cap' C' hnc hl hI hcc hr => exact hl e he
        · exact hz e he
      rw [← hel]; exact (List.getElem?_eq_some_iff.1 hd).1
    obtain ⟨c, _, g2, g3⟩ := key i j hi hj
    simp only [g2, Option.getD_some]
    exact g3 e d he hd

theorem RepS.frz (hs : RepS W0 κ σ a w) {b sz n : Nat} {l : List AV} (hb : look σ (.b b) = some (.bx l)) {ch : List (List Data)} (hc : cellsD l = some ch.flatten) (hn : ch.length = n) (hz : ∀ e, e ∈ ch → e.length = sz) :
    RepS W0 { κ with I := fun x o => κ.I x o ∨ inSp (spb κ b l) x o } ((.b b, .tk false) :: thaw b sz n ch σ) a w ∧
    Step κ σ w { κ with I := fun x o => κ.I x o ∨ inSp (spb κ b l) x o } ((.b b, .tk false) :: thaw b sz n ch σ) w := by
  obtain ⟨r, s, e⟩ := hs.freeze hb
  have tr := fun (els : List (List Data)) (t : Tok) (x : Value) => thaw_rep hs hb hc hn hz (els := els) (t := t) (x := x)
  generalize hκ : ({ κ with I := fun x o => κ.I x o ∨ inSp (spb κ b l) x o } : Gh) = κ' at r s e tr ⊢
  have ls : ∀ m, look ((.b b, .tk false) :: thaw b sz n ch σ) (.s m) = (look ((.b b, .tk false) :: σ) (.s m)).map (thawC b sz n ch) := by
    intro m; simp [look_cons, look_thaw]
  have lt : ∀ m, look ((.b b, .tk false) :: thaw b sz n ch σ) (.t m) = (look ((.b b, .tk false) :: σ) (.t m)).map (thawC b sz n ch) := by
    intro m; simp [look_cons, look_thaw]
  have lb : ∀ m, look ((.b b, .tk false) :: thaw b sz n ch σ) (.b m) = (look ((.b b, .tk false) :: σ) (.b m)).map (thawC b sz n ch) := by
    intro m
    by_cases h : b = m
    · simp [look_cons, h, thawC]
    · simp [look_cons, h, look_thaw]
  have ht : ∀ k, look ((.b b, .tk false) :: thaw b sz n ch σ) (.t k) = some (.tk true) → look ((.b b, .tk false) :: σ) (.t k) = some (.tk true) := by
    intro k h
    rw [lt] at h
    cases hk : look ((.b b, .tk false) :: σ) (.t k) with
    | none => rw [hk] at h; cases h
    | some c =>
      rw [hk] at h
      simp only [Option.map_some, Option.some.injEq] at h
      unfold thawC at h
      split at h
      · split at h <;> cases h
      · cases h
      · rw [h]
  have ht' : ∀ k, look ((.b b, .tk false) :: σ) (.t k) = some (.tk true) → look ((.b b, .tk false) :: thaw b sz n ch σ) (.t k) = some (.tk true) := by
    intro k h
    rw [lt, h]; rfl
  have hB : ∀ m l', look ((.b b, .tk false) :: thaw b sz n ch σ) (.b m) = some (.bx l') → ∃ l0, look ((.b b, .tk false) :: σ) (.b m) = some (.bx l0) ∧ l'.length = l0.length ∧ ∀ C o, RepC κ' w l0 C o → RepC κ' w l' C o := by
    intro m l' h
    rw [lb] at h
    cases hk : look ((.b b, .tk false) :: σ) (.b m) with
    | none => rw [hk] at h; cases h
    | some c =>
      rw [hk] at h
      simp only [Option.map_some, Option.some.injEq] at h
      unfold thawC at h
      split at h
      · split at h <;> cases h
      · rename_i l0
        simp only [Cell.bx.injEq] at h
        subst h
        refine ⟨l0, rfl, by simp, fun C o hR => ⟨by simpa using hR.1, ?_, fun j v hj => ?_⟩⟩
        · intro v hv
          obtain ⟨u, hu, rfl⟩ := List.mem_map.1 hv
          have h1 := hR.2.1 u hu
          split
          · split <;> first | rfl | exact h1
          · exact h1
        · rw [List.getElem?_map] at hj
          cases hu : l0[j]? with
          | none => rw [hu] at hj; cases hj
          | some u =>
            rw [hu] at hj
            simp only [Option.map_some, Option.some.injEq] at hj
            subst hj
            have h1 := hR.2.2 j u hu
            split
            · split
              · rename_i q1 q2 q3
                have q1 := Nat.eq_of_beq_eq_true q1
                have q2 := Nat.eq_of_beq_eq_true q2
                have q3 := Nat.eq_of_beq_eq_true q3
                subst q1; subst q2; subst q3
                exact tr _ _ _ h1
              · exact h1
            · exact h1
      · rw [h]; exact ⟨l', rfl, rfl, fun C o hR => hR⟩
  have hown : ∀ x o, Own κ' ((.b b, .tk false) :: thaw b sz n ch σ) x o → Own κ' ((.b b, .tk false) :: σ) x o := by
    rintro x o (⟨i, m, hm, hi⟩ | ⟨k, hk, hi⟩)
    · obtain ⟨l0, h1, h2, _⟩ := hB i m hm
      exact .inl ⟨i, l0, h1, by simpa only [spb, h2] using hi⟩
    · exact .inr ⟨k, ht k hk, hi⟩
  refine ⟨⟨?_, ?_, ?_, ?_, ?_, ?_, fun x o h => r.sepI x o (hown x o h), r.Icell, r.old, r.size0, r.amb, r.defers, r.os, r.tape, r.output⟩, ⟨s.chg, fun x o h => s.own x o (hown x o h), s.I_, s.In, s.low, s.lowt⟩⟩
  · intro m v h
    rw [ls] at h
    cases hk : look ((.b b, .tk false) :: σ) (.s m) with
    | none => rw [hk] at h; cases h
    | some c =>
      rw [hk] at h
      simp only [Option.map_some, Option.some.injEq] at h
      unfold thawC at h
      split at h
      · rename_i sz' els b' n' t
        have h1 := r.slots m _ hk
        split at h
        · rename_i q1
          simp only [Cell.av.injEq] at h
          subst h
          simp only [thaw1]
          split
          · rename_i p1 p2 p3
            have p1 := Nat.eq_of_beq_eq_true p1
            have p2 := Nat.eq_of_beq_eq_true p2
            have p3 := Nat.eq_of_beq_eq_true p3
            subst p1; subst p2; subst p3
            exact tr _ _ _ h1
          · exact .bad _
        · simp only [Cell.av.injEq] at h
          subst h
          exact h1
      · cases h
      · rw [h] at hk
        exact r.slots m v hk
  · intro m l' h
    obtain ⟨l0, h1, h2, h3⟩ := hB m l' h
    obtain ⟨g1, g2, C, ty, g3, g4⟩ := r.boxes m l0 h1
    exact ⟨g1, g2, C, ty, g3, h3 _ _ g4⟩
  · intro m m' l1 l2 h h' hne x o hi hi'
    obtain ⟨l1', h1, h2, _⟩ := hB m l1 h
    obtain ⟨l2', h1', h2', _⟩ := hB m' l2 h'
    exact r.binj m m' l1' l2' h1 h1' hne x o (by simpa only [spb, h2] using hi) (by simpa only [spb, h2'] using hi')
  · intro k h; exact r.toks k (ht k h)
  · intro k k' h h'; exact r.tdis k k' (ht k h) (ht k' h')
  · intro k m l' h h' x o hi hi'
    obtain ⟨l0, h1, h2, _⟩ := hB m l' h'
    exact r.tbox k m l0 (ht k h) h1 x o hi (by simpa only [spb, h2] using hi')
end
end Go.Abs
