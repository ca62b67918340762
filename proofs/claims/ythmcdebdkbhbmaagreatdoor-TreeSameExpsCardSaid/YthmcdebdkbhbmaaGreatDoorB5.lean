/- Open appends: what is appended lies in a box of its own. -/
import Derived.Test.YthmcdebdkbhbmaaGreatDoorB2
namespace Go.Abs
open Go

theorem flat_cells {κ : Gh} {w : World} {sz : Nat} {els : List (List Data)} {L : List Value} (h : Flat κ.I w sz els L) : (els.flatten.map dcell).length = L.length ∧
    ∀ (j : Nat) (v : AV), (els.flatten.map dcell)[j]? = some v → RepV κ w v (L.getD j undef) ∧ one v = true := by
  have hlen : els.flatten.length = els.length * sz := by
    have := h.el
    clear h
    induction els with
    | nil => simp
    | cons e r ih =>
      rw [List.flatten_cons, List.length_append, this e (by simp), ih (fun e he => this e (by simp [he])), List.length_cons, Nat.succ_mul]; omega
  refine ⟨by rw [List.length_map, hlen, h.len], fun j v hj => ?_⟩
  rw [List.getElem?_map] at hj
  cases hd : els.flatten[j]? with
  | none => rw [hd] at hj; cases hj
  | some d =>
    rw [hd] at hj
    simp only [Option.map_some, Option.some.injEq] at hj
    subst hj
    have hjl : j < els.length * sz := by rw [← hlen]; exact (List.getElem?_eq_some_iff.1 hd).1
    have hsz : 0 < sz := by
      rcases Nat.eq_zero_or_pos sz with h | h
      · subst h; simp at hjl
      · exact h
    have hi : j / sz < els.length := (Nat.div_lt_iff_lt_mul hsz).2 hjl
    have hes := h.el els[j / sz] (List.getElem_mem hi)
    have hjm : j % sz < els[j / sz].length := by rw [hes]; exact Nat.mod_lt _ hsz
    have hf : ∀ (ch : List (List Data)) (i k : Nat) (e : List Data) (d : Data), (∀ e, e ∈ ch → e.length = sz) → ch[i]? = some e → e[k]? = some d → ch.flatten[i * sz + k]? = some d := by
      intro ch
      induction ch with
      | nil => intro i k e d _ h _; simp at h
      | cons x ch ih =>
        intro i k e d hs h hj
        have hx := hs x (by simp)
        rw [List.flatten_cons]
        cases i with
        | zero =>
          simp at h; subst h
          rw [Nat.zero_mul, Nat.zero_add, List.getElem?_append_left (List.getElem?_eq_some_iff.1 hj).1]; exact hj
        | succ i =>
          have := ih i k e d (fun e he => hs e (by simp [he])) (by simpa using h) hj
          rw [List.getElem?_append_right (by rw [hx, Nat.succ_mul]; omega), hx, show (i + 1) * sz + k - sz = i * sz + k by rw [Nat.succ_mul]; omega]
          exact this
    have h1 := hf els (j / sz) (j % sz) _ _ h.el (List.getElem?_eq_getElem hi) (List.getElem?_eq_getElem hjm)
    rw [Nat.div_add_mod' j sz, hd] at h1
    have h2 := h.rep (j / sz) (j % sz) _ _ (List.getElem?_eq_getElem hi) (List.getElem?_eq_getElem hjm)
    rw [Nat.div_add_mod' j sz] at h2
    cases h1
    exact dcell_rep h2

section ops
variable {P : Program} {W0 : World} {κ : Gh} {σ : Log} {a : Act} {w : World} {id : Nat} {F : Log → Prop} {call : CallP} {o : Oper} {Q : Exit → Act → World → Prop} {d : Nat} {z : Option Nat}

theorem s_mkF (hs : RepS W0 κ σ a w) {t e : TypeId} {sz by_ : Nat} {x : Operand} {x' : Opd} {zl : List AV} {zd : List Data} {i : TypeInfo} {v : Value}
    (ho : o.op = .makeSlice t x x) (hd : o.dst = some d) (hx : opdC z x = some x') (hu : P.underlying t = some (.slice e)) (hi : P.info? e = some i) (hiv : i.zero = some v) (hsz : i.size = sz) (hby : i.bytes = by_)
    (hz : ∀ (κ : Gh) (w : World), RepL κ w zl v.cells) (hvs : v.cells.size = sz) (hcd : cellsD zl = some zd) (hN : d < a.tmps.size) (h : eff call σ id (.mkF d sz by_ zd x') F) : o.wp P a w (After W0 κ σ a w id F) Q := by
  have hr := opd_rep hs hx
  simp only [eff] at h
  split at h
  · rename_i n he
    rw [he] at hr
    have ex := hr.sc_inv
    simp only [Sc.val] at ex
    obtain ⟨⟨h0, hR1, hR2⟩, hF⟩ := h
    have hzl : zl.length = sz := by rw [← (hz κ w).1, hvs]
    obtain ⟨hzd, hcell⟩ := cellsD_spec hcd
    have hrun := run_make (P := P) w t e i v hu hi hiv .i64 .i64 n n h0 (Int.le_refl _) (by
      rw [hby]
      have h1 : ((n.toNat * by_ : Nat) : Int) ≤ 140737488355328 := by omega
      have h2 : ((n.toNat * by_ : Nat) : Int) = n * by_ := by rw [Int.natCast_mul, Int.toNat_of_nonneg h0]
      rw [Int.mul_comm]; omega) (by omega)
    have hexec : (execOp a.eval o).run P w = .ok (.value (.slice (some ⟨w.heap.size, 0, none⟩) n.toNat n.toNat)) (w.alloc (.cells (madeCells v.cells (n.toNat * sz)) e)) := by
      simp only [execOp, ho, ex]
      rw [hsz] at hrun
      simp [hrun]
    obtain ⟨h1, h2, h3⟩ := hs.row (madeCells v.cells (n.toNat * sz)) e (n.toNat * sz)
    refine wp_value hexec ?_
    rw [hd]
    refine ⟨_, _, hF, h1.put hN ?_, h2.trans Step.put, put_size, ⟨fun b hb => .inl hb, fun k hk => .inl hk⟩⟩
    refine .sl sz _ .full _ ?_ (fun A m c ev => by cases ev; rfl)
    have hk : ∀ p q, p < n.toNat → q < sz → p * sz + q < n.toNat * sz := by
      intro p q hp hq
      have : p * sz + sz ≤ n.toNat * sz := by rw [← Nat.succ_mul]; exact Nat.mul_le_mul_right _ hp
      omega
    have hel : ∀ p e', (List.replicate n.toNat zd)[p]? = some e' → p < n.toNat ∧ e' = zd := by
      intro p e' hp
      rw [List.getElem?_replicate] at hp
      split at hp
      · rename_i hlt; cases hp; exact ⟨hlt, rfl⟩
      · cases hp
    have := RepD.lst (I := fun b o => κ.I b o ∨ (b = w.heap.size ∧ o < n.toNat * sz)) (w := w.alloc (.cells (madeCells v.cells (n.toNat * sz)) e)) sz (List.replicate n.toNat zd) w.heap.size 0 n.toNat (fun _ q => v.cells.getD q undef) (by simp)
      (fun e' he' => by rw [List.eq_of_mem_replicate he', hzd, hzl])
      (fun p q hp hq => by simp only [List.length_replicate] at hp; exact .inr ⟨rfl, by have := hk p q hp hq; omega⟩)
      (fun p q hp hq => by
        simp only [List.length_replicate] at hp
        have hlt := hk p q hp hq
        have hszp : 0 < sz := by omega
        have hm : (p * sz + q) % sz = q := by rw [Nat.mul_comm, Nat.mul_add_mod]; exact Nat.mod_eq_of_lt hq
        rw [cell?_of_cells (heap_alloc_new (w := w)), Nat.zero_add]
        simp [madeCells, hlt, hvs, hm, hq, Array.getD])
      (fun p q e' dd he' hd' => by
        obtain ⟨_, rfl⟩ := hel p e' he'
        have hql : q < zl.length := by rw [← hzd]; exact (List.getElem?_eq_some_iff.1 hd').1
        obtain ⟨d', g1, g2⟩ := hcell q _ (List.getElem?_eq_getElem hql)
        rw [hd'] at g1
        cases g1
        exact cellD_rep (κ := { κ with I := fun b o => κ.I b o ∨ (b = w.heap.size ∧ o < n.toNat * sz) }) ((hz _ _).2.2 q _ (List.getElem?_eq_getElem hql)) g2)
    simpa using this
  · exact h.elim
end ops
end Go.Abs
