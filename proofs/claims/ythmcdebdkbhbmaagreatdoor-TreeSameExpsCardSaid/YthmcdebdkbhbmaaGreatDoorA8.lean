/- Slicing and appending. -/
import Derived.Test.YthmcdebdkbhbmaaGreatDoorA7
import Derived.Laws.Append
namespace Go.Abs
open Go

/-- a list of cells that reads as these elements -/
structure Flat (I : Nat → Nat → Prop) (w : World) (sz : Nat) (els : List (List Data)) (L : List Value) : Prop where
  len : L.length = els.length * sz
  el : ∀ e, e ∈ els → e.length = sz
  rep : ∀ (i j : Nat) (e : List Data) (d : Data), els[i]? = some e → e[j]? = some d → RepD I w d (L.getD (i * sz + j) undef)

theorem Flat.mono {I I' : Nat → Nat → Prop} {w w' : World} {sz : Nat} {els : List (List Data)} {L : List Value} (hI : ∀ b o, I b o → I' b o) (hc : ∀ b o, I b o → w'.cell? ⟨b, o, none⟩ = w.cell? ⟨b, o, none⟩)
    (h : Flat I w sz els L) : Flat I' w' sz els L := ⟨h.len, h.el, fun i j e d h1 h2 => (h.rep i j e d h1 h2).mono hI hc⟩

theorem Flat.nil (I : Nat → Nat → Prop) (w : World) (sz : Nat) : Flat I w sz [] [] := ⟨by simp, by simp, fun i j e d h => by simp at h⟩

theorem Flat.append {I : Nat → Nat → Prop} {w : World} {sz : Nat} {e1 e2 : List (List Data)} {L1 L2 : List Value} (h1 : Flat I w sz e1 L1) (h2 : Flat I w sz e2 L2) : Flat I w sz (e1 ++ e2) (L1 ++ L2) := by
  refine ⟨by simp [h1.len, h2.len, Nat.add_mul], ?_, ?_⟩
  · intro e he
    rcases List.mem_append.1 he with h | h
    · exact h1.el e h
    · exact h2.el e h
  · intro i j e d hi hj
    have hjs : j < e.length := (List.getElem?_eq_some_iff.1 hj).1
    by_cases hl : i < e1.length
    · rw [List.getElem?_append_left hl] at hi
      have hes := h1.el e (List.mem_of_getElem? hi)
      have hk : i * sz + j < L1.length := by
        rw [h1.len]
        have : i * sz + sz ≤ e1.length * sz := by rw [← Nat.succ_mul]; exact Nat.mul_le_mul_right _ hl
        omega
      have := h1.rep i j e d hi hj
      rw [List.getD_eq_getElem?_getD] at this ⊢
      rw [List.getElem?_append_left hk]; exact this
    · rw [List.getElem?_append_right (by omega)] at hi
      have hk : L1.length ≤ i * sz + j := by
        rw [h1.len]
        have : e1.length * sz ≤ i * sz := Nat.mul_le_mul_right _ (by omega)
        omega
      have := h2.rep (i - e1.length) j e d hi hj
      rw [List.getD_eq_getElem?_getD] at this ⊢
      rw [List.getElem?_append_right hk, h1.len, show i * sz + j - e1.length * sz = (i - e1.length) * sz + j by
        rw [Nat.sub_mul]
        have : e1.length * sz ≤ i * sz := Nat.mul_le_mul_right _ (by omega)
        omega]
      exact this

theorem Flat.one {I : Nat → Nat → Prop} {w : World} {sz : Nat} {els : List (List Data)} {L : List Value} (h : Flat I w sz els L) (hsz : 0 < sz) : ∀ u, u ∈ L → u.oneCell' = true := by
  intro u hu
  obtain ⟨k, hk, rfl⟩ := List.mem_iff_getElem.1 hu
  have hk' : k < els.length * sz := by rw [← h.len]; exact hk
  have hi : k / sz < els.length := (Nat.div_lt_iff_lt_mul hsz).2 hk'
  have hes := h.el els[k / sz] (List.getElem_mem hi)
  have hj : k % sz < els[k / sz].length := by rw [hes]; exact Nat.mod_lt _ hsz
  have := h.rep (k / sz) (k % sz) _ _ (List.getElem?_eq_getElem hi) (List.getElem?_eq_getElem hj)
  rw [Nat.div_add_mod' k sz, List.getD_eq_getElem?_getD, List.getElem?_eq_getElem hk] at this
  exact this.cells.2

theorem Flat.shut {I : Nat → Nat → Prop} {w : World} {sz : Nat} {els : List (List Data)} {L : List Value} (h : Flat I w sz els L) {b o cap : Nat} (hn : els.length ≤ cap)
    (hI : ∀ k, k < els.length * sz → I b (o + k)) (hc : ∀ k, k < els.length * sz → w.cell? ⟨b, o + k, none⟩ = L[k]?) : RepD I w (.lst sz els) (.slice (some ⟨b, o, none⟩) els.length cap) := by
  have hk : ∀ i j, i < els.length → j < sz → i * sz + j < els.length * sz := by
    intro i j hi hj
    have : i * sz + sz ≤ els.length * sz := by rw [← Nat.succ_mul]; exact Nat.mul_le_mul_right _ hi
    omega
  refine .lst sz els b o cap (fun i j => L.getD (i * sz + j) undef) hn h.el ?_ ?_ h.rep
  · intro i j hi hj; rw [Nat.add_assoc]; exact hI _ (hk i j hi hj)
  · intro i j hi hj
    rw [Nat.add_assoc, hc _ (hk i j hi hj), List.getD_eq_getElem?_getD, List.getElem?_eq_getElem (by rw [h.len]; exact hk i j hi hj)]
    rfl

theorem run_append_nil' {P : Program} (w : World) (t ty e : TypeId) (i : TypeInfo) (z : Value) (A : Option Addr) (ht : P.underlying t = some (.slice e)) (hi : P.info? e = some i) (hz : i.zero = some z)
    (a : Addr) (n c : Nat) (news : List Value) (hl : news.length = n * i.size) (hnews : ∀ j v, news[j]? = some v → w.cell? (a.add j) = some v)
    (h0 : 0 < n) (h63 : (n : Int) ≤ 9223372036854775807) (h48 : n * i.bytes ≤ 281474976710656) :
    (Builtin.append_ #[t, t] ty #[.slice A 0 0, .slice (some a) n c]).run P w =
      .ok (.slice (some ⟨w.heap.size, 0, none⟩) n (grownCap w n 0 e)) (w.drew.alloc (.cells (news.toArray ++ Builtin.zeroCells z.cells (grownCap w n 0 e - n)) e)) := by
  cases A with
  | none => exact run_append_nil w t ty e i z ht hi hz a n c news hl hnews h0 h63 h48
  | some b =>
    have := run_append_grow (P := P) w t ty e i z ht hi hz b 0 0 [] (by simp) (by simp) a n c news hl hnews (by omega) (by omega) (by rw [Nat.zero_add, nextslicecap_zero h0]; exact h48)
    simpa using this

theorem RepD.flat {I : Nat → Nat → Prop} {w : World} {sz : Nat} (hsz : 0 < sz) {els : List (List Data)} {x : Value} (h : RepD I w (.lst sz els) x) :
    (∃ a, x = .slice a 0 0 ∧ els = []) ∨ ∃ b o cap L, x = .slice (some ⟨b, o, none⟩) els.length cap ∧ els.length ≤ cap ∧ Flat I w sz els L ∧
      (∀ k, k < els.length * sz → I b (o + k)) ∧ (∀ k, k < els.length * sz → w.cell? ⟨b, o + k, none⟩ = L[k]?) := by
  cases h with
  | nil _ a => exact .inl ⟨a, rfl, rfl⟩
  | lst _ _ b o cap C hn hlen hI hc hr =>
    have hd : ∀ k, k < els.length * sz → k / sz < els.length ∧ k % sz < sz := fun k hk => ⟨(Nat.div_lt_iff_lt_mul hsz).2 hk, Nat.mod_lt _ hsz⟩
    refine .inr ⟨b, o, cap, (List.range (els.length * sz)).map fun k => C (k / sz) (k % sz), rfl, hn, ⟨by simp, hlen, ?_⟩, ?_, ?_⟩
    · intro i j e d hi hj
      have hil := (List.getElem?_eq_some_iff.1 hi).1
      have hjl : j < sz := by rw [← hlen e (List.mem_of_getElem? hi)]; exact (List.getElem?_eq_some_iff.1 hj).1
      have hk : i * sz + j < els.length * sz := by
        have : i * sz + sz ≤ els.length * sz := by rw [← Nat.succ_mul]; exact Nat.mul_le_mul_right _ hil
        omega
      have h1 : (i * sz + j) / sz = i := by
        rw [Nat.mul_comm, Nat.mul_add_div hsz, Nat.div_eq_of_lt hjl]; omega
      have h2 : (i * sz + j) % sz = j := by
        rw [Nat.mul_comm, Nat.mul_add_mod]; exact Nat.mod_eq_of_lt hjl
      rw [List.getD_eq_getElem?_getD, List.getElem?_map, List.getElem?_range hk]
      simp only [Option.map_some, Option.getD_some, h1, h2]
      exact hr i j e d hi hj
    · intro k hk
      obtain ⟨h1, h2⟩ := hd k hk
      have := hI _ _ h1 h2
      rwa [Nat.add_assoc, Nat.div_add_mod' k sz] at this
    · intro k hk
      obtain ⟨h1, h2⟩ := hd k hk
      have := hc _ _ h1 h2
      rw [Nat.add_assoc, Nat.div_add_mod' k sz] at this
      rw [this, List.getElem?_map, List.getElem?_range hk]; rfl

section ops
variable {P : Program} {W0 : World} {κ : Gh} {σ : Log} {a : Act} {w : World} {id : Nat} {F : Log → Prop} {call : CallP} {o : Oper} {Q : Exit → Act → World → Prop} {d : Nat} {z : Option Nat}

theorem run_append_room' (t ty e : TypeId) (i : TypeInfo) (ht : P.underlying t = some (.slice e)) (hi : P.info? e = some i)
    (g q sLen sCap : Nat) (cur : Array Value) (te : TypeId) (hg : w.heap[g]? = some (.cells cur te (0, 0)))
    (A : Addr) (m c : Nat) (news : List Value) (hl : news.length = m * i.size) (hnews : ∀ j u, news[j]? = some u → w.cell? (A.add j) = some u) (h1 : ∀ u ∈ news, u.oneCell' = true)
    (hroom : sLen + m ≤ sCap) (hfit : q + sLen * i.size + news.length ≤ cur.size) :
    (Builtin.append_ #[t, t] ty #[.slice (some ⟨g, q, none⟩) sLen sCap, .slice (some A) m c]).run P w =
      .ok (.slice (some ⟨g, q, none⟩) (sLen + m) sCap) (w.setRow g (cur.toList.take (q + sLen * i.size) ++ news ++ cur.toList.drop (q + sLen * i.size + news.length)).toArray) := by
  have hf := run_firstCells_some (P := P) w i.size m A m c news hl hnews
  have hst := run_storeCells_at P g (q + sLen * i.size) te news 0 cur w hg (by simpa using hfit) h1
  simp only [Nat.add_zero] at hst
  generalize (w.setRow g (cur.toList.take (q + sLen * i.size) ++ news ++ cur.toList.drop (q + sLen * i.size + news.length)).toArray) = w' at hst ⊢
  simp [Builtin.append_, run_underlying ht, Go.sizeOf, typeInfo, hi, Builtin.lenOf, hroom, hf, addr_add, hst]

theorem run_append_zero (t ty e : TypeId) (i : TypeInfo) (ht : P.underlying t = some (.slice e)) (hi : P.info? e = some i) (A B : Option Addr) (n cap c : Nat) (hn : n ≤ cap) :
    (Builtin.append_ #[t, t] ty #[.slice A n cap, .slice B 0 c]).run P w = .ok (.slice A n cap) w := by
  cases A <;> cases B <;> simp [Builtin.append_, run_underlying ht, Go.sizeOf, typeInfo, hi, Builtin.lenOf, hn, Builtin.firstCells, loadCells, loadCellsFrom, storeCells]

def spOf (κ : Gh) : Option Nat → Nat × Nat × Nat
  | some k => κ.τ k
  | none => (0, 0, 0)

theorem s_app (hs : RepS W0 κ σ a w) (hf : Fresh κ id) {t e : TypeId} {sz by_ : Nat} {x y : Operand} {x' y' : Opd} {z1 z2 : Option Nat} {ie : TypeInfo} {zv : Value}
    (ho : o.op = .call { callee := .builtin .append, args := #[x, y], argTypes := #[t, t] }) (hd : o.dst = some d) (hx : opdC z1 x = some x') (hy : opdC z2 y = some y')
    (hu : P.underlying t = some (.slice e)) (hie : P.info? e = some ie) (hsz : ie.size = sz) (hby : ie.bytes = by_) (hz : ie.zero = some zv) (hzs : zv.cells.size = sz) (hsz0 : 0 < sz)
    (hN : d < a.tmps.size) (h : eff call σ id (.app d sz by_ x' y') F) : o.wp P a w (After W0 κ σ a w id F) Q := by
  have hrx := opd_rep hs hx
  have hry := opd_rep hs hy
  simp only [eff] at h
  split at h
  · rename_i q1 e1 t1 q2 e2 t2 he1 he2
    rw [he1] at hrx
    rw [he2] at hry
    split at h
    · rename_i hb1 hb2
      have hq1 := Nat.eq_of_beq_eq_true hb1
      have hq2 := Nat.eq_of_beq_eq_true hb2
      subst hq1; subst hq2
      obtain ⟨hD1, hT1⟩ := hrx.sl_inv
      obtain ⟨hD2, _⟩ := hry.sl_inv
      -- which token is given up
      obtain ⟨off, hoff, hoffT, hRoom, hF⟩ : ∃ off : Option Nat, (∀ k, off = some k → look σ (.t k) = some (.tk true)) ∧ (t1 = .full ∧ off = none ∨ ∃ k, t1 = .t k ∧ off = some k) ∧
          Room (e1.length + e2.length) by_ ∧ F ((.s d, .av (.sl sz (e1 ++ e2) (.t id))) :: (.t id, .tk true) :: (match off with | some k => [(.t k, .tk false)] | none => [])) := by
        split at h
        · exact h.elim
        · exact ⟨none, by simp, .inl ⟨rfl, rfl⟩, h.1, h.2⟩
        · rename_i k
          split at h
          · rename_i hk
            exact ⟨some k, fun k' e => by cases e; exact hk, .inr ⟨k, rfl, rfl⟩, h.1, h.2⟩
          · exact h.elim
      have hidk : ∀ k, off = some k → k ≠ id := fun k hk e => hf.dt id (Nat.le_refl _) (by omega) (e ▸ (hs.toks k (hoff k hk)).1)
      have hid : ¬ κ.Dt id := hf.dt id (Nat.le_refl _) (by omega)
      have hgrow : ∀ (I : Nat → Nat → Prop) (sp : Nat × Nat × Nat), Grow κ { κ with I := I, Dt := fun k => κ.Dt k ∨ k = id, τ := fun k => if k = id then sp else κ.τ k } id := fun I sp =>
        ⟨fun b hb => .inl hb, fun k hk => hk.elim .inl fun e => .inr (by omega)⟩
      -- nothing turns: the new token has no room or the old one's
      have same : ∀ (v : Value), a.eval x = v → (execOp a.eval o).run P w = .ok (.value v) w → e2 = [] → o.wp P a w (After W0 κ σ a w id F) Q := by
        intro v hv hrun he
        subst he
        obtain ⟨r1, r2, r3⟩ := hs.retok off hoff hid hidk (fun _ _ => False) (spOf κ off) (fun _ _ h => h.elim)
          (by
            intro hlt
            rcases hoffT with ⟨_, ho'⟩ | ⟨k, _, ho'⟩
            · rw [ho'] at hlt; simp [spOf] at hlt
            · rw [ho'] at hlt ⊢; exact (hs.toks k (hoff k ho')).2 hlt)
          (by
            intro b q hh
            rcases hoffT with ⟨_, ho'⟩ | ⟨k, _, ho'⟩
            · rw [ho'] at hh; obtain ⟨_, h2, h3⟩ := hh; simp only [spOf] at h2 h3; omega
            · rw [ho'] at hh
              exact ⟨hs.sepI b q (.inr ⟨k, hoff k ho', hh⟩), k, ho', hh⟩)
          _ rfl
        refine wp_value hrun ?_
        rw [hd]
        refine ⟨_, _, hF, r1.put hN ?_, r2.trans Step.put, put_size, hgrow _ _⟩
        rw [List.append_nil]
        refine .sl sz e1 _ v ?_ ⟨.inr rfl, ?_⟩
        · rw [← hv]; exact hD1.mono r3.I_ r3.cell
        · intro A n cap ev hlt
          rcases hoffT with ⟨rfl, ho'⟩ | ⟨k, rfl, ho'⟩
          · exact absurd (hT1 A n cap (hv.trans ev)) (by omega)
          · simp only [if_true, ho', spOf]
            exact hT1.2 A n cap (hv.trans ev) hlt
      -- a new row
      have grown : ∀ (L1 L2 : List Value) (Z : Array Value) (newCap : Nat), Flat κ.I w sz e1 L1 → Flat κ.I w sz e2 L2 → e1.length + e2.length ≤ newCap → Z.size = (newCap - (e1.length + e2.length)) * sz → ∀ (dr : Nat),
          (execOp a.eval o).run P w = .ok (.value (.slice (some ⟨w.heap.size, 0, none⟩) (e1.length + e2.length) newCap)) (({ w with drawn := dr } : World).alloc (.cells (L1.toArray ++ L2.toArray ++ Z) e)) →
          o.wp P a w (After W0 κ σ a w id F) Q := by
        intro L1 L2 Z newCap f1 f2 hcap hZ dr hrun
        have fl := f1.append f2
        have hlen : (e1 ++ e2).length = e1.length + e2.length := List.length_append
        have hLl : (L1 ++ L2).length = (e1.length + e2.length) * sz := by rw [fl.len, hlen]
        have hsize : (L1.toArray ++ L2.toArray ++ Z).size = newCap * sz := by
          have : L1.length + L2.length = (e1.length + e2.length) * sz := by rw [← hLl, List.length_append]
          simp only [Array.size_append, List.size_toArray, hZ, this, ← Nat.add_mul]
          congr 1; omega
        obtain ⟨r1, r2, r3⟩ := (hs.drawn dr).rowTok off hoff hid (L1.toArray ++ L2.toArray ++ Z) e ((e1.length + e2.length) * sz) (newCap * sz) (by omega) _ rfl
        refine wp_value hrun ?_
        rw [hd]
        refine ⟨_, _, hF, r1.put hN ?_, ((Step.drawn dr).trans r2).trans Step.put, put_size, hgrow _ _⟩
        refine .sl sz (e1 ++ e2) _ _ ?_ ⟨.inr rfl, ?_⟩
        · have fl0 : Flat κ.I ({ w with drawn := dr } : World) sz (e1 ++ e2) (L1 ++ L2) := fl.mono (w := w) (w' := { w with drawn := dr }) (fun _ _ h => h) (fun _ _ _ => rfl)
          have fl' := fl0.mono (I' := fun b o => κ.I b o ∨ (b = ({ w with drawn := dr } : World).heap.size ∧ o < (e1.length + e2.length) * sz)) (w' := ({ w with drawn := dr } : World).alloc (.cells (L1.toArray ++ L2.toArray ++ Z) e)) r3.I_ r3.cell
          have := fl'.shut (b := w.heap.size) (o := 0) (cap := newCap) (by rw [hlen]; exact hcap) (by
            intro k hk; rw [hlen] at hk; exact .inr ⟨rfl, by omega⟩) (by
            intro k hk
            rw [hlen] at hk
            have hc : (({ w with drawn := dr } : World).alloc (.cells (L1.toArray ++ L2.toArray ++ Z) e)).cell? ⟨w.heap.size, 0 + k, none⟩ = (L1.toArray ++ L2.toArray ++ Z)[0 + k]? :=
              cell?_of_cells (heap_alloc_new (w := { w with drawn := dr }))
            have e12 : L1.toArray ++ L2.toArray = (L1 ++ L2).toArray := by simp
            rw [hc, Nat.zero_add, e12, Array.getElem?_append_left (by rw [List.size_toArray, hLl]; exact hk), List.getElem?_toArray])
          rw [hlen] at this
          exact this
        · intro A n cap ev hlt
          cases ev
          simp
      -- the walk through the builtin
      have hexec : ∀ v1 v2, a.eval x = v1 → a.eval y = v2 → ∀ r w', (Builtin.append_ #[t, t] o.type #[v1, v2]).run P w = .ok r w' → (execOp a.eval o).run P w = .ok (.value r) w' := by
        intro v1 v2 h1 h2 r w' hr
        simp [execOp, ho, resolve, invoke, builtin, h1, h2, hr]
      subst hsz
      rcases hD2.flat hsz0 with ⟨A2, hv2, hn2⟩ | ⟨b2, o2, cap2, L2, hv2, hcap2, f2, hI2, hc2⟩
      · obtain ⟨A, cap1, hv1⟩ := hD1.len
        have hle : e1.length ≤ cap1 := by
          have h2 := hD1
          rw [hv1] at h2
          cases h2 <;> simp_all
        exact same _ hv1 (hexec _ _ hv1 hv2 _ _ (run_append_zero t o.type e ie hu hie A A2 e1.length cap1 0 hle)) hn2
      · by_cases hm0 : e2.length = 0
        · have he2n : e2 = [] := List.eq_nil_of_length_eq_zero hm0
          obtain ⟨A, cap1, hv1⟩ := hD1.len
          have hle : e1.length ≤ cap1 := by
            have h2 := hD1
            rw [hv1] at h2
            cases h2 <;> simp_all
          rw [hm0] at hv2
          exact same _ hv1 (hexec _ _ hv1 hv2 _ _ (run_append_zero t o.type e ie hu hie A _ e1.length cap1 cap2 hle)) he2n
        · have hnews : ∀ j u, L2[j]? = some u → w.cell? ((⟨b2, o2, none⟩ : Addr).add j) = some u := by
            intro j u hj
            have hjl : j < e2.length * ie.size := by rw [← f2.len]; exact (List.getElem?_eq_some_iff.1 hj).1
            rw [addr_add, hc2 j hjl, hj]
          have hone := f2.one hsz0
          have h63 : e1.length + e2.length ≤ 9223372036854775807 := hRoom.1
          have hbb := hRoom.2
          rw [← hby] at hbb
          rcases hD1.flat hsz0 with ⟨A1, hv1, hn1⟩ | ⟨b1, o1, cap1, L1, hv1, hcap1, f1, hI1, hc1⟩
          · have he1 : e1.length = 0 := by rw [hn1]; rfl
            have hr := run_append_nil' (P := P) w t o.type e ie zv A1 hu hie hz ⟨b2, o2, none⟩ e2.length cap2 L2 f2.len hnews (by omega) (by omega) (by rw [he1, Nat.zero_add] at hbb; omega)
            have f1 : Flat κ.I w ie.size e1 [] := by rw [hn1]; exact Flat.nil _ _ _
            refine grown [] L2 (Builtin.zeroCells zv.cells (grownCap w e2.length 0 e - e2.length)) (grownCap w e2.length 0 e) f1 f2 (by rw [he1, Nat.zero_add]; exact grownCap_ge _ _ _ _) (by rw [size_zeroCells, hzs, he1, Nat.zero_add]) (w.drawn + 1) ?_
            refine hexec _ _ hv1 hv2 _ _ ?_
            rw [hr]
            simp only [he1, Nat.zero_add]
            congr 2
            simp
          · have hholds : ∀ j u, L1[j]? = some u → w.cell? ((⟨b1, o1, none⟩ : Addr).add j) = some u := by
              intro j u hj
              have hjl : j < e1.length * ie.size := by rw [← f1.len]; exact (List.getElem?_eq_some_iff.1 hj).1
              rw [addr_add, hc1 j hjl, hj]
            by_cases hroom : e1.length + e2.length ≤ cap1
            · -- in place: the token's room
              obtain ⟨k, hk, ho'⟩ : ∃ k, t1 = .t k ∧ off = some k := by
                rcases hoffT with ⟨rfl, _⟩ | h
                · exact absurd (hT1 _ _ _ hv1) (by omega)
                · exact h
              subst hk
              have hτ := hT1.2 _ _ _ hv1 (by omega)
              simp only at hτ
              have hlk := hoff k ho'
              have hmul : e1.length * ie.size + e2.length * ie.size ≤ cap1 * ie.size := by rw [← Nat.add_mul]; exact Nat.mul_le_mul_right _ hroom
              have hpos : 0 < e2.length * ie.size := Nat.mul_pos (by omega) hsz0
              have hlo : (κ.τ k).2.1 < (κ.τ k).2.2 := by rw [hτ]; simp only; omega
              obtain ⟨hblk, cur, te, hg, hfit⟩ := (hs.toks k hlk).2 hlo
              rw [hτ] at hblk hg hfit
              simp only at hblk hg hfit
              have hL2 : L2.length = e2.length * ie.size := f2.len
              have hr := run_append_room' (P := P) (w := w) t o.type e ie hu hie b1 o1 e1.length cap1 cur te hg ⟨b2, o2, none⟩ e2.length cap2 L2 f2.len hnews hone hroom (by rw [hL2]; omega)
              have hsplice := fun j => arr_splice (C := cur) (vs := L2) (o := o1 + e1.length * ie.size) (by rw [hL2]; omega) j
              have hsplsz := arr_splice_size (C := cur) (vs := L2) (o := o1 + e1.length * ie.size) (by rw [hL2]; omega)
              obtain ⟨s1, s2, s3⟩ := hs.spare hlk (g := b1) (arr := (cur.toList.take (o1 + e1.length * ie.size) ++ L2 ++ cur.toList.drop (o1 + e1.length * ie.size + L2.length)).toArray) hg hsplsz (by
                intro j hj
                rw [hsplice j, if_neg]
                intro hh
                apply hj
                rw [hτ]
                exact ⟨rfl, hh.1, by simp only; omega⟩)
              obtain ⟨r1, r2, r3⟩ := s1.retok (some k) (fun k' e => by cases e; exact hlk) hid (fun k' e => by cases e; exact hidk k ho')
                (fun b q => b = b1 ∧ o1 + e1.length * ie.size ≤ q ∧ q < o1 + e1.length * ie.size + e2.length * ie.size)
                (b1, o1 + e1.length * ie.size + e2.length * ie.size, o1 + cap1 * ie.size)
                (by
                  rintro b q ⟨rfl, hq1, hq2⟩
                  have hin : inSp (κ.τ k) b q := by rw [hτ]; exact ⟨rfl, hq1, by simp only; omega⟩
                  refine ⟨by rw [size_setRow]; exact lt_of_heap hg, fun _ => ⟨k, rfl, hin⟩, ?_, .inl (.inr ⟨k, hlk, hin⟩)⟩
                  rintro ⟨_, h2, _⟩
                  simp only at h2
                  omega)
                (by
                  intro _
                  refine ⟨hblk, _, te, setRow_heap w b1 cur _ te (0, 0) hg, ?_⟩
                  rw [hsplsz]; exact hfit)
                (by
                  rintro b q ⟨h1, h2, h3⟩
                  simp only at h1 h2 h3
                  have hin : inSp (κ.τ k) b q := by rw [hτ]; exact ⟨h1, by simp only; omega, by simp only; omega⟩
                  exact ⟨s1.sepI b q (.inr ⟨k, hlk, hin⟩), k, rfl, hin⟩)
                _ rfl
              refine wp_value (hexec _ _ hv1 hv2 _ _ hr) ?_
              rw [hd]
              rw [ho'] at hF
              refine ⟨_, _, hF, r1.put hN ?_, (s2.trans r2).trans Step.put, put_size, hgrow _ _⟩
              refine .sl ie.size (e1 ++ e2) _ _ ?_ ⟨.inr rfl, ?_⟩
              · have hlen : (e1 ++ e2).length = e1.length + e2.length := List.length_append
                have fl' := ((f1.append f2).mono s3.I_ s3.cell).mono r3.I_ r3.cell
                have := fl'.shut (b := b1) (o := o1) (cap := cap1) (by rw [hlen]; exact hroom) (by
                  intro j hj
                  rw [hlen, Nat.add_mul] at hj
                  by_cases hj1 : j < e1.length * ie.size
                  · exact .inl (hI1 j hj1)
                  · exact .inr ⟨rfl, by omega, by omega⟩) (by
                  intro j hj
                  rw [hlen, Nat.add_mul] at hj
                  rw [cell?_of_cells (setRow_heap w b1 cur _ te (0, 0) hg), hsplice]
                  by_cases hj1 : j < e1.length * ie.size
                  · rw [if_neg (by omega), List.getElem?_append_left (by rw [f1.len]; exact hj1)]
                    have := hc1 j hj1
                    rw [cell?_of_cells hg] at this
                    exact this
                  · rw [if_pos (by rw [hL2]; omega), List.getElem?_append_right (by rw [f1.len]; omega), f1.len]
                    congr 1; omega)
                rw [hlen] at this
                exact this
              · intro A n cap ev hlt
                cases ev
                simp only [if_true]
                rw [Nat.add_mul]
                simp only [Nat.add_assoc]
            · have hr := run_append_grow (P := P) w t o.type e ie zv hu hie hz ⟨b1, o1, none⟩ e1.length cap1 L1 f1.len hholds ⟨b2, o2, none⟩ e2.length cap2 L2 f2.len hnews (by omega) (by omega) (growslice_fits (by omega) hbb)
              refine grown L1 L2 (Builtin.zeroCells zv.cells (grownCap w (e1.length + e2.length) cap1 e - (e1.length + e2.length))) (grownCap w (e1.length + e2.length) cap1 e) f1 f2 (grownCap_ge _ _ _ _) (by rw [size_zeroCells, hzs]) (w.drawn + 1) ?_
              exact hexec _ _ hv1 hv2 _ _ hr
    · exact h.elim
  · exact h.elim
end ops
end Go.Abs
