/- Literals, numbers, texts, indexes, slices. -/
import Derived.Test.YthmcdebdkbhbmaaGreatDoorA5
import Derived.Great.BuildSlice
import Derived.IntWalk
import Derived.Sort.Walk0
namespace Go.Abs
open Go

theorem foldl_put (off : Nat) : ∀ (l : List Value) (k : Nat) (cs : Array Value), off + k + l.length ≤ cs.size →
    ((l.zipIdx k).foldl (fun cs x => cs.setIfInBounds (off + x.2) x.1) cs).size = cs.size ∧
    ∀ m, ((l.zipIdx k).foldl (fun cs x => cs.setIfInBounds (off + x.2) x.1) cs)[m]? = if off + k ≤ m ∧ m < off + k + l.length then l[m - (off + k)]? else cs[m]?
  | [], k, cs, _ => by simp; omega
  | v :: l, k, cs, h => by
    have ih := foldl_put off l (k + 1) (cs.setIfInBounds (off + k) v) (by simp at h ⊢; omega)
    simp only [List.zipIdx_cons, List.foldl_cons]
    refine ⟨by simpa using ih.1, fun m => ?_⟩
    rw [ih.2 m]
    by_cases h1 : off + (k + 1) ≤ m ∧ m < off + (k + 1) + l.length
    · rw [if_pos h1, if_pos (by simp; omega)]
      rw [show m - (off + k) = (m - (off + (k + 1))) + 1 by omega]
      simp
    · rw [if_neg h1]
      by_cases h2 : m = off + k
      · subst h2
        rw [if_pos (by simp)]
        simp at h
        simp [Array.getElem?_setIfInBounds]; omega
      · rw [if_neg (by simp; omega), Array.getElem?_setIfInBounds]
        have : ¬ off + k = m := fun e => h2 e.symm
        simp [this]

def putAt (off : Nat) (cells vs : Array Value) : Array Value := vs.zipIdx.foldl (fun cs x => cs.setIfInBounds (off + x.2) x.1) cells

theorem putAt_spec {off : Nat} {cells vs : Array Value} (h : off + vs.size ≤ cells.size) : (putAt off cells vs).size = cells.size ∧
    ∀ m, (putAt off cells vs)[m]? = if off ≤ m ∧ m < off + vs.size then vs[m - off]? else cells[m]? := by
  have := foldl_put off vs.toList 0 cells (by simpa using h)
  simp only [Nat.add_zero] at this
  unfold putAt
  rw [← Array.foldl_toList, Array.toList_zipIdx]
  simpa using this

theorem fill_nil (place : Nat → Option (Nat × Nat)) (cells : Array Value) : Instr.fill place cells [] = some cells := rfl

theorem fill_cons {place : Nat → Option (Nat × Nat)} {cells : Array Value} {i off : Nat} {v : Value} {rest : List (Nat × Value)} (hp : place i = some (off, v.cells.size)) (hf : off + v.cells.size ≤ cells.size) :
    Instr.fill place cells ((i, v) :: rest) = Instr.fill place (putAt off cells v.cells) rest := by
  conv => lhs; unfold Instr.fill
  simp only [hp]
  have : ¬ off + v.cells.size > cells.size := by omega
  simp [this, putAt]

theorem cellsD_spec : ∀ {l : List AV} {ds : List Data}, cellsD l = some ds → ds.length = l.length ∧ ∀ (j : Nat) (v : AV), l[j]? = some v → ∃ d, ds[j]? = some d ∧ cellD v = some d
  | [], ds, h => by simp [cellsD] at h; subst h; simp
  | x :: l, ds, h => by
    simp only [cellsD] at h
    split at h
    · cases h
    · rename_i d hd
      split at h
      · cases h
      · rename_i ds' hds
        cases h
        obtain ⟨h1, h2⟩ := cellsD_spec hds
        refine ⟨by simp [h1], fun j v hj => ?_⟩
        cases j with
        | zero => simp at hj; subst hj; exact ⟨d, rfl, hd⟩
        | succ j => simpa using h2 j v (by simpa using hj)

theorem cellD_rep {κ : Gh} {w : World} {v : AV} {c : Value} {d : Data} (h : RepV κ w v c) (hd : cellD v = some d) : RepD κ.I w d c := by
  cases v <;> simp [cellD] at hd
  · subst hd; rw [h.sc_inv]; exact .sc _
  · subst hd; exact h.sl_inv.1

theorem bslc_spec {σ : Log} {sz : Nat} : ∀ {xs : List Opd} {F : List (List Data) → Prop}, bslc σ sz xs F → ∃ els, F els ∧ els.length = xs.length ∧
    ∀ (i : Nat) (x : Opd), xs[i]? = some x → ∃ ds, els[i]? = some ds ∧ cellsD (flat (ev σ x)) = some ds ∧ ds.length = sz ∧ ∀ u, u ∈ flat (ev σ x) → one u = true
  | [], F, h => ⟨[], h, rfl, by simp⟩
  | x :: r, F, h => by
    simp only [bslc] at h
    obtain ⟨h1, h⟩ := frcL_iff.1 h
    split at h
    · exact h.elim
    · rename_i ds hds
      split at h
      · rename_i hb
        obtain ⟨els, g1, g2, g3⟩ := bslc_spec h
        refine ⟨ds :: els, g1, by simp [g2], fun i y hi => ?_⟩
        cases i with
        | zero => simp at hi; subst hi; exact ⟨ds, rfl, hds, Nat.eq_of_beq_eq_true hb, h1⟩
        | succ i => simpa using g3 i y (by simpa using hi)
      · exact h.elim

theorem fill_dense {sz : Nat} : ∀ (vs : List Value) (k : Nat) (cells : Array Value), (∀ v, v ∈ vs → v.cells.size = sz) → cells.size = (k + vs.length) * sz →
    ∃ r, Instr.fill (fun i => some (i * sz, sz)) cells ((vs.zipIdx k).map fun p => (p.2, p.1)) = some r ∧ r.size = cells.size ∧ (∀ m, m < k * sz → r[m]? = cells[m]?) ∧
      ∀ i j (v : Value), vs[i]? = some v → j < sz → r[(k + i) * sz + j]? = v.cells[j]?
  | [], k, cells, _, _ => ⟨cells, rfl, rfl, fun _ _ => rfl, fun i j v h => by simp at h⟩
  | x :: vs, k, cells, hv, hs => by
    have hx : x.cells.size = sz := hv x (by simp)
    have hle : k * sz + x.cells.size ≤ cells.size := by
      rw [hs, hx, List.length_cons, show k + (vs.length + 1) = (k + 1) + vs.length by omega, Nat.add_mul (k + 1), Nat.add_mul k 1]; omega
    obtain ⟨p1, p2⟩ := putAt_spec hle
    obtain ⟨r, g1, g2, g3, g4⟩ := fill_dense vs (k + 1) (putAt (k * sz) cells x.cells) (fun v h => hv v (by simp [h])) (by rw [p1, hs]; congr 1; simp; omega)
    refine ⟨r, ?_, g2.trans p1, ?_, ?_⟩
    · simp only [List.zipIdx_cons, List.map_cons]
      rw [fill_cons (off := k * sz) (by simp [hx]) hle]
      exact g1
    · intro m hm
      rw [g3 m (by rw [Nat.add_mul]; omega), p2 m, if_neg (by omega)]
    · intro i j v hi hj
      cases i with
      | zero =>
        simp at hi; subst hi
        rw [Nat.add_zero, g3 _ (by rw [Nat.add_mul]; omega), p2, if_pos (by omega)]
        congr 1; omega
      | succ i =>
        have := g4 i j v (by simpa using hi) hj
        rw [← this, show k + (i + 1) = k + 1 + i by omega]

section ops
variable {P : Program} {W0 : World} {κ : Gh} {σ : Log} {a : Act} {w : World} {id : Nat} {F : Log → Prop} {call : CallP} {o : Oper} {Q : Exit → Act → World → Prop} {d : Nat} {z : Option Nat}

def partsC (z : Option Nat) : Nat → List (Nat × Operand) → Option (List Opd)
  | _, [] => some []
  | k, (i, x) :: r => if i = k then match opdC z x with
    | none => none
    | some y => match partsC z (k + 1) r with
      | none => none
      | some ys => some (y :: ys)
    else none

theorem partsC_spec (hs : RepS W0 κ σ a w) : ∀ {ps : List (Nat × Operand)} {k : Nat} {xs : List Opd}, partsC z k ps = some xs →
    (ps.map fun p => (p.1, a.eval p.2)) = ((ps.map fun p => a.eval p.2).zipIdx k).map (fun p => (p.2, p.1)) ∧ xs.length = ps.length ∧
    ∀ (i : Nat) (v : Value), (ps.map fun p => a.eval p.2)[i]? = some v → ∃ x, xs[i]? = some x ∧ RepV κ w (ev σ x) v
  | [], k, xs, h => by simp [partsC] at h; subst h; simp
  | (i, x) :: r, k, xs, h => by
    simp only [partsC] at h
    split at h
    · rename_i hi
      subst hi
      split at h
      · cases h
      · rename_i y hy
        split at h
        · cases h
        · rename_i ys hys
          cases h
          obtain ⟨h1, h2, h3⟩ := partsC_spec hs hys
          refine ⟨by simp [h1], by simp [h2], fun j v hj => ?_⟩
          cases j with
          | zero => simp at hj; subst hj; exact ⟨y, rfl, opd_rep hs hy⟩
          | succ j => simpa using h3 j v (by simpa using hj)
    · cases h

theorem s_bsl (hs : RepS W0 κ σ a w) {t e : TypeId} {n sz : Nat} {ps : Array (Nat × Operand)} {xs : List Opd} {ie : TypeInfo} {zv : Value} (ho : o.op = .buildSlice t n ps) (hd : o.dst = some d)
    (hu : P.underlying t = some (.slice e)) (hie : P.info? e = some ie) (hz : ie.zero = some zv) (hsz : ie.size = sz) (hsmall : n * sz ≤ 2 ^ 24) (hn0 : 0 < n) (hsz0 : 0 < sz)
    (hps : partsC z 0 ps.toList = some xs) (hlen : xs.length = n) (hN : d < a.tmps.size) (h : eff call σ id (.bsl d sz xs) F) : o.wp P a w (After W0 κ σ a w id F) Q := by
  obtain ⟨els, hF, hel, hels⟩ := bslc_spec (show bslc σ sz xs fun els => F [(.s d, .av (.sl sz els .full))] from h)
  obtain ⟨p1, p2, p3⟩ := partsC_spec hs hps
  have hcellsz : ∀ v, v ∈ (ps.toList.map fun p => a.eval p.2) → v.cells.size = sz := by
    intro v hv
    obtain ⟨i, hi⟩ := List.mem_iff_getElem?.1 hv
    obtain ⟨x, hx, hr⟩ := p3 i v hi
    obtain ⟨ds, _, g2, g3, g4⟩ := hels i x hx
    rw [(flat_rep hr g4).1, ← (cellsD_spec g2).1, g3]
  have hvl : (ps.toList.map fun p => a.eval p.2).length = n := by rw [List.length_map, ← p2, hlen]
  obtain ⟨r, f1, f2, _, f4⟩ := fill_dense (sz := sz) (ps.toList.map fun p => a.eval p.2) 0 ((Array.range (n * sz)).map (zv.cells[· % zv.cells.size]!)) hcellsz (by simp [hvl, ← hlen, p2])
  have hmul : n * sz ≠ 0 := Nat.mul_ne_zero (by omega) (by omega)
  have hrun := run_buildSlice (P := P) w t e n (ps.map fun x => (x.1, a.eval x.2)) r ie zv hu hie hz (by rw [hsz]; omega) (by rw [hsz]; exact hmul) (by
    rw [hsz, Array.toList_map]
    rw [p1]; exact f1)
  refine wp_value (x := .slice (some ⟨w.heap.size, 0, none⟩) n n) (w' := w.alloc (.cells r e)) ?_ ?_
  · simp only [execOp, ho, Sem.run_bind]
    rw [hrun]; simp
  · obtain ⟨s1, s2, s3⟩ := hs.row r e (n * sz)
    have heln : els.length = n := hel.trans hlen
    have hcell : ∀ i j, i < n → j < sz → ∃ v, (ps.toList.map fun p => a.eval p.2)[i]? = some v ∧ r[i * sz + j]? = v.cells[j]? := by
      intro i j hi hj
      refine ⟨_, List.getElem?_eq_getElem (by rw [hvl]; exact hi), ?_⟩
      have := f4 i j _ (List.getElem?_eq_getElem (by rw [hvl]; exact hi)) hj
      simpa using this
    rw [hd]
    refine ⟨_, _, hF, s1.put hN ?_, s2.trans Step.put, put_size, ⟨fun b hb => .inl hb, fun k hk => .inl hk⟩⟩
    refine .sl sz els .full _ ?_ (fun A m c e => by cases e; rfl)
    have hD := RepD.lst (I := fun b o => κ.I b o ∨ (b = w.heap.size ∧ o < n * sz)) (w := w.alloc (.cells r e)) sz els w.heap.size 0 n (fun i j => r.getD (i * sz + j) undef) (by omega) ?_ ?_ ?_ ?_
    · rw [heln] at hD; exact hD
    · intro e' he
      obtain ⟨i, hi⟩ := List.mem_iff_getElem?.1 he
      have hil := (List.getElem?_eq_some_iff.1 hi).1
      obtain ⟨ds, g1, _, g3, _⟩ := hels i xs[i] (List.getElem?_eq_getElem (by omega))
      rw [hi] at g1; cases g1; exact g3
    · intro i j hi hj
      refine .inr ⟨rfl, ?_⟩
      have : i * sz + sz ≤ n * sz := by rw [← Nat.succ_mul]; exact Nat.mul_le_mul_right _ (by omega)
      omega
    · intro i j hi hj
      obtain ⟨v, g1, g2⟩ := hcell i j (by omega) hj
      have hvs := hcellsz v (List.mem_of_getElem? g1)
      have : (w.alloc (.cells r e)).cell? ⟨w.heap.size, 0 + i * sz + j, none⟩ = r[0 + i * sz + j]? := cell?_of_cells heap_alloc_new
      rw [this, Nat.zero_add, Array.getD_eq_getD_getElem?, g2]
      rw [Array.getElem?_eq_getElem (by omega)]; rfl
    · intro i j e' dd he hdd
      have hil := (List.getElem?_eq_some_iff.1 he).1
      have hix : i < xs.length := by omega
      obtain ⟨ds, g1, g2, g3, g4⟩ := hels i xs[i] (List.getElem?_eq_getElem hix)
      rw [he] at g1; cases g1
      have hj : j < sz := by rw [← g3]; exact (List.getElem?_eq_some_iff.1 hdd).1
      obtain ⟨v, k1, k2⟩ := hcell i j (by omega) hj
      obtain ⟨x, hx, hr⟩ := p3 i v k1
      have hx' : xs[i] = x := by rw [List.getElem?_eq_getElem hix] at hx; exact Option.some.inj hx
      subst hx'
      have hfl := flat_rep hr g4
      obtain ⟨c1, c2⟩ := cellsD_spec g2
      have hjl : j < (flat (ev σ xs[i])).length := by rw [← c1, g3]; exact hj
      obtain ⟨d', q1, q2⟩ := c2 j _ (List.getElem?_eq_getElem hjl)
      rw [hdd] at q1; cases q1
      have := cellD_rep (hfl.2.2 j _ (List.getElem?_eq_getElem hjl)) q2
      rw [Array.getD_eq_getD_getElem?, k2, ← Array.getD_eq_getD_getElem?]
      exact this.mono s3.I_ s3.cell

/-- the parts of a struct literal -/
def bldC (P : Program) (fs : Array Field) : List (Nat × Operand) → Option (List (Nat × Nat × Opd))
  | [] => some []
  | (i, x) :: r => match fs[i]? with
    | none => none
    | some f => match (P.info? f.type).map (·.size) with
      | none => none
      | some n => match opdC (elemSz P f.type) x with
        | none => none
        | some y => match bldC P fs r with
          | none => none
          | some ys => some ((f.offset, n, y) :: ys)

theorem repL_put {l new r : List AV} {C V : Array Value} {o : Nat} (hl : RepL κ w l C) (hn : RepL κ w new V) (hr : splice o new l = some r) :
    RepL κ w r (putAt o C V) ∧ o + V.size ≤ C.size := by
  obtain ⟨h1, h2, h3⟩ := splice_spec hr
  have hV : V.size = new.length := hn.1
  have hb : o + V.size ≤ C.size := by rw [hV, hl.1]; exact h1
  obtain ⟨p1, p2⟩ := putAt_spec hb
  have hcase : ∀ j v, r[j]? = some v → (o ≤ j ∧ j < o + new.length ∧ new[j - o]? = some v) ∨ (¬ (o ≤ j ∧ j < o + new.length) ∧ l[j]? = some v) := by
    intro j v hj
    rw [h3 j] at hj
    by_cases hh : o ≤ j ∧ j < o + new.length
    · rw [if_pos hh] at hj; exact .inl ⟨hh.1, hh.2, hj⟩
    · rw [if_neg hh] at hj; exact .inr ⟨hh, hj⟩
  refine ⟨⟨by rw [p1, h2, hl.1], ?_, ?_⟩, hb⟩
  · intro v hv
    obtain ⟨j, hj⟩ := List.mem_iff_getElem?.1 hv
    rcases hcase j v hj with ⟨_, _, g⟩ | ⟨_, g⟩
    · exact hn.2.1 v (List.mem_of_getElem? g)
    · exact hl.2.1 v (List.mem_of_getElem? g)
  · intro j v hj
    rw [Array.getD_eq_getD_getElem?, p2 j, hV]
    rcases hcase j v hj with ⟨g1, g2, g3⟩ | ⟨g1, g2⟩
    · rw [if_pos ⟨g1, g2⟩]
      have := hn.2.2 (j - o) v g3
      rwa [Array.getD_eq_getD_getElem?] at this
    · rw [if_neg g1]
      have := hl.2.2 j v g2
      rwa [Array.getD_eq_getD_getElem?] at this

theorem bld_spec (hs : RepS W0 κ σ a w) {fs : Array Field} {places : Nat → Option (Nat × Nat)} (hpl : ∀ (i : Nat) (f : Field) (n : Nat), fs[i]? = some f → (P.info? f.type).map (·.size) = some n → places i = some (f.offset, n)) :
    ∀ {ps : List (Nat × Operand)} {ys : List (Nat × Nat × Opd)} {l : List AV} {C : Array Value} {G : List AV → Prop}, bldC P fs ps = some ys → RepL κ w l C → bld σ ys l G →
    ∃ r R, G r ∧ RepL κ w r R ∧ Instr.fill places C (ps.map fun p => (p.1, a.eval p.2)) = some R
  | [], ys, l, C, G, h, hl, hb => by
    simp [bldC] at h; subst h
    exact ⟨l, C, hb, hl, rfl⟩
  | (i, x) :: ps, ys, l, C, G, h, hl, hb => by
    simp only [bldC] at h
    split at h
    · cases h
    · rename_i f hf
      split at h
      · cases h
      · rename_i n hn
        split at h
        · cases h
        · rename_i y hy
          split at h
          · cases h
          · rename_i ys' hys
            cases h
            simp only [bld] at hb
            obtain ⟨h1, hb⟩ := frcL_iff.1 hb
            split at hb
            · rename_i hbe
              split at hb
              · rename_i r hr
                have hv := flat_rep (opd_rep hs hy) h1
                obtain ⟨k1, k2⟩ := repL_put hl hv hr
                obtain ⟨r', R', g1, g2, g3⟩ := bld_spec hs hpl hys k1 hb
                refine ⟨r', R', g1, g2, ?_⟩
                have hsz : (a.eval x).cells.size = n := by rw [hv.1, Nat.eq_of_beq_eq_true hbe]
                simp only [List.map_cons]
                rw [fill_cons (off := f.offset) (by rw [hpl i f n hf hn, hsz]) k2]
                exact g3
              · exact hb.elim
            · exact hb.elim

def sizesOK (P : Program) (fs : Array Field) : Bool := fs.toList.all fun f => (P.info? f.type).isSome

theorem run_mapM_list {α β : Type} {P : Program} {w : World} {g : α → Go.Sem β} {r : α → β} : ∀ (l : List α), (∀ x, x ∈ l → (g x).run P w = .ok (r x) w) → (l.mapM g).run P w = .ok (l.map r) w
  | [], _ => by simp
  | x :: l, h => by
    have ih := run_mapM_list l fun y hy => h y (by simp [hy])
    rw [List.mapM_cons, Sem.run_bind, h x (by simp), Result.andThen_ok, Sem.run_bind, ih]
    simp

theorem run_places {fs : Array Field} (h : sizesOK P fs = true) :
    (Array.mapM (fun f : Field => do let s ← Go.sizeOf f.type; pure (f.offset, s)) fs : Go.Sem (Array (Nat × Nat))).run P w = .ok (fs.map fun f => (f.offset, ((P.info? f.type).map (·.size)).getD 0)) w := by
  have hl := run_mapM_list (P := P) (w := w) (g := fun f : Field => do let s ← Go.sizeOf f.type; pure (f.offset, s)) (r := fun f => (f.offset, ((P.info? f.type).map (·.size)).getD 0)) fs.toList (by
    intro f hf
    obtain ⟨i, hi⟩ := Option.isSome_iff_exists.1 (List.all_eq_true.1 h f hf)
    simp [Go.sizeOf, run_typeInfo w hi, hi])
  rw [Array.mapM_eq_mapM_toList]
  simp only [Sem.run_map, hl, Result.andThen_ok]
  congr 1
  apply Array.ext'
  simp

theorem s_build (hs : RepS W0 κ σ a w) {t : TypeId} {fs : Array Field} {ps : Array (Nat × Operand)} {l : List AV} {ys : List (Nat × Nat × Opd)} (ho : o.op = .build t ps) (hd : o.dst = some d)
    (hu : P.underlying t = some (.struct fs)) (hz : zcells P t = some l) (hok : sizesOK P fs = true) (hps : bldC P fs ps.toList = some ys) (hN : d < a.tmps.size)
    (h : eff call σ id (.build d l ys) F) : o.wp P a w (After W0 κ σ a w id F) Q := by
  obtain ⟨i, v, hi, hv, hl⟩ := zcells_ok hz
  have h' : bld σ ys l fun z => frcL z fun z => F [(.s d, .av (.agg z))] := h
  obtain ⟨r, R, g1, g2, g3⟩ := bld_spec (P := P) hs (places := fun x => (fs.map fun f => (f.offset, ((P.info? f.type).map (·.size)).getD 0))[x]?) (by
    intro i f n hf hn
    simp [hf, hn]) hps (hl κ w) h'
  obtain ⟨_, g1⟩ := frcL_iff.1 g1
  refine wp_value (x := .agg R) (w' := w) ?_ (by rw [hd]; exact .put hs hN (.agg r R g2.1 g2.2.1 g2.2.2) g1)
  have e : (Array.map (fun x : Nat × Operand => (x.1, a.eval x.2)) ps).toList = ps.toList.map fun p => (p.1, a.eval p.2) := by simp
  simp only [execOp, ho, Sem.run_bind, Instr.build, zeroValue, run_typeInfo w hi, hv, Result.andThen_ok, Sem.run_pure, run_underlying hu w]
  simp only [run_places hok, Result.andThen_ok]
  rw [e, g3]
  simp
end ops
end Go.Abs
