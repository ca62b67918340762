/- Loads, stores, parts, numbers, texts. -/
import Derived.Test.YthmcdebdkbhbmaaGreatDoorA4
import Derived.Laws.Cells
namespace Go.Abs
open Go

theorem takeE_spec {α : Type} : ∀ {n : Nat} {l r : List α}, takeE n l = some r → r.length = n ∧ n ≤ l.length ∧ ∀ j, j < n → r[j]? = l[j]?
  | 0, l, r, h => by simp [takeE] at h; subst h; simp
  | n + 1, [], r, h => by simp [takeE] at h
  | n + 1, x :: l, r, h => by
    simp only [takeE] at h
    split at h
    · cases h
    · rename_i r' hr'
      cases h
      obtain ⟨h1, h2, h3⟩ := takeE_spec hr'
      refine ⟨by simp [h1], by simp; omega, fun j hj => ?_⟩
      cases j with
      | zero => simp
      | succ j => simpa using h3 j (by omega)

theorem sub_spec {α : Type} : ∀ {o n : Nat} {l r : List α}, sub l o n = some r → r.length = n ∧ o + n ≤ l.length ∧ ∀ j, j < n → r[j]? = l[o + j]?
  | 0, n, l, r, h => by
    have h' : takeE n l = some r := by cases l <;> exact h
    obtain ⟨h1, h2, h3⟩ := takeE_spec h'
    exact ⟨h1, by omega, fun j hj => by simpa using h3 j hj⟩
  | o + 1, n, [], r, h => by simp [sub] at h
  | o + 1, n, x :: l, r, h => by
    have h' : sub l o n = some r := h
    obtain ⟨h1, h2, h3⟩ := sub_spec h'
    refine ⟨h1, by simp; omega, fun j hj => ?_⟩
    rw [h3 j hj, show o + 1 + j = (o + j) + 1 by omega]
    simp

theorem over_spec {α : Type} : ∀ {new l r : List α}, over new l = some r → new.length ≤ l.length ∧ r.length = l.length ∧ ∀ j, r[j]? = if j < new.length then new[j]? else l[j]?
  | [], l, r, h => by simp [over] at h; subst h; simp
  | _ :: _, [], r, h => by simp [over] at h
  | x :: xs, y :: l, r, h => by
    simp only [over] at h
    split at h
    · cases h
    · rename_i r' hr'
      cases h
      obtain ⟨h1, h2, h3⟩ := over_spec hr'
      refine ⟨by simp; omega, by simp [h2], fun j => ?_⟩
      cases j with
      | zero => simp
      | succ j => simpa using h3 j

theorem splice_spec {α : Type} : ∀ {o : Nat} {new l r : List α}, splice o new l = some r →
    o + new.length ≤ l.length ∧ r.length = l.length ∧ ∀ j, r[j]? = if o ≤ j ∧ j < o + new.length then new[j - o]? else l[j]?
  | 0, new, l, r, h => by
    have h' : over new l = some r := by cases l <;> exact h
    obtain ⟨h1, h2, h3⟩ := over_spec h'
    exact ⟨by omega, h2, fun j => by simpa using h3 j⟩
  | o + 1, new, [], r, h => by simp [splice] at h
  | o + 1, new, x :: l, r, h => by
    simp only [splice] at h
    split at h
    · cases h
    · rename_i r' hr'
      cases h
      obtain ⟨h1, h2, h3⟩ := splice_spec hr'
      refine ⟨by simp; omega, by simp [h2], fun j => ?_⟩
      cases j with
      | zero => simp
      | succ j =>
        rw [List.getElem?_cons_succ, h3 j]
        by_cases hh : o ≤ j ∧ j < o + new.length
        · rw [if_pos hh, if_pos (by omega), show j + 1 - (o + 1) = j - o by omega]
        · rw [if_neg hh, if_neg (by omega)]; simp

theorem addr_add (b o n : Nat) : (⟨b, o, none⟩ : Addr).add n = ⟨b, o + n, none⟩ := by
  unfold Addr.add; split <;> simp_all

theorem dcell_rep {κ : Gh} {w : World} {d : Data} {c : Value} (h : RepD κ.I w d c) : RepV κ w (dcell d) c ∧ one (dcell d) = true := by
  cases d with
  | sc s => cases h; exact ⟨.sc s, rfl⟩
  | lst z e => exact ⟨.sl z e .none c h trivial, rfl⟩

section ops
variable {P : Program} {W0 : World} {κ : Gh} {σ : Log} {a : Act} {w : World} {id : Nat} {F : Log → Prop} {call : CallP} {o : Oper} {Q : Exit → Act → World → Prop} {d : Nat} {z : Option Nat}

/-- the cells from an address on read as the list says -/
def At (κ : Gh) (w : World) (b o : Nat) (l : List AV) : Prop := ∀ (j : Nat) (v : AV), l[j]? = some v → ∃ c, w.cell? ⟨b, o + j, none⟩ = some c ∧ RepV κ w v c ∧ one v = true

theorem At.sub {b p o : Nat} {l r : List AV} (h : At κ w b p l) {n : Nat} (hr : Abs.sub l o n = some r) : At κ w b (p + o) r := by
  obtain ⟨h1, h2, h3⟩ := sub_spec hr
  intro j v hj
  have hjn : j < n := by rw [← h1]; exact (List.getElem?_eq_some_iff.1 hj).1
  rw [h3 j hjn] at hj
  obtain ⟨c, g1, g2, g3⟩ := h (o + j) v hj
  exact ⟨c, by rw [Nat.add_assoc]; exact g1, g2, g3⟩

theorem At.box {b p : Nat} {l : List AV} {C : Array Value} {ty : TypeId} (hg : w.heap[b]? = some (.cells C ty (0, 0))) (hl : RepC κ w l C p) : At κ w b p l := by
  intro j v hj
  have hjl := (List.getElem?_eq_some_iff.1 hj).1
  have hjc : p + j < C.size := Nat.lt_of_lt_of_le (Nat.add_lt_add_left hjl _) hl.1
  refine ⟨C.getD (p + j) undef, ?_, hl.2.2 j v hj, hl.2.1 v (List.mem_of_getElem? hj)⟩
  rw [cell?_of_cells hg]
  simp [Array.getD, hjc]

theorem At.load {b o : Nat} {l : List AV} (h : At κ w b o l) : ∃ vs : Array Value, (loadCells ⟨b, o, none⟩ l.length).run P w = .ok vs w ∧ RepL κ w l vs := by
  have key : ∀ j, j < l.length → ∃ c, w.cell? ⟨b, o + j, none⟩ = some c ∧ RepV κ w (l[j]?.getD .bad) c ∧ one (l[j]?.getD .bad) = true := by
    intro j hj
    obtain ⟨c, h1, h2, h3⟩ := h j l[j] (List.getElem?_eq_getElem hj)
    exact ⟨c, h1, by simpa [hj] using h2, by simpa [hj] using h3⟩
  have hr := run_loadCells (P := P) w ⟨b, o, none⟩ l.length (fun j => (w.cell? ⟨b, o + j, none⟩).getD undef) (fun j hj => by
    obtain ⟨c, h1, _⟩ := key j hj
    rw [addr_add, h1]; rfl)
  refine ⟨_, hr, by simp, ?_, ?_⟩
  · intro v hv
    obtain ⟨j, hj, rfl⟩ := List.mem_iff_getElem.1 hv
    obtain ⟨c, _, _, h3⟩ := key j hj
    simpa [hj] using h3
  · intro j v hj
    have hjl := (List.getElem?_eq_some_iff.1 hj).1
    obtain ⟨c, h1, h2, _⟩ := key j hjl
    rw [hj] at h2
    simp [hjl, h1]
    exact h2

def aggOf (P : Program) (t : TypeId) : Option Bool := match P.underlying t with
  | some (.struct _) => some true
  | some (.array _ _) => some true
  | some _ => some false
  | none => none

theorem run_isAgg' {t : TypeId} {b : Bool} (h : aggOf P t = some b) : (isAgg t).run P w = .ok b w := by
  unfold aggOf at h
  split at h
  · rename_i hu; cases h; simp [isAgg, run_underlying hu]
  · rename_i hu; cases h; simp [isAgg, run_underlying hu]
  · rename_i dd h1 h2 hu
    cases h
    rw [isAgg, Sem.run_bind, run_underlying hu]
    cases dd <;> first | rfl | exact (h1 _ rfl).elim | exact (h2 _ _ rfl).elim
  · cases h

theorem run_sizeOf' {t : TypeId} {n : Nat} (h : (P.info? t).map (·.size) = some n) : (sizeOf t).run P w = .ok n w := by
  cases hi : P.info? t with
  | none => simp [hi] at h
  | some i =>
    simp [hi] at h
    simp [Go.sizeOf, run_typeInfo w hi, h]

/-- a variable is read -/
theorem At.var {b o' : Nat} {l : List AV} (h : At κ w b o' l) {t : TypeId} {n : Nat} {ag : Bool} (ha : aggOf P t = some ag) (hn : (P.info? t).map (·.size) = some n) (hln : l.length = n)
    (hs : RepS W0 κ σ a w) (hN : d < a.tmps.size) (hF : ldv d ag (some l) F) :
    ∃ x, (loadVar t ⟨b, o', none⟩).run P w = .ok x w ∧ After W0 κ σ a w id F (a.put (some d) x) w := by
  cases ag with
  | true =>
    simp only [ldv] at hF
    obtain ⟨h1, hF⟩ := frcL_iff.1 hF
    obtain ⟨vs, hv, hl⟩ := h.load (P := P)
    refine ⟨.agg vs, ?_, .put hs hN (.agg l vs hl.1 hl.2.1 hl.2.2) hF⟩
    simp [loadVar, run_isAgg' ha, run_sizeOf' hn, ← hln, hv]
  | false =>
    simp only [ldv] at hF
    split at hF
    · rename_i v
      obtain ⟨h1, hF⟩ := frc1_iff.1 hF
      obtain ⟨c, g1, g2, g3⟩ := h 0 v rfl
      refine ⟨c, ?_, .put hs hN g2 hF⟩
      simp only [Nat.add_zero] at g1
      simp [loadVar, run_isAgg' ha, g1]
    · exact hF.elim

theorem elp_at {κ : Gh} {w : World} {l : List Data} {b q : Nat} (h : ∀ (j : Nat) (d : Data), l[j]? = some d → ∃ c, κ.I b (q + j) ∧ w.cell? ⟨b, q + j, none⟩ = some c ∧ RepD κ.I w d c) :
    ∀ (j : Nat) (v : AV), (l.map dcell)[j]? = some v → ∃ c, w.cell? ⟨b, q + j, none⟩ = some c ∧ RepV κ w v c ∧ one v = true := by
  intro j v hj
  rw [List.getElem?_map] at hj
  cases hd : l[j]? with
  | none => simp [hd] at hj
  | some d =>
    simp [hd] at hj
    subst hj
    obtain ⟨c, _, h2, h3⟩ := h j d hd
    exact ⟨c, h2, dcell_rep h3⟩

theorem At.elp {κ : Gh} {w : World} {l : List Data} {b q o n : Nat} {r : List AV} (h : ∀ (j : Nat) (d : Data), l[j]? = some d → ∃ c, κ.I b (q + j) ∧ w.cell? ⟨b, q + j, none⟩ = some c ∧ RepD κ.I w d c)
    (hr : Abs.sub (l.map dcell) o n = some r) : At κ w b (q + o) r := by
  obtain ⟨h1, h2, h3⟩ := sub_spec hr
  intro j v hj
  have hjn : j < n := by rw [← h1]; exact (List.getElem?_eq_some_iff.1 hj).1
  rw [h3 j hjn] at hj
  obtain ⟨c, g1, g2, g3⟩ := elp_at h (o + j) v hj
  exact ⟨c, by rw [Nat.add_assoc]; exact g1, g2, g3⟩

theorem s_ld (hs : RepS W0 κ σ a w) {x : Operand} {x' : Opd} {t : TypeId} {n : Nat} {ag : Bool} (ho : o.op = .load t x) (hd : o.dst = some d) (hx : opdC z x = some x')
    (ha : aggOf P t = some ag) (hn : (P.info? t).map (·.size) = some n) (hN : d < a.tmps.size) (h : eff call σ id (.ld d n ag x') F) : o.wp P a w (After W0 κ σ a w id F) Q := by
  have hr := opd_rep hs hx
  simp only [eff] at h
  split at h
  · rename_i b o' he
    rw [he] at hr
    obtain ⟨_, hp⟩ := hr.ptr_inv
    split at h
    · rename_i l hl
      obtain ⟨_, _, C, ty, hg, hl'⟩ := hs.boxes b l hl
      cases hsub : sub l o' n with
      | none => rw [hsub] at h; exact h.elim
      | some r =>
        rw [hsub] at h
        obtain ⟨v, hv, hA⟩ := ((At.box hg hl').sub hsub).var (id := id) (d := d) (F := F) ha hn (sub_spec hsub).1 hs hN h
        refine wp_value (x := v) (w' := w) ?_ (by rw [hd]; exact hA)
        simp [execOp, ho, Instr.loadAt, Instr.sureAddr, hp, hv]
    · exact h.elim
  · rename_i l o' he
    rw [he] at hr
    obtain ⟨b, q, hp, hc⟩ := hr.elp_inv
    cases hsub : sub (l.map dcell) o' n with
    | none => rw [hsub] at h; exact h.elim
    | some r =>
      rw [hsub] at h
      obtain ⟨v, hv, hA⟩ := (At.elp hc hsub).var (id := id) (d := d) (F := F) ha hn (sub_spec hsub).1 hs hN h
      refine wp_value (x := v) (w' := w) ?_ (by rw [hd]; exact hA)
      simp [execOp, ho, Instr.loadAt, Instr.sureAddr, hp, hv]
  · exact h.elim

theorem arr_splice {C : Array Value} {vs : List Value} {o : Nat} (h : o + vs.length ≤ C.size) (j : Nat) :
    ((C.toList.take o ++ vs ++ C.toList.drop (o + vs.length)).toArray)[j]? = if o ≤ j ∧ j < o + vs.length then vs[j - o]? else C[j]? := by
  simp only [List.getElem?_toArray]
  have ht : (C.toList.take o).length = o := by simp; omega
  by_cases h1 : j < o
  · rw [if_neg (by omega), List.append_assoc, List.getElem?_append_left (by omega), List.getElem?_take, if_pos h1]
    simp
  · by_cases h2 : j < o + vs.length
    · rw [if_pos (by omega), List.append_assoc, List.getElem?_append_right (by omega), List.getElem?_append_left (by omega), ht]
    · rw [if_neg (by omega), List.getElem?_append_right (by simp; omega), List.getElem?_drop]
      simp only [List.length_append, ht, Array.getElem?_toList]
      congr 1; omega

theorem arr_splice_size {C : Array Value} {vs : List Value} {o : Nat} (h : o + vs.length ≤ C.size) : (C.toList.take o ++ vs ++ C.toList.drop (o + vs.length)).toArray.size = C.size := by
  simp; omega

theorem repC_splice {l new r : List AV} {C : Array Value} {V : Array Value} {p o : Nat} (hl : RepC κ w l C p) (hn : RepL κ w new V) (hr : splice o new l = some r) :
    RepC κ w r (C.toList.take (p + o) ++ V.toList ++ C.toList.drop (p + o + V.toList.length)).toArray p ∧ p + o + V.toList.length ≤ C.size ∧ r.length = l.length ∧
    ∀ x : Nat, ¬ (p ≤ x ∧ x < p + l.length) → (C.toList.take (p + o) ++ V.toList ++ C.toList.drop (p + o + V.toList.length)).toArray[x]? = C[x]? := by
  obtain ⟨h1, h2, h3⟩ := splice_spec hr
  have hV : V.toList.length = new.length := by simpa using hn.1
  have hb : p + o + V.toList.length ≤ C.size := by have := hl.1; omega
  have hcase : ∀ j v, r[j]? = some v → (o ≤ j ∧ j < o + new.length ∧ new[j - o]? = some v) ∨ (¬ (o ≤ j ∧ j < o + new.length) ∧ l[j]? = some v) := by
    intro j v hj
    rw [h3 j] at hj
    by_cases hh : o ≤ j ∧ j < o + new.length
    · rw [if_pos hh] at hj; exact .inl ⟨hh.1, hh.2, hj⟩
    · rw [if_neg hh] at hj; exact .inr ⟨hh, hj⟩
  refine ⟨⟨by rw [arr_splice_size hb, h2]; exact hl.1, ?_, ?_⟩, hb, h2, ?_⟩
  · intro v hv
    obtain ⟨j, hj⟩ := List.mem_iff_getElem?.1 hv
    rcases hcase j v hj with ⟨_, _, g⟩ | ⟨_, g⟩
    · exact hn.2.1 v (List.mem_of_getElem? g)
    · exact hl.2.1 v (List.mem_of_getElem? g)
  · intro j v hj
    rw [Array.getD_eq_getD_getElem?, arr_splice hb (p + j), hV]
    rcases hcase j v hj with ⟨g1, g2, g3⟩ | ⟨g1, g2⟩
    · rw [if_pos (by omega)]
      have := hn.2.2 (j - o) v g3
      rw [Array.getD_eq_getD_getElem?] at this
      rw [show p + j - (p + o) = j - o by omega]
      simpa using this
    · rw [if_neg (by omega)]
      have := hl.2.2 j v g2
      rwa [Array.getD_eq_getD_getElem?] at this
  · intro x hx
    rw [arr_splice hb x, hV, if_neg (by omega)]

theorem s_st (hs : RepS W0 κ σ a w) {x y : Operand} {x' y' : Opd} {t : TypeId} {n : Nat} {z1 : Option Nat} (ho : o.op = .store t x y) (hd : o.dst = none) (hx : opdC z1 x = some x') (hy : opdC z y = some y')
    (hn : (P.info? t).map (·.size) = some n) (h : eff call σ id (.st x' n y') F) : o.wp P a w (After W0 κ σ a w id F) Q := by
  have hrx := opd_rep hs hx
  have hry := opd_rep hs hy
  simp only [eff] at h
  split at h
  · rename_i b o' he
    rw [he] at hrx
    obtain ⟨_, hp⟩ := hrx.ptr_inv
    split at h
    · rename_i l hl
      obtain ⟨h1, h⟩ := frcL_iff.1 h
      split at h
      · rename_i hbeq
        split at h
        · rename_i r hr
          obtain ⟨h2, h⟩ := frcL_iff.1 h
          have hlen := Nat.eq_of_beq_eq_true hbeq
          have hv := flat_rep hry h1
          obtain ⟨_, _, C, ty, hg, hl'⟩ := hs.boxes b l hl
          obtain ⟨hnew, hfit, hll, hsame⟩ := repC_splice hl' hv hr
          obtain ⟨s1, s2, s3⟩ := hs.store hl hg (arr_splice_size hfit) hll hnew (fun x hx => hsame x fun hh => hx ⟨rfl, hh⟩)
          have hrun := run_storeCells_at P (κ.ι b).1 ((κ.ι b).2 + o') ty (a.eval y).cells.toList 0 C w hg (by simpa using hfit) hv.one
          simp only [Nat.add_zero] at hrun
          refine wp_skip' (w' := w.setRow (κ.ι b).1 (C.toList.take ((κ.ι b).2 + o') ++ (a.eval y).cells.toList ++ C.toList.drop ((κ.ι b).2 + o' + (a.eval y).cells.toList.length)).toArray) ?_ ?_
          · have hsz : (a.eval y).cells.size = n := by rw [hv.1, hlen]
            generalize (w.setRow (κ.ι b).1 (C.toList.take ((κ.ι b).2 + o') ++ (a.eval y).cells.toList ++ C.toList.drop ((κ.ι b).2 + o' + (a.eval y).cells.toList.length)).toArray) = w' at hrun ⊢
            simp [execOp, ho, Instr.storeAt, Instr.sureAddr, hp, storeVar, run_sizeOf' hn, hsz, hrun]
          · rw [hd]
            exact ⟨_, κ, h, s1, s2, rfl, Grow.refl _ _⟩
        · exact h.elim
      · exact h.elim
    · exact h.elim
  · exact h.elim

theorem s_nc (hs : RepS W0 κ σ a w) {x : Operand} {x' : Opd} (ho : o.op = .nilCheck x) (hd : o.dst = some d) (hx : opdC z x = some x') (hN : d < a.tmps.size)
    (h : eff call σ id (.nc d x') F) : o.wp P a w (After W0 κ σ a w id F) Q := by
  have hr := opd_rep hs hx
  simp only [eff] at h
  split at h
  · rename_i b o' he
    rw [he] at hr
    refine wp_value (x := a.eval x) (w' := w) ?_ (by rw [hd]; exact .put hs hN hr h)
    obtain ⟨_, hp⟩ := hr.ptr_inv
    simp [execOp, ho, hp]
  · rename_i b o' he
    rw [he] at hr
    refine wp_value (x := a.eval x) (w' := w) ?_ (by rw [hd]; exact .put hs hN hr h)
    obtain ⟨_, _, hp, _⟩ := hr.elp_inv
    simp [execOp, ho, hp]
  · rename_i b o' he
    rw [he] at hr
    refine wp_value (x := a.eval x) (w' := w) ?_ (by rw [hd]; exact .put hs hN hr h)
    obtain ⟨_, hp, _⟩ := hr.fn_inv
    simp [execOp, ho, hp]
  · exact h.elim

theorem s_no (hs : RepS W0 κ σ a w) {x : Operand} {x' : Opd} {t : TypeId} (ho : o.op = .unOp .not t x) (hd : o.dst = some d) (hx : opdC z x = some x') (hN : d < a.tmps.size)
    (h : eff call σ id (.no d x') F) : o.wp P a w (After W0 κ σ a w id F) Q := by
  have hr := opd_rep hs hx
  simp only [eff] at h
  split at h
  · rename_i t he
    rw [he] at hr
    have e := hr.sc_inv
    refine wp_value (x := .bool !t) (w' := w) ?_ (by rw [hd]; exact .put hs hN (.sc (.b !t)) h)
    simp [execOp, ho, e, Op.unary, Sc.val]
  · exact h.elim

theorem s_fa (hs : RepS W0 κ σ a w) {x : Operand} {x' : Opd} {t : TypeId} {i : Nat} {fs : Array Field} {f : Field} (ho : o.op = .fieldAddr t x i) (hd : o.dst = some d) (hx : opdC z x = some x')
    (hu : P.underlying t = some (.struct fs)) (hf : fs[i]? = some f) {n : Nat} (hn : (P.info? f.type).map (·.size) = some n) (hn0 : n ≠ 0) (hN : d < a.tmps.size)
    (h : eff call σ id (.fa d x' f.offset) F) : o.wp P a w (After W0 κ σ a w id F) Q := by
  have hr := opd_rep hs hx
  have hrun : ∀ b q, a.eval x = .pointer (some ⟨b, q, none⟩) → (execOp a.eval o).run P w = .ok (.value (.pointer (some ⟨b, q + f.offset, none⟩))) w := by
    intro b q e
    simp [execOp, ho, e, Instr.fieldAt, run_underlying hu, hf, Instr.sureAddr, fieldPlace, run_sizeOf' hn, hn0, addr_add]
  simp only [eff] at h
  split at h
  · rename_i b o' he
    rw [he] at hr
    obtain ⟨hb, hp⟩ := hr.ptr_inv
    exact wp_value (hrun _ _ hp) (by rw [hd, Nat.add_assoc]; exact .put hs hN (.ptr b (o' + f.offset) hb) h)
  · rename_i l o' he
    rw [he] at hr
    obtain ⟨b, q, hp, hc⟩ := hr.elp_inv
    exact wp_value (hrun _ _ hp) (by rw [hd, Nat.add_assoc]; exact .put hs hN (.elp l (o' + f.offset) b q hc) h)
  · exact h.elim

theorem s_fld (hs : RepS W0 κ σ a w) {x : Operand} {x' : Opd} {t : TypeId} {i : Nat} {fs : Array Field} {f : Field} (ho : o.op = .field t x i) (hd : o.dst = some d) (hx : opdC z x = some x')
    (hu : P.underlying t = some (.struct fs)) (hf : fs[i]? = some f) {n : Nat} {ag : Bool} (hn : (P.info? f.type).map (·.size) = some n) (hag : aggOf P f.type = some ag) (hN : d < a.tmps.size)
    (h : eff call σ id (.fld d x' f.offset n ag) F) : o.wp P a w (After W0 κ σ a w id F) Q := by
  have hr := opd_rep hs hx
  simp only [eff] at h
  split at h
  · rename_i l he
    rw [he] at hr
    obtain ⟨vs, hp, hl⟩ := hr.agg_inv
    cases hsub : sub l f.offset n with
    | none => rw [hsub] at h; exact h.elim
    | some r =>
      rw [hsub] at h
      obtain ⟨g1, g2, g3⟩ := sub_spec hsub
      have hin : f.offset + n ≤ vs.size := by rw [hl.1]; exact g2
      have hrl : RepL κ w r (vs.extract f.offset (f.offset + n)) := by
        refine ⟨by simp; omega, ?_, ?_⟩
        · intro v hv
          obtain ⟨j, hj⟩ := List.mem_iff_getElem?.1 hv
          have hjn : j < n := by rw [← g1]; exact (List.getElem?_eq_some_iff.1 hj).1
          rw [g3 j hjn] at hj
          exact hl.2.1 v (List.mem_of_getElem? hj)
        · intro j v hj
          have hjn : j < n := by rw [← g1]; exact (List.getElem?_eq_some_iff.1 hj).1
          rw [g3 j hjn] at hj
          have := hl.2.2 _ v hj
          rw [Array.getD_eq_getD_getElem?] at this ⊢
          rw [Array.getElem?_extract, if_pos (by omega)]
          exact this
      cases ag with
      | true =>
        obtain ⟨h1, h⟩ := frcL_iff.1 h
        refine wp_value (x := .agg (vs.extract f.offset (f.offset + n))) (w' := w) ?_ (by rw [hd]; exact .put hs hN (.agg r _ hrl.1 hrl.2.1 hrl.2.2) h)
        simp [execOp, ho, hp, Instr.field, run_underlying hu, hf, asAgg, part, run_isAgg' hag, run_sizeOf' hn]
      | false =>
        simp only [ldv] at h
        split at h
        · rename_i v
          obtain ⟨h1, h⟩ := frc1_iff.1 h
          have hn1 : n = 1 := by simpa using g1.symm
          subst hn1
          have h0 := g3 0 (by omega)
          simp at h0
          have hlt : f.offset < vs.size := by omega
          have hv := hl.2.2 f.offset v h0.symm
          refine wp_value (x := vs.getD f.offset undef) (w' := w) ?_ (by rw [hd]; exact .put hs hN hv h)
          simp [execOp, ho, hp, Instr.field, run_underlying hu, hf, asAgg, part, run_isAgg' hag, Array.getD, hlt]
        · exact h.elim
  · exact h.elim
end ops
end Go.Abs
