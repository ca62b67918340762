/- What the abstract values stand for in a world, and how a step of the machine keeps it. -/
import Derived.Test.YthmcdebdkbhbmaaGreatDoorA0
namespace Go.Abs
open Go

def Sc.val : Sc → Value
  | .b x => .bool x | .i k n => .int k n | .s l => .string ⟨l.toArray⟩ | .np => .pointer none | .nf => .nilFunc | .ni => .nilIface

structure Gh where
  I : Nat → Nat → Prop
  Db : Nat → Prop
  Dt : Nat → Prop
  ι : Nat → Nat × Nat
  τ : Nat → Nat × Nat × Nat

inductive RepD (I : Nat → Nat → Prop) (w : World) : Data → Value → Prop
  | sc (c : Sc) : RepD I w (.sc c) c.val
  | nil (sz : Nat) (a : Option Addr) : RepD I w (.lst sz []) (.slice a 0 0)
  | lst (sz : Nat) (els : List (List Data)) (b o cap : Nat) (C : Nat → Nat → Value) (hn : els.length ≤ cap)
      (hlen : ∀ e, e ∈ els → e.length = sz)
      (hI : ∀ i j, i < els.length → j < sz → I b (o + i * sz + j))
      (hc : ∀ i j, i < els.length → j < sz → w.cell? ⟨b, o + i * sz + j, none⟩ = some (C i j))
      (hr : ∀ (i j : Nat) (e : List Data) (d : Data), els[i]? = some e → e[j]? = some d → RepD I w d (C i j)) :
      RepD I w (.lst sz els) (.slice (some ⟨b, o, none⟩) els.length cap)

def tokOK (κ : Gh) (sz : Nat) (t : Tok) (x : Value) : Prop := match t with
  | .none => True
  | .full => ∀ a n cap, x = .slice (some a) n cap → n = cap
  | .t k => κ.Dt k ∧ ∀ a n cap, x = .slice (some a) n cap → n < cap → κ.τ k = (a.block, a.off + n * sz, a.off + cap * sz)

inductive RepV (κ : Gh) (w : World) : AV → Value → Prop
  | sc (c : Sc) : RepV κ w (.sc c) c.val
  | sl (sz : Nat) (els : List (List Data)) (t : Tok) (x : Value) (h : RepD κ.I w (.lst sz els) x) (ht : tokOK κ sz t x) : RepV κ w (.sl sz els t) x
  | ptr (b o : Nat) (h : κ.Db b) : RepV κ w (.ptr b o) (.pointer (some ⟨(κ.ι b).1, (κ.ι b).2 + o, none⟩))
  | elp (cells : List Data) (o b q : Nat) (h : ∀ (j : Nat) (d : Data), cells[j]? = some d → ∃ c, κ.I b (q + j) ∧ w.cell? ⟨b, q + j, none⟩ = some c ∧ RepD κ.I w d c) :
      RepV κ w (.elp cells o) (.pointer (some ⟨b, q + o, none⟩))
  | mx (sz : Nat) (els : List (List Data)) (b n : Nat) (t : Tok) (off cap : Nat) (hd : κ.Db b) (ho : (κ.ι b).2 = off + els.length * sz) (hn : els.length + n ≤ cap)
      (h : RepD κ.I w (.lst sz els) (.slice (some ⟨(κ.ι b).1, off, none⟩) els.length cap)) (ht : tokOK κ sz t (.slice (some ⟨(κ.ι b).1, off, none⟩) (els.length + n) cap)) :
      RepV κ w (.mx sz els b n t) (.slice (some ⟨(κ.ι b).1, off, none⟩) (els.length + n) cap)
  | fn (f : FuncId) (caps : List AV) (vs : Array Value) (hs : vs.size = caps.length) (h : ∀ (j : Nat) (v : AV), caps[j]? = some v → RepV κ w v (vs.getD j undef)) :
      RepV κ w (.fn f caps) (.func (.func f) #[] vs)
  | agg (l : List AV) (vs : Array Value) (hs : vs.size = l.length) (h1 : ∀ v, v ∈ l → one v = true) (h : ∀ (j : Nat) (v : AV), l[j]? = some v → RepV κ w v (vs.getD j undef)) :
      RepV κ w (.agg l) (.agg vs)
  | tup (l : List AV) (vs : Array Value) (hs : vs.size = l.length) (h : ∀ (j : Nat) (v : AV), l[j]? = some v → RepV κ w v (vs.getD j undef)) :
      RepV κ w (.tup l) (.tuple vs)
  | bad (x : Value) : RepV κ w .bad x

/-- the cells from o on read so -/
def RepC (κ : Gh) (w : World) (l : List AV) (C : Array Value) (o : Nat) : Prop :=
  o + l.length ≤ C.size ∧ (∀ v, v ∈ l → one v = true) ∧ ∀ (j : Nat) (v : AV), l[j]? = some v → RepV κ w v (C.getD (o + j) undef)

def RepL (κ : Gh) (w : World) (l : List AV) (vs : Array Value) : Prop :=
  vs.size = l.length ∧ (∀ v, v ∈ l → one v = true) ∧ ∀ (j : Nat) (v : AV), l[j]? = some v → RepV κ w v (vs.getD j undef)

def inSp (s : Nat × Nat × Nat) (b o : Nat) : Prop := s.1 = b ∧ s.2.1 ≤ o ∧ o < s.2.2

/-- where the box lies -/
def spb (κ : Gh) (id : Nat) (l : List AV) : Nat × Nat × Nat := ((κ.ι id).1, (κ.ι id).2, (κ.ι id).2 + l.length)

def Own (κ : Gh) (σ : Log) (b o : Nat) : Prop :=
  (∃ id l, look σ (.b id) = some (.bx l) ∧ inSp (spb κ id l) b o) ∨ (∃ k, look σ (.t k) = some (.tk true) ∧ inSp (κ.τ k) b o)

structure RepS (W0 : World) (κ : Gh) (σ : Log) (a : Act) (w : World) : Prop where
  slots : ∀ n v, look σ (.s n) = some (.av v) → RepV κ w v (a.tmps.getD n undef)
  boxes : ∀ b l, look σ (.b b) = some (.bx l) → κ.Db b ∧ W0.heap.size ≤ (κ.ι b).1 ∧ ∃ C ty, w.heap[(κ.ι b).1]? = some (.cells C ty (0, 0)) ∧ RepC κ w l C (κ.ι b).2
  binj : ∀ b b' l l', look σ (.b b) = some (.bx l) → look σ (.b b') = some (.bx l') → b ≠ b' → ∀ x o, inSp (spb κ b l) x o → ¬ inSp (spb κ b' l') x o
  toks : ∀ k, look σ (.t k) = some (.tk true) → κ.Dt k ∧ ((κ.τ k).2.1 < (κ.τ k).2.2 → W0.heap.size ≤ (κ.τ k).1 ∧ ∃ C ty, w.heap[(κ.τ k).1]? = some (.cells C ty (0, 0)) ∧ (κ.τ k).2.2 ≤ C.size)
  tdis : ∀ k k', look σ (.t k) = some (.tk true) → look σ (.t k') = some (.tk true) → k ≠ k' → ∀ b o, inSp (κ.τ k) b o → ¬ inSp (κ.τ k') b o
  tbox : ∀ k id l, look σ (.t k) = some (.tk true) → look σ (.b id) = some (.bx l) → ∀ x o, inSp (κ.τ k) x o → ¬ inSp (spb κ id l) x o
  sepI : ∀ b o, Own κ σ b o → ¬ κ.I b o
  Icell : ∀ b o, κ.I b o → b < w.heap.size
  old : ∀ b o, b < W0.heap.size → κ.I b o
  size0 : W0.heap.size ≤ w.heap.size
  amb : ∀ b, b < W0.heap.size → w.heap[b]? = W0.heap[b]?
  defers : a.defers = []
  os : w.os = W0.os
  tape : w.tape = W0.tape
  output : w.output = W0.output

/-- outside the cells O nothing has turned -/
structure Chg (O : Nat → Nat → Prop) (w w' : World) : Prop where
  os : w'.os = w.os
  tape : w'.tape = w.tape
  output : w'.output = w.output
  size : w.heap.size ≤ w'.heap.size
  same : ∀ b, b < w.heap.size → (∀ o, ¬ O b o) → w'.heap[b]? = w.heap[b]?
  cells : ∀ (b : Nat) (C : Array Value) (ty : TypeId) (fz : Nat × Nat), w.heap[b]? = some (.cells C ty fz) →
    ∃ C', w'.heap[b]? = some (.cells C' ty fz) ∧ C'.size = C.size ∧ ∀ o : Nat, ¬ O b o → C'[o]? = C[o]?

theorem Chg.refl (O : Nat → Nat → Prop) (w : World) : Chg O w w :=
  ⟨rfl, rfl, rfl, Nat.le_refl _, fun _ _ _ => rfl, fun _ C _ _ h => ⟨C, h, rfl, fun _ _ => rfl⟩⟩

structure Step (κ : Gh) (σ : Log) (w : World) (κ' : Gh) (σ' : Log) (w' : World) : Prop where
  chg : Chg (Own κ σ) w w'
  own : ∀ b o, Own κ' σ' b o → Own κ σ b o ∨ w.heap.size ≤ b
  I_ : ∀ b o, κ.I b o → κ'.I b o
  In : ∀ b o, κ'.I b o → κ.I b o ∨ Own κ σ b o ∨ w.heap.size ≤ b
  low : ∀ b, b < 1000 → κ.Db b → κ'.Db b ∧ κ'.ι b = κ.ι b
  lowt : ∀ k, k < 1000 → κ.Dt k → κ'.Dt k ∧ κ'.τ k = κ.τ k

theorem Step.refl (κ : Gh) (σ : Log) (w : World) : Step κ σ w κ σ w :=
  ⟨.refl _ _, fun _ _ h => .inl h, fun _ _ h => h, fun _ _ h => .inl h, fun _ _ h => ⟨h, rfl⟩, fun _ _ h => ⟨h, rfl⟩⟩

theorem lt_of_heap {w : World} {b : Nat} {x : Obj} (h : w.heap[b]? = some x) : b < w.heap.size := by
  by_cases hb : b < w.heap.size
  · exact hb
  · simp [Array.getElem?_eq_none (Nat.le_of_not_lt hb)] at h

theorem Step.trans {κ κ' κ'' : Gh} {σ σ' σ'' : Log} {w w' w'' : World} (h : Step κ σ w κ' σ' w') (g : Step κ' σ' w' κ'' σ'' w'') : Step κ σ w κ'' σ'' w'' := by
  refine ⟨⟨g.chg.os.trans h.chg.os, g.chg.tape.trans h.chg.tape, g.chg.output.trans h.chg.output, Nat.le_trans h.chg.size g.chg.size, ?_, ?_⟩, ?_, ?_, ?_, ?_, ?_⟩
  · intro b hb ho
    rw [g.chg.same b (Nat.lt_of_lt_of_le hb h.chg.size) (fun o hh => (h.own b o hh).elim (ho o) (fun x => absurd hb (Nat.not_lt.2 x)))]
    exact h.chg.same b hb ho
  · intro b C ty fz hC
    obtain ⟨C', h1, h2, h3⟩ := h.chg.cells b C ty fz hC
    obtain ⟨C'', g1, g2, g3⟩ := g.chg.cells b C' ty fz h1
    have hb := lt_of_heap hC
    refine ⟨C'', g1, g2.trans h2, fun o ho => ?_⟩
    rw [g3 o (fun hh => (h.own b o hh).elim ho (fun x => absurd hb (Nat.not_lt.2 x))), h3 o ho]
  · intro b o ho
    rcases g.own b o ho with h1 | h1
    · exact h.own b o h1
    · exact .inr (Nat.le_trans h.chg.size h1)
  · intro b o hh; exact g.I_ b o (h.I_ b o hh)
  · intro b o hh
    rcases g.In b o hh with h1 | h1 | h1
    · exact h.In b o h1
    · rcases h.own b o h1 with h2 | h2
      · exact .inr (.inl h2)
      · exact .inr (.inr h2)
    · exact .inr (.inr (Nat.le_trans h.chg.size h1))
  · intro b hb hd
    obtain ⟨h1, h2⟩ := h.low b hb hd
    obtain ⟨g1, g2⟩ := g.low b hb h1
    exact ⟨g1, g2.trans h2⟩
  · intro b hb hd
    obtain ⟨h1, h2⟩ := h.lowt b hb hd
    obtain ⟨g1, g2⟩ := g.lowt b hb h1
    exact ⟨g1, g2.trans h2⟩

/-- what a value needs to stay what it is -/
structure Ext (κ : Gh) (w : World) (κ' : Gh) (w' : World) : Prop where
  I_ : ∀ b o, κ.I b o → κ'.I b o
  cell : ∀ b o, κ.I b o → w'.cell? ⟨b, o, none⟩ = w.cell? ⟨b, o, none⟩
  db : ∀ b, κ.Db b → κ'.Db b ∧ κ'.ι b = κ.ι b
  dt : ∀ k, κ.Dt k → κ'.Dt k ∧ κ'.τ k = κ.τ k

theorem Ext.refl (κ : Gh) (w : World) : Ext κ w κ w := ⟨fun _ _ h => h, fun _ _ _ => rfl, fun _ h => ⟨h, rfl⟩, fun _ h => ⟨h, rfl⟩⟩

theorem RepD.mono {I I' : Nat → Nat → Prop} {w w' : World} (hI : ∀ b o, I b o → I' b o) (hc : ∀ b o, I b o → w'.cell? ⟨b, o, none⟩ = w.cell? ⟨b, o, none⟩)
    {d : Data} {x : Value} (h : RepD I w d x) : RepD I' w' d x := by
  induction h with
  | sc c => exact .sc c
  | nil sz a => exact .nil sz a
  | lst sz els b o cap C hn hlen hI' hcell hr ih =>
    exact .lst sz els b o cap C hn hlen (fun i j a b => hI _ _ (hI' i j a b)) (fun i j a b => (hc _ _ (hI' i j a b)).trans (hcell i j a b)) ih

theorem tokOK.mono {κ κ' : Gh} (hd : ∀ k, κ.Dt k → κ'.Dt k ∧ κ'.τ k = κ.τ k) {sz : Nat} {t : Tok} {x : Value} (h : tokOK κ sz t x) : tokOK κ' sz t x := by
  cases t with
  | none => trivial
  | full => exact h
  | t k =>
    obtain ⟨h1, h2⟩ := hd k h.1
    exact ⟨h1, fun a n cap e l => h2.trans (h.2 a n cap e l)⟩

theorem RepV.mono {κ κ' : Gh} {w w' : World} (e : Ext κ w κ' w') {v : AV} {x : Value} (h : RepV κ w v x) : RepV κ' w' v x := by
  induction h with
  | sc c => exact .sc c
  | sl sz els t x h ht => exact .sl sz els t x (h.mono e.I_ e.cell) (ht.mono e.dt)
  | ptr b o h => rw [← (e.db b h).2]; exact .ptr b o (e.db b h).1
  | mx sz els b n t off cap hd ho hn h ht =>
    have e2 := (e.db b hd).2
    rw [← e2] at ho h ht ⊢
    exact .mx sz els b n t off cap (e.db b hd).1 ho hn (h.mono e.I_ e.cell) (ht.mono e.dt)
  | elp cells o b q h =>
    refine .elp cells o b q fun j d hj => ?_
    obtain ⟨c, h1, h2, h3⟩ := h j d hj
    exact ⟨c, e.I_ _ _ h1, (e.cell _ _ h1).trans h2, h3.mono e.I_ e.cell⟩
  | fn f caps vs hs _ ih => exact .fn f caps vs hs ih
  | agg l vs hs h1 _ ih => exact .agg l vs hs h1 ih
  | tup l vs hs _ ih => exact .tup l vs hs ih
  | bad x => exact .bad x

theorem RepL.mono {κ κ' : Gh} {w w' : World} (e : Ext κ w κ' w') {l : List AV} {vs : Array Value} (h : RepL κ w l vs) : RepL κ' w' l vs :=
  ⟨h.1, h.2.1, fun j v hj => (h.2.2 j v hj).mono e⟩

theorem RepC.mono {κ κ' : Gh} {w w' : World} (e : Ext κ w κ' w') {l : List AV} {vs : Array Value} {o : Nat} (h : RepC κ w l vs o) : RepC κ' w' l vs o :=
  ⟨h.1, h.2.1, fun j v hj => (h.2.2 j v hj).mono e⟩

theorem RepL.repC {κ : Gh} {w : World} {l : List AV} {C : Array Value} (h : RepL κ w l C) : RepC κ w l C 0 :=
  ⟨by rw [Nat.zero_add]; exact Nat.le_of_eq h.1.symm, h.2.1, fun j v hj => by rw [Nat.zero_add]; exact h.2.2 j v hj⟩

theorem repC_iff {κ : Gh} {w : World} {l : List AV} {C : Array Value} {o : Nat} : RepC κ w l C o ↔ o + l.length ≤ C.size ∧ RepL κ w l (C.extract o (o + l.length)) := by
  have key : ∀ j : Nat, o + l.length ≤ C.size → j < l.length → (C.extract o (o + l.length)).getD j undef = C.getD (o + j) undef := by
    intro j h hj
    rw [Array.getD_eq_getD_getElem?, Array.getD_eq_getD_getElem?, Array.getElem?_extract, if_pos (by omega)]
  constructor
  · rintro ⟨h1, h2, h3⟩
    refine ⟨h1, by rw [Array.size_extract]; omega, h2, fun j v hj => ?_⟩
    rw [key j h1 (List.getElem?_eq_some_iff.1 hj).1]
    exact h3 j v hj
  · rintro ⟨h1, _, h2, h3⟩
    refine ⟨h1, h2, fun j v hj => ?_⟩
    rw [← key j h1 (List.getElem?_eq_some_iff.1 hj).1]
    exact h3 j v hj

theorem cell?_of_cells {w : World} {b o : Nat} {C : Array Value} {ty : TypeId} {fz : Nat × Nat} (h : w.heap[b]? = some (.cells C ty fz)) : w.cell? ⟨b, o, none⟩ = C[o]? := by
  simp [World.cell?, h]

theorem cell?_none_of {w : World} {b o : Nat} (h : ∀ C ty fz, w.heap[b]? ≠ some (.cells C ty fz)) : w.cell? ⟨b, o, none⟩ = none := by
  unfold World.cell?
  cases hb : w.heap[b]? with
  | none => rfl
  | some x =>
    cases x <;> first | rfl | exact absurd hb (h _ _ _)

/-- whatever is owned is a row of cells -/
theorem RepS.ownCells {W0 : World} {κ : Gh} {σ : Log} {a : Act} {w : World} (h : RepS W0 κ σ a w) {b o : Nat} (ho : Own κ σ b o) : ∃ C ty, w.heap[b]? = some (.cells C ty (0, 0)) := by
  rcases ho with ⟨id, l, hl, hb, _⟩ | ⟨k, hk, hb, h1, h2⟩
  · obtain ⟨_, _, C, ty, hC, _⟩ := h.boxes id l hl
    exact ⟨C, ty, hb ▸ hC⟩
  · obtain ⟨_, hh⟩ := h.toks k hk
    obtain ⟨_, C, ty, hC, _⟩ := hh (Nat.lt_of_le_of_lt h1 h2)
    exact ⟨C, ty, hb ▸ hC⟩

theorem RepS.ownNew {W0 : World} {κ : Gh} {σ : Log} {a : Act} {w : World} (h : RepS W0 κ σ a w) {b o : Nat} (ho : Own κ σ b o) : W0.heap.size ≤ b := by
  rcases ho with ⟨id, l, hl, hb, _⟩ | ⟨k, hk, hb, h1, h2⟩
  · exact hb ▸ (h.boxes id l hl).2.1
  · exact hb ▸ ((h.toks k hk).2 (Nat.lt_of_le_of_lt h1 h2)).1

theorem Chg.cell {W0 : World} {κ : Gh} {σ : Log} {a : Act} {w w' : World} (hs : RepS W0 κ σ a w) (h : Chg (Own κ σ) w w') {b o : Nat} (hI : κ.I b o) :
    w'.cell? ⟨b, o, none⟩ = w.cell? ⟨b, o, none⟩ := by
  have hb := hs.Icell b o hI
  have hno : ¬ Own κ σ b o := fun hh => hs.sepI b o hh hI
  by_cases hC : ∃ C ty fz, w.heap[b]? = some (.cells C ty fz)
  · obtain ⟨C, ty, fz, hC⟩ := hC
    obtain ⟨C', h1, h2, h3⟩ := h.cells b C ty fz hC
    rw [cell?_of_cells h1, cell?_of_cells hC, h3 o hno]
  · have hn : ∀ C ty fz, w.heap[b]? ≠ some (.cells C ty fz) := fun C ty fz e => hC ⟨C, ty, fz, e⟩
    have : w'.heap[b]? = w.heap[b]? := h.same b hb fun o' ho' => by
      obtain ⟨C, ty, e⟩ := hs.ownCells ho'
      exact hn _ _ _ e
    rw [cell?_none_of hn, cell?_none_of (fun C ty fz => this ▸ hn C ty fz)]

/-- a step that keeps the ids keeps the values -/
theorem Step.ext {W0 : World} {κ κ' : Gh} {σ σ' : Log} {a : Act} {w w' : World} (hs : RepS W0 κ σ a w) (h : Step κ σ w κ' σ' w')
    (db : ∀ b, κ.Db b → κ'.Db b ∧ κ'.ι b = κ.ι b) (dt : ∀ k, κ.Dt k → κ'.Dt k ∧ κ'.τ k = κ.τ k) : Ext κ w κ' w' :=
  ⟨h.I_, fun _ _ hI => h.chg.cell hs hI, db, dt⟩

theorem Chg.amb {W0 : World} {κ : Gh} {σ : Log} {a : Act} {w w' : World} (hs : RepS W0 κ σ a w) (h : Chg (Own κ σ) w w') : ∀ b, b < W0.heap.size → w'.heap[b]? = W0.heap[b]? :=
  fun b hb => (h.same b (Nat.lt_of_lt_of_le hb hs.size0) fun _ ho => absurd hb (Nat.not_lt.2 (hs.ownNew ho))).trans (hs.amb b hb)

/-- the contract: abstractly f takes args and the boxes H to res and the boxes H' -/
def finLog (res : AV) (H : List (List AV)) : Log := initLog [res] H

/-- a call of it enters a body -/
def callable (P : Program) (f : FuncId) : Bool := match P.funcs[f]? with
  | some fn => !(fn.name == "runtime.NumGoroutine") && fn.body.isSome
  | none => false

def Ctr (P : Program) (W0 : World) (f : FuncId) (args : List AV) (H : List (List AV)) (res : AV) (H' : List (List AV)) : Prop :=
  callable P f = true ∧ ∀ (κ : Gh) (w : World) (vals : Array Value), vals.size = args.length → (∀ b, κ.Db b → b < H.length) → (∀ k, κ.Dt k → k < tokN args H) → RepS W0 κ (initLog args H) ⟨vals, []⟩ w →
    Calls P f vals w fun e w' => ∃ v κ', e = .returned v ∧ RepS W0 κ' (finLog res H') ⟨#[v], []⟩ w' ∧ Step κ (initLog args H) w κ' (finLog res H') w'

end Go.Abs
