/- From the model's operations to the machine's; what a simple operation does. -/
import Derived.Test.YthmcdebdkbhbmaaGreatDoorA3
namespace Go.Abs
open Go

def elemSz (P : Program) (ty : TypeId) : Option Nat := match P.underlying ty with
  | some (.slice e) => (P.info? e).map (·.size)
  | _ => none

def constC (z : Option Nat) : Value → Option AV
  | .bool b => some (.sc (.b b))
  | .int k n => some (.sc (.i k n))
  | .string s => some (.sc (.s s.data.toList))
  | .pointer none => some (.sc .np)
  | .nilFunc => some (.sc .nf)
  | .nilIface => some (.sc .ni)
  | .slice none 0 0 => z.map fun z => .sl z [] .full
  | _ => none

def opdC (z : Option Nat) : Operand → Option Opd
  | .tmp t => some (.t t)
  | .const v => (constC z v).map .c
  | .func f => some (.c (.fn f []))
  | .global _ => none

theorem constC_rep {κ : Gh} {w : World} {z : Option Nat} {v : Value} {x : AV} (h : constC z v = some x) : RepV κ w x v ∧ one x = true := by
  unfold constC at h
  split at h
  · cases h; exact ⟨.sc _, rfl⟩
  · cases h; exact ⟨.sc _, rfl⟩
  · rename_i s
    cases h
    refine ⟨?_, rfl⟩
    have : Value.string s = (Sc.s s.data.toList).val := by simp [Sc.val]
    rw [this]; exact .sc _
  · cases h; exact ⟨.sc .np, rfl⟩
  · cases h; exact ⟨.sc .nf, rfl⟩
  · cases h; exact ⟨.sc .ni, rfl⟩
  · cases z with
    | none => cases h
    | some z =>
      cases h
      exact ⟨.sl z [] .full _ (.nil z none) (fun a n cap e => by cases e), rfl⟩
  · cases h

theorem opd_rep {W0 : World} {κ : Gh} {σ : Log} {a : Act} {w : World} (hs : RepS W0 κ σ a w) {z : Option Nat} {x : Operand} {y : Opd} (h : opdC z x = some y) : RepV κ w (ev σ y) (a.eval x) := by
  unfold opdC at h
  split at h
  · rename_i t
    cases h
    simp only [ev, Act.eval]
    split
    · rename_i v hv; exact hs.slots t v hv
    · exact .bad _
  · rename_i v
    cases hc : constC z v with
    | none => simp [hc] at h
    | some c =>
      simp [hc] at h
      subst h
      exact (constC_rep hc).1
  · cases h
    exact .fn _ [] #[] rfl (fun j v hj => by simp at hj)
  · cases h

/- inversions -/
theorem RepV.sc_inv {κ : Gh} {w : World} {c : Sc} {x : Value} (h : RepV κ w (.sc c) x) : x = c.val := by cases h; rfl
theorem RepV.sl_inv {κ : Gh} {w : World} {z : Nat} {e : List (List Data)} {t : Tok} {x : Value} (h : RepV κ w (.sl z e t) x) : RepD κ.I w (.lst z e) x ∧ tokOK κ z t x := by cases h; exact ⟨by assumption, by assumption⟩
theorem RepV.ptr_inv {κ : Gh} {w : World} {b o : Nat} {x : Value} (h : RepV κ w (.ptr b o) x) : κ.Db b ∧ x = .pointer (some ⟨(κ.ι b).1, (κ.ι b).2 + o, none⟩) := by cases h; exact ⟨by assumption, rfl⟩
theorem RepV.elp_inv {κ : Gh} {w : World} {l : List Data} {o : Nat} {x : Value} (h : RepV κ w (.elp l o) x) :
    ∃ b q, x = .pointer (some ⟨b, q + o, none⟩) ∧ ∀ (j : Nat) (d : Data), l[j]? = some d → ∃ c, κ.I b (q + j) ∧ w.cell? ⟨b, q + j, none⟩ = some c ∧ RepD κ.I w d c := by
  cases h; exact ⟨_, _, rfl, by assumption⟩
theorem RepV.mx_inv {κ : Gh} {w : World} {sz : Nat} {els : List (List Data)} {b n : Nat} {t : Tok} {x : Value} (h : RepV κ w (.mx sz els b n t) x) :
    ∃ off cap, κ.Db b ∧ (κ.ι b).2 = off + els.length * sz ∧ els.length + n ≤ cap ∧ RepD κ.I w (.lst sz els) (.slice (some ⟨(κ.ι b).1, off, none⟩) els.length cap) ∧
      tokOK κ sz t (.slice (some ⟨(κ.ι b).1, off, none⟩) (els.length + n) cap) ∧ x = .slice (some ⟨(κ.ι b).1, off, none⟩) (els.length + n) cap := by
  cases h; exact ⟨_, _, by assumption, by assumption, by assumption, by assumption, by assumption, rfl⟩
theorem RepV.agg_inv {κ : Gh} {w : World} {l : List AV} {x : Value} (h : RepV κ w (.agg l) x) : ∃ vs, x = .agg vs ∧ RepL κ w l vs := by
  cases h with | agg l vs hs h1 h => exact ⟨vs, rfl, hs, h1, h⟩
theorem RepV.tup_inv {κ : Gh} {w : World} {l : List AV} {x : Value} (h : RepV κ w (.tup l) x) : ∃ vs : Array Value, x = .tuple vs ∧ vs.size = l.length ∧ ∀ (j : Nat) (v : AV), l[j]? = some v → RepV κ w v (vs.getD j undef) := by
  cases h; exact ⟨_, rfl, by assumption, by assumption⟩
theorem RepV.fn_inv {κ : Gh} {w : World} {f : FuncId} {l : List AV} {x : Value} (h : RepV κ w (.fn f l) x) :
    ∃ vs : Array Value, x = .func (.func f) #[] vs ∧ vs.size = l.length ∧ ∀ (j : Nat) (v : AV), l[j]? = some v → RepV κ w v (vs.getD j undef) := by
  cases h; exact ⟨_, rfl, by assumption, by assumption⟩

theorem frc_iff {v : AV} {F : AV → Prop} : frc v F ↔ v ≠ .bad ∧ F v := by
  cases v <;> simp [frc]
theorem frc1_iff {v : AV} {F : AV → Prop} : frc1 v F ↔ one v = true ∧ F v := by
  cases v <;> simp [frc1, one]
theorem frcL_iff {l : List AV} {F : List AV → Prop} : frcL l F ↔ (∀ v, v ∈ l → one v = true) ∧ F l := by
  induction l generalizing F with
  | nil => simp [frcL]
  | cons x r ih =>
    simp only [frcL, frc1_iff, ih, List.mem_cons]
    constructor
    · rintro ⟨h1, h2, h3⟩
      exact ⟨fun v hv => hv.elim (fun e => e ▸ h1) (h2 v), h3⟩
    · rintro ⟨h1, h2⟩
      exact ⟨h1 x (.inl rfl), fun v hv => h1 v (.inr hv), h2⟩

theorem Sc.val_cells (c : Sc) : c.val.cells = #[c.val] := by cases c <;> rfl
theorem Sc.val_one (c : Sc) : c.val.oneCell' = true := by cases c <;> rfl

theorem RepD.cells {I : Nat → Nat → Prop} {w : World} {d : Data} {x : Value} (h : RepD I w d x) : x.cells = #[x] ∧ x.oneCell' = true := by
  cases h with
  | sc c => exact ⟨Sc.val_cells c, Sc.val_one c⟩
  | nil => exact ⟨rfl, rfl⟩
  | lst => exact ⟨rfl, rfl⟩

theorem one_cells {κ : Gh} {w : World} {v : AV} {x : Value} (h : RepV κ w v x) (h1 : one v = true) : x.cells = #[x] ∧ x.oneCell' = true := by
  cases h with
  | sc c => exact ⟨Sc.val_cells c, Sc.val_one c⟩
  | sl z e t x h ht => exact h.cells
  | ptr b o h => exact ⟨rfl, rfl⟩
  | elp => exact ⟨rfl, rfl⟩
  | mx => exact ⟨rfl, rfl⟩
  | fn => exact ⟨rfl, rfl⟩
  | agg => cases h1
  | tup => cases h1
  | bad => cases h1

theorem flat_rep {κ : Gh} {w : World} {v : AV} {x : Value} (h : RepV κ w v x) (h1 : ∀ u, u ∈ flat v → one u = true) : RepL κ w (flat v) x.cells := by
  by_cases ho : one v = true
  · have hf : flat v = [v] := by cases v <;> first | rfl | cases ho
    rw [hf, (one_cells h ho).1]
    refine ⟨rfl, by simpa using ho, fun j u hj => ?_⟩
    cases j with
    | zero => simp at hj; subst hj; simpa using h
    | succ j => simp at hj
  · cases h with
    | agg l vs hs h1' h => exact ⟨hs, h1', h⟩
    | sc | sl | ptr | elp | fn | mx => exact absurd rfl ho
    | tup l vs hs h => exact absurd (h1 _ (by simp [flat])) ho
    | bad => exact absurd (h1 _ (by simp [flat])) ho

theorem RepL.one {κ : Gh} {w : World} {l : List AV} {C : Array Value} (h : RepL κ w l C) : ∀ x, x ∈ C.toList → x.oneCell' = true := by
  intro x hx
  obtain ⟨j, hj, rfl⟩ := List.mem_iff_getElem.1 hx
  have hj' : j < l.length := by rw [← h.1]; simpa using hj
  have := h.2.2 j l[j] (List.getElem?_eq_getElem hj')
  have hh := one_cells this (h.2.1 _ (List.getElem_mem hj'))
  have e : C.getD j undef = C.toList[j] := by
    have : j < C.size := by simpa using hj
    simp [Array.getD, this]
  rw [e] at hh
  exact hh.2

theorem wp_value {P : Program} {o : Oper} {a : Act} {w w' : World} {K : Act → World → Prop} {Q : Exit → Act → World → Prop} {x : Value}
    (h : (execOp a.eval o).run P w = .ok (.value x) w') (hk : K (a.put o.dst x) w') : o.wp P a w K Q := by
  unfold Oper.wp; rw [h]; exact hk
theorem wp_skip' {P : Program} {o : Oper} {a : Act} {w w' : World} {K : Act → World → Prop} {Q : Exit → Act → World → Prop}
    (h : (execOp a.eval o).run P w = .ok .skip w') (hk : K (a.put o.dst undef) w') : o.wp P a w K Q := by
  unfold Oper.wp; rw [h]; exact hk

/-- which ids may be new -/
structure Grow (κ κ' : Gh) (id : Nat) : Prop where
  db : ∀ b, κ'.Db b → κ.Db b ∨ (id ≤ b ∧ b < id + 100)
  dt : ∀ k, κ'.Dt k → κ.Dt k ∨ (id ≤ k ∧ k < id + 100)

theorem Grow.refl (κ : Gh) (id : Nat) : Grow κ κ id := ⟨fun _ h => .inl h, fun _ h => .inl h⟩

structure Fresh (κ : Gh) (id : Nat) : Prop where
  ge : 1000 ≤ id
  db : ∀ b, id ≤ b → b < id + 100 → ¬ κ.Db b
  dt : ∀ b, id ≤ b → b < id + 100 → ¬ κ.Dt b

/-- what holds behind an operation that wrote δ -/
def After (W0 : World) (κ : Gh) (σ : Log) (a : Act) (w : World) (id : Nat) (F : Log → Prop) (a' : Act) (w' : World) : Prop :=
  ∃ δ κ', F δ ∧ RepS W0 κ' (δ ++ σ) a' w' ∧ Step κ σ w κ' (δ ++ σ) w' ∧ a'.tmps.size = a.tmps.size ∧ Grow κ κ' id

theorem After.put {W0 : World} {κ : Gh} {σ : Log} {a : Act} {w : World} {id : Nat} {F : Log → Prop} (hs : RepS W0 κ σ a w) {d : Nat} {v : AV} {x : Value} (hd : d < a.tmps.size)
    (hv : RepV κ w v x) (hF : F [(.s d, .av v)]) : After W0 κ σ a w id F (a.put (some d) x) w :=
  ⟨_, κ, hF, hs.put hd hv, Step.put, put_size, Grow.refl _ _⟩

section ops
variable {P : Program} {W0 : World} {κ : Gh} {σ : Log} {a : Act} {w : World} {id : Nat} {F : Log → Prop} {call : CallP} {o : Oper} {Q : Exit → Act → World → Prop} {d : Nat} {z : Option Nat}

theorem s_mv (hs : RepS W0 κ σ a w) {x : Operand} {x' : Opd} (ho : o.op = .move x ∨ o.op = .assign x) (hd : o.dst = some d) (hx : opdC z x = some x') (hN : d < a.tmps.size)
    (h : eff call σ id (.mv d x') F) : o.wp P a w (After W0 κ σ a w id F) Q := by
  have h' : frc (ev σ x') fun v => F [(.s d, .av v)] := h
  obtain ⟨_, h⟩ := frc_iff.1 h'
  refine wp_value (x := a.eval x) (w' := w) ?_ ?_
  · rcases ho with ho | ho <;> simp [execOp, ho]
  · rw [hd]; exact .put hs hN (opd_rep hs hx) h

theorem s_pick (hs : RepS W0 κ σ a w) {c x y : Operand} {c' x' y' : Opd} {z1 : Option Nat} (ho : o.op = .pick c x y) (hd : o.dst = some d) (hc : opdC z1 c = some c') (hx : opdC z x = some x') (hy : opdC z y = some y')
    (hN : d < a.tmps.size) (h : eff call σ id (.pick d c' x' y') F) : o.wp P a w (After W0 κ σ a w id F) Q := by
  simp only [eff] at h
  split at h
  · rename_i t ht
    have hc' := opd_rep hs hc
    rw [ht] at hc'
    have e := hc'.sc_inv
    cases t with
    | true =>
      obtain ⟨_, h⟩ := frc_iff.1 h
      refine wp_value (x := a.eval x) (w' := w) ?_ (by rw [hd]; exact .put hs hN (opd_rep hs hx) h)
      simp [execOp, ho, e, asBool, Sc.val]
    | false =>
      obtain ⟨_, h⟩ := frc_iff.1 h
      refine wp_value (x := a.eval y) (w' := w) ?_ (by rw [hd]; exact .put hs hN (opd_rep hs hy) h)
      simp [execOp, ho, e, asBool, Sc.val]
  · exact h.elim

theorem RepV.newptr {W0 : World} {κ : Gh} {σ : Log} {a : Act} {w : World} (hs : RepS W0 κ σ a w) {d id : Nat} (hN : d < a.tmps.size) (hf : Fresh κ id) {l : List AV} {C : Array Value} (hl : RepL κ w l C) (ty : TypeId)
    {F : Log → Prop} (h : F [(.s d, .av (.ptr id 0)), (.b id, .bx l)]) : After W0 κ σ a w id F (a.put (some d) (.pointer (some ⟨w.heap.size, 0, none⟩))) (w.alloc (.cells C ty)) := by
  obtain ⟨h1, h2, h3⟩ := hs.box (hf.db id (Nat.le_refl _) (by omega)) hl ty
  refine ⟨_, _, h, h1.put hN ?_, h2.trans Step.put, put_size, ⟨?_, fun k hk => .inl hk⟩⟩
  · have := RepV.ptr (κ := { κ with Db := fun b => κ.Db b ∨ b = id, ι := fun b => if b = id then (w.heap.size, 0) else κ.ι b }) (w := w.alloc (.cells C ty)) id 0 (.inr rfl)
    simpa using this
  · rintro b (hb | rfl)
    · exact .inl hb
    · exact .inr ⟨Nat.le_refl _, by omega⟩

theorem s_box (hs : RepS W0 κ σ a w) (hf : Fresh κ id) {x : Operand} {x' : Opd} {t : TypeId} (ho : o.op = .box t x) (hd : o.dst = some d) (hx : opdC z x = some x') (hN : d < a.tmps.size)
    (h : eff call σ id (.box d x') F) : o.wp P a w (After W0 κ σ a w id F) Q := by
  obtain ⟨h1, h⟩ := frcL_iff.1 h
  refine wp_value (x := .pointer (some ⟨w.heap.size, 0, none⟩)) (w' := w.alloc (.cells (a.eval x).cells t)) ?_ ?_
  · simp [execOp, ho, Instr.box, newVar, newRow, newObj, Sem.run]
  · rw [hd]; exact RepV.newptr hs hN hf (flat_rep (opd_rep hs hx) h1) t h

/-- does the datum say the zero value's cell? -/
def repZ : AV → Value → Bool
  | .sc (.b x), .bool y => x == y
  | .sc (.i k n), .int k' n' => decide (k = k') && decide (n = n')
  | .sc (.s l), .string s => l.isEmpty && s.data.toList.isEmpty
  | .sc .np, .pointer none => true
  | .sc .nf, .nilFunc => true
  | .sc .ni, .nilIface => true
  | .sl _ [] .full, .slice none 0 0 => true
  | _, _ => false

def repZs : List AV → List Value → Bool
  | [], [] => true
  | x :: xs, y :: ys => repZ x y && repZs xs ys
  | _, _ => false

theorem repZ_ok {x : AV} {y : Value} (h : repZ x y = true) : RepV κ w x y ∧ one x = true := by
  unfold repZ at h
  split at h
  · simp at h; subst h; exact ⟨.sc _, rfl⟩
  · simp at h; obtain ⟨rfl, rfl⟩ := h; exact ⟨.sc _, rfl⟩
  · rename_i l s
    simp at h
    obtain ⟨h1, h2⟩ := h
    refine ⟨?_, rfl⟩
    have : Value.string s = (Sc.s l).val := by
      cases s; rename_i dd; simp at h2; simp [Sc.val, h1, h2]
    rw [this]; exact .sc _
  · exact ⟨.sc .np, rfl⟩
  · exact ⟨.sc .nf, rfl⟩
  · exact ⟨.sc .ni, rfl⟩
  · exact ⟨.sl _ [] .full _ (.nil _ none) (fun a n cap e => by cases e), rfl⟩
  · cases h

theorem repZs_ok : ∀ {xs : List AV} {ys : List Value}, repZs xs ys = true → RepL κ w xs ys.toArray
  | [], [], _ => ⟨rfl, by simp, fun j v hj => by simp at hj⟩
  | x :: xs, y :: ys, h => by
    simp only [repZs, Bool.and_eq_true] at h
    obtain ⟨g1, g2, g3⟩ := repZs_ok h.2
    obtain ⟨r1, r2⟩ := repZ_ok (κ := κ) (w := w) h.1
    refine ⟨by simpa using g1, ?_, ?_⟩
    · intro v hv
      rcases List.mem_cons.1 hv with rfl | hv
      · exact r2
      · exact g2 v hv
    · intro j v hj
      cases j with
      | zero => simp at hj; subst hj; simpa using r1
      | succ j =>
        have := g3 j v (by simpa using hj)
        simpa [Array.getD_eq_getD_getElem?] using this
  | [], _ :: _, h => by cases h
  | _ :: _, [], h => by cases h

/-- the typed zero cells -/
def zAV (P : Program) : Nat → TypeId → List AV
  | 0, _ => []
  | n + 1, t => match P.underlying t with
    | some .bool => [.sc (.b false)]
    | some (.int k) => [.sc (.i k 0)]
    | some .string => [.sc (.s [])]
    | some (.pointer _) => [.sc .np]
    | some (.func _ _ _) => [.sc .nf]
    | some (.interface _) => [.sc .ni]
    | some (.slice e) => [.sl (((P.info? e).map (·.size)).getD 0) [] .full]
    | some (.struct fs) => (fs.toList.map fun f => zAV P n f.type).flatten
    | _ => []

def zcells (P : Program) (t : TypeId) : Option (List AV) := match P.info? t with
  | some i => match i.zero with
    | some v => if repZs (zAV P 8 t) v.cells.toList then some (zAV P 8 t) else none
    | none => none
  | none => none

theorem zcells_ok {t : TypeId} {l : List AV} (h : zcells P t = some l) : ∃ i v, P.info? t = some i ∧ i.zero = some v ∧ ∀ (κ : Gh) (w : World), RepL κ w l v.cells := by
  unfold zcells at h
  split at h
  · rename_i i hi
    split at h
    · rename_i v hv
      split at h
      · rename_i hz
        cases h
        refine ⟨i, v, hi, hv, fun κ w => ?_⟩
        have := repZs_ok (κ := κ) (w := w) hz
        simpa using this
      · cases h
    · cases h
  · cases h

theorem s_alloc (hs : RepS W0 κ σ a w) (hf : Fresh κ id) {t : TypeId} {l : List AV} (ho : o.op = .alloc t) (hd : o.dst = some d) (hz : zcells P t = some l) (hN : d < a.tmps.size)
    (h : eff call σ id (.alloc d l) F) : o.wp P a w (After W0 κ σ a w id F) Q := by
  obtain ⟨i, v, hi, hv, hl⟩ := zcells_ok hz
  refine wp_value (x := .pointer (some ⟨w.heap.size, 0, none⟩)) (w' := w.alloc (.cells v.cells t)) ?_ ?_
  · simp [execOp, ho, Instr.alloc, zeroValue, run_typeInfo w hi, hv, newVar, newRow, newObj, Sem.run]
  · rw [hd]; exact RepV.newptr hs hN hf (hl κ w) t h
end ops
end Go.Abs
