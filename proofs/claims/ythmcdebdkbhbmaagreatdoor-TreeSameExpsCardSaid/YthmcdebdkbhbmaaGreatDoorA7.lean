/- Numbers, texts, indexes, slices, tuples, lengths, closures. -/
import Derived.Test.YthmcdebdkbhbmaaGreatDoorA6
namespace Go.Abs
open Go

def compB : BinOp → Option Bin
  | .add => some .add | .sub => some .sub | .mul => some .mul | .quo => some .quo | .rem => some .rem
  | .and => some .and | .or => some .or | .xor => some .xor | .andNot => some .andNot
  | .eql => some .eql | .neq => some .neq | .lss => some .lss | .leq => some .leq | .gtr => some .gtr | .geq => some .geq
  | _ => none

theorem ikBeq_eq {k k' : IntKind} (h : ikBeq k k' = true) : k = k' ∧ (k = .i64 ∨ k = .u8) := by
  cases k <;> cases k' <;> simp [ikBeq] at h ⊢

theorem wrap_fits {k : IntKind} {n : Int} (h : Fits k n) : k.wrap n = n := by
  cases k <;> simp only [Fits] at h
  · exact IntWalk.i64_in n h
  · exact IntWalk.u8_in n h

section ops
variable {P : Program} {W0 : World} {κ : Gh} {σ : Log} {a : Act} {w : World} {id : Nat} {F : Log → Prop} {call : CallP} {o : Oper} {Q : Exit → Act → World → Prop} {d : Nat} {z : Option Nat}

theorem beq_dec (m n : List UInt8) : (m == n) = decide (m = n) := by
  rw [Bool.eq_iff_iff]; simp

theorem size_mk (l : List UInt8) : (ByteArray.mk l.toArray).size = l.length := by simp [ByteArray.size]

theorem s_bin (hs : RepS W0 κ σ a w) {b : BinOp} {b' : Bin} {t1 t2 : TypeId} {x y : Operand} {x' y' : Opd} {z1 z2 : Option Nat} (ho : o.op = .binOp b t1 x y t2) (hd : o.dst = some d) (hx : opdC z1 x = some x') (hy : opdC z2 y = some y')
    (hb : compB b = some b') (hN : d < a.tmps.size) (h : eff call σ id (.bin d b' x' y') F) : o.wp P a w (After W0 κ σ a w id F) Q := by
  have hrx := opd_rep hs hx
  have hry := opd_rep hs hy
  simp only [eff, binP] at h
  split at h
  · rename_i k m k' n he1 he2
    rw [he1] at hrx
    rw [he2] at hry
    have ex := hrx.sc_inv
    have ey := hry.sc_inv
    simp only [Sc.val] at ex ey
    split at h
    · rename_i hk
      obtain ⟨rfl, hk2⟩ := ikBeq_eq hk
      have key : ∃ c : Sc, (binOp b t1 (.int k m) (.int k n)).run P w = .ok c.val w ∧ F [(.s d, .av (.sc c))] := by
        cases b <;> simp [compB] at hb <;> subst hb <;> simp only [binI] at h
        · exact ⟨_, by simp [binOp, Op.intArith, Sc.val, wrap_fits h.1], h.2⟩
        · exact ⟨_, by simp [binOp, Op.intArith, Sc.val, wrap_fits h.1], h.2⟩
        · exact ⟨_, by simp [binOp, Op.intArith, Sc.val, wrap_fits h.1], h.2⟩
        · obtain ⟨⟨f, h0, h1⟩, h2⟩ := h
          refine ⟨_, ?_, h2⟩
          have hn0 : n ≠ 0 := by omega
          have hq : m.tdiv n = m / n := Int.tdiv_eq_ediv_of_nonneg h0
          have hle : 0 ≤ m / n ∧ m / n ≤ m := ⟨Int.ediv_nonneg h0 (by omega), Int.ediv_le_self _ h0⟩
          have hf : Fits k (m / n) := by
            rcases hk2 with rfl | rfl <;> simp only [Fits] at f ⊢ <;> omega
          simp [binOp, Op.intDiv, hn0, Sc.val, hq, wrap_fits hf]
        · obtain ⟨⟨h0, h1⟩, h2⟩ := h
          refine ⟨_, ?_, h2⟩
          have hn0 : n ≠ 0 := by omega
          simp [binOp, Op.intDiv, hn0, Sc.val, Int.tmod_eq_emod_of_nonneg h0]
        all_goals
          refine ⟨_, ?_, h⟩
          simp [binOp, Op.intCmp, Sc.val]
          try rfl
      obtain ⟨c, hr, hF⟩ := key
      refine wp_value (x := c.val) (w' := w) ?_ (by rw [hd]; exact .put hs hN (.sc c) hF)
      simp only [execOp, ho, ex, ey]
      cases b <;> simp [eqGuard] <;> rw [hr] <;> rfl
    · exact h.elim
  · rename_i m n he1 he2
    rw [he1] at hrx
    rw [he2] at hry
    have ex := hrx.sc_inv
    have ey := hry.sc_inv
    simp only [Sc.val] at ex ey
    have key : ∃ c : Sc, (binOp b t1 (.string ⟨m.toArray⟩) (.string ⟨n.toArray⟩)).run P w = .ok c.val w ∧ F [(.s d, .av (.sc c))] := by
      cases b <;> simp [compB] at hb <;> subst hb <;> simp only [binS] at h
      all_goals first | exact h.elim | skip
      · obtain ⟨h0, h1⟩ := h
        refine ⟨_, ?_, h1⟩
        have hm : (ByteArray.mk m.toArray).size + (ByteArray.mk n.toArray).size = m.length + n.length := by simp [ByteArray.size]
        have hle : ¬ ((((ByteArray.mk m.toArray).size + (ByteArray.mk n.toArray).size : Nat) : Int) > IntKind.i64.max) := by
          rw [hm]; have : IntKind.i64.max = 9223372036854775807 := by rfl
          rw [this]; omega
        simp only [binOp, Op.stringOp]
        rw [if_neg hle]
        simp only [Sem.run_pure, Sc.val]
        have e : (ByteArray.mk m.toArray) ++ (ByteArray.mk n.toArray) = ByteArray.mk (m ++ n).toArray := by
          apply ByteArray.ext
          simp
        rw [e]
      · refine ⟨_, ?_, h⟩
        simp [binOp, Op.stringOp, Sc.val, beqL, beq_dec]
      · refine ⟨_, ?_, h⟩
        simp [binOp, Op.stringOp, Sc.val, beqL, beq_dec]
    obtain ⟨c, hr, hF⟩ := key
    refine wp_value (x := c.val) (w' := w) ?_ (by rw [hd]; exact .put hs hN (.sc c) hF)
    simp only [execOp, ho, ex, ey]
    cases b <;> simp [eqGuard] <;> rw [hr] <;> rfl
  · exact h.elim

theorem s_ia (hs : RepS W0 κ σ a w) {t e : TypeId} {sz : Nat} {x y : Operand} {x' y' : Opd} {z1 z2 : Option Nat} (ho : o.op = .indexAddr t x y) (hd : o.dst = some d) (hx : opdC z1 x = some x') (hy : opdC z2 y = some y')
    (hu : P.underlying t = some (.slice e)) (hn : (P.info? e).map (·.size) = some sz) (hN : d < a.tmps.size) (h : eff call σ id (.ia d sz x' y') F) : o.wp P a w (After W0 κ σ a w id F) Q := by
  have hrx := opd_rep hs hx
  have hry := opd_rep hs hy
  simp only [eff] at h
  split at h
  · rename_i zz els tk k n he1 he2
    rw [he1] at hrx
    rw [he2] at hry
    have ey := hry.sc_inv
    simp only [Sc.val] at ey
    split at h
    · rename_i hb
      obtain ⟨el, ⟨h0, hel⟩, hF⟩ := h
      have hz := Nat.eq_of_beq_eq_true hb
      subst hz
      have hlt : n.toNat < els.length := (List.getElem?_eq_some_iff.1 hel).1
      obtain ⟨hD, _⟩ := hrx.sl_inv
      generalize hv : a.eval x = v at hD
      cases hD with
      | nil => simp at hlt
      | lst _ _ b q cap C hnc hlen hI hc hr =>
        have hnn : n < els.length := by omega
        refine wp_value (x := .pointer (some ⟨b, q + n.toNat * sz, none⟩)) (w' := w) ?_ ?_
        · simp [execOp, ho, hv, ey, Instr.indexAt, asIntOf, run_underlying hu, h0, hnn, run_sizeOf' hn, addr_add]
        · rw [hd]
          have hl := hlen el (List.mem_of_getElem? hel)
          have := RepV.elp (κ := κ) (w := w) el 0 b (q + n.toNat * sz) (fun j dd hj => by
            have hjs : j < sz := by rw [← hl]; exact (List.getElem?_eq_some_iff.1 hj).1
            exact ⟨C n.toNat j, hI _ _ hlt hjs, hc _ _ hlt hjs, hr _ _ _ _ hel hj⟩)
          exact .put hs hN this hF
    · exact h.elim
  · rename_i zz els b m tk k n he1 he2
    rw [he1] at hrx
    rw [he2] at hry
    have ey := hry.sc_inv
    simp only [Sc.val] at ey
    split at h
    · rename_i hb
      obtain ⟨⟨h0, h1, h2⟩, hF⟩ := h
      have hz := Nat.eq_of_beq_eq_true hb
      subst hz
      obtain ⟨off, cap, hd', ho', hn', _, _, hv⟩ := hrx.mx_inv
      have hnn : n < els.length + m := by omega
      have e : (κ.ι b).2 + (n.toNat - els.length) * sz = off + n.toNat * sz := by
        rw [ho', Nat.add_assoc, ← Nat.add_mul]; congr 2; omega
      have hp := RepV.ptr (κ := κ) (w := w) b ((n.toNat - els.length) * sz) hd'
      rw [e] at hp
      refine wp_value (x := .pointer (some ⟨(κ.ι b).1, off + n.toNat * sz, none⟩)) (w' := w) ?_ (by rw [hd]; exact .put hs hN hp hF)
      have hc : (n : Int) < ((els.length + m : Nat) : Int) := by omega
      simp [execOp, ho, hv, ey, Instr.indexAt, asIntOf, run_underlying hu, h0, hnn, run_sizeOf' hn, addr_add]
    · exact h.elim
  · exact h.elim

theorem s_ix (hs : RepS W0 κ σ a w) {t : TypeId} {x y : Operand} {x' y' : Opd} {z1 z2 : Option Nat} (ho : o.op = .index t x y) (hd : o.dst = some d) (hx : opdC z1 x = some x') (hy : opdC z2 y = some y')
    (hu : P.underlying t = some .string) (hN : d < a.tmps.size) (h : eff call σ id (.ix d x' y') F) : o.wp P a w (After W0 κ σ a w id F) Q := by
  have hrx := opd_rep hs hx
  have hry := opd_rep hs hy
  simp only [eff] at h
  split at h
  · rename_i l k n he1 he2
    rw [he1] at hrx
    rw [he2] at hry
    have ex := hrx.sc_inv
    have ey := hry.sc_inv
    simp only [Sc.val] at ex ey
    obtain ⟨e, ⟨h0, he⟩, hF⟩ := h
    have hlt : n.toNat < l.length := (List.getElem?_eq_some_iff.1 he).1
    refine wp_value (x := .int .u8 e.toNat) (w' := w) ?_ (by rw [hd]; exact .put hs hN (.sc (.i .u8 e.toNat)) hF)
    have hget : (ByteArray.mk l.toArray)[n.toNat]? = some e := by
      have : (ByteArray.mk l.toArray).size = l.length := by simp [ByteArray.size]
      rw [getElem?_pos _ _ (by rw [this]; exact hlt)]
      have e' := (List.getElem?_eq_some_iff.1 he).2
      rw [← e']; rfl
    simp [execOp, ho, ex, ey, Instr.index, asIntOf, run_underlying hu, h0, hget]
  · exact h.elim

theorem s_cvi (hs : RepS W0 κ σ a w) {t1 t2 : TypeId} {k k0 : IntKind} {x : Operand} {x' : Opd} (ho : o.op = .convert t1 t2 x) (hd : o.dst = some d) (hx : opdC z x = some x')
    (hu1 : P.underlying t1 = some (.int k0)) (hu2 : P.underlying t2 = some (.int k)) (hN : d < a.tmps.size) (h : eff call σ id (.cvi d k x') F) : o.wp P a w (After W0 κ σ a w id F) Q := by
  have hr := opd_rep hs hx
  simp only [eff] at h
  split at h
  · rename_i k' n he
    rw [he] at hr
    have e := hr.sc_inv
    simp only [Sc.val] at e
    refine wp_value (x := .int k n) (w' := w) ?_ (by rw [hd]; exact .put hs hN (.sc (.i k n)) h.2)
    simp [execOp, ho, e, convert, run_underlying hu1, run_underlying hu2, Conv.intToInt, wrap_fits h.1]
  · exact h.elim

theorem s_ext (hs : RepS W0 κ σ a w) {i : Nat} {x : Operand} {x' : Opd} (ho : o.op = .extract x i) (hd : o.dst = some d) (hx : opdC z x = some x')
    (hN : d < a.tmps.size) (h : eff call σ id (.ext d x' i) F) : o.wp P a w (After W0 κ σ a w id F) Q := by
  have hr := opd_rep hs hx
  simp only [eff] at h
  split at h
  · rename_i l he
    rw [he] at hr
    obtain ⟨vs, e, hsz, hv⟩ := hr.tup_inv
    split at h
    · rename_i v hl
      obtain ⟨_, h⟩ := frc_iff.1 h
      have hlt : i < vs.size := by rw [hsz]; exact (List.getElem?_eq_some_iff.1 hl).1
      refine wp_value (x := vs.getD i undef) (w' := w) ?_ (by rw [hd]; exact .put hs hN (hv i v hl) h)
      simp [execOp, ho, e, Instr.extract, hlt, Array.getD]
    · exact h.elim
  · exact h.elim

theorem RepD.len {I : Nat → Nat → Prop} {w : World} {sz : Nat} {els : List (List Data)} {x : Value} (h : RepD I w (.lst sz els) x) : ∃ A cap, x = .slice A els.length cap := by
  cases h with
  | nil _ a => exact ⟨a, 0, rfl⟩
  | lst => exact ⟨_, _, rfl⟩

theorem s_len (hs : RepS W0 κ σ a w) {t e : TypeId} {x : Operand} {x' : Opd} (ho : o.op = .call { callee := .builtin .len, args := #[x], argTypes := #[t] }) (hd : o.dst = some d) (hx : opdC z x = some x')
    (hu : P.underlying t = some (.slice e)) (hN : d < a.tmps.size) (h : eff call σ id (.len d x') F) : o.wp P a w (After W0 κ σ a w id F) Q := by
  have hr := opd_rep hs hx
  simp only [eff] at h
  split at h
  · rename_i zz els tk he
    rw [he] at hr
    obtain ⟨A, cap, hA⟩ := hr.sl_inv.1.len
    refine wp_value (x := .int .i64 els.length) (w' := w) ?_ (by rw [hd]; exact .put hs hN (.sc (.i .i64 els.length)) h)
    simp [execOp, ho, hA, resolve, invoke, builtin, Builtin.len_, run_underlying hu, goInt]
  · rename_i zz els b n tk he
    rw [he] at hr
    obtain ⟨off, cap, _, _, _, _, _, hA⟩ := hr.mx_inv
    refine wp_value (x := .int .i64 ((els.length + n : Nat) : Int)) (w' := w) ?_ (by rw [hd]; exact .put hs hN (.sc (.i .i64 ((els.length + n : Nat) : Int))) h)
    simp [execOp, ho, hA, resolve, invoke, builtin, Builtin.len_, run_underlying hu, goInt]
  · exact h.elim

theorem s_lenS (hs : RepS W0 κ σ a w) {t : TypeId} {x : Operand} {x' : Opd} (ho : o.op = .call { callee := .builtin .len, args := #[x], argTypes := #[t] }) (hd : o.dst = some d) (hx : opdC z x = some x')
    (hu : P.underlying t = some .string) (hN : d < a.tmps.size) (h : eff call σ id (.lenS d x') F) : o.wp P a w (After W0 κ σ a w id F) Q := by
  have hr := opd_rep hs hx
  simp only [eff] at h
  split at h
  · rename_i l he
    rw [he] at hr
    have e := hr.sc_inv
    simp only [Sc.val] at e
    refine wp_value (x := .int .i64 l.length) (w' := w) ?_ (by rw [hd]; exact .put hs hN (.sc (.i .i64 l.length)) h)
    simp [execOp, ho, e, resolve, invoke, builtin, Builtin.len_, run_underlying hu, goInt, size_mk]
  · exact h.elim

theorem s_mx (hs : RepS W0 κ σ a w) {ts : Array TypeId} {x y : Operand} {x' y' : Opd} {z1 z2 : Option Nat} (ho : o.op = .call { callee := .builtin .max, args := #[x, y], argTypes := ts }) (hd : o.dst = some d) (hx : opdC z1 x = some x') (hy : opdC z2 y = some y')
    (hN : d < a.tmps.size) (h : eff call σ id (.mx d x' y') F) : o.wp P a w (After W0 κ σ a w id F) Q := by
  have hrx := opd_rep hs hx
  have hry := opd_rep hs hy
  simp only [eff] at h
  split at h
  · rename_i m n he1 he2
    rw [he1] at hrx
    rw [he2] at hry
    have ex := hrx.sc_inv
    have ey := hry.sc_inv
    simp only [Sc.val] at ex ey
    refine wp_value (x := .int .i64 (max m n)) (w' := w) ?_ (by rw [hd]; exact .put hs hN (.sc (.i .i64 (max m n))) h)
    simp [execOp, ho, ex, ey, resolve, invoke, builtin, Builtin.max_, Builtin.max2]
    have : max m n = if m < n then n else m := by
      rw [Int.max_def]; split <;> split <;> omega
    rw [this]
  · exact h.elim

/-- all operands, represented -/
theorem evs_rep (hs : RepS W0 κ σ a w) : ∀ {xs : List Operand} {ys : List Opd}, (∀ (i : Nat) (x : Operand), xs[i]? = some x → ∃ y zz, ys[i]? = some y ∧ opdC zz x = some y) → xs.length = ys.length →
    ∀ (j : Nat) (v : AV), (evs σ ys)[j]? = some v → RepV κ w v ((xs.map a.eval).toArray.getD j undef)
  | [], [], _, _, j, v, h => by simp [evs] at h
  | x :: xs, y :: ys, hxy, hl, j, v, h => by
    cases j with
    | zero =>
      simp [evs] at h
      obtain ⟨y', zz, h1, h2⟩ := hxy 0 x rfl
      simp at h1; subst h1; subst h
      simpa using opd_rep hs h2
    | succ j =>
      have := evs_rep hs (xs := xs) (ys := ys) (fun i x hi => by simpa using hxy (i + 1) x (by simpa using hi)) (by simpa using hl) j v (by simpa [evs] using h)
      simpa [Array.getD_eq_getD_getElem?] using this
  | [], _ :: _, _, hl, _, _, _ => by simp at hl
  | _ :: _, [], _, hl, _, _, _ => by simp at hl

theorem evs_length : ∀ (ys : List Opd), (evs σ ys).length = ys.length
  | [] => rfl
  | y :: ys => by simp [evs, evs_length ys]

def opdsC (P : Program) : List Operand → List TypeId → Option (List Opd)
  | [], _ => some []
  | x :: xs, ts => match opdC (match ts with | t :: _ => elemSz P t | [] => none) x with
    | none => none
    | some y => match opdsC P xs ts.tail with
      | none => none
      | some ys => some (y :: ys)

theorem opdsC_spec : ∀ {xs : List Operand} {ts : List TypeId} {ys : List Opd}, opdsC P xs ts = some ys → xs.length = ys.length ∧ ∀ (i : Nat) (x : Operand), xs[i]? = some x → ∃ y zz, ys[i]? = some y ∧ opdC zz x = some y
  | [], ts, ys, h => by simp [opdsC] at h; subst h; simp
  | x :: xs, ts, ys, h => by
    simp only [opdsC] at h
    split at h
    · cases h
    · rename_i y hy
      split at h
      · cases h
      · rename_i ys' hys
        cases h
        obtain ⟨h1, h2⟩ := opdsC_spec hys
        refine ⟨by simp [h1], fun i x' hi => ?_⟩
        cases i with
        | zero => simp at hi; subst hi; exact ⟨y, _, rfl, hy⟩
        | succ i => simpa using h2 i x' (by simpa using hi)

theorem s_mkf (hs : RepS W0 κ σ a w) {f : FuncId} {cs : Array Operand} {ys : List Opd} {ts : List TypeId} (ho : o.op = .makeFunc (.func f) #[] cs) (hd : o.dst = some d) (hx : opdsC P cs.toList ts = some ys)
    (hN : d < a.tmps.size) (h : eff call σ id (.mkf d f ys) F) : o.wp P a w (After W0 κ σ a w id F) Q := by
  obtain ⟨h1, h⟩ := frcL_iff.1 (show frcL (evs σ ys) fun caps => F [(.s d, .av (.fn f caps))] from h)
  obtain ⟨g1, g2⟩ := opdsC_spec hx
  refine wp_value (x := .func (.func f) #[] (cs.map a.eval)) (w' := w) ?_ ?_
  · simp [execOp, ho, Instr.makeFunc]
  · rw [hd]
    refine .put hs hN (.fn f _ _ ?_ ?_) h
    · simp [evs_length, ← g1]
    · intro j v hj
      have := evs_rep hs g2 g1 j v hj
      simpa [Array.getD_eq_getD_getElem?] using this
end ops
end Go.Abs
