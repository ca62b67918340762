/- Bools compared; texts and slices cut. -/
import Derived.Test.YthmcdebdkbhbmaaGreatDoorA8
import Derived.Test.YthmcdebdkbhbmaaGreatDoorB1
import Derived.Laws.Small
namespace Go.Abs
open Go

section ops
variable {P : Program} {W0 : World} {κ : Gh} {σ : Log} {a : Act} {w : World} {id : Nat} {F : Log → Prop} {call : CallP} {o : Oper} {Q : Exit → Act → World → Prop} {d : Nat} {z : Option Nat}

def negC : BinOp → Option Bool
  | .eql => some false
  | .neq => some true
  | _ => none

theorem s_binB (hs : RepS W0 κ σ a w) {b : BinOp} {ng : Bool} {t1 t2 : TypeId} {x y : Operand} {x' y' : Opd} {z1 z2 : Option Nat} (ho : o.op = .binOp b t1 x y t2) (hd : o.dst = some d) (hx : opdC z1 x = some x') (hy : opdC z2 y = some y')
    (hb : negC b = some ng) (hu : P.underlying t1 = some .bool) (hN : d < a.tmps.size) (h : eff call σ id (.binB d ng x' y') F) : o.wp P a w (After W0 κ σ a w id F) Q := by
  have hrx := opd_rep hs hx
  have hry := opd_rep hs hy
  simp only [eff] at h
  split at h
  · rename_i m n he1 he2
    rw [he1] at hrx
    rw [he2] at hry
    have ex := hrx.sc_inv
    have ey := hry.sc_inv
    simp only [Sc.val] at ex ey
    cases b <;> simp [negC] at hb <;> subst hb <;> simp only at h
    · refine wp_value (x := .bool (m == n)) (w' := w) ?_ (by rw [hd]; exact .put hs hN (.sc (.b (m == n))) h)
      simp only [execOp, ho, ex, ey]
      simp [eqGuard, binOp, run_equal_bool w t1 m n hu]
    · refine wp_value (x := .bool (m != n)) (w' := w) ?_ (by rw [hd]; exact .put hs hN (.sc (.b (m != n))) h)
      simp only [execOp, ho, ex, ey]
      simp [eqGuard, binOp, run_equal_bool w t1 m n hu, bne]
  · exact h.elim

def optC : Option Operand → Option (Option Opd)
  | none => some none
  | some x => match opdC none x with
    | none => none
    | some y => some (some y)

theorem optI_spec (hs : RepS W0 κ σ a w) {x : Option Operand} {x' : Option Opd} (hx : optC x = some x') {dflt : Int} {K : Int → Prop} (h : optI σ x' dflt K) :
    ∃ n, K n ∧ ((x = none ∧ n = dflt) ∨ ∃ y k, x = some y ∧ a.eval y = .int k n) := by
  cases x with
  | none => simp [optC] at hx; subst hx; exact ⟨dflt, h, .inl ⟨rfl, rfl⟩⟩
  | some y =>
    simp only [optC] at hx
    split at hx
    · cases hx
    · rename_i y' hy
      cases hx
      simp only [optI] at h
      split at h
      · rename_i k n he
        have := opd_rep hs hy
        rw [he] at this
        exact ⟨n, h, .inr ⟨y, k, rfl, this.sc_inv⟩⟩
      · exact h.elim

theorem run_bound {v : Value} {k : IntKind} {n : Int} {y : Nat} {c : BoundsCode} (hv : v = .int k n) (h0 : 0 ≤ n) (h1 : n ≤ y) : (Instr.sliceBound v y c).run P w = .ok n.toNat w := by
  subst hv
  simp [Instr.sliceBound, asIntOf, h0, h1]

/-- the two bounds of a cut without a third -/
theorem run_bounds {isS : Bool} {len cap : Nat} {lo hi : Option Operand} {p q : Int} (hlo : (lo = none ∧ p = 0) ∨ ∃ y k, lo = some y ∧ a.eval y = .int k p) (hhi : (hi = none ∧ q = len) ∨ ∃ y k, hi = some y ∧ a.eval y = .int k q)
    (h0 : 0 ≤ p) (h1 : p ≤ q) (h2 : q ≤ cap) : (Instr.sliceBounds isS len cap (lo.map a.eval) (hi.map a.eval) none).run P w = .ok (p.toNat, q.toNat, cap) w := by
  rcases hlo with ⟨rfl, rfl⟩ | ⟨y, k, rfl, hy⟩ <;> rcases hhi with ⟨rfl, rfl⟩ | ⟨y', k', rfl, hy'⟩
  · simp [Instr.sliceBounds]
  · simp [Instr.sliceBounds, run_bound hy' (by omega) h2]
  · have : p ≤ ((len : Nat) : Int) := h1
    simp [Instr.sliceBounds, run_bound hy h0 this]
  · have : p ≤ ((q.toNat : Nat) : Int) := by omega
    simp [Instr.sliceBounds, run_bound hy' (by omega) h2, run_bound hy h0 this]

theorem run_bounds3 {isS : Bool} {len cap : Nat} {lo : Option Operand} {hi mx : Operand} {p q r : Int} (hlo : (lo = none ∧ p = 0) ∨ ∃ y k, lo = some y ∧ a.eval y = .int k p) {k' k'' : IntKind} (hhi : a.eval hi = .int k' q) (hmx : a.eval mx = .int k'' r)
    (h0 : 0 ≤ p) (h1 : p ≤ q) (h2 : q ≤ r) (h3 : r ≤ cap) : (Instr.sliceBounds isS len cap (lo.map a.eval) (some (a.eval hi)) (some (a.eval mx))).run P w = .ok (p.toNat, q.toNat, r.toNat) w := by
  have e1 : q ≤ ((r.toNat : Nat) : Int) := by omega
  have e2 : p ≤ ((q.toNat : Nat) : Int) := by omega
  rcases hlo with ⟨rfl, rfl⟩ | ⟨y, k, rfl, hy⟩
  · simp [Instr.sliceBounds, run_bound hmx (by omega) h3, run_bound hhi (by omega) e1]
  · simp [Instr.sliceBounds, run_bound hmx (by omega) h3, run_bound hhi (by omega) e1, run_bound hy h0 e2]

theorem s_slS (hs : RepS W0 κ σ a w) {t : TypeId} {x : Operand} {x' : Opd} {lo hi : Option Operand} {lo' hi' : Option Opd} (ho : o.op = .slice t x lo hi none) (hd : o.dst = some d) (hx : opdC z x = some x') (hlo : optC lo = some lo') (hhi : optC hi = some hi')
    (hu : P.underlying t = some .string) (hN : d < a.tmps.size) (h : eff call σ id (.slS d x' lo' hi') F) : o.wp P a w (After W0 κ σ a w id F) Q := by
  have hr := opd_rep hs hx
  simp only [eff] at h
  split at h
  · rename_i l he
    rw [he] at hr
    have e := hr.sc_inv
    simp only [Sc.val] at e
    obtain ⟨p, h, hp⟩ := optI_spec hs hlo h
    obtain ⟨q, h, hq⟩ := optI_spec hs hhi h
    obtain ⟨⟨h0, h1, h2⟩, hF⟩ := h
    have hb := run_bounds (P := P) (w := w) (isS := false) (len := l.length) (cap := l.length) hp hq h0 h1 h2
    refine wp_value (x := .string ⟨((l.drop p.toNat).take (q.toNat - p.toNat)).toArray⟩) (w' := w) ?_ (by rw [hd]; exact .put hs hN (.sc (.s _)) hF)
    have hex : (ByteArray.mk l.toArray).extract p.toNat q.toNat = ByteArray.mk ((l.drop p.toNat).take (q.toNat - p.toNat)).toArray := by
      apply ByteArray.ext
      simp [ByteArray.data_extract]
    simp [execOp, ho, e, Instr.sliceAt, run_underlying hu, Instr.slice, size_mk, hb, hex]
  · exact h.elim

theorem RepD.cut {I : Nat → Nat → Prop} {w : World} {sz : Nat} {els : List (List Data)} {b o cap p q : Nat} (h : RepD I w (.lst sz els) (.slice (some ⟨b, o, none⟩) els.length cap)) (h1 : p ≤ q) (h2 : q ≤ els.length) {m : Nat} (hm : q ≤ m) (o' : Nat) (ho' : p < q → o' = o + p * sz) :
    RepD I w (.lst sz ((els.drop p).take (q - p))) (.slice (some ⟨b, o', none⟩) (q - p) (m - p)) := by
  have hl : ((els.drop p).take (q - p)).length = q - p := by simp; omega
  have key : ∀ i, i < q - p → ((els.drop p).take (q - p))[i]? = els[p + i]? := by
    intro i hi
    rw [List.getElem?_take, if_pos hi, List.getElem?_drop]
  generalize hx : (Value.slice (some ⟨b, o, none⟩) els.length cap) = x at h
  cases h with
  | nil _ A =>
    cases hx
    have hp : p = 0 ∧ q = 0 := by simp at h2; omega
    obtain ⟨rfl, rfl⟩ := hp
    exact .lst sz [] b o' m (fun _ _ => undef) (Nat.zero_le _) (by simp) (by simp) (by simp) (by simp)
  | lst _ _ b1 o1 cap1 C hn hlen hI hc hr =>
    cases hx
    have hD := RepD.lst (I := I) (w := w) sz ((els.drop p).take (q - p)) b o' (m - p) (fun i j => C (p + i) j) (by rw [hl]; omega) ?_ ?_ ?_ ?_
    · rw [hl] at hD; exact hD
    · intro e he
      exact hlen e (List.mem_of_mem_drop (List.mem_of_mem_take he))
    · intro i j hi hj
      rw [hl] at hi
      have := hI (p + i) j (by omega) hj
      rw [ho' (by omega)]
      rwa [Nat.add_mul, ← Nat.add_assoc] at this
    · intro i j hi hj
      rw [hl] at hi
      have := hc (p + i) j (by omega) hj
      rw [ho' (by omega)]
      rwa [Nat.add_mul, ← Nat.add_assoc] at this
    · intro i j e dd hi hj
      have hil := (List.getElem?_eq_some_iff.1 hi).1
      rw [hl] at hil
      rw [key i hil] at hi
      exact hr (p + i) j e dd hi hj

theorem s_slL (hs : RepS W0 κ σ a w) (hf : Fresh κ id) {t e : TypeId} {sz : Nat} {x : Operand} {x' : Opd} {lo hi mx : Option Operand} {lo' hi' mx' : Option Opd} (ho : o.op = .slice t x lo hi mx) (hd : o.dst = some d) (hx : opdC z x = some x')
    (hlo : optC lo = some lo') (hhi : optC hi = some hi') (hmx : optC mx = some mx') (hm3 : mx.isSome = true → hi.isSome = true)
    (hu : P.underlying t = some (.slice e)) (hn : (P.info? e).map (·.size) = some sz) (hN : d < a.tmps.size) (h : eff call σ id (.slL d sz x' lo' hi' mx') F) : o.wp P a w (After W0 κ σ a w id F) Q := by
  have hr := opd_rep hs hx
  simp only [eff] at h
  split at h
  · rename_i zz b n tk he
    rw [he] at hr
    split at h
    · rename_i hb
      have hq := Nat.eq_of_beq_eq_true hb
      subst hq
      split at h
      · rename_i hi0 l hl
        obtain ⟨q, ⟨⟨hq0, hln⟩, h⟩, hqe⟩ := optI_spec hs hhi h
        subst hq0
        obtain ⟨off, cap, hDb, hoff, hn', _, hT, hv⟩ := hr.mx_inv
        simp only [List.length_nil, Nat.zero_add, Nat.zero_mul, Nat.add_zero] at hoff hn' hT hv
        have hlo0 : lo = none := by cases lo <;> simp [optC] at hlo ⊢ <;> (split at hlo <;> cases hlo)
        have hmx0 : mx = none := by cases mx <;> simp [optC] at hmx ⊢ <;> (split at hmx <;> cases hmx)
        have hrun : (execOp a.eval o).run P w = .ok (.value (.slice (some ⟨(κ.ι b).1, off, none⟩) 0 cap)) w := by
          have hbnd := run_bounds (P := P) (w := w) (a := a) (isS := true) (len := n) (cap := cap) (lo := lo) (hi := hi) (p := 0) (q := 0) (.inl ⟨hlo0, rfl⟩) (by
            rcases hqe with ⟨e1, e2⟩ | ⟨y, k, e1, e2⟩
            · cases hi <;> simp [optC] at hhi e1
            · exact .inr ⟨y, k, e1, e2⟩) (by omega) (by omega) (by omega)
          subst hmx0
          simp [execOp, ho, hv, Instr.sliceAt, run_underlying hu, Instr.slice, hbnd, run_sizeOf' hn, addr_add]
        obtain ⟨_, hW, C, ty, hC, hR⟩ := hs.boxes b l hl
        -- the new token's room
        have main : ∀ (off' : Option Nat), (∀ k, off' = some k → look σ (.t k) = some (.tk true)) → (n < cap → ∃ k, off' = some k ∧ tk = .t k) → F ((.s d, .av (.sl sz [] (.t id))) :: (.t id, .tk true) :: (.b b, .tk false) :: (match off' with | some k => [(.t k, .tk false)] | none => [])) →
            o.wp P a w (After W0 κ σ a w id F) Q := by
          intro off' hoff' hk hF
          have hτ : n < cap → ∃ k, off' = some k ∧ κ.τ k = ((κ.ι b).1, off + n * sz, off + cap * sz) := fun hlt => by
            obtain ⟨k, h1, h2⟩ := hk hlt
            subst h2
            exact ⟨k, h1, hT.2 _ _ _ rfl hlt⟩
          obtain ⟨r1, r2, r3⟩ := hs.merge hl off' hoff' (hf.dt id (Nat.le_refl _) (by omega)) ((κ.ι b).1, off, off + cap * sz) (by
              rintro x o' ⟨h1, h2, h3⟩
              simp only at h1 h2 h3
              by_cases hlt : o' < off + n * sz
              · exact .inl ⟨h1, by simp only [spb]; omega, by simp only [spb, hln]; omega⟩
              · have hnc : n < cap := by
                  rcases Nat.lt_or_ge n cap with h | h
                  · exact h
                  · have : cap = n := by omega
                    subst this; omega
                obtain ⟨k, g1, g2⟩ := hτ hnc
                exact .inr ⟨k, g1, by rw [g2]; exact ⟨h1, by simp only; omega, h3⟩⟩)
            (by
              intro hlt
              simp only at hlt
              refine ⟨hW, ?_⟩
              by_cases hnc : n < cap
              · obtain ⟨k, g1, g2⟩ := hτ hnc
                have hlt2 : off + n * sz < off + cap * sz := by
                  have hsz : 0 < sz := by
                    rcases Nat.eq_zero_or_pos sz with h | h
                    · subst h; simp at hlt
                    · exact h
                  have := Nat.mul_lt_mul_of_pos_right hnc hsz
                  omega
                obtain ⟨_, C', ty', g3, g4⟩ := (hs.toks k (hoff' k g1)).2 (by rw [g2]; exact hlt2)
                rw [g2] at g3 g4
                exact ⟨C', ty', g3, g4⟩
              · have : cap = n := by omega
                subst this
                exact ⟨C, ty, hC, by have := hR.1; simp only; omega⟩)
            _ rfl
          refine wp_value hrun ?_
          rw [hd]
          refine ⟨_, _, hF, r1.put hN ?_, r2.trans Step.put, put_size, ⟨fun b hb => .inl hb, fun k hk => hk.elim .inl fun e => .inr (by omega)⟩⟩
          refine .sl sz [] _ _ (.lst sz [] _ off cap (fun _ _ => undef) (Nat.zero_le _) (by simp) (by simp) (by simp) (by simp)) ⟨.inr rfl, ?_⟩
          intro A n' cap' ev hlt
          cases ev
          simp
        cases tk with
        | none => exact h.elim
        | full =>
          refine main none (by simp) (fun hlt => ?_) h
          have := hT _ _ _ rfl
          omega
        | t k =>
          simp only at h
          split at h
          · rename_i hk
            exact main (some k) (fun k' e => by cases e; exact hk) (fun _ => ⟨k, rfl, rfl⟩) h
          · exact h.elim
      · exact h.elim
    · exact h.elim
  · rename_i zz els tk he
    rw [he] at hr
    split at h
    · rename_i hb
      have hq := Nat.eq_of_beq_eq_true hb
      subst hq
      obtain ⟨p, h, hp⟩ := optI_spec hs hlo h
      obtain ⟨q, h, hq⟩ := optI_spec hs hhi h
      obtain ⟨hD, hTk⟩ := hr.sl_inv
      obtain ⟨A, cap, hA⟩ := hD.len
      have hcap : els.length ≤ cap := by
        have h2 := hD
        rw [hA] at h2
        cases h2 <;> simp_all
      -- the value, whatever the third bound
      have value : ∀ m, 0 ≤ p → p ≤ q → q ≤ els.length → q.toNat ≤ m → m ≤ cap → (Instr.sliceBounds true els.length cap (lo.map a.eval) (hi.map a.eval) (mx.map a.eval)).run P w = .ok (p.toNat, q.toNat, m) w →
          ∃ v, (execOp a.eval o).run P w = .ok (.value v) w ∧ RepD κ.I w (.lst sz ((els.drop p.toNat).take (q.toNat - p.toNat))) v ∧ (∀ A' n' c', v = .slice A' n' c' → n' = q.toNat - p.toNat ∧ c' = m - p.toNat) ∧
            v = .slice (if m = p.toNat then A else A.map (·.add (p.toNat * sz))) (q.toNat - p.toNat) (m - p.toNat) := by
        intro m h0 h1 h2 h3 h4 hrun
        have hrunx : (execOp a.eval o).run P w = .ok (.value (.slice (if m = p.toNat then A else A.map (·.add (p.toNat * sz))) (q.toNat - p.toNat) (m - p.toNat))) w := by
          simp [execOp, ho, hA, Instr.sliceAt, run_underlying hu, Instr.slice, hrun, run_sizeOf' hn]
        refine ⟨_, hrunx, ?_, fun A' n' c' ev => by cases ev; exact ⟨rfl, rfl⟩, rfl⟩
        rw [hA] at hD
        by_cases hnil : els = [] ∧ cap = 0
        · obtain ⟨rfl, rfl⟩ := hnil
          simp at h2
          have hp0 : p.toNat = 0 := by omega
          have hq0 : q.toNat = 0 := by omega
          have hm0 : m = 0 := by omega
          simp [hp0, hq0, hm0]
          exact .nil sz A
        · obtain ⟨b, off, hAe⟩ : ∃ b off, A = some ⟨b, off, none⟩ := by
            cases hD with
            | nil => exact absurd ⟨rfl, rfl⟩ hnil
            | lst => exact ⟨_, _, rfl⟩
          subst hAe
          by_cases hmp : m = p.toNat
          · rw [if_pos hmp]
            exact hD.cut (by omega) (by omega) h3 off (fun hlt => by omega)
          · rw [if_neg hmp]
            simp only [Option.map_some, addr_add]
            exact hD.cut (by omega) (by omega) h3 _ (fun _ => rfl)
      cases mx with
      | none =>
        simp [optC] at hmx
        subst hmx
        simp only at h
        obtain ⟨t', ⟨⟨h0, h1, h2⟩, ht'⟩, hF⟩ := h
        obtain ⟨v, hv, hDv, hnc, hve⟩ := value cap h0 h1 h2 (by omega) (Nat.le_refl _) (run_bounds hp hq h0 h1 (by omega))
        have hTok : tokOK κ sz t' v := by
          rcases ht' with rfl | ⟨rfl, hqe⟩
          · trivial
          · subst hqe
            cases t' with
            | none => trivial
            | full =>
              intro A' n' c' ev
              obtain ⟨e1, e2⟩ := hnc _ _ _ ev
              cases A with
              | none =>
                rw [hve] at ev
                split at ev <;> cases ev
              | some A0 =>
                have := hTk A0 els.length cap hA
                omega
            | t k =>
              refine ⟨hTk.1, fun A' n' c' ev hlt => ?_⟩
              obtain ⟨e1, e2⟩ := hnc _ _ _ ev
              cases A with
              | none =>
                rw [hve] at ev
                split at ev <;> cases ev
              | some A0 =>
                have hτ := hTk.2 A0 els.length cap hA (by omega)
                obtain ⟨bb, oo, rfl⟩ : ∃ b o, A0 = ⟨b, o, none⟩ := by
                  rw [hA] at hD
                  cases hD with
                  | nil => simp at e1 e2; omega
                  | lst => exact ⟨_, _, rfl⟩
                rw [hve, if_neg (by omega)] at ev
                simp only [Option.map_some, addr_add] at ev
                cases ev
                rw [hτ, e1, e2]
                have q1 : oo + p.toNat * sz + ((els.length : Int).toNat - p.toNat) * sz = oo + els.length * sz := by
                  rw [Nat.add_assoc, ← Nat.add_mul]; congr 2; omega
                have q2 : oo + p.toNat * sz + (cap - p.toNat) * sz = oo + cap * sz := by
                  rw [Nat.add_assoc, ← Nat.add_mul]; congr 2; omega
                simp only [q1, q2]
        exact wp_value hv (by rw [hd]; exact .put hs hN (.sl sz _ t' v hDv hTok) hF)
      | some mx =>
        obtain ⟨mx'', hmx''⟩ : ∃ y, mx' = some y := by
          simp only [optC] at hmx
          split at hmx <;> cases hmx
          exact ⟨_, rfl⟩
        subst hmx''
        simp only at h
        obtain ⟨c, h, hc⟩ := optI_spec hs hmx h
        obtain ⟨⟨h0, h1, hbc, h2⟩, hF⟩ := h
        obtain ⟨hi', rfl⟩ : ∃ y, hi = some y := Option.isSome_iff_exists.1 (hm3 rfl)
        have hq' : ∃ k, a.eval hi' = .int k q := by
          rcases hq with ⟨h, _⟩ | ⟨y, k, h, hy⟩
          · cases h
          · cases h; exact ⟨k, hy⟩
        have hc' : ∃ k, a.eval mx = .int k c := by
          rcases hc with ⟨h, _⟩ | ⟨y, k, h, hy⟩
          · cases h
          · cases h; exact ⟨k, hy⟩
        obtain ⟨k1, hk1⟩ := hq'
        obtain ⟨k2, hk2⟩ := hc'
        have hrun := run_bounds3 (P := P) (w := w) (isS := true) (len := els.length) (cap := cap) hp hk1 hk2 h0 h1 (by omega) (by omega)
        obtain ⟨v, hv, hDv, hcv⟩ := value c.toNat h0 h1 h2 (by omega) (by omega) hrun
        have hT : tokOK κ sz .full v := by
          intro A' n' c' ev
          obtain ⟨e1, e2⟩ := hcv.1 _ _ _ ev
          omega
        exact wp_value hv (by rw [hd]; exact .put hs hN (.sl sz _ .full v hDv hT) hF)
    · exact h.elim
  · exact h.elim
end ops
end Go.Abs
