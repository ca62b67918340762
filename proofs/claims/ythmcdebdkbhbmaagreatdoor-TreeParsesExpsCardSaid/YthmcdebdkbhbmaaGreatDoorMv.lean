/- What is read, has its words: basics. -/
import Derived.Test.YthmcdebdkbhbmaaGreatDoorMu
import Derived.Test.YthmcdebdkbhbmaaGreatDoorMt
import Derived.Test.YthmcdebdkbhbmaaGreatDoorMn
set_option maxRecDepth 100000
namespace Go.Abs
open Go.Proofs
/-- if s' is good then so is s, and the texts between are v -/
structure Wd (l : List T) (s : PS) (v : List S) (s' : PS) : Prop where
  b : s.bad = false
  e : s'.a = s.a + v.length
  le : s'.a ≤ l.length
  t : (txts l).drop s.a = v ++ (txts l).drop s'.a
def W (l : List T) (s : PS) (v : List S) (s' : PS) : Prop := s'.bad = false → Wd l s v s'
theorem W.trans {l : List T} {s s1 s2 : PS} {v w : List S} (h : W l s v s1) (g : W l s1 w s2) : W l s (v ++ w) s2 := fun hb => by
  have g := g hb
  have h := h g.b
  exact ⟨h.b, by rw [g.e, h.e, List.length_append]; omega, g.le, by rw [h.t, g.t, List.append_assoc]⟩
theorem W.eq {l : List T} {s s1 : PS} {v w : List S} (h : W l s v s1) (e : s1.bad = false → v = w) : W l s w s1 := fun hb => e hb ▸ h hb
theorem W.bad {l : List T} {s : PS} {v : List S} {a : Nat} : W l s v ⟨a, true⟩ := fun h => by cases h
theorem txts_drop {l : List T} {s : PS} (hb : s.bad = false) (h : s.a < l.length) : (txts l).drop s.a = (pPeek l s).2.1 :: (txts l).drop (s.a + 1) := by
  obtain ⟨t, ht⟩ := get_of_lt h
  have e : (txts l)[s.a]? = some t.2.1 := by simp [txts, ht]
  rw [drop_get e]
  simp [pPeek, hb, ht]
theorem W.one {l : List T} {s : PS} {w : S} {s' : PS} (h : s'.bad = false → s.bad = false ∧ s.a < l.length ∧ s'.a = s.a + 1 ∧ (pPeek l s).2.1 = w) : W l s [w] s' := fun hb => by
  obtain ⟨h1, h2, h3, h4⟩ := h hb
  exact ⟨h1, h3, by omega, by rw [txts_drop h1 h2, h3, h4]; rfl⟩
theorem is_tx {l : List T} {s : PS} {x : S} (h : pIs l s x = true) : (pPeek l s).2.1 = x := by
  simp only [pIs, Bool.and_eq_true] at h
  exact beqL_iff.1 h.2
theorem w_is {l : List T} {s : PS} {x : S} (h : pIs l s x = true) : W l s [x] ⟨s.a + 1, s.bad⟩ := .one fun hb => ⟨(is_lt h).1, (is_lt h).2, rfl, is_tx h⟩
theorem w_must (l : List T) (s : PS) (x : S) : W l s [x] (pMust l s x) := by
  simp only [pMust, pHas]
  cases h : pIs l s x with
  | true => exact w_is h
  | false => exact .bad
theorem w_want (l : List T) (s : PS) (x : S) : W l s [x] (rWant l s x) := .one fun hb => by
  simp only [rWant, Bool.or_eq_false_iff, Bool.not_eq_false'] at hb
  exact ⟨hb.1, (is_lt hb.2).2, rfl, is_tx hb.2⟩
theorem peek_out_k {l : List T} {s : PS} (h : beqL (pPeek l s).1 [] = false) : s.bad = false ∧ s.a < l.length := peek_lt (.inl fun e => by rw [e] at h; simp [beqL] at h)
theorem w_next (l : List T) (s : PS) : W l s [(pNext l s).1.2.1] (pNext l s).2 := by
  simp only [pNext]
  cases h : beqL (pPeek l s).1 [] with
  | true => exact .bad
  | false => exact .one fun hb => ⟨(peek_out_k h).1, (peek_out_k h).2, rfl, rfl⟩
theorem w_cond {l : List T} {s s' : PS} {v : List S} {c : Bool} {a : Nat} (h : W l s v s') : W l s v (bif c then ⟨a, true⟩ else s') := by cases c; exact h; exact .bad
theorem w_condn {l : List T} {s s' : PS} {v : List S} {c : Bool} {a : Nat} (h : W l s v s') : W l s v (bif c then s' else ⟨a, true⟩) := by cases c; exact .bad; exact h
theorem w_name (l : List T) (s : PS) : W l s [(pName l s).1] (pName l s).2 := w_condn (w_next l s)
theorem w_op (l : List T) (s : PS) : W l s [(pOp l s).1] (pOp l s).2 := w_cond (w_next l s)
theorem w_bin (l : List T) (s : PS) : W l s [(pNext l s).1.2.1] (pBin l s) := w_cond (w_next l s)
theorem w_take {l : List T} {s : PS} {k : S} (hk : k ≠ []) : W l s [(pPeek l s).2.1] (rTake l s k) := .one fun hb => by
  simp only [rTake, Bool.or_eq_false_iff, Bool.not_eq_false'] at hb
  exact ⟨hb.1, (peek_lt (.inl fun e => hk (by rw [← beqL_iff.1 hb.2, e]))).2, rfl, rfl⟩
theorem w_word {l : List T} {s : PS} {L : List S} : W l s [(pPeek l s).2.1] (rWord l s L) := .one fun hb => by
  simp only [rWord, Bool.or_eq_false_iff, Bool.not_eq_false', Bool.and_eq_true, Bool.or_eq_true] at hb
  exact ⟨hb.1, (peek_lt (.inl fun e => by rw [e] at hb; simp [beqL] at hb)).2, rfl, rfl⟩
/-- digits without a needless nought are the numeral of their number -/
theorem dig_val {c : UInt8} (h : digI ((c.toNat : Nat) : Int) = true) : ∃ d, d < 10 ∧ Go.Lib.digitVal c = some d ∧ c = UInt8.ofNat (48 + d) := by
  have : ∀ c : UInt8, digI ((c.toNat : Nat) : Int) = true → ∃ d : Fin 10, Go.Lib.digitVal c = some d.1 ∧ c = UInt8.ofNat (48 + d.1) := by
    intro c
    have h : ∀ k : Fin 256, digI (((UInt8.ofNat k.1).toNat : Nat) : Int) = true → ∃ d : Fin 10, Go.Lib.digitVal (UInt8.ofNat k.1) = some d.1 ∧ UInt8.ofNat k.1 = UInt8.ofNat (48 + d.1) := by decide +kernel
    have := h ⟨c.toNat, c.toNat_lt⟩
    simpa using this
  obtain ⟨d, h1, h2⟩ := this c h
  exact ⟨d.1, d.2, h1, h2⟩
theorem dec_back : ∀ (w : S) (acc n : Nat), 1 ≤ acc → (∀ c ∈ w, digI ((c.toNat : Nat) : Int) = true) → Go.Lib.decFrom acc w = some n → Go.Lib.decDigits n = Go.Lib.decDigits acc ++ w
  | [], acc, n, _, _, h => by simp only [Go.Lib.decFrom, Option.some.injEq] at h; subst h; simp
  | c :: r, acc, n, ha, hd, h => by
    obtain ⟨d, d1, d2, d3⟩ := dig_val (hd c (by simp))
    simp only [Go.Lib.decFrom, d2] at h
    have := dec_back r (acc * 10 + d) n (by omega) (fun c hc => hd c (by simp [hc])) h
    rw [this]
    have e : Go.Lib.decDigits (acc * 10 + d) = Go.Lib.decDigits acc ++ [c] := by
      rw [Go.Lib.decDigits, dif_neg (by omega)]
      have e1 : (acc * 10 + d) / 10 = acc := by omega
      have e2 : (acc * 10 + d) % 10 = d := by omega
      rw [e1, e2, d3]
    rw [e]; simp
theorem numeral {w : S} (h : numC w = 0) : Go.Lib.itoa (numV w) = w := by
  have hv : validT [105, 110, 116] w = true := by
    cases hv : validT [105, 110, 116] w with
    | true => rfl
    | false => simp [numC, hv] at h
  obtain ⟨i1, i2, i3⟩ := int_spec hv
  obtain ⟨c, r, rfl⟩ : ∃ c r, w = c :: r := by cases w with | nil => exact absurd rfl i2 | cons c r => exact ⟨c, r, rfl⟩
  obtain ⟨d, d1, d2, d3⟩ := dig_val (i3 c (by simp))
  obtain ⟨n, hn⟩ := atoi_digs i2 i3
  have e : numV (c :: r) = n := by simp [numV, hv, hn]
  rw [e]
  have g1 : c.toNat ≠ 45 ∧ c.toNat ≠ 43 := by
    have hd := i3 c (by simp)
    simp only [digI, Bool.and_eq_true, decide_eq_true_eq] at hd
    omega
  have hn2 : ∃ m : Nat, n = m ∧ Go.Lib.decFrom 0 (c :: r) = some m := by
    obtain ⟨m, hm⟩ := dec_some (c :: r) 0 i3
    refine ⟨m, ?_, hm⟩
    have : Go.Lib.atoi (c :: r) = some (m : Int) := by
      have b1 : ¬ c = 45 := fun e => g1.1 (by rw [e]; rfl)
      have b2 : ¬ c = 43 := fun e => g1.2 (by rw [e]; rfl)
      simp only [Go.Lib.atoi, Go.Lib.decNat, hm, List.isEmpty_cons]
      simp [b1, b2]
    rw [this] at hn; exact (Option.some.inj hn).symm
  obtain ⟨m, rfl, hm⟩ := hn2
  rw [Go.Lib.itoa_nonneg]
  simp only [Go.Lib.decFrom, d2, Nat.zero_mul, Nat.zero_add] at hm
  cases d with
  | zero =>
    have hc : c = 48 := d3
    subst hc
    have hr : r = [] := by
      have hv' := hv
      simp only [validT, Bool.and_eq_true] at hv'
      have h3 := beqL_iff.1 hv'.2.2
      have e : (firstT (48 :: r)).2.1 = [48] := by
        have e1 : wordN (48 :: r) = 0 := by simp [wordN, smallI]
        have e2 : digN (48 :: r) = 1 := by simp [digN, preB, beqL]
        simp [firstT, e1, e2]
      rw [e] at h3
      simp only [List.cons.injEq] at h3
      exact h3.2.symm
    subst hr
    simp only [Go.Lib.decFrom, Option.some.injEq] at hm
    subst hm
    rw [Go.Lib.decDigits_one (by decide)]; rfl
  | succ d =>
    rw [dec_back r (d + 1) m (by omega) (fun c hc => i3 c (by simp [hc])) hm, Go.Lib.decDigits_one (by omega), d3]; rfl
theorem w_pnum (l : List T) (s : PS) : W l s [Go.Lib.itoa (pNum l s).1] (pNum l s).2 := by
  simp only [pNum]
  cases h : decide (numC (pNext l s).1.2.1 = 0) with
  | false => exact .bad
  | true => rw [numeral (by simpa using h)]; exact w_next l s
theorem w_rnum (l : List T) (s : PS) : W l s [Go.Lib.itoa (numV (pPeek l s).2.1)] (rNum l s) := .one fun hb => by
  simp only [rNum, Bool.or_eq_false_iff, Bool.not_eq_false', decide_eq_true_eq] at hb
  exact ⟨hb.1.1, (peek_lt (.inl fun e => by rw [e] at hb; simp [beqL] at hb)).2, rfl, (numeral hb.2).symm⟩
theorem commaJ_cons {w : List S} {ws : List (List S)} (h : ws ≠ []) : commaJ (w :: ws) = w ++ ([44] :: commaJ ws) := by
  cases ws with
  | nil => exact absurd rfl h
  | cons v r => simp [commaJ, commaT]
/-- expressions with commas -/
theorem w_ploop {l : List T} {E : PS → Exp × PS} (hE : ∀ s, W l s (wE (E s).1) (E s).2) : ∀ (f : Nat) (s : PS), l.length + 1 ≤ f + s.a → W l s (commaJ (wEs (pLoop l E (f + 1) s).1)) (pLoop l E (f + 1) s).2
  | f, s, h => by
    rw [pLoop]
    cases hc : (pHas l (E s).2 [44]).1 with
    | false =>
      rw [pHas_f hc]
      have : commaJ (wEs [(E s).1]) = wE (E s).1 := by simp [wEs, commaJ, commaT]
      simp only [cond_false, this]
      exact hE s
    | true =>
      obtain ⟨t1, t2, t3⟩ := pHas_t hc
      have hi : pIs l (E s).2 [44] = true := by
        cases hi : pIs l (E s).2 [44] with
        | true => rfl
        | false => simp [pHas, hi] at hc
      have w0 := hE s t2
      have h1 := w_is hi
      rw [t2] at h1
      rw [t3]
      cases f with
      | zero => have := w0.e; omega
      | succ f =>
        have ih := w_ploop hE f ⟨(E s).2.a + 1, false⟩ (by have := w0.e; simp only; omega)
        have ne : wEs (pLoop l E (f + 1) ⟨(E s).2.a + 1, false⟩).1 ≠ [] := by
          simp only [pLoop]
          cases (pHas l (E ⟨(E s).2.a + 1, false⟩).2 [44]).1 <;> simp [wEs]
        simp only [cond_true, wEs]
        rw [commaJ_cons ne]
        exact (hE s).trans (h1.trans ih)
theorem w_rloop {l : List T} {E : PS → Exp × PS} (hE : ∀ s, W l s (wE (E s).1) (E s).2) : ∀ (f : Nat) (s : PS), l.length + 1 ≤ f + s.a → W l s (commaJ (wEs (rLoop l E (f + 1) s).1)) (rLoop l E (f + 1) s).2
  | f, s, h => by
    rw [rLoop]
    cases hb : s.bad with
    | true => intro h; rw [cond_true, hb] at h; cases h
    | false =>
    rw [cond_false]
    cases hi : pIs l (E s).2 [44] with
    | false =>
      have : commaJ (wEs [(E s).1]) = wE (E s).1 := by simp [wEs, commaJ, commaT]
      simp only [cond_false, this]
      exact hE s
    | true =>
      obtain ⟨t2, t1⟩ := is_lt hi
      have w0 := hE s t2
      have h1 := w_is hi
      cases f with
      | zero => have := w0.e; omega
      | succ f =>
        have ih := w_rloop hE f ⟨(E s).2.a + 1, (E s).2.bad⟩ (by have := w0.e; simp only; omega)
        have ne : wEs (rLoop l E (f + 1) ⟨(E s).2.a + 1, (E s).2.bad⟩).1 ≠ [] := by
          simp only [rLoop, t2, cond_false]
          cases pIs l (E ⟨(E s).2.a + 1, false⟩).2 [44] <;> simp [wEs]
        simp only [cond_true, wEs]
        rw [commaJ_cons ne]
        exact (hE s).trans (h1.trans ih)
theorem w_pexps {l : List T} {E : PS → Exp × PS} (hE : ∀ s, W l s (wE (E s).1) (E s).2) (x : S) (s : PS) : W l s (commaJ (wEs (pExps l E x s).1) ++ [x]) (pExps l E x s).2 := by
  simp only [pExps]
  cases hc : (pHas l s x).1 with
  | true =>
    have hi : pIs l s x = true := by
      cases hi : pIs l s x with
      | true => rfl
      | false => simp [pHas, hi] at hc
    obtain ⟨_, t2, t3⟩ := pHas_t hc
    rw [cond_true, t3]
    have h1 := w_is hi
    rw [t2] at h1
    exact h1
  | false =>
    cases hb : s.bad with
    | true =>
      intro h
      have := (w_must l s x h).b
      rw [hb] at this; cases this
    | false => exact (w_ploop hE (l.length + 1) s (by omega)).trans (w_must l _ x)
theorem w_rexps {l : List T} {E : PS → Exp × PS} (hE : ∀ s, W l s (wE (E s).1) (E s).2) (x : S) (s : PS) : W l s (commaJ (wEs (rExps l E x s).1) ++ [x]) (rExps l E x s).2 := by
  simp only [rExps]
  cases hi : pIs l s x with
  | true => exact w_is hi
  | false => exact (w_rloop hE (l.length + 1) s (by omega)).trans (w_want l _ x)
end Go.Abs

set_option maxRecDepth 100000
namespace Go.Abs
open Go.Proofs
/-- every token is what its text says -/
def Can (l : List T) : Prop := ∀ t ∈ l, okW t.2.1 ∧ t.1 = kw t.2.1
theorem can_peek {l : List T} (h : Can l) {s : PS} (hk : (pPeek l s).1 ≠ []) : okW (pPeek l s).2.1 ∧ (pPeek l s).1 = kw (pPeek l s).2.1 := by
  obtain ⟨h1, h2⟩ := peek_lt (.inl hk)
  obtain ⟨t, ht⟩ := get_of_lt h2
  have e : pPeek l s = t := by simp [pPeek, h1, ht]
  rw [e]; exact h t (List.mem_of_getElem? ht)
theorem can_num {l : List T} (h : Can l) {s : PS} (hk : (pPeek l s).1 = [105, 110, 116]) : numC (pPeek l s).2.1 = 0 := by
  obtain ⟨⟨h1, h2⟩, h3⟩ := can_peek h (s := s) (by rw [hk]; simp)
  have h4 : (firstT (pPeek l s).2.1).1 = [105, 110, 116] := by rw [hk] at h3; exact h3.symm
  have : validT [105, 110, 116] (pPeek l s).2.1 = true := by simp [validT, h1, h2, h4, beqL]
  simp [numC, this]
theorem w_pre {l : List T} {s : PS} {L : List S} (h : hasB (pPeek l s).2.1 L = true) (hL : [] ∉ L) : W l s [(pPeek l s).2.1] ⟨s.a + 1, s.bad⟩ := .one fun hb =>
  ⟨hb, (peek_lt (.inr fun e => hL (e ▸ hasB_mem.1 h))).2, rfl, rfl⟩
/-- between brackets -/
def WI (l : List T) (s : PS) (q : Exp × PS) : Prop := ∃ v, W l s v q.2 ∧ (q.2.bad = false → wE q.1 = [40] :: (v ++ [[41]]))
theorem WI.bad {l : List T} {s : PS} {x : Exp} {a : Nat} : WI l s (x, ⟨a, true⟩) := ⟨[], .bad, fun h => by cases h⟩
theorem WI.cnd {l : List T} {s : PS} {c : Bool} {p q : Exp × PS} (h : c = true → WI l s p) (g : c = false → WI l s q) : WI l s (bif c then p else q) := by
  cases c with | true => exact h rfl | false => exact g rfl
theorem WI.mk {l : List T} {s s' : PS} {v : List S} {x : Exp} (h : W l s v s') (e : s'.bad = false → wE x = [40] :: (v ++ [[41]])) : WI l s (x, s') := ⟨v, h, e⟩
theorem has1 {w x : S} (h : hasB w [x] = true) : w = x := by simpa [hasB, beqL] using h
theorem has2 {w x y : S} (h : hasB w [x, y] = true) : w = x ∨ w = y := by simpa [hasB, beqL] using h
theorem has3 {w x y z : S} (h : hasB w [x, y, z] = true) : w = x ∨ w = y ∨ w = z := by simpa [hasB, beqL] using h
theorem wE_bin' {nm : S} (h : hasB nm [[109, 105, 110], [109, 97, 120]] = false) (x y : Exp) : wE (.mk [111, 112] nm 0 [x, y]) = [40] :: (wE x ++ nm :: wE y ++ [[41]]) := by
  simp only [wE, wEs, hasB, beqL, opW, aroundW]
  simp only [hasB, beqL] at h
  rw [h]
  simp
theorem w_inner {l : List T} {E : PS → Exp × PS} (hc : Can l) (hE : ∀ s, W l s (wE (E s).1) (E s).2) (s : PS) : WI l s (pInner l E s) := by
  simp only [pInner]
  refine .cnd (fun h => ?_) (fun _ => ?_)
  · refine .mk ((w_pre h (by decide)).trans ((hE _).trans (hE _))) fun _ => ?_
    rw [wE_mm (has2 h)]; simp
  refine .cnd (fun h => ?_) (fun _ => ?_)
  · refine .mk ((w_pre h (by decide)).trans (hE _)) fun _ => ?_
    rw [wE_un]; simp
  refine .cnd (fun h => ?_) (fun _ => ?_)
  · refine .mk ((w_pre h (by decide)).trans (w_op l _)) fun _ => ?_
    rw [wE_none, has1 h]; simp
  refine .cnd (fun h => ?_) (fun _ => ?_)
  · refine .mk ((w_pre h (by decide)).trans (w_name l _)) fun _ => ?_
    rw [wE_nam (has3 h)]; simp
  refine .cnd (fun h => ?_) (fun _ => ?_)
  · refine .mk ((w_pre h (by decide)).trans ((w_name l _).trans (w_pnum l _))) fun _ => ?_
    rw [wE_num (has2 h)]; simp
  refine .cnd (fun h => ?_) (fun _ => ?_)
  · refine .mk ((w_pre h (by decide)).trans ((w_name l _).trans ((w_must l _ _).trans (w_pexps hE _ _)))) fun _ => ?_
    rw [wE_oh (has2 h)]; simp
  refine .cnd (fun h => ?_) (fun _ => ?_)
  · refine .mk ((w_pre h (by decide)).trans ((w_name l _).trans ((w_pnum l _).trans (hE _)))) fun _ => ?_
    rw [has1 h, wE_nth]; simp
  · refine .mk ((hE _).trans ((w_bin l _).trans (hE _))) fun hb => ?_
    have hb2 := (hE _ hb).b
    have hm : hasB (pNext l (E s).2).1.2.1 [[109, 105, 110], [109, 97, 120]] = false := by
      simp only [pBin] at hb2
      cases h1 : !beqL (pNext l (E s).2).1.1 [115, 105, 103, 110] || !decide (operandsN (pNext l (E s).2).1.2.1 = 2) with
      | true => rw [h1] at hb2; cases hb2
      | false =>
        simp only [Bool.or_eq_false_iff, Bool.not_eq_false'] at h1
        have k := beqL_iff.1 h1.1
        have ep : (pNext l (E s).2).1 = pPeek l (E s).2 := by simp only [pNext]; cases beqL (pPeek l (E s).2).1 [] <;> rfl
        rw [ep] at k ⊢
        have g := (can_peek hc (s := (E s).2) (by rw [k]; simp)).2
        rw [k] at g
        cases hh : hasB (pPeek l (E s).2).2.1 [[109, 105, 110], [109, 97, 120]] with
        | false => rfl
        | true =>
          exfalso
          rcases has2 hh with e | e <;> rw [e] at g <;> exact absurd g (by decide +kernel)
    rw [wE_bin' hm]; simp
theorem w_rinside {l : List T} {E : PS → Exp × PS} (hE : ∀ s, W l s (wE (E s).1) (E s).2) (s : PS) : WI l s (rInside l E s) := by
  have kn : ([110, 97, 109, 101] : S) ≠ [] := by decide
  simp only [rInside]
  refine .cnd (fun _ => ?_) (fun _ => ?_)
  · refine .cnd (fun h => ?_) (fun _ => ?_)
    · refine .mk ((w_pre h (by decide)).trans ((hE _).trans (hE _))) fun _ => ?_
      rw [wE_mm (has2 h)]; simp
    refine .cnd (fun h => ?_) (fun _ => ?_)
    · refine .mk ((w_pre h (by decide)).trans (hE _)) fun _ => ?_
      rw [wE_un]; simp
    refine .cnd (fun h => ?_) (fun _ => ?_)
    · refine .mk ((w_pre h (by decide)).trans w_word) fun _ => ?_
      rw [has1 h, wE_none]; simp
    refine .cnd (fun h => ?_) (fun _ => ?_)
    · refine .mk ((w_pre h (by decide)).trans (w_take kn)) fun _ => ?_
      rw [wE_nam (has3 h)]; simp
    refine .cnd (fun h => ?_) (fun _ => ?_)
    · refine .mk ((w_pre h (by decide)).trans ((w_take kn).trans (w_rnum l _))) fun _ => ?_
      rw [wE_num (has2 h)]; simp
    refine .cnd (fun h => ?_) (fun _ => ?_)
    · refine .mk ((w_pre h (by decide)).trans ((w_take kn).trans ((w_want l _ _).trans (w_rexps hE _ _)))) fun _ => ?_
      rw [wE_oh (has2 h)]; simp
    refine .cnd (fun h => ?_) (fun _ => ?_)
    · refine .mk ((w_pre h (by decide)).trans ((w_take kn).trans ((w_rnum l _).trans (hE _)))) fun _ => ?_
      rw [has1 h, wE_nth]; simp
    · exact .bad
  · refine .mk ((hE _).trans (w_word.trans (hE _))) fun hb => ?_
    have hb2 := (hE _ hb).b
    have hm : hasB (pPeek l (E s).2).2.1 opWs = true := by
      simp only [rWord, Bool.or_eq_false_iff, Bool.not_eq_false', Bool.and_eq_true] at hb2
      exact hb2.2.1
    rw [wE_bin hm]; simp
theorem truth_t {w : S} (h : (beqL w [102, 97, 108, 115, 101] || beqL w [116, 114, 117, 101]) = true) : truthW (bif beqL w [116, 114, 117, 101] then 1 else 0) = w := by
  rw [Bool.or_eq_true] at h
  rcases h with h | h <;> rw [beqL_iff.1 h] <;> rfl
theorem WE_cnd {l : List T} {s : PS} {c : Bool} {p q : Exp × PS} (h : c = true → W l s (wE p.1) p.2) (g : c = false → W l s (wE q.1) q.2) : W l s (wE (bif c then p else q).1) (bif c then p else q).2 := by
  cases c with | true => exact h rfl | false => exact g rfl
theorem w_pstep {l : List T} {E : PS → Exp × PS} (hc : Can l) (hE : ∀ s, W l s (wE (E s).1) (E s).2) (s : PS) : W l s (wE (pStep l E s).1) (pStep l E s).2 := by
  have ep : (pNext l s).1 = pPeek l s := by simp only [pNext]; cases beqL (pPeek l s).1 [] <;> rfl
  have wn := w_next l s
  simp only [pStep]
  refine WE_cnd (fun _ => .bad) (fun _ => ?_)
  refine WE_cnd (fun h => ?_) (fun _ => ?_)
  · rw [wE_int, numeral (by rw [ep]; rw [ep] at h; exact can_num hc (beqL_iff.1 h))]; exact wn
  refine WE_cnd (fun h => ?_) (fun _ => ?_)
  · refine WE_cnd (fun h1 => ?_) (fun _ => ?_)
    · have hi : pIs l (pNext l s).2 [91] = true := by
        cases hi : pIs l (pNext l s).2 [91] with
        | true => rfl
        | false => simp [pHas, hi] at h1
      have e : (pHas l (pNext l s).2 [91]).2 = ⟨(pNext l s).2.a + 1, (pNext l s).2.bad⟩ := by simp [pHas, hi]
      rw [e, wE_at]
      exact (wn.trans ((w_is hi).trans (w_pexps hE _ _))).eq fun _ => by simp
    refine WE_cnd (fun h1 => ?_) (fun _ => ?_)
    · rw [wE_call]
      exact (wn.trans ((w_must l _ _).trans (w_pexps hE _ _))).eq fun _ => by simp
    · rw [wE_var]; exact wn
  refine WE_cnd (fun h => ?_) (fun _ => ?_)
  · rw [Bool.and_eq_true] at h
    rw [wE_bool, truth_t h.2]; exact wn
  refine WE_cnd (fun h => ?_) (fun _ => .bad)
  rw [Bool.and_eq_true] at h
  obtain ⟨v, hv, he⟩ := w_inner hc hE (pNext l s).2
  have e40 := beqL_iff.1 h.2
  rw [e40] at wn
  exact (wn.trans (hv.trans (w_must l _ [41]))).eq fun hb => by rw [he (w_must l _ [41] hb).b]; rfl
theorem w_rstep {l : List T} {E : PS → Exp × PS} (hE : ∀ s, W l s (wE (E s).1) (E s).2) (s : PS) : W l s (wE (rStep l E s).1) (rStep l E s).2 := by
  simp only [rStep]
  refine WE_cnd (fun h => ?_) (fun _ => ?_)
  · rw [wE_int]; exact w_rnum l s
  refine WE_cnd (fun h => ?_) (fun _ => ?_)
  · have ht : (beqL (pPeek l s).2.1 [102, 97, 108, 115, 101] || beqL (pPeek l s).2.1 [116, 114, 117, 101]) = true := by
      rw [Bool.or_eq_true] at h
      rcases h with h | h <;> rw [is_tx h] <;> rfl
    rw [wE_bool, truth_t ht]
    rw [Bool.or_eq_true] at h
    rcases h with h | h
    · exact (w_is h).eq fun _ => by rw [is_tx h]
    · exact (w_is h).eq fun _ => by rw [is_tx h]
  refine WE_cnd (fun h => ?_) (fun _ => ?_)
  · have wn : W l s [(pPeek l s).2.1] ⟨s.a + 1, s.bad⟩ := .one fun hb => ⟨hb, (peek_lt (.inl fun e => by rw [e] at h; simp [beqL] at h)).2, rfl, rfl⟩
    refine WE_cnd (fun h1 => ?_) (fun _ => ?_)
    · rw [wE_at]
      exact (wn.trans ((w_is h1).trans (w_rexps hE _ _))).eq fun _ => by simp
    refine WE_cnd (fun h1 => ?_) (fun _ => ?_)
    · have hq2 : pIs l ⟨s.a + 1, s.bad⟩ [40] = true := by
        cases hp : pIs l ⟨s.a + 1, s.bad⟩ [40] with
        | true => rfl
        | false => simp [rIsCall, hp] at h1
      rw [wE_call]
      exact (wn.trans ((w_is hq2).trans (w_rexps hE _ _))).eq fun _ => by simp
    · rw [wE_var]; exact wn
  obtain ⟨v, hv, he⟩ := w_rinside hE (rWant l s [40])
  exact ((w_want l s [40]).trans (hv.trans (w_want l _ [41]))).eq fun hb => by rw [he (w_want l _ [41] hb).b]; rfl
theorem w_pExp {l : List T} (hc : Can l) : ∀ (n : Nat) (s : PS), W l s (wE (pExp l n s).1) (pExp l n s).2
  | 0, s => fun h => by simp [pExp] at h
  | n + 1, s => w_pstep hc (w_pExp hc n) s
theorem w_rE (l : List T) : ∀ (n : Nat) (s : PS), l.length - s.a < n → W l s (wE (rE l s).1) (rE l s).2
  | 0, _, h => absurd h (Nat.not_lt_zero _)
  | n + 1, s, hn => by
    by_cases h : s.bad = false ∧ s.a ≤ l.length
    · rw [rE_eq l s h.1 h.2]
      refine w_rstep (fun s' => ?_) s
      unfold rG
      split
      · rename_i g
        exact w_rE l n s' (by omega)
      · exact .bad
    · rw [rE, dif_neg h]; exact .bad
theorem w_rE' (l : List T) (s : PS) : W l s (wE (rE l s).1) (rE l s).2 := w_rE l _ s (Nat.lt_succ_self _)
end Go.Abs

set_option maxRecDepth 100000
namespace Go.Abs
open Go.Proofs
theorem is_bad {l : List T} {s : PS} {x : S} (h : s.bad = true) : pIs l s x = false := by simp [pIs, pPeek, h, t0, beqL]
theorem AtW.lt {l : List T} {a : Nat} {w : S} {r : List S} (h : AtW l a (w :: r)) : a < l.length := by
  obtain ⟨p, h⟩ := h
  by_cases hl : a < l.length
  · exact hl
  · rw [List.drop_eq_nil_iff.2 (by omega)] at h; cases h
theorem AtW.want {l : List T} {a : Nat} {w : S} {r : List S} (h : AtW l a (w :: r)) (k : (beqL (kw w) [107, 101, 121] || beqL (kw w) [115, 105, 103, 110]) = true) : rWant l ⟨a, false⟩ w = ⟨a + 1, false⟩ := by
  have := h.is w
  rw [k] at this
  have e : beqL w w = true := by simp [beqL]
  rw [e] at this
  simp [rWant, this]
theorem AtW.take {l : List T} {a : Nat} {w : S} {r : List S} (h : AtW l a (w :: r)) {k : S} (hk : kw w = k) : rTake l ⟨a, false⟩ k = ⟨a + 1, false⟩ := by
  simp [rTake, h.peek.1, hk, beqL]
theorem AtW.rnum {l : List T} {a : Nat} {w : S} {r : List S} (h : AtW l a (w :: r)) (hk : kw w = [105, 110, 116]) (hc : numC w = 0) : rNum l ⟨a, false⟩ = ⟨a + 1, false⟩ := by
  simp [rNum, h.peek.1, h.peek.2, hk, hc, beqL]
theorem AtW.word {l : List T} {a : Nat} {w : S} {r : List S} (h : AtW l a (w :: r)) {L : List S} (hL : hasB w L = true) (k : (beqL (kw w) [107, 101, 121] || beqL (kw w) [115, 105, 103, 110]) = true) : rWord l ⟨a, false⟩ L = ⟨a + 1, false⟩ := by
  simp only [rWord, h.peek.1, h.peek.2, hL, k]; rfl
theorem AtW.isF {l : List T} {a : Nat} {w : S} {r : List S} (h : AtW l a (w :: r)) {x : S} (k : w ≠ x) : pIs l ⟨a, false⟩ x = false := by
  rw [h.is]; simp [beqL, k]
theorem AtW.isT {l : List T} {a : Nat} {w : S} {r : List S} (h : AtW l a (w :: r)) (k : (beqL (kw w) [107, 101, 121] || beqL (kw w) [115, 105, 103, 110]) = true) : pIs l ⟨a, false⟩ w = true := by
  rw [h.is, k]; simp [beqL]
/-- what follows is no index and no call -/
def NotR (l : List T) (b : Nat) : Prop := pIs l ⟨b, false⟩ [91] = false ∧ (pIs l ⟨b, false⟩ [40] = true → pIs l ⟨b + 1, false⟩ [41] = false ∧ pIs l (rE l ⟨b + 1, false⟩).2 [44] = false ∧ pIs l (rE l ⟨b + 1, false⟩).2 [41] = false)
theorem notR_end {l : List T} {b : Nat} (h : AtW l b []) : NotR l b := ⟨h.is_end _, fun e => by rw [h.is_end] at e; cases e⟩
theorem notR_w {l : List T} {b : Nat} {w : S} {r : List S} (h : AtW l b (w :: r)) (h1 : w ≠ [91]) (h2 : w ≠ [40]) : NotR l b := ⟨h.isF h1, fun e => by rw [h.isF h2] at e; cases e⟩
theorem rG_at {l : List T} {a0 a : Nat} {w : S} {r : List S} (h : AtW l a (w :: r)) (ha : a0 < a) : rG l a0 ⟨a, false⟩ = rE l ⟨a, false⟩ := rG_eq fun _ => ⟨ha, Nat.le_of_lt h.lt⟩
theorem notR_call {l : List T} {a0 b : Nat} (h : NotR l b) (ha : a0 ≤ b) : rIsCall l (rG l a0) ⟨b, false⟩ = false := by
  cases hp : pIs l ⟨b, false⟩ [40] with
  | false => simp [rIsCall, hp]
  | true =>
    obtain ⟨h1, h2, h3⟩ := h.2 hp
    have := (is_lt hp).2
    have e : rG l a0 ⟨b + 1, false⟩ = rE l ⟨b + 1, false⟩ := rG_eq fun _ => ⟨by simp only; omega, this⟩
    simp [rIsCall, hp, h1, e, h2, h3]
def Rr (l : List T) (y : Exp) : Prop := ∀ a r, AtW l a (wE y ++ r) → NotR l (a + (wE y).length) → rE l ⟨a, false⟩ = (y, ⟨a + (wE y).length, false⟩)
theorem w_rG (l : List T) (a0 : Nat) : ∀ s, W l s (wE (rG l a0 s).1) (rG l a0 s).2 := fun s => by
  unfold rG
  split
  · exact w_rE' l s
  · exact .bad
/-- no expression begins with a key word or another sign -/
theorem rE_key {l : List T} {a : Nat} {w : S} {r : List S} (h : AtW l a (w :: r)) (hk : kw w = [107, 101, 121] ∨ kw w = [115, 105, 103, 110]) (h1 : w ≠ [116, 114, 117, 101]) (h2 : w ≠ [102, 97, 108, 115, 101]) (h3 : w ≠ [40]) : (rE l ⟨a, false⟩).2.bad = true := by
  rw [rE_eq l _ rfl (Nat.le_of_lt h.lt)]
  have k1 : beqL (kw w) [105, 110, 116] = false := by rcases hk with e | e <;> rw [e] <;> rfl
  have k2 : beqL (kw w) [110, 97, 109, 101] = false := by rcases hk with e | e <;> rw [e] <;> rfl
  simp only [rStep, h.peek.1, k1, k2, h.isF h1, h.isF h2, cond_false, Bool.or_false]
  cases hb : (rWant l (rInside l (rG l a) (rWant l ⟨a, false⟩ [40])).2 [41]).bad with
  | true => rfl
  | false =>
    exfalso
    obtain ⟨v, hv, _⟩ := w_rinside (w_rG l a) (rWant l ⟨a, false⟩ [40])
    have := (hv (w_want l _ _ hb).b).b
    simp [rWant, h.isF h3] at this
theorem notR_par {l : List T} {b : Nat} {w : S} {r : List S} (h : AtW l b ([40] :: w :: r)) (hk : kw w = [107, 101, 121] ∨ kw w = [115, 105, 103, 110]) (h1 : w ≠ [116, 114, 117, 101]) (h2 : w ≠ [102, 97, 108, 115, 101]) (h3 : w ≠ [40]) (h4 : w ≠ [41]) : NotR l b := by
  have hb := rE_key h.tail hk h1 h2 h3
  exact ⟨h.isF (by decide), fun _ => ⟨h.tail.isF h4, is_bad hb, is_bad hb⟩⟩
theorem notR_wE {l : List T} {b : Nat} {y : Exp} {r : List S} (hw : wellE y = true) (hr : ∀ z ∈ kids y, Rr l z) (h : AtW l b (wE y ++ r)) : NotR l b := by
  obtain ⟨sh, wk⟩ := well_head hw
  have wm := well_mem wk
  cases sh with
  | int n h0 h1 => rw [wE_int] at h; exact notR_w h (name_ne (.inr (num_ok h0 h1).2.1) k91) (name_ne (.inr (num_ok h0 h1).2.1) k40)
  | bool n h0 => rw [wE_bool] at h; rcases h0 with rfl | rfl <;> exact notR_w h (by decide) (by decide)
  | var nm h0 => rw [wE_var] at h; exact notR_w h (name_ne (.inl (name_ok h0).2) k91) (name_ne (.inl (name_ok h0).2) k40)
  | un nm x h0 =>
    rw [wE_un] at h
    rcases h0 with rfl | rfl <;> exact notR_par h (by decide +kernel) (by decide) (by decide) (by decide) (by decide)
  | mm nm x y h0 =>
    rw [wE_mm h0] at h
    rcases h0 with rfl | rfl <;> exact notR_par h (by decide +kernel) (by decide) (by decide) (by decide) (by decide)
  | bin nm x y h0 =>
    rw [wE_bin h0] at h
    obtain ⟨_, bb, kn, okn, o2, n44, n40, n91⟩ := bin_ne h0
    have h' : AtW l b ([40] :: (wE x ++ (nm :: (wE y ++ ([41] :: r))))) := by simpa using h
    have h1 := h'.tail
    have h2 : AtW l (b + 1 + (wE x).length) (nm :: (wE y ++ ([41] :: r))) := h1.app
    have e := hr x (by simp [kids]) _ _ h1 (notR_w h2 n91 n40)
    obtain ⟨c, t, ew, hf⟩ := first_wE (well_head (wm x (by simp [kids]))).1
    rw [ew] at h1
    refine ⟨h'.isF (by decide), fun _ => ⟨h1.isF (first_ne hf (by simp)), ?_, ?_⟩⟩
    · rw [e]; exact h2.isF n44
    · rw [e]
      refine h2.isF fun e => ?_
      rw [e] at bb; revert bb; decide
  | none nm h0 => rw [wE_none] at h; exact notR_par h (by decide +kernel) (by decide) (by decide) (by decide) (by decide)
  | nam d nm hd h0 => rw [wE_nam hd] at h; rcases hd with rfl | rfl | rfl <;> exact notR_par h (by decide +kernel) (by decide) (by decide) (by decide) (by decide)
  | num d nm n hd h0 h1 h2 => rw [wE_num hd] at h; rcases hd with rfl | rfl <;> exact notR_par h (by decide +kernel) (by decide) (by decide) (by decide) (by decide)
  | at_ nm l' h0 h1 => rw [wE_at] at h; exact notR_w h (name_ne (.inl (name_ok h0).2) k91) (name_ne (.inl (name_ok h0).2) k40)
  | oh d nm l' hd h0 h1 => rw [wE_oh hd] at h; rcases hd with rfl | rfl <;> exact notR_par h (by decide +kernel) (by decide) (by decide) (by decide) (by decide)
  | nth nm n x h0 h1 h2 => rw [wE_nth] at h; exact notR_par h (by decide +kernel) (by decide) (by decide) (by decide) (by decide)
  | call nm l' h0 => rw [wE_call] at h; exact notR_w h (name_ne (.inl (name_ok h0).2) k91) (name_ne (.inl (name_ok h0).2) k40)
theorem at_ne {l : List T} {a : Nat} {x : Exp} {r : List S} (hs : Sh x) (h : AtW l a (wE x ++ r)) : ∃ c t, AtW l a (c :: t) := by
  obtain ⟨c, t, e, _⟩ := first_wE hs
  rw [e] at h; exact ⟨_, _, h⟩
theorem rloop_ok {l : List T} {a0 : Nat} {c : S} (hc : c = [93] ∨ c = [41]) : ∀ (xs : List Exp) (x : Exp) (f a : Nat) (r : List S), (∀ y ∈ x :: xs, Rr l y ∧ Sh y) → xs.length < f → a0 < a → AtW l a (wE x ++ (commaT (wEs xs) ++ c :: r)) →
    rLoop l (rG l a0) f ⟨a, false⟩ = (x :: xs, ⟨a + (wE x).length + (commaT (wEs xs)).length, false⟩)
  | _, _, 0, _, _, _, hf, _, _ => absurd hf (Nat.not_lt_zero _)
  | [], x, f + 1, a, r, hE, hf, ha, h => by
    have h1 : AtW l (a + (wE x).length) (c :: r) := by simpa [wEs, commaT] using h.app
    obtain ⟨_, _, h0⟩ := at_ne (hE x (by simp)).2 h
    have e1 := (hE x (by simp)).1 a _ h (notR_w h1 (by rcases hc with rfl | rfl <;> decide) (by rcases hc with rfl | rfl <;> decide))
    rw [← rG_at h0 ha] at e1
    have e2 : pIs l ⟨a + (wE x).length, false⟩ [44] = false := h1.isF (by rcases hc with rfl | rfl <;> decide)
    simp only [rLoop, e1, e2, cond_false]
    simp [wEs, commaT]
  | y :: ys, x, f + 1, a, r, hE, hf, ha, h => by
    have h1 : AtW l (a + (wE x).length) ([44] :: (wE y ++ (commaT (wEs ys) ++ c :: r))) := by
      have := h.app; simpa [wEs, commaT] using this
    obtain ⟨_, _, h0⟩ := at_ne (hE x (by simp)).2 h
    have e1 := (hE x (by simp)).1 a _ h (notR_w h1 (by decide) (by decide))
    rw [← rG_at h0 ha] at e1
    have e2 : pIs l ⟨a + (wE x).length, false⟩ [44] = true := h1.isT (by decide +kernel)
    have e3 := rloop_ok (a0 := a0) hc ys y f (a + (wE x).length + 1) r (fun z hz => hE z (by simp at hz ⊢; exact .inr hz)) (by simp at hf; omega) (by omega) h1.tail
    simp only [rLoop, e1, e2, cond_true, cond_false, e3]
    refine Prod.ext rfl ?_
    simp only [wEs, commaT, List.map_cons, List.flatten_cons, List.length_append, List.length_cons, PS.mk.injEq, and_true]
    omega
theorem rexps_ok {l : List T} {a0 : Nat} {c : S} (hc : c = [93] ∨ c = [41]) {xs : List Exp} {a : Nat} {r : List S} (hw : wellL xs = true) (hE : ∀ y ∈ xs, Rr l y) (ha : a0 < a) (h : AtW l a (commaJ (wEs xs) ++ c :: r)) :
    rExps l (rG l a0) c ⟨a, false⟩ = (xs, ⟨a + (commaJ (wEs xs)).length + 1, false⟩) := by
  have kc : (beqL (kw c) [107, 101, 121] || beqL (kw c) [115, 105, 103, 110]) = true := by rcases hc with rfl | rfl <;> decide +kernel
  match xs, hw, hE, h with
  | [], _, _, h =>
    have h1 : AtW l a (c :: r) := by simpa [wEs, commaJ] using h
    simp only [rExps, h1.isT kc, cond_true]
    simp [wEs, commaJ]
  | x :: xs, hw, hE, h =>
    have hx := well_mem hw x (by simp)
    obtain ⟨w, t, e, hf⟩ := first_wE (well_head hx).1
    have h1 : AtW l a (w :: (t ++ (commaT (wEs xs) ++ c :: r))) := by simpa [wEs, commaJ, e] using h
    have h2 : AtW l a (wE x ++ (commaT (wEs xs) ++ c :: r)) := by simpa [wEs, commaJ] using h
    have e1 := h1.isF (x := c) (first_ne hf (by rcases hc with rfl | rfl <;> simp))
    have hl : xs.length < l.length + 2 := by
      have := h2.len
      have := commaT_len (wEs xs)
      rw [wEs_length] at this
      simp only [List.length_append] at *
      omega
    have e2 := rloop_ok (a0 := a0) hc xs x (l.length + 2) a r (fun y hy => ⟨hE y hy, (well_head (well_mem hw y hy)).1⟩) hl ha h2
    have h3 : AtW l (a + (wE x).length + (commaT (wEs xs)).length) (c :: r) := (h2.app).app
    simp only [rExps, e1, cond_false, e2, h3.want kc]
    refine Prod.ext rfl ?_
    simp only [wEs, commaJ, List.length_append, PS.mk.injEq, and_true]
    omega
theorem rcall_args {l : List T} {a0 b : Nat} {xs : List Exp} {r : List S} (hw : wellL xs = true) (hE : ∀ y ∈ xs, Rr l y) (ha : a0 ≤ b) (h : AtW l b ([40] :: (commaJ (wEs xs) ++ [41] :: r))) : rIsCall l (rG l a0) ⟨b, false⟩ = true := by
  have h0 := h.isT (by decide +kernel)
  match xs, hw, hE, h with
  | [], _, _, h =>
    have h1 : AtW l (b + 1) ([41] :: r) := by simpa [wEs, commaJ] using h.tail
    simp [rIsCall, h0, h1.isT (by decide +kernel)]
  | x :: xs, hw, hE, h =>
    have hx := well_mem hw x (by simp)
    have h2 : AtW l (b + 1) (wE x ++ (commaT (wEs xs) ++ [41] :: r)) := by simpa [wEs, commaJ] using h.tail
    obtain ⟨_, _, g0⟩ := at_ne (well_head hx).1 h2
    have h3 := h2.app
    have : ∃ c t, AtW l (b + 1 + (wE x).length) (c :: t) ∧ (c = [44] ∨ c = [41]) := by
      cases xs with
      | nil => exact ⟨_, _, by simpa [wEs, commaT] using h3, .inr rfl⟩
      | cons y ys => exact ⟨[44], wE y ++ (commaT (wEs ys) ++ [41] :: r), by simpa [wEs, commaT] using h3, .inl rfl⟩
    obtain ⟨c, t, h4, hc⟩ := this
    have e := hE x (by simp) _ _ h2 (notR_w h4 (by rcases hc with rfl | rfl <;> decide) (by rcases hc with rfl | rfl <;> decide))
    rw [← rG_at (a0 := a0) g0 (by omega)] at e
    have hq : (pIs l ⟨b + 1 + (wE x).length, false⟩ [44] || pIs l ⟨b + 1 + (wE x).length, false⟩ [41]) = true := by
      rcases hc with rfl | rfl
      · rw [h4.isT (by decide +kernel)]; rfl
      · rw [h4.isT (by decide +kernel)]; simp
    simp only [rIsCall, h0, cond_true, e, hq]
    cases pIs l ⟨b + 1, false⟩ [41] <;> rfl
end Go.Abs

set_option maxRecDepth 100000
namespace Go.Abs
open Go.Proofs
theorem rin_pre {l : List T} {a : Nat} {w : S} {r : List S} (h : AtW l a (w :: r)) (hw : (kw w = [107, 101, 121] ∧ w ≠ [116, 114, 117, 101] ∧ w ≠ [102, 97, 108, 115, 101]) ∨ w = [33]) :
    ((beqL (pPeek l ⟨a, false⟩).1 [107, 101, 121] && (!beqL (pPeek l ⟨a, false⟩).2.1 [116, 114, 117, 101] && !beqL (pPeek l ⟨a, false⟩).2.1 [102, 97, 108, 115, 101])) || beqL (pPeek l ⟨a, false⟩).2.1 [33]) = true := by
  rw [h.peek.1, h.peek.2]
  rcases hw with ⟨h1, h2, h3⟩ | rfl
  · simp [h1, h2, h3, beqL]
  · simp [beqL]
theorem rin_mm {l : List T} {E : PS → Exp × PS} {a b c : Nat} {w : S} {x y : Exp} {r : List S} (hp : AtW l a (w :: r)) (h : w = [109, 105, 110] ∨ w = [109, 97, 120]) (e1 : E ⟨a + 1, false⟩ = (x, ⟨b, false⟩)) (e2 : E ⟨b, false⟩ = (y, ⟨c, false⟩)) : rInside l E ⟨a, false⟩ = (.mk [111, 112] w 0 [x, y], ⟨c, false⟩) := by
  have hc := rin_pre hp (.inl (by rcases h with rfl | rfl <;> decide +kernel))
  rw [rInside, hc]
  simp only [hp.peek.2, cond_true, e1, e2]
  rcases h with rfl | rfl <;> simp [hasB, beqL]
theorem rin_un {l : List T} {E : PS → Exp × PS} {a b : Nat} {w : S} {x : Exp} {r : List S} (hp : AtW l a (w :: r)) (h : w = [33] ∨ w = [105, 110, 116]) (e1 : E ⟨a + 1, false⟩ = (x, ⟨b, false⟩)) : rInside l E ⟨a, false⟩ = (.mk [111, 112] w 0 [x], ⟨b, false⟩) := by
  have hc := rin_pre hp (by rcases h with rfl | rfl; exact .inr rfl; exact .inl (by decide +kernel))
  rw [rInside, hc]
  simp only [hp.peek.2, cond_true, e1]
  rcases h with rfl | rfl <;> simp [hasB, beqL]
theorem rin_none {l : List T} {E : PS → Exp × PS} {a b : Nat} {nm : S} {r : List S} (hp : AtW l a ([110, 111, 110, 101] :: nm :: r)) (e1 : rWord l ⟨a + 1, false⟩ ws0 = ⟨b, false⟩) : rInside l E ⟨a, false⟩ = (.mk [110, 111, 110, 101] nm 0 [], ⟨b, false⟩) := by
  have hc := rin_pre hp (.inl (by decide +kernel))
  rw [rInside, hc]
  simp only [hp.peek.2, hp.tail.peek.2, cond_true, e1]
  simp [hasB, beqL]
theorem rin_nam {l : List T} {E : PS → Exp × PS} {a b : Nat} {d nm : S} {r : List S} (hp : AtW l a (d :: nm :: r)) (h : d = [114, 101, 97, 100] ∨ d = [103, 101, 116] ∨ d = [99, 111, 117, 110, 116]) (e1 : rTake l ⟨a + 1, false⟩ [110, 97, 109, 101] = ⟨b, false⟩) : rInside l E ⟨a, false⟩ = (.mk d nm 0 [], ⟨b, false⟩) := by
  have hc := rin_pre hp (.inl (by rcases h with rfl | rfl | rfl <;> decide +kernel))
  rw [rInside, hc]
  simp only [hp.peek.2, hp.tail.peek.2, cond_true, e1]
  rcases h with rfl | rfl | rfl <;> simp [hasB, beqL]
theorem rin_num {l : List T} {E : PS → Exp × PS} {a b c : Nat} {d nm w : S} {n : Int} {r : List S} (hp : AtW l a (d :: nm :: r)) (h : d = [108, 111, 119] ∨ d = [104, 105, 103, 104]) (e1 : rTake l ⟨a + 1, false⟩ [110, 97, 109, 101] = ⟨b, false⟩) (e3 : (pPeek l ⟨b, false⟩).2.1 = w) (e4 : numV w = n) (e2 : rNum l ⟨b, false⟩ = ⟨c, false⟩) : rInside l E ⟨a, false⟩ = (.mk d nm n [], ⟨c, false⟩) := by
  have hc := rin_pre hp (.inl (by rcases h with rfl | rfl <;> decide +kernel))
  rw [rInside, hc]
  simp only [hp.peek.2, hp.tail.peek.2, cond_true, e1, e2, e3, e4]
  rcases h with rfl | rfl <;> simp [hasB, beqL]
theorem rin_oh {l : List T} {E : PS → Exp × PS} {a b c e : Nat} {d nm : S} {xs : List Exp} {r : List S} (hp : AtW l a (d :: nm :: r)) (h : d = [111, 114, 100] ∨ d = [104, 97, 115]) (e1 : rTake l ⟨a + 1, false⟩ [110, 97, 109, 101] = ⟨b, false⟩) (e2 : rWant l ⟨b, false⟩ [91] = ⟨c, false⟩) (e3 : rExps l E [93] ⟨c, false⟩ = (xs, ⟨e, false⟩)) : rInside l E ⟨a, false⟩ = (.mk d nm 0 xs, ⟨e, false⟩) := by
  have hc := rin_pre hp (.inl (by rcases h with rfl | rfl <;> decide +kernel))
  rw [rInside, hc]
  simp only [hp.peek.2, hp.tail.peek.2, cond_true, e1, e2, e3]
  rcases h with rfl | rfl <;> simp [hasB, beqL]
theorem rin_nth {l : List T} {E : PS → Exp × PS} {a b c e : Nat} {nm w : S} {n : Int} {x : Exp} {r : List S} (hp : AtW l a ([110, 116, 104] :: nm :: r)) (e1 : rTake l ⟨a + 1, false⟩ [110, 97, 109, 101] = ⟨b, false⟩) (e4 : (pPeek l ⟨b, false⟩).2.1 = w) (e5 : numV w = n) (e2 : rNum l ⟨b, false⟩ = ⟨c, false⟩) (e3 : E ⟨c, false⟩ = (x, ⟨e, false⟩)) : rInside l E ⟨a, false⟩ = (.mk [110, 116, 104] nm n [x], ⟨e, false⟩) := by
  have hc := rin_pre hp (.inl (by decide +kernel))
  rw [rInside, hc]
  simp only [hp.peek.2, hp.tail.peek.2, cond_true, e1, e2, e3, e4, e5]
  simp [hasB, beqL]
theorem rin_bin {l : List T} {E : PS → Exp × PS} {a b e : Nat} {c nm : S} {x y : Exp} {r : List S} (hp : AtW l a (c :: r)) (h : (kw c = [110, 97, 109, 101] ∨ kw c = [105, 110, 116]) ∨ c = [40] ∨ c = [116, 114, 117, 101] ∨ c = [102, 97, 108, 115, 101]) (e1 : E ⟨a, false⟩ = (x, ⟨b, false⟩)) (e2 : (pPeek l ⟨b, false⟩).2.1 = nm) (e3 : rWord l ⟨b, false⟩ opWs = ⟨b + 1, false⟩) (e4 : E ⟨b + 1, false⟩ = (y, ⟨e, false⟩)) : rInside l E ⟨a, false⟩ = (.mk [111, 112] nm 0 [x, y], ⟨e, false⟩) := by
  have hc : ((beqL (pPeek l ⟨a, false⟩).1 [107, 101, 121] && (!beqL (pPeek l ⟨a, false⟩).2.1 [116, 114, 117, 101] && !beqL (pPeek l ⟨a, false⟩).2.1 [102, 97, 108, 115, 101])) || beqL (pPeek l ⟨a, false⟩).2.1 [33]) = false := by
    rw [hp.peek.1, hp.peek.2]
    have h33 : c ≠ [33] := by
      rcases h with h | rfl | rfl | rfl
      · exact name_ne h (by decide +kernel)
      · decide
      · decide
      · decide
    have hk : (beqL (kw c) [107, 101, 121] && (!beqL c [116, 114, 117, 101] && !beqL c [102, 97, 108, 115, 101])) = false := by
      rcases h with (h | h) | rfl | rfl | rfl
      · rw [h]; rfl
      · rw [h]; rfl
      · decide +kernel
      · decide +kernel
      · decide +kernel
    rw [hk]; simp [beqL, h33]
  rw [rInside, hc]
  simp only [cond_false, e1, e2, e3, e4]
theorem rstep_par {l : List T} {E : PS → Exp × PS} {a b : Nat} {r r' : List S} {x : Exp} (h : AtW l a ([40] :: r)) (h1 : rInside l E ⟨a + 1, false⟩ = (x, ⟨b, false⟩)) (h2 : AtW l b ([41] :: r')) : rStep l E ⟨a, false⟩ = (x, ⟨b + 1, false⟩) := by
  have k : kw [40] = [115, 105, 103, 110] := by decide +kernel
  have w1 : rWant l ⟨a, false⟩ [40] = ⟨a + 1, false⟩ := h.want (by decide +kernel)
  have w2 : rWant l ⟨b, false⟩ [41] = ⟨b + 1, false⟩ := h2.want (by decide +kernel)
  have i1 : pIs l ⟨a, false⟩ [116, 114, 117, 101] = false := h.isF (by decide)
  have i2 : pIs l ⟨a, false⟩ [102, 97, 108, 115, 101] = false := h.isF (by decide)
  have k1 : beqL (pPeek l ⟨a, false⟩).1 [105, 110, 116] = false := by rw [h.peek.1, k]; rfl
  have k2 : beqL (pPeek l ⟨a, false⟩).1 [110, 97, 109, 101] = false := by rw [h.peek.1, k]; rfl
  simp only [rStep, k1, k2, i1, i2, cond_false, Bool.or_false, w1, h1, w2]
theorem rstep_name {l : List T} {E : PS → Exp × PS} {a : Nat} {w : S} {r : List S} (h : AtW l a (w :: r)) (hk : kw w = [110, 97, 109, 101]) : rStep l E ⟨a, false⟩ =
    (bif pIs l ⟨a + 1, false⟩ [91] then (.mk [97, 116] w 0 (rExps l E [93] ⟨a + 1 + 1, false⟩).1, (rExps l E [93] ⟨a + 1 + 1, false⟩).2) else
     bif rIsCall l E ⟨a + 1, false⟩ then (.mk [99, 97, 108, 108] w 0 (rExps l E [41] ⟨a + 1 + 1, false⟩).1, (rExps l E [41] ⟨a + 1 + 1, false⟩).2) else
     (.mk [118, 97, 114] w 0 [], ⟨a + 1, false⟩)) := by
  have i1 : pIs l ⟨a, false⟩ [116, 114, 117, 101] = false := h.isF (name_ne (.inl hk) (by decide +kernel))
  have i2 : pIs l ⟨a, false⟩ [102, 97, 108, 115, 101] = false := h.isF (name_ne (.inl hk) (by decide +kernel))
  have k1 : beqL (pPeek l ⟨a, false⟩).1 [105, 110, 116] = false := by rw [h.peek.1, hk]; rfl
  have k2 : beqL (pPeek l ⟨a, false⟩).1 [110, 97, 109, 101] = true := by rw [h.peek.1, hk]; rfl
  simp only [rStep, k1, k2, i1, i2, cond_false, cond_true, Bool.or_false, h.peek.2]
theorem rE_ok {l : List T} : ∀ (n : Nat) (x : Exp), wellE x = true → cE x < n → Rr l x
  | 0, _, _, h => absurd h (Nat.not_lt_zero _)
  | n + 1, x, hw, hn => by
    obtain ⟨sh, wk⟩ := well_head hw
    have wm := well_mem wk
    have hE : ∀ y ∈ kids x, Rr l y := fun y hy => rE_ok n y (wm y hy) (by have := cE_kid hy; omega)
    have hE2 : ∀ y ∈ kids x, ∀ z ∈ kids y, Rr l z := fun y hy z hz => rE_ok n z (well_mem (well_head (wm y hy)).2 z hz) (by have := cE_kid hy; have := cE_kid hz; omega)
    have hne := fun y hy => (well_head (wm y hy)).1
    intro a r h hN
    have ha : a ≤ l.length := by obtain ⟨_, _, g⟩ := at_ne sh h; exact Nat.le_of_lt g.lt
    rw [rE_eq l _ rfl ha]
    have nf41 : ∀ {b : Nat} {r : List S}, AtW l b ([41] :: r) → NotR l b := fun h => notR_w h (by decide) (by decide)
    cases sh with
    | int n h0 h1 =>
      rw [wE_int] at h ⊢
      obtain ⟨ok, k, v, vc⟩ := num_ok h0 h1
      have h' : AtW l a (Go.Lib.itoa n :: r) := h
      have k1 : beqL (pPeek l ⟨a, false⟩).1 [105, 110, 116] = true := by rw [h'.peek.1, k]; rfl
      simp only [rStep, k1, cond_true, h'.peek.2, v, h'.rnum k vc]; rfl
    | bool n h0 =>
      rw [wE_bool] at h ⊢
      rcases h0 with rfl | rfl
      · have h' : AtW l a ([102, 97, 108, 115, 101] :: r) := h
        have k : kw [102, 97, 108, 115, 101] = [107, 101, 121] := by decide +kernel
        have k1 : beqL (pPeek l ⟨a, false⟩).1 [105, 110, 116] = false := by rw [h'.peek.1, k]; rfl
        have i1 : pIs l ⟨a, false⟩ [116, 114, 117, 101] = false := h'.isF (by decide)
        have i2 : pIs l ⟨a, false⟩ [102, 97, 108, 115, 101] = true := h'.isT (by decide +kernel)
        simp only [rStep, k1, i1, i2, Bool.false_or, cond_true, cond_false, h'.peek.2]
        simp [beqL, truthW]
      · have h' : AtW l a ([116, 114, 117, 101] :: r) := h
        have k : kw [116, 114, 117, 101] = [107, 101, 121] := by decide +kernel
        have k1 : beqL (pPeek l ⟨a, false⟩).1 [105, 110, 116] = false := by rw [h'.peek.1, k]; rfl
        have i1 : pIs l ⟨a, false⟩ [116, 114, 117, 101] = true := h'.isT (by decide +kernel)
        simp only [rStep, k1, i1, Bool.true_or, cond_true, cond_false, h'.peek.2]
        simp [beqL, truthW]
    | var nm h0 =>
      rw [wE_var] at h hN ⊢
      obtain ⟨ok, k⟩ := name_ok h0
      rw [rstep_name (w := nm) (r := r) h k]
      have e1 : pIs l ⟨a + 1, false⟩ [91] = false := hN.1
      have e2 : rIsCall l (rG l a) ⟨a + 1, false⟩ = false := notR_call hN (by simp)
      simp only [e1, e2, cond_false]; rfl
    | un nm x h0 =>
      rw [wE_un] at h ⊢
      have h1 : AtW l (a + 1) (nm :: (wE x ++ ([41] :: r))) := by simpa using AtW.tail (w := [40]) h
      have h2 : AtW l (a + 1 + 1 + (wE x).length) ([41] :: r) := h1.tail.app
      have e := hE x (by simp [kids]) _ _ h1.tail (nf41 h2)
      obtain ⟨_, _, g⟩ := at_ne (hne x (by simp [kids])) h1.tail
      rw [← rG_at (a0 := a) g (by omega)] at e
      rw [rstep_par (r := nm :: (wE x ++ ([41] :: r))) (by simpa using h) (rin_un h1 h0 e) h2]
      exact pair_eq (by simp; omega)
    | mm nm x y h0 =>
      rw [wE_mm h0] at h ⊢
      have h1 : AtW l (a + 1) (nm :: (wE x ++ (wE y ++ ([41] :: r)))) := by simpa using AtW.tail (w := [40]) h
      have h2 : AtW l (a + 1 + 1 + (wE x).length) (wE y ++ ([41] :: r)) := h1.tail.app
      have h3 : AtW l (a + 1 + 1 + (wE x).length + (wE y).length) ([41] :: r) := h2.app
      have e := hE x (by simp [kids]) _ _ h1.tail (notR_wE (wm y (by simp [kids])) (hE2 y (by simp [kids])) h2)
      have e2 := hE y (by simp [kids]) _ _ h2 (nf41 h3)
      obtain ⟨_, _, g⟩ := at_ne (hne x (by simp [kids])) h1.tail
      obtain ⟨_, _, g2⟩ := at_ne (hne y (by simp [kids])) h2
      rw [← rG_at (a0 := a) g (by omega)] at e
      rw [← rG_at (a0 := a) g2 (by omega)] at e2
      rw [rstep_par (r := nm :: (wE x ++ (wE y ++ ([41] :: r)))) (by simpa using h) (rin_mm h1 h0 e e2) h3]
      exact pair_eq (by simp; omega)
    | bin nm x y h0 =>
      rw [wE_bin h0] at h ⊢
      obtain ⟨_, _, kn, okn, o2, _, n40, n91⟩ := bin_ne h0
      have h1 : AtW l (a + 1) (wE x ++ (nm :: (wE y ++ ([41] :: r)))) := by simpa using AtW.tail (w := [40]) h
      have h2 : AtW l (a + 1 + (wE x).length) (nm :: (wE y ++ ([41] :: r))) := h1.app
      have h3 : AtW l (a + 1 + (wE x).length + 1 + (wE y).length) ([41] :: r) := h2.tail.app
      have e := hE x (by simp [kids]) _ _ h1 (notR_w h2 n91 n40)
      have e2 := hE y (by simp [kids]) _ _ h2.tail (nf41 h3)
      obtain ⟨c, t, ew, hf⟩ := first_wE (well_head (wm x (by simp [kids]))).1
      have h1' : AtW l (a + 1) (c :: (t ++ (nm :: (wE y ++ ([41] :: r))))) := by rw [ew] at h1; simpa using h1
      obtain ⟨_, _, g2⟩ := at_ne (hne y (by simp [kids])) h2.tail
      rw [← rG_at (a0 := a) h1' (by omega)] at e
      rw [← rG_at (a0 := a) g2 (by omega)] at e2
      rw [rstep_par (r := wE x ++ (nm :: (wE y ++ ([41] :: r)))) (by simpa using h) (rin_bin h1' hf e h2.peek.2 (h2.word h0 (by rw [kn]; rfl)) e2) h3]
      exact pair_eq (by simp; omega)
    | none nm h0 =>
      rw [wE_none] at h ⊢
      have hk : (beqL (kw nm) [107, 101, 121] || beqL (kw nm) [115, 105, 103, 110]) = true := by
        have hm := hasB_mem.1 h0
        simp only [List.mem_cons, List.not_mem_nil, or_false] at hm
        rcases hm with rfl | rfl | rfl | rfl | rfl | rfl <;> decide +kernel
      have h1 := AtW.tail (w := [40]) h
      have h2 := AtW.tail h1
      have h3 := AtW.tail h2
      rw [rstep_par h (rin_none h1 (h2.word h0 hk)) h3]; rfl
    | nam d nm hd h0 =>
      rw [wE_nam hd] at h ⊢
      have h1 := AtW.tail (w := [40]) h
      have h2 := AtW.tail h1
      have h3 := AtW.tail h2
      obtain ⟨ok, k⟩ := name_ok h0
      rw [rstep_par h (rin_nam h1 hd (h2.take k)) h3]; rfl
    | num d nm n hd h0 hn0 hn1 =>
      rw [wE_num hd] at h ⊢
      have h1 := AtW.tail (w := [40]) h
      have h2 := AtW.tail h1
      have h3 := AtW.tail h2
      have h4 := AtW.tail h3
      obtain ⟨ok, k⟩ := name_ok h0
      obtain ⟨okn, kn, v, vc⟩ := num_ok hn0 (by omega : n ≤ 999999999)
      rw [rstep_par h (rin_num h1 hd (h2.take k) h3.peek.2 v (h3.rnum kn vc)) h4]; rfl
    | at_ nm l' h0 hne =>
      rw [wE_at] at h ⊢
      obtain ⟨ok, k⟩ := name_ok h0
      have h0' : AtW l a (nm :: [91] :: (commaJ (wEs l') ++ [93] :: r)) := by simpa using h
      have e1 : pIs l ⟨a + 1, false⟩ [91] = true := h0'.tail.isT (by decide +kernel)
      rw [rstep_name h0' k, e1, cond_true, rexps_ok (a0 := a) (.inl rfl) wk hE (by omega) h0'.tail.tail]
      exact pair_eq (by simp [kids]; omega)
    | oh d nm l' hd h0 hne =>
      rw [wE_oh hd] at h ⊢
      obtain ⟨ok, k⟩ := name_ok h0
      have h0' : AtW l a ([40] :: d :: nm :: [91] :: (commaJ (wEs l') ++ [93] :: [41] :: r)) := by simpa using h
      have h1 := h0'.tail
      have h2 := h1.tail
      have h3 := h2.tail
      have h4 := h3.tail
      have h5 : AtW l (a + 1 + 1 + 1 + 1 + (commaJ (wEs l')).length + 1) ([41] :: r) := h4.app.tail
      rw [rstep_par h0' (rin_oh h1 hd (h2.take k) (h3.want (by decide +kernel)) (rexps_ok (a0 := a) (.inl rfl) wk hE (by omega) h4)) h5]
      exact pair_eq (by simp [kids]; omega)
    | nth nm n x h0 hn0 hn1 =>
      rw [wE_nth] at h ⊢
      obtain ⟨ok, k⟩ := name_ok h0
      obtain ⟨okn, kn, v, vc⟩ := num_ok hn0 (by omega : n ≤ 999999999)
      have h0' : AtW l a ([40] :: [110, 116, 104] :: nm :: Go.Lib.itoa n :: (wE x ++ [41] :: r)) := by simpa using h
      have h1 := h0'.tail
      have h2 := h1.tail
      have h3 := h2.tail
      have h4 := h3.tail
      have h5 : AtW l (a + 1 + 1 + 1 + 1 + (wE x).length) ([41] :: r) := h4.app
      have ex := hE x (by simp [kids]) _ _ h4 (nf41 h5)
      obtain ⟨_, _, g⟩ := at_ne (hne x (by simp [kids])) h4
      rw [← rG_at (a0 := a) g (by omega)] at ex
      rw [rstep_par h0' (rin_nth h1 (h2.take k) h3.peek.2 v (h3.rnum kn vc) ex) h5]
      exact pair_eq (by simp; omega)
    | call nm l' h0 =>
      rw [wE_call] at h ⊢
      obtain ⟨ok, k⟩ := name_ok h0
      have h0' : AtW l a (nm :: [40] :: (commaJ (wEs l') ++ [41] :: r)) := by simpa using h
      have e1 : pIs l ⟨a + 1, false⟩ [91] = false := h0'.tail.isF (by decide)
      have e2 : rIsCall l (rG l a) ⟨a + 1, false⟩ = true := rcall_args wk hE (by omega) h0'.tail
      rw [rstep_name h0' k, e1, e2, cond_false, cond_true, rexps_ok (a0 := a) (.inr rfl) wk hE (by omega) h0'.tail.tail]
      exact pair_eq (by simp [kids]; omega)
end Go.Abs
