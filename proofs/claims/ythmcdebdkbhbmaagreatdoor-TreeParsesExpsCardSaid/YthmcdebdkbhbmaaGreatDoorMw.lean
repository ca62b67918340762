/- Tokens are what their texts say; the readers look at kinds and texts alone. -/
import Derived.Test.YthmcdebdkbhbmaaGreatDoorMv
import Derived.Test.YthmcdebdkbhbmaaGreatDoorMu
import Derived.Test.YthmcdebdkbhbmaaGreatDoorMj
import Derived.Test.YthmcdebdkbhbmaaGreatDoorMo
set_option maxRecDepth 100000
namespace Go.Abs
open Go.Proofs
theorem innN_tk : ∀ (s : S), innN (s.take (innN s)) = innN s
  | [] => rfl
  | c :: r => by
    simp only [innN]
    cases hc : innerI c.toNat with
    | true => simp only [List.take_succ_cons, innN, hc, innN_tk r]
    | false => simp [innN]
theorem digsN_tk : ∀ (s : S), digsN (s.take (digsN s)) = digsN s
  | [] => rfl
  | c :: r => by
    simp only [digsN]
    cases hc : digI c.toNat with
    | true => simp only [List.take_succ_cons, digsN, hc, digsN_tk r]
    | false => simp [digsN]
theorem sign_self : ∀ x ∈ signList, firstT x = ([115, 105, 103, 110], x, true) := by decide +kernel
theorem take_len {s : S} {n : Nat} : (s.take n).take n = s.take n := by rw [List.take_take, Nat.min_self]
/-- a token read again is the same token -/
theorem first_idem (s : S) (h : (firstT s).2.2 = true) : firstT (firstT s).2.1 = ((firstT s).1, (firstT s).2.1, true) := by
  cases hn : wordN s with
  | succ n =>
    have e : firstT s = (kindS (s.take (n + 1)), s.take (n + 1), true) := by simp only [firstT, hn]
    have hw : wordN (s.take (n + 1)) = n + 1 := by
      cases s with
      | nil => simp [wordN] at hn
      | cons c r =>
        simp only [wordN] at hn
        cases hc : smallI c.toNat with
        | false => rw [hc] at hn; simp at hn
        | true =>
          rw [hc] at hn
          simp only [Nat.add_right_cancel_iff] at hn
          subst hn
          simp only [List.take_succ_cons, wordN, hc, innN_tk]
    rw [e]
    simp only [firstT, hw, take_len]
  | zero =>
    cases hd : digN s with
    | succ n =>
      have e : firstT s = ([105, 110, 116], s.take (n + 1), decide (((n + 1 : Nat) : Int) ≤ 9)) := by simp only [firstT, hn, hd]
      rw [e] at h
      simp only at h
      cases s with
      | nil => simp [digN, preB, beqL, digsN] at hd
      | cons c r =>
        have hw : wordN ((c :: r).take (n + 1)) = 0 := by
          simp only [wordN] at hn
          cases hc : smallI c.toNat with
          | true => rw [hc] at hn; simp at hn
          | false => simp [wordN, hc]
        have hp : preB ((c :: r).take (n + 1)) [48] = preB (c :: r) [48] := by simp [preB, beqL]
        have hdd : digN ((c :: r).take (n + 1)) = n + 1 := by
          simp only [digN, hp] at hd ⊢
          cases hb : preB (c :: r) [48] with
          | true => rw [hb] at hd; exact hd
          | false =>
            rw [hb] at hd
            simp only at hd ⊢
            rw [← hd, digsN_tk]
        rw [e]
        simp only [firstT, hw, hdd, take_len, h]
    | zero =>
      cases hs : signOf s signList with
      | none => have e : firstT s = ([], [], false) := by simp only [firstT, hn, hd, hs]
                rw [e] at h; cases h
      | some x =>
        have e : firstT s = ([115, 105, 103, 110], x, true) := by simp only [firstT, hn, hd, hs]
        rw [e]
        exact sign_self x (signOf_spec hs).1
theorem toksF_can : ∀ {f a : Nat} {s : S} {l : List T}, toksF f a s = some l → Can l ∧ ∀ t ∈ l, t.2.1.length ≤ s.length
  | 0, _, _, l, h => by simp [toksF] at h; subst h; exact ⟨fun _ h => by simp at h, fun _ h => by simp at h⟩
  | f + 1, a, [], l, h => by simp [toksF] at h; subst h; exact ⟨fun _ h => by simp at h, fun _ h => by simp at h⟩
  | f + 1, a, c :: r, l, h => by
    simp only [toksF] at h
    obtain ⟨h1, h2⟩ := firstT_len (c :: r)
    cases hb : (firstT (c :: r)).2.2 with
    | false => simp [hb] at h
    | true =>
      rw [hb] at h
      simp only [cond_true] at h
      split at h
      · rename_i l' e
        obtain ⟨i1, i2⟩ := toksF_can e
        simp only [Option.some.injEq] at h
        subst h
        have id := first_idem _ hb
        refine ⟨fun t ht => ?_, fun t ht => ?_⟩
        · rcases List.mem_cons.1 ht with rfl | ht
          · exact ⟨⟨by rw [id], by rw [id]⟩, by simp only [kw, id]⟩
          · exact i1 t ht
        · rcases List.mem_cons.1 ht with rfl | ht
          · exact h1
          · have := i2 t ht
            simp only [List.length_drop] at this
            omega
      · cases h
theorem tokR_facts (s : S) : (tokR1 s).length ≤ 10000 ∧ tOK (tokR1 s) ∧ Can (tokR1 s) := by
  have nilc : ([] : List T).length ≤ 10000 ∧ tOK [] ∧ Can [] := ⟨by simp, fun _ h => by simp at h, fun _ h => by simp at h⟩
  simp only [tokR1]
  cases hd : decide ((s.length : Int) > 10000) with
  | true => exact nilc
  | false =>
    have hl : s.length ≤ 10000 := by have := of_decide_eq_false hd; omega
    simp only [cond_false]
    cases ht : tokensP s with
    | none => exact nilc
    | some l =>
      simp only [Option.getD_some]
      have hlen := toksF_len ht
      obtain ⟨c1, c2⟩ := toksF_can ht
      simp only [List.length_drop] at hlen c2
      exact ⟨by omega, fun t h => by have := c2 t h; omega, c1⟩
/-- kinds and texts are the same -/
def Agr (l m : List T) : Prop := l.map (fun t => (t.1, t.2.1)) = m.map (fun t => (t.1, t.2.1))
theorem agr_posT {l : List T} (h : Can l) : Agr l (posT 0 (txts l)) := by
  have : ∀ (ws : List S) (p : Nat), (posT p ws).map (fun t => (t.1, t.2.1)) = ws.map (fun w => (kw w, w)) := by
    intro ws
    induction ws with
    | nil => intro p; rfl
    | cons w r ih => intro p; simp only [posT, List.map_cons, ih]
  rw [Agr, this, txts, List.map_map]
  refine List.map_congr_left fun t ht => ?_
  simp only [Function.comp_apply, (h t ht).2]
section
variable {l m : List T} (h : Agr l m)
include h
theorem agr_len : l.length = m.length := by have := congrArg List.length h; simpa using this
theorem agr_peek (s : PS) : (pPeek l s).1 = (pPeek m s).1 ∧ (pPeek l s).2.1 = (pPeek m s).2.1 := by
  simp only [pPeek]
  cases s.bad with
  | true => exact ⟨rfl, rfl⟩
  | false =>
    simp only [cond_false, List.getD_eq_getElem?_getD]
    have := congrArg (fun x => x[s.a]?) h
    simp only [List.getElem?_map] at this
    cases h1 : l[s.a]? <;> cases h2 : m[s.a]? <;> rw [h1, h2] at this <;> simp at this
    · exact ⟨rfl, rfl⟩
    · exact this
theorem agr_is (s : PS) (x : S) : pIs l s x = pIs m s x := by simp only [pIs, agr_peek h s]
theorem agr_has (s : PS) (x : S) : pHas l s x = pHas m s x := by simp only [pHas, agr_is h]
theorem agr_must (s : PS) (x : S) : pMust l s x = pMust m s x := by simp only [pMust, agr_has h]
theorem agr_next (s : PS) : (pNext l s).1.1 = (pNext m s).1.1 ∧ (pNext l s).1.2.1 = (pNext m s).1.2.1 ∧ (pNext l s).2 = (pNext m s).2 := by
  obtain ⟨h1, h2⟩ := agr_peek h s
  simp only [pNext, h1]
  cases beqL (pPeek m s).1 [] <;> exact ⟨h1, h2, rfl⟩
theorem agr_name (s : PS) : pName l s = pName m s := by simp only [pName, agr_next h]
theorem agr_op (s : PS) : pOp l s = pOp m s := by simp only [pOp, agr_next h]
theorem agr_num (s : PS) : pNum l s = pNum m s := by simp only [pNum, agr_next h]
theorem agr_bin (s : PS) : pBin l s = pBin m s := by simp only [pBin, agr_next h]
theorem agr_ploop (E : PS → Exp × PS) : ∀ (f : Nat) (s : PS), pLoop l E f s = pLoop m E f s
  | 0, _ => rfl
  | f + 1, s => by simp only [pLoop, agr_has h, agr_ploop E f]
theorem agr_pexps (E : PS → Exp × PS) (x : S) (s : PS) : pExps l E x s = pExps m E x s := by simp only [pExps, agr_has h, agr_must h, agr_ploop h, agr_len h]
end
theorem agr_scan : ∀ (l m : List T), Agr l m → ∀ (i : Nat) (dp : Int), callScan i dp l = callScan i dp m
  | [], [], _, _, _ => rfl
  | [], _ :: _, h, _, _ => by simp [Agr] at h
  | _ :: _, [], h, _, _ => by simp [Agr] at h
  | t :: r, u :: v, h, i, dp => by
    simp only [Agr, List.map_cons, List.cons.injEq, Prod.mk.injEq] at h
    have ih := agr_scan r v h.2
    simp only [callScan, h.1.1, h.1.2, ih]
section
variable {l m : List T} (h : Agr l m)
include h
theorem agr_call (s : PS) : pIsCall l s = pIsCall m s := by
  have : Agr (l.drop s.a) (m.drop s.a) := by have h : l.map (fun t => (t.1, t.2.1)) = m.map (fun t => (t.1, t.2.1)) := h; simp only [Agr, List.map_drop, h]
  simp only [pIsCall, agr_is h, agr_scan _ _ this]
theorem agr_inner (E : PS → Exp × PS) (s : PS) : pInner l E s = pInner m E s := by simp only [pInner, agr_peek h, agr_op h, agr_name h, agr_num h, agr_must h, agr_pexps h, agr_bin h, agr_next h]
theorem agr_pstep (E : PS → Exp × PS) (s : PS) : pStep l E s = pStep m E s := by simp only [pStep, agr_next h, agr_has h, agr_call h, agr_must h, agr_pexps h, agr_inner h]
theorem agr_pExp : ∀ (n : Nat) (s : PS), pExp l n s = pExp m n s
  | 0, _ => rfl
  | n + 1, s => by
    have : pExp l n = pExp m n := funext fun s => agr_pExp n s
    simp only [pExp, this, agr_pstep h]
theorem agr_take (s : PS) (k : S) : rTake l s k = rTake m s k := by simp only [rTake, agr_peek h]
theorem agr_want (s : PS) (x : S) : rWant l s x = rWant m s x := by simp only [rWant, agr_is h]
theorem agr_rnum (s : PS) : rNum l s = rNum m s := by simp only [rNum, agr_peek h]
theorem agr_word (s : PS) (L : List S) : rWord l s L = rWord m s L := by simp only [rWord, agr_peek h]
theorem agr_rloop (E : PS → Exp × PS) : ∀ (f : Nat) (s : PS), rLoop l E f s = rLoop m E f s
  | 0, _ => rfl
  | f + 1, s => by simp only [rLoop, agr_is h, agr_rloop E f]
theorem agr_rexps (E : PS → Exp × PS) (x : S) (s : PS) : rExps l E x s = rExps m E x s := by simp only [rExps, agr_is h, agr_want h, agr_rloop h, agr_len h]
theorem agr_rcall (E : PS → Exp × PS) (s : PS) : rIsCall l E s = rIsCall m E s := by simp only [rIsCall, agr_is h]
theorem agr_rinside (E : PS → Exp × PS) (s : PS) : rInside l E s = rInside m E s := by simp only [rInside, agr_peek h, agr_word h, agr_take h, agr_rnum h, agr_want h, agr_rexps h]
theorem agr_rstep (E : PS → Exp × PS) (s : PS) : rStep l E s = rStep m E s := by simp only [rStep, agr_peek h, agr_is h, agr_rnum h, agr_rexps h, agr_rcall h, agr_want h, agr_rinside h]
theorem agr_rE : ∀ (n : Nat) (s : PS), l.length - s.a < n → rE l s = rE m s
  | 0, _, hn => absurd hn (Nat.not_lt_zero _)
  | n + 1, s, hn => by
    have hl := agr_len h
    by_cases hs : s.bad = false ∧ s.a ≤ l.length
    · rw [rE_eq l s hs.1 hs.2, rE_eq m s hs.1 (hl ▸ hs.2), agr_rstep h]
      have : rG l s.a = rG m s.a := funext fun s' => by
        simp only [rG, ← hl]
        split
        · exact agr_rE n s' (by omega)
        · rfl
      rw [this]
    · rw [rE, dif_neg hs, rE, dif_neg (by rw [← hl]; exact hs)]
end
end Go.Abs

set_option maxRecDepth 100000
namespace Go.Abs
open Go.Proofs
/-- read to the end, without fault, and well made -/
def Good (l : List T) (q : Exp × PS) : Prop := q.2.bad = false ∧ q.2.a = l.length ∧ wellE q.1 = true
theorem prC_bad {l : List T} {q : Exp × PS} (h : ¬ Good l q) : prC l q = 20 := by
  obtain ⟨x, a, b⟩ := q
  simp only [Good] at h
  simp only [prC, endC]
  have : ((b || !decide (((a : Nat) : Int) = ((l.length : Nat) : Int))) || !wellE x) = true := by
    cases b with
    | true => rfl
    | false =>
      cases hw : wellE x with
      | false => simp
      | true =>
        have : ¬ a = l.length := fun e => h ⟨rfl, e, hw⟩
        have h2 : ¬ ((a : Int) = (l.length : Int)) := by omega
        simp [h2]
  rw [this]; rfl
theorem words_of {l : List T} {q : Exp × PS} (h : Good l q) (hw : W l ⟨0, false⟩ (wE q.1) q.2) : txts l = wE q.1 ∧ (wE q.1).length = l.length := by
  have w := hw h.1
  have e := w.t
  have hl : l.length ≤ q.2.a := by rw [h.2.1]; exact Nat.le_refl _
  rw [List.drop_zero, List.drop_eq_nil_iff.2 (by simp only [txts, List.length_map]; exact hl), List.append_nil] at e
  exact ⟨e, by rw [← e]; simp [txts]⟩
theorem same_read {l : List T} (hc : Can l) (n : Nat) (hn : cE (rE l ⟨0, false⟩).1 < n) : prC l (pExp l n ⟨0, false⟩) = prC l (rE l ⟨0, false⟩) ∧ prX l (pExp l n ⟨0, false⟩) = prX l (rE l ⟨0, false⟩) := by
  have hA := agr_posT hc
  have at0 : ∀ {x : Exp}, txts l = wE x → AtW (posT 0 (txts l)) 0 (wE x ++ []) := fun e => ⟨0, by rw [e]; simp⟩
  by_cases hp : Good l (pExp l n ⟨0, false⟩)
  · obtain ⟨w1, w2⟩ := words_of hp (w_pExp hc n _)
    have h0 := at0 w1
    have hr := rE_ok (l := posT 0 (txts l)) _ _ hp.2.2 (Nat.lt_succ_self _) 0 [] h0 (notR_end h0.app)
    rw [← agr_rE hA _ ⟨0, false⟩ (Nat.lt_succ_self _), w2] at hr
    have e : rE l ⟨0, false⟩ = pExp l n ⟨0, false⟩ := by
      rw [hr]
      refine Prod.ext rfl ?_
      have h1 := hp.1; have h2 := hp.2.1
      generalize (pExp l n ⟨0, false⟩).2 = s at h1 h2 ⊢
      obtain ⟨a, b⟩ := s
      simp only at h1 h2
      subst h1; subst h2
      simp
    rw [e]; exact ⟨rfl, rfl⟩
  · by_cases hr : Good l (rE l ⟨0, false⟩)
    · exfalso
      obtain ⟨w1, w2⟩ := words_of hr (w_rE' l _)
      have h0 := at0 w1
      have hh := pExp_ok (posT 0 (txts l)) n _ hr.2.2 hn 0 [] h0 (notF_end h0.app)
      rw [← agr_pExp hA, w2] at hh
      exact hp ⟨by rw [hh], by rw [hh]; simp, by rw [hh]; exact hr.2.2⟩
    · have e1 := prC_bad hp
      have e2 := prC_bad hr
      refine ⟨by rw [e1, e2], ?_⟩
      simp only [prX, e1, e2]; rfl
theorem good_words {l : List T} {q : Exp × PS} (hw : W l ⟨0, false⟩ (wE q.1) q.2) (h : prC l q = 0) : prX l q = q.1 ∧ validE q.1 = true ∧ txts l = wE q.1 := by
  by_cases hg : Good l q
  · refine ⟨by simp [prX, h], ?_, (words_of hg hw).1⟩
    obtain ⟨g1, g2, g3⟩ := hg
    simp only [prC, endC, g1, g2, g3, decide_true, Bool.not_true, Bool.or_self, cond_false] at h
    cases hv : (decide (nE q.1 ≤ 1500) && decide (dpE q.1 ≤ 60)) with
    | true => simp only [validE, hv, g3, Bool.and_self]
    | false => rw [hv] at h; cases h
  · rw [prC_bad hg] at h; cases h
end Go.Abs

set_option maxRecDepth 100000
namespace Go.Abs
open Go.Proofs
theorem vT_can {w : S} (h : okW w) : vT (kw w) w = true := by
  have h0 := h
  obtain ⟨h1, h2⟩ := h
  have hval : ∀ {k : S}, kw w = k → validT k w = true := fun {k} e => by
    have e' : (firstT w).1 = k := e
    simp [validT, h1, h2, e', beqL]
  have nm : kw w = [110, 97, 109, 101] → vT (kw w) w = true := fun e => by
    have := hval e
    rw [e]
    have : nameR w = true := by rw [nameR_eq]; exact this
    simp [vT, beqL, this]
  have it : kw w = [105, 110, 116] → vT (kw w) w = true := fun e => by
    have := hval e
    rw [e]
    simp [vT, beqL, numC, this]
  cases hn : wordN w with
  | succ n =>
    have e : firstT w = (kindS (w.take (n + 1)), w.take (n + 1), true) := by simp only [firstT, hn]
    have ht : w.take (n + 1) = w := by rw [e] at h2; exact h2
    rw [ht] at e
    have ek : kw w = kindS w := by simp only [kw, e]
    cases hb : hasB w keyList with
    | true =>
      have : kw w = [107, 101, 121] := by rw [ek, kindS, hb]
      rw [this]; simp [vT, beqL, hb]
    | false => exact nm (by rw [ek, kindS, hb])
  | zero =>
    cases hd : digN w with
    | succ n => exact it (by simp only [kw, firstT, hn, hd])
    | zero =>
      cases hs : signOf w signList with
      | none => simp [firstT, hn, hd, hs] at h1
      | some x =>
        have e : firstT w = ([115, 105, 103, 110], x, true) := by simp only [firstT, hn, hd, hs]
        have hx : x = w := by rw [e] at h2; exact h2
        have : kw w = [115, 105, 103, 110] := by simp only [kw, e]
        rw [this]
        have hm : hasB w signList = true := hasB_mem.2 (hx ▸ (signOf_spec hs).1)
        simp [vT, beqL, hm]
def F8 : Fn := ⟨.seq (.reg [⟨none, .mv 2 (.c (.sc (.b false)))⟩]) (.seq (.reg [⟨none, .mv 14 (.t 0)⟩, ⟨none, .call (some 15) (.c (.fn 28 [])) [.t 14]⟩, ⟨none, .mv 13 (.t 15)⟩, ⟨none, .ext 16 (.t 13) 0⟩, ⟨none, .ext 17 (.t 13) 1⟩, ⟨none, .alloc 3 [.sc (.s []), .sc (.s []), .sc (.i .i64 0), .sl 4 [] .full]⟩, ⟨none, .st (.t 3) 4 (.t 16)⟩, ⟨none, .mv 4 (.t 17)⟩]) (.seq (.reg [⟨none, .mv 19 (.t 0)⟩, ⟨none, .call (some 20) (.c (.fn 29 [])) [.t 19]⟩, ⟨none, .mv 18 (.t 20)⟩, ⟨none, .ext 21 (.t 18) 0⟩, ⟨none, .ext 22 (.t 18) 1⟩, ⟨none, .alloc 5 [.sc (.s []), .sc (.s []), .sc (.i .i64 0), .sl 4 [] .full]⟩, ⟨none, .st (.t 5) 4 (.t 21)⟩, ⟨none, .mv 6 (.t 22)⟩]) (.seq (.seq (.reg [⟨none, .mv 23 (.t 4)⟩, ⟨none, .mv 24 (.t 6)⟩, ⟨none, .bin 25 .neq (.t 23) (.t 24)⟩, ⟨none, .mv 26 (.t 25)⟩, ⟨some ((26, false)), .ld 27 4 true (.t 3)⟩, ⟨some ((26, false)), .ld 28 4 true (.t 5)⟩, ⟨some ((26, false)), .call (some 29) (.c (.fn 12 [])) [.t 27, .t 28]⟩, ⟨some ((26, false)), .no 30 (.t 29)⟩, ⟨none, .pick 31 (.t 26) (.c (.sc (.b true))) (.t 30)⟩]) (.cond (.t 31) (.seq (.reg [⟨none, .mv 2 (.c (.sc (.b false)))⟩]) .ret) .skip)) (.seq (.seq (.reg [⟨none, .mv 32 (.t 4)⟩, ⟨none, .bin 33 .neq (.t 32) (.c (.sc (.i .i64 0)))⟩]) (.cond (.t 33) (.seq (.reg [⟨none, .call (some 34) (.c (.fn 13 [])) []⟩, ⟨none, .mv 2 (.t 34)⟩]) .ret) .skip)) (.seq (.reg [⟨none, .mv 36 (.t 0)⟩, ⟨none, .call (some 37) (.c (.fn 22 [])) [.t 36]⟩, ⟨none, .mv 35 (.t 37)⟩, ⟨none, .ext 38 (.t 35) 0⟩, ⟨none, .ext 39 (.t 35) 1⟩, ⟨none, .mv 7 (.t 38)⟩, ⟨none, .mv 8 (.t 39)⟩]) (.seq (.reg [⟨none, .mv 41 (.t 7)⟩, ⟨none, .call (some 42) (.c (.fn 23 [])) [.t 41]⟩, ⟨none, .mv 40 (.t 42)⟩, ⟨none, .ext 43 (.t 40) 0⟩, ⟨none, .ext 44 (.t 40) 1⟩, ⟨none, .mv 9 (.t 43)⟩, ⟨none, .mv 10 (.t 44)⟩]) (.seq (.reg [⟨none, .ld 46 4 true (.t 3)⟩, ⟨none, .call (some 47) (.c (.fn 24 [])) [.t 46]⟩, ⟨none, .mv 45 (.t 47)⟩, ⟨none, .ext 48 (.t 45) 0⟩, ⟨none, .ext 49 (.t 45) 1⟩, ⟨none, .mv 11 (.t 48)⟩, ⟨none, .mv 12 (.t 49)⟩]) (.seq (.reg [⟨none, .mv 50 (.t 9)⟩, ⟨none, .mv 51 (.t 11)⟩, ⟨none, .bin 52 .eql (.t 50) (.t 51)⟩, ⟨none, .mv 53 (.t 52)⟩, ⟨some ((53, true)), .mv 54 (.t 10)⟩, ⟨some ((53, true)), .bin 55 .eql (.t 54) (.c (.sc (.i .i64 0)))⟩, ⟨none, .pick 56 (.t 53) (.t 55) (.c (.sc (.b false)))⟩, ⟨none, .mv 57 (.t 56)⟩, ⟨some ((57, true)), .mv 58 (.t 12)⟩, ⟨some ((57, true)), .bin 59 .eql (.t 58) (.c (.sc (.i .i64 0)))⟩, ⟨none, .pick 60 (.t 57) (.t 59) (.c (.sc (.b false)))⟩, ⟨none, .mv 61 (.t 60)⟩, ⟨some ((61, true)), .call (some 62) (.c (.fn 13 [])) []⟩, ⟨none, .pick 63 (.t 61) (.t 62) (.c (.sc (.b false)))⟩, ⟨none, .mv 2 (.t 63)⟩]) .ret)))))))), [(2, 0)], 64⟩
theorem F8_ok : compT Tryz.prog (fun _ => an0) 8 = some F8 := by kernel_rfl
set_option maxHeartbeats 4000000 in
theorem b8_bad (W0 : Go.World) (htab : Go.Lib.TabIs Tryz.prog W0 "strings.asciiSpace" .u8 Go.Lib.asciiSpaceTab) (s : S) (e : Int) (he : ¬ e = 0)
    (h28 : Ctr Tryz.prog W0 28 [.sc (.s s)] [] (txtX ex0 e) []) (h29 : Ctr Tryz.prog W0 29 [.sc (.s s)] [] (txtX ex0 e) []) (h12 : Ctr Tryz.prog W0 12 [eE ex0, eE ex0] [] (.sc (.b true)) []) :
    Body (Ctr Tryz.prog W0) F8.ac F8.rs [.sc (.s s)] [] (.sc (.b true)) [] := by
  have h13 := c13 W0 htab
  repeat' ((conv => whnf); (first | with_reducible refine brec (fun hq => ?_) (fun hq => ?_) | refine callP.pure _ h28 ⟨rfl, rfl⟩ ?_ | refine callP.pure _ h29 ⟨rfl, rfl⟩ ?_ | refine callP.pure _ h12 ⟨rfl, rfl⟩ ?_ | refine callP.pure _ h13 ⟨rfl, rfl⟩ ?_ | fail))
  all_goals (conv => whnf)
  all_goals (first | exact fin_b rfl | (exfalso; simp_all [beqL]; done) | (exfalso; simp [beqL] at hq; done))
set_option maxHeartbeats 4000000 in
theorem b8_good (W0 : Go.World) (htab : Go.Lib.TabIs Tryz.prog W0 "strings.asciiSpace" .u8 Go.Lib.asciiSpaceTab) (s j : S) (x : Exp) (l : List T)
    (h28 : Ctr Tryz.prog W0 28 [.sc (.s s)] [] (txtX x 0) []) (h29 : Ctr Tryz.prog W0 29 [.sc (.s s)] [] (txtX x 0) []) (h12 : Ctr Tryz.prog W0 12 [eE x, eE x] [] (.sc (.b true)) [])
    (h22 : Ctr Tryz.prog W0 22 [.sc (.s s)] [] (toksA l 0) []) (h23 : Ctr Tryz.prog W0 23 [.sl 3 (toksD l) .none] [] (.tup [.sc (.s j), .sc (.i .i64 0)]) []) (h24 : Ctr Tryz.prog W0 24 [eE x] [] (txtA j 0) []) :
    Body (Ctr Tryz.prog W0) F8.ac F8.rs [.sc (.s s)] [] (.sc (.b true)) [] := by
  have h13 := c13 W0 htab
  obtain ⟨a, b, n, xs⟩ := x
  repeat' ((conv => whnf); (first | with_reducible refine brec (fun hq => ?_) (fun hq => ?_) | refine callP.pure _ h28 ⟨rfl, rfl⟩ ?_ | refine callP.pure _ h29 ⟨rfl, rfl⟩ ?_ | refine callP.pure _ h12 ⟨rfl, rfl⟩ ?_ | refine callP.pure _ h22 ⟨rfl, rfl⟩ ?_ | refine callP.pure _ h23 ⟨rfl, rfl⟩ ?_ | refine callP.pure _ h24 ⟨rfl, rfl⟩ ?_ | refine callP.pure _ h13 ⟨rfl, rfl⟩ ?_ | fail))
  all_goals (conv => whnf)
  all_goals (first | exact fin_b rfl | (exfalso; simp_all [beqL]; done) | (exfalso; simp [beqL] at hq; done))
theorem c8 (W0 : Go.World) (hk : Wk W0) (s : S) (hl : s.length ≤ 140737488355328) : Ctr Tryz.prog W0 8 [.sc (.s s)] [] (.sc (.b true)) [] := by
  obtain ⟨t1, t2, t3⟩ := tokR_facts s
  have htab := hk.sp
  obtain ⟨e1, e2⟩ := same_read t3 (cE (rE (tokR1 s) ⟨0, false⟩).1 + (tokR1 s).length + 1) (by omega)
  have h28 := c28g W0 hk s hl (cE (rE (tokR1 s) ⟨0, false⟩).1 + (tokR1 s).length + 1) (by omega) (by omega) t2
  have h29 := c29 W0 hk s hl (by omega) t2
  have p1 : paC s (pExp (tokR1 s) (cE (rE (tokR1 s) ⟨0, false⟩).1 + (tokR1 s).length + 1) ⟨0, false⟩) = paC s (rE (tokR1 s) ⟨0, false⟩) := by simp only [paC, e1]
  have p2 : paX s (pExp (tokR1 s) (cE (rE (tokR1 s) ⟨0, false⟩).1 + (tokR1 s).length + 1) ⟨0, false⟩) = paX s (rE (tokR1 s) ⟨0, false⟩) := by simp only [paX, e2]
  rw [p1, p2] at h28
  refine ctr_body follows F8_ok rfl (fun _ _ h => by cases h) rfl (by rfl) ?_
  by_cases hz : paC s (rE (tokR1 s) ⟨0, false⟩) = 0
  · have hr : tokR2 s = 0 := by
      by_cases hr : tokR2 s = 0
      · exact hr
      · simp [paC, hr] at hz
    have hz' : prC (tokR1 s) (rE (tokR1 s) ⟨0, false⟩) = 0 := by simpa [paC, hr] using hz
    obtain ⟨g1, g2, g3⟩ := good_words (w_rE' (tokR1 s) _) hz'
    have hx : paX s (rE (tokR1 s) ⟨0, false⟩) = (rE (tokR1 s) ⟨0, false⟩).1 := by simp [paX, hr, g1]
    rw [hz, hx] at h28 h29
    have sz := sz_rE (tokR1 s) t2 _ ⟨0, false⟩ (Nat.lt_succ_self _)
    have hv := g2
    simp only [validE, Bool.and_eq_true, decide_eq_true_eq] at hv
    have ok := ok_smE _ sz.sm (by omega)
    have h12 := c12 W0 _ _ ok ok
    rw [sameE_refl] at h12
    have hjl : (Go.Lib.join (wE (rE (tokR1 s) ⟨0, false⟩).1) [32]).length ≤ 140737488355328 := by
      have hs : Sm 10000 (txts (tokR1 s)) := fun w hw => by
        obtain ⟨t, ht, rfl⟩ := List.mem_map.1 hw
        exact t2 t ht
      have h1 := join_sm _ hs
      have h3 : (txts (tokR1 s)).length * (10000 + 1) ≤ 10000 * 10001 := Nat.mul_le_mul (by simpa [txts] using t1) (by omega)
      rw [← g3]
      omega
    have h24 := c24 W0 hk _ ok (by have := nE_cE (rE (tokR1 s) ⟨0, false⟩).1; omega) hjl
    have h22 := c22 W0 s hl
    have h23 := c23 W0 (tokR1 s) (by omega) (fun t ht => by have := t3 t ht; rw [this.2]; exact vT_can this.1) (by rw [g3]; exact hjl)
    rw [hr] at h22
    simp only [fmtT, fmtC, g2, cond_true] at h24
    rw [g3] at h23
    exact b8_good W0 htab s _ _ _ h28 h29 h12 h22 h23 h24
  · have hx : paX s (rE (tokR1 s) ⟨0, false⟩) = ex0 := by
      by_cases hr : tokR2 s = 0
      · have hz' : ¬ prC (tokR1 s) (rE (tokR1 s) ⟨0, false⟩) = 0 := by simpa [paC, hr] using hz
        simp [paX, hr, prX, hz']
      · simp [paX, hr]
    rw [hx] at h28 h29
    have ok : ex0.ok := ⟨⟨by decide, by decide, by constructor <;> decide⟩, by decide, trivial⟩
    have h12 := c12 W0 _ _ ok ok
    rw [sameE_refl] at h12
    exact b8_bad W0 htab s _ hz h28 h29 h12
end Go.Abs
