/- Expressions with commas between them: the closure, commas, exps. -/
import Derived.Test.YthmcdebdkbhbmaaGreatDoorMk
import Derived.Test.YthmcdebdkbhbmaaGreatDoorC4
set_option maxRecDepth 100000
namespace Go.Abs
open Go.Proofs
def an189 : Ann := { opn := [7], gl := fun _ => none, frz := fun _ => [7] }
def F189 : Fn := ⟨.seq (.regD [⟨none, .ld 2 1 false (.t 0)⟩, ⟨none, .ld 3 1 false (.t 1)⟩, ⟨none, .call (some 4) (.c (.fn 73 [])) [.t 3]⟩, ⟨none, .len 5 (.t 2)⟩, ⟨none, .bsl 6 4 [.c (.agg [.sc (.s []), .sc (.s []), .sc (.i .i64 0), .sl 4 [] .full])]⟩, ⟨none, .appM 7 4 64 (.t 2) (.t 6)⟩, ⟨none, .ia 8 4 (.t 7) (.t 5)⟩, ⟨none, .st (.t 8) 4 (.t 4)⟩, ⟨none, .st (.t 0) 1 (.t 7)⟩] [0, 0, 2, 1, 0, 31, 63, 127, 63]) (.frz 7), [], 9⟩
theorem F189_ok : compT Tryz.prog (fun _ => an189) 189 = some F189 := by kernel_rfl
def F111 : Fn := ⟨.seq (.seq (.reg [⟨none, .mv 7 (.t 0)⟩, ⟨none, .mv 8 (.t 1)⟩, ⟨none, .call (some 9) (.c (.fn 142 [])) [.t 7, .t 8]⟩]) (.cond (.t 9) .ret .skip)) (.seq (.seq (.reg [⟨none, .mv 6 (.c (.sc (.b true)))⟩]) (.block 0 (.loop (.seq (.seq (.reg [⟨none, .mv 10 (.t 6)⟩, ⟨none, .mv 11 (.t 10)⟩, ⟨some (11, true), .mv 12 (.t 0)⟩, ⟨some (11, true), .nc 13 (.t 12)⟩, ⟨some (11, true), .fa 14 (.t 13) 2⟩, ⟨some (11, true), .ld 15 1 false (.t 14)⟩, ⟨some (11, true), .no 16 (.t 15)⟩, ⟨none, .pick 17 (.t 11) (.t 16) (.c (.sc (.b false)))⟩]) (.cond (.t 17) .skip (.exit 0))) (.seq (.block 1 (.reg [⟨none, .mv 20 (.t 2)⟩, ⟨none, .call (some 21) (.t 20) []⟩])) (.reg [⟨none, .mv 18 (.t 0)⟩, ⟨none, .call (some 19) (.c (.fn 142 [])) [.t 18, .c (.sc (.s [44]))]⟩, ⟨none, .mv 6 (.t 19)⟩])))))) (.reg [⟨none, .mv 22 (.t 0)⟩, ⟨none, .mv 23 (.t 1)⟩, ⟨none, .call (some 24) (.c (.fn 109 [])) [.t 22, .t 23]⟩])), [], 25⟩
def F143 : Fn := ⟨.seq (.reg [⟨none, .box 2 (.t 0)⟩, ⟨none, .mv 4 (.c (.sl 4 [] .full))⟩]) (.seq (.reg [⟨none, .alloc 5 [.sl 4 [] .full]⟩]) (.seq (.reg [⟨none, .ld 6 1 false (.t 2)⟩, ⟨none, .mv 7 (.t 1)⟩, ⟨none, .mkf 8 189 [.t 5, .t 2]⟩, ⟨none, .call (some 9) (.c (.fn 111 [])) [.t 6, .t 7, .t 8]⟩]) (.seq (.reg [⟨none, .ld 10 1 false (.t 5)⟩, ⟨none, .mv 4 (.t 10)⟩]) .ret))), [(4, 0)], 11⟩
theorem F111_ok : compT Tryz.prog (fun _ => an0) 111 = some F111 := by kernel_rfl
theorem F143_ok : compT Tryz.prog (fun _ => an0) 143 = some F143 := by kernel_rfl
theorem expsD_append (a b : List Exp) : expsD (a ++ b) = expsD a ++ expsD b := by simp [expsD_map]
def obx (xs : List Exp) (t : Tok) : List AV := [.sl 4 (expsD xs) t]
set_option maxHeartbeats 8000000 in
theorem b189 (W0 : Go.World) (l : List T) (s s' : PS) (acc : List Exp) (xa xb : S) (xn : Int) (xl : List Exp) (ha : acc.length ≤ 1099511627776)
    (h : Ctr Tryz.prog W0 73 [.ptr 0 0] [pbx l s] (eE (.mk xa xb xn xl)) [pbx l s']) :
    Body (Ctr Tryz.prog W0) F189.ac F189.rs [.ptr 0 0, .ptr 1 0] [obx acc (.t 0), [.ptr 2 0], pbx l s] (.tup []) [obx (acc ++ [.mk xa xb xn xl]) (.t 1), [.ptr 2 0], pbx l s'] := by
  conv => whnf
  refine callP.full [2] [] [.ptr 0 0] [pbx l s] [pbx l s'] _ h ⟨rfl, rfl, rfl, rfl, rfl, rfl, rfl, rfl, rfl, rfl, ⟨rfl, trivial⟩, ⟨⟨⟨rfl, rfl, .inr rfl⟩, rfl, rfl, trivial⟩, trivial⟩, trivial⟩ ?_
  conv => whnf
  refine And.intro ⟨by simp, by rw [expsD_length]; constructor <;> (simp only [List.length_cons, List.length_nil]; omega)⟩ ?_
  conv => whnf
  refine And.intro ⟨by simp only [expsD_length]; omega, by simp, by simp⟩ ?_
  conv => whnf
  have e0 : ((((expsD acc).length : Nat) : Int).toNat - (expsD acc).length) * 4 = 0 := by simp
  rw [e0]
  conv => whnf
  refine ⟨[(Exp.mk xa xb xn xl).d], ⟨rfl, rfl, by simp [Exp.d]⟩, ?_⟩
  conv => whnf
  have e1 : expsD (acc ++ [.mk xa xb xn xl]) = expsD acc ++ [(Exp.mk xa xb xn xl).d] := by rw [expsD_append]; rfl
  exact ⟨⟨[], [1501], ⟨rfl, rfl, rfl, rfl⟩, trivial, ⟨⟨⟨rfl, e1.symm, .inr rfl⟩, trivial⟩, ⟨rfl, trivial⟩, ⟨⟨rfl, rfl, .inr rfl⟩, rfl, rfl, trivial⟩, trivial⟩, ⟨trivial, trivial⟩⟩⟩
theorem c189 (W0 : Go.World) (l : List T) (s s' : PS) (acc : List Exp) (xa xb : S) (xn : Int) (xl : List Exp) (ha : acc.length ≤ 1099511627776)
    (h : Ctr Tryz.prog W0 73 [.ptr 0 0] [pbx l s] (eE (.mk xa xb xn xl)) [pbx l s']) :
    Ctr Tryz.prog W0 189 [.ptr 0 0, .ptr 1 0] [obx acc (.t 0), [.ptr 2 0], pbx l s] (.tup []) [obx (acc ++ [.mk xa xb xn xl]) (.t 1), [.ptr 2 0], pbx l s'] :=
  ctr_body (an := an189) (an' := fun _ => an189) follows F189_ok rfl (fun _ _ h => by cases h) rfl rfl (b189 W0 l s s' acc xa xb xn xl ha h)
/-- things with commas between them, from the first one on -/
def pLoop (l : List T) (E : PS → Exp × PS) : Nat → PS → List Exp × PS
  | 0, s => ([], s)
  | f + 1, s => bif (pHas l (E s).2 [44]).1 then ((E s).1 :: (pLoop l E f (pHas l (E s).2 [44]).2).1, (pLoop l E f (pHas l (E s).2 [44]).2).2)
    else ([(E s).1], (pHas l (E s).2 [44]).2)
def pExps (l : List T) (E : PS → Exp × PS) (x : S) (s : PS) : List Exp × PS :=
  bif (pHas l s x).1 then ([], (pHas l s x).2) else bif s.bad then ([], pMust l s x) else ((pLoop l E (l.length + 2) s).1, pMust l (pLoop l E (l.length + 2) s).2 x)
theorem pHas_t {l : List T} {s : PS} {x : S} (h : (pHas l s x).1 = true) : s.a < l.length ∧ s.bad = false ∧ (pHas l s x).2 = ⟨s.a + 1, false⟩ := by
  simp only [pHas] at h ⊢
  cases hi : pIs l s x with
  | true => have := pIs_lt hi; simp [this]
  | false => rw [hi] at h; simp at h
theorem pHas_f {l : List T} {s : PS} {x : S} (h : (pHas l s x).1 = false) : (pHas l s x).2 = s := by
  simp only [pHas] at h ⊢
  cases hi : pIs l s x with
  | true => rw [hi] at h; simp at h
  | false => rfl
set_option maxHeartbeats 16000000 in
theorem b111 (W0 : Go.World) (l : List T) (E : PS → Exp × PS) (x : S) (s : PS) (hl : l.length ≤ 549755813888) (hs : s.a ≤ l.length)
    (hE : ∀ s', s.a ≤ s'.a → s'.a ≤ l.length → Ctr Tryz.prog W0 73 [.ptr 0 0] [pbx l s'] (eE (E s').1) [pbx l (E s').2])
    (hle : ∀ s', s'.a ≤ l.length → s'.a ≤ (E s').2.a ∧ (E s').2.a ≤ l.length) :
    Body (Ctr Tryz.prog W0) F111.ac F111.rs [.ptr 0 0, .sc (.s x), .fn 189 [.ptr 1 0, .ptr 2 0]] [pbx l s, obx [] .full, [.ptr 0 0]] (.tup []) [pbx l (pExps l E x s).2, obx (pExps l E x s).1 .none, [.ptr 0 0]] := by
  conv => whnf
  (refine callP.full [0] [] [.ptr 0 0, .sc (.s x)] [pbx l _] [pbx l _] _ (c142 W0 l s x (Nat.le_trans hl (by decide)) hs) ⟨rfl, rfl, rfl, rfl, rfl, rfl, rfl, rfl, rfl, rfl, ⟨rfl, rfl, trivial⟩, ⟨⟨⟨rfl, rfl, .inr rfl⟩, rfl, rfl, trivial⟩, trivial⟩, trivial⟩ ?_)
  conv => whnf
  refine brec (fun h0 => ?_) (fun h0 => ?_)
  · have e0 := pHas_f h0
    rw [e0]
    conv => whnf
    refine .st (α := Bool × PS × List Exp × Nat) 10000 (fun a => bif a.1 then l.length + 2 - a.2.1.a else 0) (fun a => [(.s 0, .av (.ptr 0 0)), (.s 1, .av (.sc (.s x))), (.s 2, .av (.fn 189 [.ptr 1 0, .ptr 2 0])), (.s 6, .av (.sc (.b a.1))), (.b 0, .bx (pbx l a.2.1)), (.b 1, .bx (obx a.2.2.1 (.t 9000))), (.b 2, .bx [.ptr 0 0]), (.t 9000, .tk true)])
      (fun a => s.a ≤ a.2.1.a ∧ a.2.1.a ≤ l.length ∧ a.2.2.1.length ≤ a.2.1.a + 1 ∧ (a.1 = true → s.bad = false → a.2.1.bad = false ∧ a.2.2.1.length ≤ a.2.1.a ∧ l.length < a.2.1.a + a.2.2.2 ∧ pLoop l E (l.length + 2) s = (a.2.2.1 ++ (pLoop l E a.2.2.2 a.2.1).1, (pLoop l E a.2.2.2 a.2.1).2)) ∧ (a.1 = false → pLoop l E (l.length + 2) s = (a.2.2.1, a.2.1) ∧ s.bad = false) ∧ (s.bad = true → a.1 = true ∧ a.2.1 = s ∧ a.2.2.1 = []))
      (true, s, [], l.length + 2) ?_ ⟨Nat.le_refl _, hs, by simp, fun _ hb => ⟨hb, by simp, by simp only; omega, by simp⟩, fun h => by simp at h, fun _ => ⟨rfl, rfl, rfl⟩⟩ ?_
    · (refine le_of rfl rfl ?_; repeat' (first | exact rfl | exact trivial | refine ⟨?_, ?_⟩))
    · rintro ⟨again, ⟨a, bad⟩, acc, f⟩ ⟨i1, i2, i3, i4, i5, i6⟩
      simp only at i1 i2 i3 i4 i5 i6
      conv => whnf
      refine brec (fun h1 => ?_) (fun h1 => ?_)
      · have h1 : again = false := h1
        subst h1
        obtain ⟨j1, j2⟩ := i5 rfl
        have ep : pExps l E x s = (acc, pMust l ⟨a, bad⟩ x) := by simp [pExps, h0, j2, j1]
        rw [ep]
        (refine callP.full [0] [] [.ptr 0 0, .sc (.s x)] [pbx l _] [pbx l _] _ (c109 W0 l ⟨a, bad⟩ x (Nat.le_trans hl (by decide)) i2) ⟨rfl, rfl, rfl, rfl, rfl, rfl, rfl, rfl, rfl, rfl, ⟨rfl, rfl, trivial⟩, ⟨⟨⟨rfl, rfl, .inr rfl⟩, rfl, rfl, trivial⟩, trivial⟩, trivial⟩ ?_)
        conv => whnf
        exact ⟨⟨[], [], ⟨rfl, rfl, rfl, rfl⟩, trivial, ⟨⟨⟨rfl, rfl, .inl rfl⟩, rfl, rfl, trivial⟩, ⟨⟨rfl, rfl, .inl rfl⟩, trivial⟩, ⟨rfl, trivial⟩, trivial⟩, trivial⟩⟩
      · have h1 : again = true := h1
        subst h1
        refine brec (fun h2 => ?_) (fun h2 => ?_)
        · have h2 : (!bad) = false := h2
          rw [Bool.not_eq_false'] at h2
          subst h2
          have hb : s.bad = true := by
            cases hb : s.bad with
            | true => rfl
            | false => have := (i4 rfl hb).1; cases this
          obtain ⟨_, j2, j3⟩ := i6 hb
          subst j3
          subst j2
          have ep : pExps l E x ⟨a, true⟩ = ([], pMust l ⟨a, true⟩ x) := by simp [pExps, h0]
          rw [ep]
          conv => whnf
          (refine callP.full [0] [] [.ptr 0 0, .sc (.s x)] [pbx l _] [pbx l _] _ (c109 W0 l ⟨a, true⟩ x (Nat.le_trans hl (by decide)) i2) ⟨rfl, rfl, rfl, rfl, rfl, rfl, rfl, rfl, rfl, rfl, ⟨rfl, rfl, trivial⟩, ⟨⟨⟨rfl, rfl, .inr rfl⟩, rfl, rfl, trivial⟩, trivial⟩, trivial⟩ ?_)
          conv => whnf
          exact ⟨⟨[], [], ⟨rfl, rfl, rfl, rfl⟩, trivial, ⟨⟨⟨rfl, rfl, .inl rfl⟩, rfl, rfl, trivial⟩, ⟨⟨rfl, rfl, .inl rfl⟩, trivial⟩, ⟨rfl, trivial⟩, trivial⟩, trivial⟩⟩
        · have h2 : (!bad) = true := h2
          rw [Bool.not_eq_true'] at h2
          subst h2
          have hb : s.bad = false := by
            cases hb : s.bad with
            | false => rfl
            | true => have := (i6 hb).2.1; rw [← this] at hb; cases hb
          obtain ⟨_, k2, k3, k4⟩ := i4 rfl hb
          have hc := hE ⟨a, false⟩ i1 i2
          have hm := hle ⟨a, false⟩ i2
          generalize hr : E ⟨a, false⟩ = q at hc hm
          obtain ⟨⟨xa, xb, xn, xl⟩, s2⟩ := q
          simp only at hc hm
          conv => whnf
          refine callP.full [1, 2, 0] [9000] [.ptr 0 0, .ptr 1 0] [obx acc (.t 0), [.ptr 2 0], pbx l ⟨a, false⟩] [obx (acc ++ [.mk xa xb xn xl]) (.t 1), [.ptr 2 0], pbx l s2] (.tup []) (c189 W0 l ⟨a, false⟩ s2 acc xa xb xn xl (by omega) hc) ⟨rfl, rfl, rfl, rfl, rfl, rfl, rfl, rfl, rfl, rfl, ⟨rfl, rfl, trivial⟩, ⟨⟨⟨rfl, rfl, .inr rfl⟩, trivial⟩, ⟨rfl, trivial⟩, ⟨⟨rfl, rfl, .inr rfl⟩, rfl, rfl, trivial⟩, trivial⟩, ⟨trivial, trivial⟩⟩ ?_
          conv => whnf
          (refine callP.full [0] [] [.ptr 0 0, .sc (.s [44])] [pbx l _] [pbx l _] _ (c142 W0 l s2 [44] (Nat.le_trans hl (by decide)) hm.2) ⟨rfl, rfl, rfl, rfl, rfl, rfl, rfl, rfl, rfl, rfl, ⟨rfl, rfl, trivial⟩, ⟨⟨⟨rfl, rfl, .inr rfl⟩, rfl, rfl, trivial⟩, trivial⟩, trivial⟩ ?_)
          conv => whnf
          have hh := pHas_le (x := [44]) hm.2
          refine nxt ((pHas l s2 [44]).1, (pHas l s2 [44]).2, acc ++ [.mk xa xb xn xl], f - 1) ⟨?_, ?_⟩ ?_
          · show (bif (pHas l s2 [44]).1 then l.length + 2 - (pHas l s2 [44]).2.a else 0) < l.length + 2 - a
            cases hp : (pHas l s2 [44]).1 with
            | true => rw [(pHas_t hp).2.2]; have := (pHas_t hp).1; simp only [cond_true]; omega
            | false => simp only [cond_false]; omega
          · cases f with
            | zero => omega
            | succ f =>
              simp only [List.length_append, List.length_cons, List.length_nil, Nat.add_sub_cancel]
              refine ⟨by omega, by omega, by omega, fun hp _ => ?_, fun hp => ?_, fun h => by rw [hb] at h; cases h⟩
              · obtain ⟨t1, t2, t3⟩ := pHas_t hp
                have t4 : (pHas l s2 [44]).2.a = s2.a + 1 := by rw [t3]
                refine ⟨by rw [t3], by omega, by omega, ?_⟩
                rw [k4]
                simp only [pLoop, hr, hp, cond_true]
                simp
              · refine ⟨?_, hb⟩
                rw [k4]
                simp only [pLoop, hr, hp, cond_false]
          · (apply le_tok (h1 := rfl); (case h3 => repeat' (first | exact rfl | exact trivial | refine ⟨?_, ?_⟩)); all_goals exact rfl)
  · have ep : pExps l E x s = ([], (pHas l s x).2) := by simp [pExps, h0]
    rw [ep]
    exact ⟨⟨[], [], ⟨rfl, rfl, rfl, rfl⟩, trivial, ⟨⟨⟨rfl, rfl, .inl rfl⟩, rfl, rfl, trivial⟩, ⟨⟨rfl, rfl, .inl rfl⟩, trivial⟩, ⟨rfl, trivial⟩, trivial⟩, trivial⟩⟩
theorem c111 (W0 : Go.World) (l : List T) (E : PS → Exp × PS) (x : S) (s : PS) (hl : l.length ≤ 549755813888) (hs : s.a ≤ l.length)
    (hE : ∀ s', s.a ≤ s'.a → s'.a ≤ l.length → Ctr Tryz.prog W0 73 [.ptr 0 0] [pbx l s'] (eE (E s').1) [pbx l (E s').2])
    (hle : ∀ s', s'.a ≤ l.length → s'.a ≤ (E s').2.a ∧ (E s').2.a ≤ l.length) :
    Ctr Tryz.prog W0 111 [.ptr 0 0, .sc (.s x), .fn 189 [.ptr 1 0, .ptr 2 0]] [pbx l s, obx [] .full, [.ptr 0 0]] (.tup []) [pbx l (pExps l E x s).2, obx (pExps l E x s).1 .none, [.ptr 0 0]] :=
  ctr_body follows F111_ok rfl (fun _ _ h => by cases h) rfl rfl (b111 W0 l E x s hl hs hE hle)
set_option maxHeartbeats 4000000 in
theorem b143 (W0 : Go.World) (l : List T) (E : PS → Exp × PS) (x : S) (s : PS) (hl : l.length ≤ 549755813888) (hs : s.a ≤ l.length)
    (hE : ∀ s', s.a ≤ s'.a → s'.a ≤ l.length → Ctr Tryz.prog W0 73 [.ptr 0 0] [pbx l s'] (eE (E s').1) [pbx l (E s').2])
    (hle : ∀ s', s'.a ≤ l.length → s'.a ≤ (E s').2.a ∧ (E s').2.a ≤ l.length) :
    Body (Ctr Tryz.prog W0) F143.ac F143.rs [.ptr 0 0, .sc (.s x)] [pbx l s] (eL (pExps l E x s).1) [pbx l (pExps l E x s).2] := by
  conv => whnf
  refine callP.full [0, 1200, 1000] [] [.ptr 0 0, .sc (.s x), .fn 189 [.ptr 1 0, .ptr 2 0]] [pbx l s, obx [] .full, [.ptr 0 0]] [pbx l (pExps l E x s).2, obx (pExps l E x s).1 .none, [.ptr 0 0]] (.tup []) (c111 W0 l E x s hl hs hE hle) ⟨rfl, rfl, rfl, rfl, rfl, rfl, rfl, rfl, rfl, rfl, ⟨rfl, rfl, ⟨rfl, ⟨rfl, rfl, trivial⟩⟩, trivial⟩, ⟨⟨⟨rfl, rfl, .inr rfl⟩, rfl, rfl, trivial⟩, ⟨⟨rfl, rfl, .inr rfl⟩, trivial⟩, ⟨rfl, trivial⟩, trivial⟩, trivial⟩ ?_
  conv => whnf
  exact ⟨⟨[], [], ⟨rfl, rfl, rfl, rfl⟩, ⟨rfl, rfl, .inl rfl⟩, ⟨⟨⟨rfl, rfl, .inl rfl⟩, rfl, rfl, trivial⟩, trivial⟩, trivial⟩⟩
theorem c143 (W0 : Go.World) (l : List T) (E : PS → Exp × PS) (x : S) (s : PS) (hl : l.length ≤ 549755813888) (hs : s.a ≤ l.length)
    (hE : ∀ s', s.a ≤ s'.a → s'.a ≤ l.length → Ctr Tryz.prog W0 73 [.ptr 0 0] [pbx l s'] (eE (E s').1) [pbx l (E s').2])
    (hle : ∀ s', s'.a ≤ l.length → s'.a ≤ (E s').2.a ∧ (E s').2.a ≤ l.length) :
    Ctr Tryz.prog W0 143 [.ptr 0 0, .sc (.s x)] [pbx l s] (eL (pExps l E x s).1) [pbx l (pExps l E x s).2] :=
  ctr_body follows F143_ok rfl (fun _ _ h => by cases h) rfl rfl (b143 W0 l E x s hl hs hE hle)
theorem pLoop_le {l : List T} {E : PS → Exp × PS} (hle : ∀ s', s'.a ≤ l.length → s'.a ≤ (E s').2.a ∧ (E s').2.a ≤ l.length) : ∀ (f : Nat) (s : PS), s.a ≤ l.length → s.a ≤ (pLoop l E f s).2.a ∧ (pLoop l E f s).2.a ≤ l.length
  | 0, s, h => by simpa [pLoop] using h
  | f + 1, s, h => by
    have h1 := hle s h
    have h2 := pHas_le (x := [44]) h1.2
    simp only [pLoop]
    cases hp : (pHas l (E s).2 [44]).1 with
    | true => have := pLoop_le hle f _ h2.2; simp only [cond_true]; omega
    | false => simp only [cond_false]; omega
theorem pExps_le {l : List T} {E : PS → Exp × PS} {x : S} (hle : ∀ s', s'.a ≤ l.length → s'.a ≤ (E s').2.a ∧ (E s').2.a ≤ l.length) (s : PS) (h : s.a ≤ l.length) : s.a ≤ (pExps l E x s).2.a ∧ (pExps l E x s).2.a ≤ l.length := by
  have h1 := pHas_le (x := x) h
  have h2 := pMust_le (x := x) h
  have h3 := pLoop_le hle (l.length + 2) s h
  have h4 := pMust_le (x := x) h3.2
  simp only [pExps]
  cases (pHas l s x).1 <;> cases s.bad <;> simp <;> omega
end Go.Abs

set_option maxRecDepth 100000
namespace Go.Abs
open Go.Proofs
def F145 : Fn := ⟨.seq (.reg [⟨none, .alloc 2 [.sc (.s []), .sc (.s []), .sc (.i .i64 0), .sl 4 [] .full]⟩]) (.seq (.reg [⟨none, .mv 11 (.t 0)⟩, ⟨none, .call (some 12) (.c (.fn 108 [])) [.t 11]⟩, ⟨none, .alloc 3 [.sc (.s []), .sc (.s []), .sc (.i .i64 0)]⟩, ⟨none, .st (.t 3) 3 (.t 12)⟩]) (.seq (.seq (.reg [⟨none, .fa 13 (.t 3) 1⟩, ⟨none, .ld 14 1 false (.t 13)⟩]) (.block 0 (.seq (.seq (.reg [⟨none, .bin 16 .eql (.t 14) (.c (.sc (.s [109, 105, 110])))⟩, ⟨none, .mv 15 (.t 16)⟩]) (.cond (.t 15) .skip (.seq (.reg [⟨none, .bin 17 .eql (.t 14) (.c (.sc (.s [109, 97, 120])))⟩, ⟨none, .mv 15 (.t 17)⟩]) (.cond (.t 15) .skip (.seq (.reg [⟨none, .bin 18 .eql (.t 14) (.c (.sc (.s [33])))⟩, ⟨none, .mv 15 (.t 18)⟩]) (.cond (.t 15) .skip (.reg [⟨none, .bin 19 .eql (.t 14) (.c (.sc (.s [105, 110, 116])))⟩, ⟨none, .mv 15 (.t 19)⟩]))))))) (.cond (.t 15) (.seq (.reg [⟨none, .mv 20 (.t 0)⟩, ⟨none, .nc 21 (.t 20)⟩, ⟨none, .fa 22 (.t 21) 1⟩, ⟨none, .ld 23 1 false (.t 22)⟩, ⟨none, .bin 24 .add (.t 23) (.c (.sc (.i .i64 1)))⟩, ⟨none, .nc 25 (.t 20)⟩, ⟨none, .fa 26 (.t 25) 1⟩, ⟨none, .st (.t 26) 1 (.t 24)⟩]) (.seq (.reg [⟨none, .mv 27 (.t 0)⟩, ⟨none, .call (some 28) (.c (.fn 73 [])) [.t 27]⟩, ⟨none, .alloc 4 [.sc (.s []), .sc (.s []), .sc (.i .i64 0), .sl 4 [] .full]⟩, ⟨none, .st (.t 4) 4 (.t 28)⟩]) (.seq (.reg [⟨none, .fa 29 (.t 3) 1⟩, ⟨none, .ld 30 1 false (.t 29)⟩, ⟨none, .ld 31 4 true (.t 4)⟩, ⟨none, .bsl 32 4 [.t 31]⟩, ⟨none, .build 33 [.sc (.s []), .sc (.s []), .sc (.i .i64 0), .sl 4 [] .full] [(0, (1, .c (.sc (.s [111, 112])))), (1, (1, .t 30)), (3, (1, .t 32))]⟩, ⟨none, .alloc 5 [.sc (.s []), .sc (.s []), .sc (.i .i64 0), .sl 4 [] .full]⟩, ⟨none, .st (.t 5) 4 (.t 33)⟩]) (.seq (.seq (.reg [⟨none, .fa 34 (.t 3) 1⟩, ⟨none, .ld 35 1 false (.t 34)⟩, ⟨none, .call (some 36) (.c (.fn 185 [])) [.t 35]⟩, ⟨none, .bin 37 .eql (.t 36) (.c (.sc (.i .i64 2)))⟩]) (.cond (.t 37) (.regD [⟨none, .fa 38 (.t 5) 3⟩, ⟨none, .ld 39 1 false (.t 38)⟩, ⟨none, .mv 40 (.t 0)⟩, ⟨none, .call (some 41) (.c (.fn 73 [])) [.t 40]⟩, ⟨none, .bsl 42 4 [.t 41]⟩, ⟨none, .app 43 4 64 (.t 39) (.t 42)⟩, ⟨none, .fa 44 (.t 5) 3⟩, ⟨none, .st (.t 44) 1 (.t 43)⟩] [0, 1, 0, 4, 12, 31, 63, 127]) .skip)) (.seq (.reg [⟨none, .ld 45 4 true (.t 5)⟩, ⟨none, .st (.t 2) 4 (.t 45)⟩]) .ret))))) (.seq (.reg [⟨none, .bin 47 .eql (.t 14) (.c (.sc (.s [110, 111, 110, 101])))⟩, ⟨none, .mv 46 (.t 47)⟩]) (.cond (.t 46) (.seq (.reg [⟨none, .mv 48 (.t 0)⟩, ⟨none, .nc 49 (.t 48)⟩, ⟨none, .fa 50 (.t 49) 1⟩, ⟨none, .ld 51 1 false (.t 50)⟩, ⟨none, .bin 52 .add (.t 51) (.c (.sc (.i .i64 1)))⟩, ⟨none, .nc 53 (.t 48)⟩, ⟨none, .fa 54 (.t 53) 1⟩, ⟨none, .st (.t 54) 1 (.t 52)⟩]) (.seq (.reg [⟨none, .mv 55 (.t 0)⟩, ⟨none, .call (some 56) (.c (.fn 178 [])) [.t 55]⟩, ⟨none, .build 57 [.sc (.s []), .sc (.s []), .sc (.i .i64 0), .sl 4 [] .full] [(0, (1, .c (.sc (.s [110, 111, 110, 101])))), (1, (1, .t 56))]⟩, ⟨none, .st (.t 2) 4 (.t 57)⟩]) .ret)) (.seq (.seq (.reg [⟨none, .bin 59 .eql (.t 14) (.c (.sc (.s [114, 101, 97, 100])))⟩, ⟨none, .mv 58 (.t 59)⟩]) (.cond (.t 58) .skip (.seq (.reg [⟨none, .bin 60 .eql (.t 14) (.c (.sc (.s [103, 101, 116])))⟩, ⟨none, .mv 58 (.t 60)⟩]) (.cond (.t 58) .skip (.reg [⟨none, .bin 61 .eql (.t 14) (.c (.sc (.s [99, 111, 117, 110, 116])))⟩, ⟨none, .mv 58 (.t 61)⟩]))))) (.cond (.t 58) (.seq (.reg [⟨none, .mv 62 (.t 0)⟩, ⟨none, .nc 63 (.t 62)⟩, ⟨none, .fa 64 (.t 63) 1⟩, ⟨none, .ld 65 1 false (.t 64)⟩, ⟨none, .bin 66 .add (.t 65) (.c (.sc (.i .i64 1)))⟩, ⟨none, .nc 67 (.t 62)⟩, ⟨none, .fa 68 (.t 67) 1⟩, ⟨none, .st (.t 68) 1 (.t 66)⟩]) (.seq (.regD [⟨none, .fa 69 (.t 3) 1⟩, ⟨none, .ld 70 1 false (.t 69)⟩, ⟨none, .mv 71 (.t 0)⟩, ⟨none, .call (some 72) (.c (.fn 110 [])) [.t 71]⟩, ⟨none, .build 73 [.sc (.s []), .sc (.s []), .sc (.i .i64 0), .sl 4 [] .full] [(0, (1, .t 70)), (1, (1, .t 72))]⟩, ⟨none, .st (.t 2) 4 (.t 73)⟩] [0, 1, 0, 4, 15, 31]) .ret)) (.seq (.seq (.reg [⟨none, .bin 75 .eql (.t 14) (.c (.sc (.s [108, 111, 119])))⟩, ⟨none, .mv 74 (.t 75)⟩]) (.cond (.t 74) .skip (.reg [⟨none, .bin 76 .eql (.t 14) (.c (.sc (.s [104, 105, 103, 104])))⟩, ⟨none, .mv 74 (.t 76)⟩]))) (.cond (.t 74) (.seq (.reg [⟨none, .mv 77 (.t 0)⟩, ⟨none, .nc 78 (.t 77)⟩, ⟨none, .fa 79 (.t 78) 1⟩, ⟨none, .ld 80 1 false (.t 79)⟩, ⟨none, .bin 81 .add (.t 80) (.c (.sc (.i .i64 1)))⟩, ⟨none, .nc 82 (.t 77)⟩, ⟨none, .fa 83 (.t 82) 1⟩, ⟨none, .st (.t 83) 1 (.t 81)⟩]) (.seq (.regD [⟨none, .fa 84 (.t 3) 1⟩, ⟨none, .ld 85 1 false (.t 84)⟩, ⟨none, .mv 86 (.t 0)⟩, ⟨none, .call (some 87) (.c (.fn 110 [])) [.t 86]⟩, ⟨none, .build 88 [.sc (.s []), .sc (.s []), .sc (.i .i64 0), .sl 4 [] .full] [(0, (1, .t 85)), (1, (1, .t 87))]⟩, ⟨none, .alloc 6 [.sc (.s []), .sc (.s []), .sc (.i .i64 0), .sl 4 [] .full]⟩, ⟨none, .st (.t 6) 4 (.t 88)⟩] [0, 1, 0, 4, 15, 0, 63]) (.seq (.reg [⟨none, .mv 89 (.t 0)⟩, ⟨none, .call (some 90) (.c (.fn 114 [])) [.t 89]⟩, ⟨none, .fa 91 (.t 6) 2⟩, ⟨none, .st (.t 91) 1 (.t 90)⟩]) (.seq (.reg [⟨none, .ld 92 4 true (.t 6)⟩, ⟨none, .st (.t 2) 4 (.t 92)⟩]) .ret)))) (.seq (.seq (.reg [⟨none, .bin 94 .eql (.t 14) (.c (.sc (.s [111, 114, 100])))⟩, ⟨none, .mv 93 (.t 94)⟩]) (.cond (.t 93) .skip (.reg [⟨none, .bin 95 .eql (.t 14) (.c (.sc (.s [104, 97, 115])))⟩, ⟨none, .mv 93 (.t 95)⟩]))) (.cond (.t 93) (.seq (.reg [⟨none, .mv 96 (.t 0)⟩, ⟨none, .nc 97 (.t 96)⟩, ⟨none, .fa 98 (.t 97) 1⟩, ⟨none, .ld 99 1 false (.t 98)⟩, ⟨none, .bin 100 .add (.t 99) (.c (.sc (.i .i64 1)))⟩, ⟨none, .nc 101 (.t 96)⟩, ⟨none, .fa 102 (.t 101) 1⟩, ⟨none, .st (.t 102) 1 (.t 100)⟩]) (.seq (.regD [⟨none, .fa 103 (.t 3) 1⟩, ⟨none, .ld 104 1 false (.t 103)⟩, ⟨none, .mv 105 (.t 0)⟩, ⟨none, .call (some 106) (.c (.fn 110 [])) [.t 105]⟩, ⟨none, .build 107 [.sc (.s []), .sc (.s []), .sc (.i .i64 0), .sl 4 [] .full] [(0, (1, .t 104)), (1, (1, .t 106))]⟩, ⟨none, .alloc 7 [.sc (.s []), .sc (.s []), .sc (.i .i64 0), .sl 4 [] .full]⟩, ⟨none, .st (.t 7) 4 (.t 107)⟩] [0, 1, 0, 4, 15, 0, 63]) (.seq (.reg [⟨none, .mv 108 (.t 0)⟩, ⟨none, .call (some 109) (.c (.fn 109 [])) [.t 108, .c (.sc (.s [91]))]⟩]) (.seq (.reg [⟨none, .mv 110 (.t 0)⟩, ⟨none, .call (some 111) (.c (.fn 143 [])) [.t 110, .c (.sc (.s [93]))]⟩, ⟨none, .fa 112 (.t 7) 3⟩, ⟨none, .st (.t 112) 1 (.t 111)⟩]) (.seq (.reg [⟨none, .ld 113 4 true (.t 7)⟩, ⟨none, .st (.t 2) 4 (.t 113)⟩]) .ret))))) (.seq (.reg [⟨none, .bin 115 .eql (.t 14) (.c (.sc (.s [110, 116, 104])))⟩, ⟨none, .mv 114 (.t 115)⟩]) (.cond (.t 114) (.seq (.reg [⟨none, .mv 116 (.t 0)⟩, ⟨none, .nc 117 (.t 116)⟩, ⟨none, .fa 118 (.t 117) 1⟩, ⟨none, .ld 119 1 false (.t 118)⟩, ⟨none, .bin 120 .add (.t 119) (.c (.sc (.i .i64 1)))⟩, ⟨none, .nc 121 (.t 116)⟩, ⟨none, .fa 122 (.t 121) 1⟩, ⟨none, .st (.t 122) 1 (.t 120)⟩]) (.seq (.regD [⟨none, .fa 123 (.t 3) 1⟩, ⟨none, .ld 124 1 false (.t 123)⟩, ⟨none, .mv 125 (.t 0)⟩, ⟨none, .call (some 126) (.c (.fn 110 [])) [.t 125]⟩, ⟨none, .build 127 [.sc (.s []), .sc (.s []), .sc (.i .i64 0), .sl 4 [] .full] [(0, (1, .t 124)), (1, (1, .t 126))]⟩, ⟨none, .alloc 8 [.sc (.s []), .sc (.s []), .sc (.i .i64 0), .sl 4 [] .full]⟩, ⟨none, .st (.t 8) 4 (.t 127)⟩] [0, 1, 0, 4, 15, 0, 63]) (.seq (.reg [⟨none, .mv 128 (.t 0)⟩, ⟨none, .call (some 129) (.c (.fn 114 [])) [.t 128]⟩, ⟨none, .fa 130 (.t 8) 2⟩, ⟨none, .st (.t 130) 1 (.t 129)⟩]) (.seq (.reg [⟨none, .mv 131 (.t 0)⟩, ⟨none, .call (some 132) (.c (.fn 73 [])) [.t 131]⟩, ⟨none, .bsl 133 4 [.t 132]⟩, ⟨none, .fa 134 (.t 8) 3⟩, ⟨none, .st (.t 134) 1 (.t 133)⟩]) (.seq (.reg [⟨none, .ld 135 4 true (.t 8)⟩, ⟨none, .st (.t 2) 4 (.t 135)⟩]) .ret))))) .skip)))))))))))))) (.seq (.reg [⟨none, .mv 136 (.t 0)⟩, ⟨none, .call (some 137) (.c (.fn 73 [])) [.t 136]⟩, ⟨none, .alloc 9 [.sc (.s []), .sc (.s []), .sc (.i .i64 0), .sl 4 [] .full]⟩, ⟨none, .st (.t 9) 4 (.t 137)⟩]) (.seq (.reg [⟨none, .mv 138 (.t 0)⟩, ⟨none, .call (some 139) (.c (.fn 113 [])) [.t 138]⟩, ⟨none, .alloc 10 [.sc (.s []), .sc (.s []), .sc (.i .i64 0)]⟩, ⟨none, .st (.t 10) 3 (.t 139)⟩]) (.seq (.seq (.reg [⟨none, .fa 140 (.t 10) 0⟩, ⟨none, .ld 141 1 false (.t 140)⟩, ⟨none, .bin 142 .neq (.t 141) (.c (.sc (.s [115, 105, 103, 110])))⟩, ⟨none, .mv 143 (.t 142)⟩, ⟨some (143, false), .fa 144 (.t 10) 1⟩, ⟨some (143, false), .ld 145 1 false (.t 144)⟩, ⟨some (143, false), .call (some 146) (.c (.fn 185 [])) [.t 145]⟩, ⟨some (143, false), .bin 147 .neq (.t 146) (.c (.sc (.i .i64 2)))⟩, ⟨none, .pick 148 (.t 143) (.c (.sc (.b true))) (.t 147)⟩]) (.cond (.t 148) (.reg [⟨none, .mv 149 (.t 0)⟩, ⟨none, .nc 150 (.t 149)⟩, ⟨none, .fa 151 (.t 150) 2⟩, ⟨none, .st (.t 151) 1 (.c (.sc (.b true)))⟩]) .skip)) (.seq (.regD [⟨none, .fa 152 (.t 10) 1⟩, ⟨none, .ld 153 1 false (.t 152)⟩, ⟨none, .ld 154 4 true (.t 9)⟩, ⟨none, .mv 155 (.t 0)⟩, ⟨none, .call (some 156) (.c (.fn 73 [])) [.t 155]⟩, ⟨none, .bsl 157 4 [.t 154, .t 156]⟩, ⟨none, .build 158 [.sc (.s []), .sc (.s []), .sc (.i .i64 0), .sl 4 [] .full] [(0, (1, .c (.sc (.s [111, 112])))), (1, (1, .t 153)), (3, (1, .t 157))]⟩, ⟨none, .st (.t 2) 4 (.t 158)⟩] [0, 1, 0, 0, 8, 28, 63, 127]) .ret)))))), [(2, 4)], 159⟩
theorem F145_ok : compT Tryz.prog (fun _ => an0) 145 = some F145 := by kernel_rfl
theorem pPeek_in {l : List T} {s : PS} (h : (pPeek l s).2.1 ≠ []) : s.a < l.length ∧ s.bad = false := by
  refine ⟨?_, ?_⟩
  · by_cases hlt : s.a < l.length
    · exact hlt
    · rw [pPeek_out (by omega)] at h; exact absurd rfl h
  · cases hb : s.bad with
    | false => rfl
    | true => simp [pPeek, hb, t0] at h
def pBin (l : List T) (s : PS) : PS := bif !beqL (pNext l s).1.1 [115, 105, 103, 110] || !decide (operandsN (pNext l s).1.2.1 = 2) then ⟨(pNext l s).2.a, true⟩ else (pNext l s).2
def pInner (l : List T) (E : PS → Exp × PS) (s : PS) : Exp × PS :=
  bif hasB (pPeek l s).2.1 [[109, 105, 110], [109, 97, 120]] then (.mk [111, 112] (pPeek l s).2.1 0 [(E ⟨s.a + 1, s.bad⟩).1, (E (E ⟨s.a + 1, s.bad⟩).2).1], (E (E ⟨s.a + 1, s.bad⟩).2).2) else
  bif hasB (pPeek l s).2.1 [[33], [105, 110, 116]] then (.mk [111, 112] (pPeek l s).2.1 0 [(E ⟨s.a + 1, s.bad⟩).1], (E ⟨s.a + 1, s.bad⟩).2) else
  bif hasB (pPeek l s).2.1 [[110, 111, 110, 101]] then (.mk [110, 111, 110, 101] (pOp l ⟨s.a + 1, s.bad⟩).1 0 [], (pOp l ⟨s.a + 1, s.bad⟩).2) else
  bif hasB (pPeek l s).2.1 [[114, 101, 97, 100], [103, 101, 116], [99, 111, 117, 110, 116]] then (.mk (pPeek l s).2.1 (pName l ⟨s.a + 1, s.bad⟩).1 0 [], (pName l ⟨s.a + 1, s.bad⟩).2) else
  bif hasB (pPeek l s).2.1 [[108, 111, 119], [104, 105, 103, 104]] then (.mk (pPeek l s).2.1 (pName l ⟨s.a + 1, s.bad⟩).1 (pNum l (pName l ⟨s.a + 1, s.bad⟩).2).1 [], (pNum l (pName l ⟨s.a + 1, s.bad⟩).2).2) else
  bif hasB (pPeek l s).2.1 [[111, 114, 100], [104, 97, 115]] then (.mk (pPeek l s).2.1 (pName l ⟨s.a + 1, s.bad⟩).1 0 (pExps l E [93] (pMust l (pName l ⟨s.a + 1, s.bad⟩).2 [91])).1, (pExps l E [93] (pMust l (pName l ⟨s.a + 1, s.bad⟩).2 [91])).2) else
  bif hasB (pPeek l s).2.1 [[110, 116, 104]] then (.mk (pPeek l s).2.1 (pName l ⟨s.a + 1, s.bad⟩).1 (pNum l (pName l ⟨s.a + 1, s.bad⟩).2).1 [(E (pNum l (pName l ⟨s.a + 1, s.bad⟩).2).2).1], (E (pNum l (pName l ⟨s.a + 1, s.bad⟩).2).2).2) else
  (.mk [111, 112] (pNext l (E s).2).1.2.1 0 [(E s).1, (E (pBin l (E s).2)).1], (E (pBin l (E s).2)).2)
end Go.Abs

set_option maxRecDepth 100000
namespace Go.Abs
open Go.Proofs
set_option maxHeartbeats 8000000 in
theorem b145_min (W0 : Go.World) (hk : Wk W0) (l : List T) (E : PS → Exp × PS) (s : PS) (ht : tOK l) (hl : l.length ≤ 549755813888) (hs : s.a ≤ l.length)
    (hE : ∀ s', s.a ≤ s'.a → s'.a ≤ l.length → Ctr Tryz.prog W0 73 [.ptr 0 0] [pbx l s'] (eE (E s').1) [pbx l (E s').2])
    (hle : ∀ s', s'.a ≤ l.length → s'.a ≤ (E s').2.a ∧ (E s').2.a ≤ l.length) (kd : S) (p : Int) (hp : pPeek l s = (kd, [109, 105, 110], p)) :
    Body (Ctr Tryz.prog W0) F145.ac F145.rs [.ptr 0 0] [pbx l s] (eE (Exp.mk [111, 112] [109, 105, 110] 0 [(E ⟨s.a + 1, s.bad⟩).1, (E (E ⟨s.a + 1, s.bad⟩).2).1])) [pbx l ((E (E ⟨s.a + 1, s.bad⟩).2).2)] := by
  have hin := (pPeek_in (l := l) (s := s) (by rw [hp]; simp)).1
  have hE1 := hE ⟨s.a + 1, s.bad⟩ (by simp) (by simp only; omega)
  have hm1 := hle ⟨s.a + 1, s.bad⟩ (by simp only; omega)
  generalize hr1 : E ⟨s.a + 1, s.bad⟩ = q1 at hE1 hm1 ⊢
  obtain ⟨⟨x1a, x1b, x1n, x1l⟩, s1⟩ := q1
  simp only at hE1 hm1 ⊢
  have hE2 := hE s1 (by omega) hm1.2
  have hm2 := hle s1 hm1.2
  generalize hr2 : E s1 = q2 at hE2 hm2 ⊢
  obtain ⟨⟨x2a, x2b, x2n, x2l⟩, s2⟩ := q2
  simp only at hE2 hm2 ⊢
  conv => whnf
  (refine callP.full [0] [] [.ptr 0 0] [pbx l _] [pbx l _] _ (c108 W0 l s (Nat.le_trans hl (by decide)) hs) ⟨rfl, rfl, rfl, rfl, rfl, rfl, rfl, rfl, rfl, rfl, ⟨rfl, trivial⟩, ⟨⟨⟨rfl, rfl, .inr rfl⟩, rfl, rfl, trivial⟩, trivial⟩, trivial⟩ ?_)
  rw [hp]
  repeat' (first | (with_reducible refine Eq.mpr awp_r ?_; with_reducible refine Eq.mpr aopsD_r ?_) | ((conv => whnf); (first | with_reducible refine brec (fun _ => ?_) (fun _ => ?_) | (refine callP.full [0] [] [.ptr 0 0] [pbx l _] [pbx l _] _ (hE1) ⟨rfl, rfl, rfl, rfl, rfl, rfl, rfl, rfl, rfl, rfl, ⟨rfl, trivial⟩, ⟨⟨⟨rfl, rfl, .inr rfl⟩, rfl, rfl, trivial⟩, trivial⟩, trivial⟩ ?_) | (refine callP.full [0] [] [.ptr 0 0] [pbx l _] [pbx l _] _ (hE2) ⟨rfl, rfl, rfl, rfl, rfl, rfl, rfl, rfl, rfl, rfl, ⟨rfl, trivial⟩, ⟨⟨⟨rfl, rfl, .inr rfl⟩, rfl, rfl, trivial⟩, trivial⟩, trivial⟩ ?_) | (refine callP.pure _ (c185 W0 [109, 105, 110]) ⟨rfl, rfl⟩ ?_) | (refine And.intro (by constructor <;> ((try simp only [List.length_cons, List.length_nil]); (try simp only); omega)) ?_) | fail)))
  all_goals (conv => whnf)
  all_goals (first | exact ⟨⟨[], [], ⟨rfl, rfl, rfl, rfl⟩, ⟨rfl, rfl, rfl, ⟨rfl, rfl, .inl rfl⟩, trivial⟩, ⟨⟨⟨rfl, rfl, .inl rfl⟩, rfl, rfl, trivial⟩, trivial⟩, trivial⟩⟩)
end Go.Abs

set_option maxRecDepth 100000
namespace Go.Abs
open Go.Proofs
set_option maxHeartbeats 8000000 in
theorem b145_max (W0 : Go.World) (hk : Wk W0) (l : List T) (E : PS → Exp × PS) (s : PS) (ht : tOK l) (hl : l.length ≤ 549755813888) (hs : s.a ≤ l.length)
    (hE : ∀ s', s.a ≤ s'.a → s'.a ≤ l.length → Ctr Tryz.prog W0 73 [.ptr 0 0] [pbx l s'] (eE (E s').1) [pbx l (E s').2])
    (hle : ∀ s', s'.a ≤ l.length → s'.a ≤ (E s').2.a ∧ (E s').2.a ≤ l.length) (kd : S) (p : Int) (hp : pPeek l s = (kd, [109, 97, 120], p)) :
    Body (Ctr Tryz.prog W0) F145.ac F145.rs [.ptr 0 0] [pbx l s] (eE (Exp.mk [111, 112] [109, 97, 120] 0 [(E ⟨s.a + 1, s.bad⟩).1, (E (E ⟨s.a + 1, s.bad⟩).2).1])) [pbx l ((E (E ⟨s.a + 1, s.bad⟩).2).2)] := by
  have hin := (pPeek_in (l := l) (s := s) (by rw [hp]; simp)).1
  have hE1 := hE ⟨s.a + 1, s.bad⟩ (by simp) (by simp only; omega)
  have hm1 := hle ⟨s.a + 1, s.bad⟩ (by simp only; omega)
  generalize hr1 : E ⟨s.a + 1, s.bad⟩ = q1 at hE1 hm1 ⊢
  obtain ⟨⟨x1a, x1b, x1n, x1l⟩, s1⟩ := q1
  simp only at hE1 hm1 ⊢
  have hE2 := hE s1 (by omega) hm1.2
  have hm2 := hle s1 hm1.2
  generalize hr2 : E s1 = q2 at hE2 hm2 ⊢
  obtain ⟨⟨x2a, x2b, x2n, x2l⟩, s2⟩ := q2
  simp only at hE2 hm2 ⊢
  conv => whnf
  (refine callP.full [0] [] [.ptr 0 0] [pbx l _] [pbx l _] _ (c108 W0 l s (Nat.le_trans hl (by decide)) hs) ⟨rfl, rfl, rfl, rfl, rfl, rfl, rfl, rfl, rfl, rfl, ⟨rfl, trivial⟩, ⟨⟨⟨rfl, rfl, .inr rfl⟩, rfl, rfl, trivial⟩, trivial⟩, trivial⟩ ?_)
  rw [hp]
  repeat' (first | (with_reducible refine Eq.mpr awp_r ?_; with_reducible refine Eq.mpr aopsD_r ?_) | ((conv => whnf); (first | with_reducible refine brec (fun _ => ?_) (fun _ => ?_) | (refine callP.full [0] [] [.ptr 0 0] [pbx l _] [pbx l _] _ (hE1) ⟨rfl, rfl, rfl, rfl, rfl, rfl, rfl, rfl, rfl, rfl, ⟨rfl, trivial⟩, ⟨⟨⟨rfl, rfl, .inr rfl⟩, rfl, rfl, trivial⟩, trivial⟩, trivial⟩ ?_) | (refine callP.full [0] [] [.ptr 0 0] [pbx l _] [pbx l _] _ (hE2) ⟨rfl, rfl, rfl, rfl, rfl, rfl, rfl, rfl, rfl, rfl, ⟨rfl, trivial⟩, ⟨⟨⟨rfl, rfl, .inr rfl⟩, rfl, rfl, trivial⟩, trivial⟩, trivial⟩ ?_) | (refine callP.pure _ (c185 W0 [109, 97, 120]) ⟨rfl, rfl⟩ ?_) | (refine And.intro (by constructor <;> ((try simp only [List.length_cons, List.length_nil]); (try simp only); omega)) ?_) | fail)))
  all_goals (conv => whnf)
  all_goals (first | exact ⟨⟨[], [], ⟨rfl, rfl, rfl, rfl⟩, ⟨rfl, rfl, rfl, ⟨rfl, rfl, .inl rfl⟩, trivial⟩, ⟨⟨⟨rfl, rfl, .inl rfl⟩, rfl, rfl, trivial⟩, trivial⟩, trivial⟩⟩)
end Go.Abs

set_option maxRecDepth 100000
namespace Go.Abs
open Go.Proofs
set_option maxHeartbeats 8000000 in
theorem b145_bang (W0 : Go.World) (hk : Wk W0) (l : List T) (E : PS → Exp × PS) (s : PS) (ht : tOK l) (hl : l.length ≤ 549755813888) (hs : s.a ≤ l.length)
    (hE : ∀ s', s.a ≤ s'.a → s'.a ≤ l.length → Ctr Tryz.prog W0 73 [.ptr 0 0] [pbx l s'] (eE (E s').1) [pbx l (E s').2])
    (hle : ∀ s', s'.a ≤ l.length → s'.a ≤ (E s').2.a ∧ (E s').2.a ≤ l.length) (kd : S) (p : Int) (hp : pPeek l s = (kd, [33], p)) :
    Body (Ctr Tryz.prog W0) F145.ac F145.rs [.ptr 0 0] [pbx l s] (eE (Exp.mk [111, 112] [33] 0 [(E ⟨s.a + 1, s.bad⟩).1])) [pbx l ((E ⟨s.a + 1, s.bad⟩).2)] := by
  have hin := (pPeek_in (l := l) (s := s) (by rw [hp]; simp)).1
  have hE1 := hE ⟨s.a + 1, s.bad⟩ (by simp) (by simp only; omega)
  have hm1 := hle ⟨s.a + 1, s.bad⟩ (by simp only; omega)
  generalize hr1 : E ⟨s.a + 1, s.bad⟩ = q1 at hE1 hm1 ⊢
  obtain ⟨⟨x1a, x1b, x1n, x1l⟩, s1⟩ := q1
  simp only at hE1 hm1 ⊢
  conv => whnf
  (refine callP.full [0] [] [.ptr 0 0] [pbx l _] [pbx l _] _ (c108 W0 l s (Nat.le_trans hl (by decide)) hs) ⟨rfl, rfl, rfl, rfl, rfl, rfl, rfl, rfl, rfl, rfl, ⟨rfl, trivial⟩, ⟨⟨⟨rfl, rfl, .inr rfl⟩, rfl, rfl, trivial⟩, trivial⟩, trivial⟩ ?_)
  rw [hp]
  repeat' (first | (with_reducible refine Eq.mpr awp_r ?_; with_reducible refine Eq.mpr aopsD_r ?_) | ((conv => whnf); (first | with_reducible refine brec (fun _ => ?_) (fun _ => ?_) | (refine callP.full [0] [] [.ptr 0 0] [pbx l _] [pbx l _] _ (hE1) ⟨rfl, rfl, rfl, rfl, rfl, rfl, rfl, rfl, rfl, rfl, ⟨rfl, trivial⟩, ⟨⟨⟨rfl, rfl, .inr rfl⟩, rfl, rfl, trivial⟩, trivial⟩, trivial⟩ ?_) | (refine callP.pure _ (c185 W0 [33]) ⟨rfl, rfl⟩ ?_) | (refine And.intro (by constructor <;> ((try simp only [List.length_cons, List.length_nil]); (try simp only); omega)) ?_) | fail)))
  all_goals (conv => whnf)
  all_goals (first | exact ⟨⟨[], [], ⟨rfl, rfl, rfl, rfl⟩, ⟨rfl, rfl, rfl, ⟨rfl, rfl, .inl rfl⟩, trivial⟩, ⟨⟨⟨rfl, rfl, .inl rfl⟩, rfl, rfl, trivial⟩, trivial⟩, trivial⟩⟩)
end Go.Abs

set_option maxRecDepth 100000
namespace Go.Abs
open Go.Proofs
set_option maxHeartbeats 8000000 in
theorem b145_int (W0 : Go.World) (hk : Wk W0) (l : List T) (E : PS → Exp × PS) (s : PS) (ht : tOK l) (hl : l.length ≤ 549755813888) (hs : s.a ≤ l.length)
    (hE : ∀ s', s.a ≤ s'.a → s'.a ≤ l.length → Ctr Tryz.prog W0 73 [.ptr 0 0] [pbx l s'] (eE (E s').1) [pbx l (E s').2])
    (hle : ∀ s', s'.a ≤ l.length → s'.a ≤ (E s').2.a ∧ (E s').2.a ≤ l.length) (kd : S) (p : Int) (hp : pPeek l s = (kd, [105, 110, 116], p)) :
    Body (Ctr Tryz.prog W0) F145.ac F145.rs [.ptr 0 0] [pbx l s] (eE (Exp.mk [111, 112] [105, 110, 116] 0 [(E ⟨s.a + 1, s.bad⟩).1])) [pbx l ((E ⟨s.a + 1, s.bad⟩).2)] := by
  have hin := (pPeek_in (l := l) (s := s) (by rw [hp]; simp)).1
  have hE1 := hE ⟨s.a + 1, s.bad⟩ (by simp) (by simp only; omega)
  have hm1 := hle ⟨s.a + 1, s.bad⟩ (by simp only; omega)
  generalize hr1 : E ⟨s.a + 1, s.bad⟩ = q1 at hE1 hm1 ⊢
  obtain ⟨⟨x1a, x1b, x1n, x1l⟩, s1⟩ := q1
  simp only at hE1 hm1 ⊢
  conv => whnf
  (refine callP.full [0] [] [.ptr 0 0] [pbx l _] [pbx l _] _ (c108 W0 l s (Nat.le_trans hl (by decide)) hs) ⟨rfl, rfl, rfl, rfl, rfl, rfl, rfl, rfl, rfl, rfl, ⟨rfl, trivial⟩, ⟨⟨⟨rfl, rfl, .inr rfl⟩, rfl, rfl, trivial⟩, trivial⟩, trivial⟩ ?_)
  rw [hp]
  repeat' (first | (with_reducible refine Eq.mpr awp_r ?_; with_reducible refine Eq.mpr aopsD_r ?_) | ((conv => whnf); (first | with_reducible refine brec (fun _ => ?_) (fun _ => ?_) | (refine callP.full [0] [] [.ptr 0 0] [pbx l _] [pbx l _] _ (hE1) ⟨rfl, rfl, rfl, rfl, rfl, rfl, rfl, rfl, rfl, rfl, ⟨rfl, trivial⟩, ⟨⟨⟨rfl, rfl, .inr rfl⟩, rfl, rfl, trivial⟩, trivial⟩, trivial⟩ ?_) | (refine callP.pure _ (c185 W0 [105, 110, 116]) ⟨rfl, rfl⟩ ?_) | (refine And.intro (by constructor <;> ((try simp only [List.length_cons, List.length_nil]); (try simp only); omega)) ?_) | fail)))
  all_goals (conv => whnf)
  all_goals (first | exact ⟨⟨[], [], ⟨rfl, rfl, rfl, rfl⟩, ⟨rfl, rfl, rfl, ⟨rfl, rfl, .inl rfl⟩, trivial⟩, ⟨⟨⟨rfl, rfl, .inl rfl⟩, rfl, rfl, trivial⟩, trivial⟩, trivial⟩⟩)
end Go.Abs

set_option maxRecDepth 100000
namespace Go.Abs
open Go.Proofs
set_option maxHeartbeats 8000000 in
theorem b145_none (W0 : Go.World) (hk : Wk W0) (l : List T) (E : PS → Exp × PS) (s : PS) (ht : tOK l) (hl : l.length ≤ 549755813888) (hs : s.a ≤ l.length)
    (hE : ∀ s', s.a ≤ s'.a → s'.a ≤ l.length → Ctr Tryz.prog W0 73 [.ptr 0 0] [pbx l s'] (eE (E s').1) [pbx l (E s').2])
    (hle : ∀ s', s'.a ≤ l.length → s'.a ≤ (E s').2.a ∧ (E s').2.a ≤ l.length) (kd : S) (p : Int) (hp : pPeek l s = (kd, [110, 111, 110, 101], p)) :
    Body (Ctr Tryz.prog W0) F145.ac F145.rs [.ptr 0 0] [pbx l s] (eE (Exp.mk [110, 111, 110, 101] (pOp l ⟨s.a + 1, s.bad⟩).1 0 [])) [pbx l ((pOp l ⟨s.a + 1, s.bad⟩).2)] := by
  have hin := (pPeek_in (l := l) (s := s) (by rw [hp]; simp)).1
  conv => whnf
  (refine callP.full [0] [] [.ptr 0 0] [pbx l _] [pbx l _] _ (c108 W0 l s (Nat.le_trans hl (by decide)) hs) ⟨rfl, rfl, rfl, rfl, rfl, rfl, rfl, rfl, rfl, rfl, ⟨rfl, trivial⟩, ⟨⟨⟨rfl, rfl, .inr rfl⟩, rfl, rfl, trivial⟩, trivial⟩, trivial⟩ ?_)
  rw [hp]
  repeat' (first | (with_reducible refine Eq.mpr awp_r ?_; with_reducible refine Eq.mpr aopsD_r ?_) | ((conv => whnf); (first | with_reducible refine brec (fun _ => ?_) (fun _ => ?_) | (refine callP.full [0] [] [.ptr 0 0] [pbx l _] [pbx l _] _ (c178 W0 l ⟨s.a + 1, s.bad⟩ (Nat.le_trans hl (by decide)) (by simp only; omega)) ⟨rfl, rfl, rfl, rfl, rfl, rfl, rfl, rfl, rfl, rfl, ⟨rfl, trivial⟩, ⟨⟨⟨rfl, rfl, .inr rfl⟩, rfl, rfl, trivial⟩, trivial⟩, trivial⟩ ?_) | (refine And.intro (by constructor <;> ((try simp only [List.length_cons, List.length_nil]); (try simp only); omega)) ?_) | fail)))
  all_goals (conv => whnf)
  all_goals (first | exact ⟨⟨[], [], ⟨rfl, rfl, rfl, rfl⟩, ⟨rfl, rfl, rfl, ⟨rfl, rfl, .inl rfl⟩, trivial⟩, ⟨⟨⟨rfl, rfl, .inl rfl⟩, rfl, rfl, trivial⟩, trivial⟩, trivial⟩⟩)
end Go.Abs

set_option maxRecDepth 100000
namespace Go.Abs
open Go.Proofs
set_option maxHeartbeats 8000000 in
theorem b145_read (W0 : Go.World) (hk : Wk W0) (l : List T) (E : PS → Exp × PS) (s : PS) (ht : tOK l) (hl : l.length ≤ 549755813888) (hs : s.a ≤ l.length)
    (hE : ∀ s', s.a ≤ s'.a → s'.a ≤ l.length → Ctr Tryz.prog W0 73 [.ptr 0 0] [pbx l s'] (eE (E s').1) [pbx l (E s').2])
    (hle : ∀ s', s'.a ≤ l.length → s'.a ≤ (E s').2.a ∧ (E s').2.a ≤ l.length) (kd : S) (p : Int) (hp : pPeek l s = (kd, [114, 101, 97, 100], p)) :
    Body (Ctr Tryz.prog W0) F145.ac F145.rs [.ptr 0 0] [pbx l s] (eE (Exp.mk [114, 101, 97, 100] (pName l ⟨s.a + 1, s.bad⟩).1 0 [])) [pbx l ((pName l ⟨s.a + 1, s.bad⟩).2)] := by
  have hin := (pPeek_in (l := l) (s := s) (by rw [hp]; simp)).1
  conv => whnf
  (refine callP.full [0] [] [.ptr 0 0] [pbx l _] [pbx l _] _ (c108 W0 l s (Nat.le_trans hl (by decide)) hs) ⟨rfl, rfl, rfl, rfl, rfl, rfl, rfl, rfl, rfl, rfl, ⟨rfl, trivial⟩, ⟨⟨⟨rfl, rfl, .inr rfl⟩, rfl, rfl, trivial⟩, trivial⟩, trivial⟩ ?_)
  rw [hp]
  repeat' (first | (with_reducible refine Eq.mpr awp_r ?_; with_reducible refine Eq.mpr aopsD_r ?_) | ((conv => whnf); (first | with_reducible refine brec (fun _ => ?_) (fun _ => ?_) | (refine callP.full [0] [] [.ptr 0 0] [pbx l _] [pbx l _] _ (c110 W0 l ⟨s.a + 1, s.bad⟩ (Nat.le_trans hl (by decide)) (by simp only; omega)) ⟨rfl, rfl, rfl, rfl, rfl, rfl, rfl, rfl, rfl, rfl, ⟨rfl, trivial⟩, ⟨⟨⟨rfl, rfl, .inr rfl⟩, rfl, rfl, trivial⟩, trivial⟩, trivial⟩ ?_) | (refine And.intro (by constructor <;> ((try simp only [List.length_cons, List.length_nil]); (try simp only); omega)) ?_) | fail)))
  all_goals (conv => whnf)
  all_goals (first | exact ⟨⟨[], [], ⟨rfl, rfl, rfl, rfl⟩, ⟨rfl, rfl, rfl, ⟨rfl, rfl, .inl rfl⟩, trivial⟩, ⟨⟨⟨rfl, rfl, .inl rfl⟩, rfl, rfl, trivial⟩, trivial⟩, trivial⟩⟩)
end Go.Abs

set_option maxRecDepth 100000
namespace Go.Abs
open Go.Proofs
set_option maxHeartbeats 8000000 in
theorem b145_get (W0 : Go.World) (hk : Wk W0) (l : List T) (E : PS → Exp × PS) (s : PS) (ht : tOK l) (hl : l.length ≤ 549755813888) (hs : s.a ≤ l.length)
    (hE : ∀ s', s.a ≤ s'.a → s'.a ≤ l.length → Ctr Tryz.prog W0 73 [.ptr 0 0] [pbx l s'] (eE (E s').1) [pbx l (E s').2])
    (hle : ∀ s', s'.a ≤ l.length → s'.a ≤ (E s').2.a ∧ (E s').2.a ≤ l.length) (kd : S) (p : Int) (hp : pPeek l s = (kd, [103, 101, 116], p)) :
    Body (Ctr Tryz.prog W0) F145.ac F145.rs [.ptr 0 0] [pbx l s] (eE (Exp.mk [103, 101, 116] (pName l ⟨s.a + 1, s.bad⟩).1 0 [])) [pbx l ((pName l ⟨s.a + 1, s.bad⟩).2)] := by
  have hin := (pPeek_in (l := l) (s := s) (by rw [hp]; simp)).1
  conv => whnf
  (refine callP.full [0] [] [.ptr 0 0] [pbx l _] [pbx l _] _ (c108 W0 l s (Nat.le_trans hl (by decide)) hs) ⟨rfl, rfl, rfl, rfl, rfl, rfl, rfl, rfl, rfl, rfl, ⟨rfl, trivial⟩, ⟨⟨⟨rfl, rfl, .inr rfl⟩, rfl, rfl, trivial⟩, trivial⟩, trivial⟩ ?_)
  rw [hp]
  repeat' (first | (with_reducible refine Eq.mpr awp_r ?_; with_reducible refine Eq.mpr aopsD_r ?_) | ((conv => whnf); (first | with_reducible refine brec (fun _ => ?_) (fun _ => ?_) | (refine callP.full [0] [] [.ptr 0 0] [pbx l _] [pbx l _] _ (c110 W0 l ⟨s.a + 1, s.bad⟩ (Nat.le_trans hl (by decide)) (by simp only; omega)) ⟨rfl, rfl, rfl, rfl, rfl, rfl, rfl, rfl, rfl, rfl, ⟨rfl, trivial⟩, ⟨⟨⟨rfl, rfl, .inr rfl⟩, rfl, rfl, trivial⟩, trivial⟩, trivial⟩ ?_) | (refine And.intro (by constructor <;> ((try simp only [List.length_cons, List.length_nil]); (try simp only); omega)) ?_) | fail)))
  all_goals (conv => whnf)
  all_goals (first | exact ⟨⟨[], [], ⟨rfl, rfl, rfl, rfl⟩, ⟨rfl, rfl, rfl, ⟨rfl, rfl, .inl rfl⟩, trivial⟩, ⟨⟨⟨rfl, rfl, .inl rfl⟩, rfl, rfl, trivial⟩, trivial⟩, trivial⟩⟩)
end Go.Abs

set_option maxRecDepth 100000
namespace Go.Abs
open Go.Proofs
set_option maxHeartbeats 8000000 in
theorem b145_count (W0 : Go.World) (hk : Wk W0) (l : List T) (E : PS → Exp × PS) (s : PS) (ht : tOK l) (hl : l.length ≤ 549755813888) (hs : s.a ≤ l.length)
    (hE : ∀ s', s.a ≤ s'.a → s'.a ≤ l.length → Ctr Tryz.prog W0 73 [.ptr 0 0] [pbx l s'] (eE (E s').1) [pbx l (E s').2])
    (hle : ∀ s', s'.a ≤ l.length → s'.a ≤ (E s').2.a ∧ (E s').2.a ≤ l.length) (kd : S) (p : Int) (hp : pPeek l s = (kd, [99, 111, 117, 110, 116], p)) :
    Body (Ctr Tryz.prog W0) F145.ac F145.rs [.ptr 0 0] [pbx l s] (eE (Exp.mk [99, 111, 117, 110, 116] (pName l ⟨s.a + 1, s.bad⟩).1 0 [])) [pbx l ((pName l ⟨s.a + 1, s.bad⟩).2)] := by
  have hin := (pPeek_in (l := l) (s := s) (by rw [hp]; simp)).1
  conv => whnf
  (refine callP.full [0] [] [.ptr 0 0] [pbx l _] [pbx l _] _ (c108 W0 l s (Nat.le_trans hl (by decide)) hs) ⟨rfl, rfl, rfl, rfl, rfl, rfl, rfl, rfl, rfl, rfl, ⟨rfl, trivial⟩, ⟨⟨⟨rfl, rfl, .inr rfl⟩, rfl, rfl, trivial⟩, trivial⟩, trivial⟩ ?_)
  rw [hp]
  repeat' (first | (with_reducible refine Eq.mpr awp_r ?_; with_reducible refine Eq.mpr aopsD_r ?_) | ((conv => whnf); (first | with_reducible refine brec (fun _ => ?_) (fun _ => ?_) | (refine callP.full [0] [] [.ptr 0 0] [pbx l _] [pbx l _] _ (c110 W0 l ⟨s.a + 1, s.bad⟩ (Nat.le_trans hl (by decide)) (by simp only; omega)) ⟨rfl, rfl, rfl, rfl, rfl, rfl, rfl, rfl, rfl, rfl, ⟨rfl, trivial⟩, ⟨⟨⟨rfl, rfl, .inr rfl⟩, rfl, rfl, trivial⟩, trivial⟩, trivial⟩ ?_) | (refine And.intro (by constructor <;> ((try simp only [List.length_cons, List.length_nil]); (try simp only); omega)) ?_) | fail)))
  all_goals (conv => whnf)
  all_goals (first | exact ⟨⟨[], [], ⟨rfl, rfl, rfl, rfl⟩, ⟨rfl, rfl, rfl, ⟨rfl, rfl, .inl rfl⟩, trivial⟩, ⟨⟨⟨rfl, rfl, .inl rfl⟩, rfl, rfl, trivial⟩, trivial⟩, trivial⟩⟩)
end Go.Abs

set_option maxRecDepth 100000
namespace Go.Abs
open Go.Proofs
set_option maxHeartbeats 8000000 in
theorem b145_low (W0 : Go.World) (hk : Wk W0) (l : List T) (E : PS → Exp × PS) (s : PS) (ht : tOK l) (hl : l.length ≤ 549755813888) (hs : s.a ≤ l.length)
    (hE : ∀ s', s.a ≤ s'.a → s'.a ≤ l.length → Ctr Tryz.prog W0 73 [.ptr 0 0] [pbx l s'] (eE (E s').1) [pbx l (E s').2])
    (hle : ∀ s', s'.a ≤ l.length → s'.a ≤ (E s').2.a ∧ (E s').2.a ≤ l.length) (kd : S) (p : Int) (hp : pPeek l s = (kd, [108, 111, 119], p)) :
    Body (Ctr Tryz.prog W0) F145.ac F145.rs [.ptr 0 0] [pbx l s] (eE (Exp.mk [108, 111, 119] (pName l ⟨s.a + 1, s.bad⟩).1 (pNum l (pName l ⟨s.a + 1, s.bad⟩).2).1 [])) [pbx l ((pNum l (pName l ⟨s.a + 1, s.bad⟩).2).2)] := by
  have hin := (pPeek_in (l := l) (s := s) (by rw [hp]; simp)).1
  have hn := pName_le (l := l) (s := ⟨s.a + 1, s.bad⟩) (by simp only; omega)
  simp only at hn
  conv => whnf
  (refine callP.full [0] [] [.ptr 0 0] [pbx l _] [pbx l _] _ (c108 W0 l s (Nat.le_trans hl (by decide)) hs) ⟨rfl, rfl, rfl, rfl, rfl, rfl, rfl, rfl, rfl, rfl, ⟨rfl, trivial⟩, ⟨⟨⟨rfl, rfl, .inr rfl⟩, rfl, rfl, trivial⟩, trivial⟩, trivial⟩ ?_)
  rw [hp]
  repeat' (first | (with_reducible refine Eq.mpr awp_r ?_; with_reducible refine Eq.mpr aopsD_r ?_) | ((conv => whnf); (first | with_reducible refine brec (fun _ => ?_) (fun _ => ?_) | (refine callP.full [0] [] [.ptr 0 0] [pbx l _] [pbx l _] _ (c110 W0 l ⟨s.a + 1, s.bad⟩ (Nat.le_trans hl (by decide)) (by simp only; omega)) ⟨rfl, rfl, rfl, rfl, rfl, rfl, rfl, rfl, rfl, rfl, ⟨rfl, trivial⟩, ⟨⟨⟨rfl, rfl, .inr rfl⟩, rfl, rfl, trivial⟩, trivial⟩, trivial⟩ ?_) | (refine callP.full [0] [] [.ptr 0 0] [pbx l _] [pbx l _] _ (c114 W0 hk l (pName l ⟨s.a + 1, s.bad⟩).2 ht (Nat.le_trans hl (by decide)) hn.2) ⟨rfl, rfl, rfl, rfl, rfl, rfl, rfl, rfl, rfl, rfl, ⟨rfl, trivial⟩, ⟨⟨⟨rfl, rfl, .inr rfl⟩, rfl, rfl, trivial⟩, trivial⟩, trivial⟩ ?_) | (refine And.intro (by constructor <;> ((try simp only [List.length_cons, List.length_nil]); (try simp only); omega)) ?_) | fail)))
  all_goals (conv => whnf)
  all_goals (first | exact ⟨⟨[], [], ⟨rfl, rfl, rfl, rfl⟩, ⟨rfl, rfl, rfl, ⟨rfl, rfl, .inl rfl⟩, trivial⟩, ⟨⟨⟨rfl, rfl, .inl rfl⟩, rfl, rfl, trivial⟩, trivial⟩, trivial⟩⟩)
end Go.Abs

set_option maxRecDepth 100000
namespace Go.Abs
open Go.Proofs
set_option maxHeartbeats 8000000 in
theorem b145_high (W0 : Go.World) (hk : Wk W0) (l : List T) (E : PS → Exp × PS) (s : PS) (ht : tOK l) (hl : l.length ≤ 549755813888) (hs : s.a ≤ l.length)
    (hE : ∀ s', s.a ≤ s'.a → s'.a ≤ l.length → Ctr Tryz.prog W0 73 [.ptr 0 0] [pbx l s'] (eE (E s').1) [pbx l (E s').2])
    (hle : ∀ s', s'.a ≤ l.length → s'.a ≤ (E s').2.a ∧ (E s').2.a ≤ l.length) (kd : S) (p : Int) (hp : pPeek l s = (kd, [104, 105, 103, 104], p)) :
    Body (Ctr Tryz.prog W0) F145.ac F145.rs [.ptr 0 0] [pbx l s] (eE (Exp.mk [104, 105, 103, 104] (pName l ⟨s.a + 1, s.bad⟩).1 (pNum l (pName l ⟨s.a + 1, s.bad⟩).2).1 [])) [pbx l ((pNum l (pName l ⟨s.a + 1, s.bad⟩).2).2)] := by
  have hin := (pPeek_in (l := l) (s := s) (by rw [hp]; simp)).1
  have hn := pName_le (l := l) (s := ⟨s.a + 1, s.bad⟩) (by simp only; omega)
  simp only at hn
  conv => whnf
  (refine callP.full [0] [] [.ptr 0 0] [pbx l _] [pbx l _] _ (c108 W0 l s (Nat.le_trans hl (by decide)) hs) ⟨rfl, rfl, rfl, rfl, rfl, rfl, rfl, rfl, rfl, rfl, ⟨rfl, trivial⟩, ⟨⟨⟨rfl, rfl, .inr rfl⟩, rfl, rfl, trivial⟩, trivial⟩, trivial⟩ ?_)
  rw [hp]
  repeat' (first | (with_reducible refine Eq.mpr awp_r ?_; with_reducible refine Eq.mpr aopsD_r ?_) | ((conv => whnf); (first | with_reducible refine brec (fun _ => ?_) (fun _ => ?_) | (refine callP.full [0] [] [.ptr 0 0] [pbx l _] [pbx l _] _ (c110 W0 l ⟨s.a + 1, s.bad⟩ (Nat.le_trans hl (by decide)) (by simp only; omega)) ⟨rfl, rfl, rfl, rfl, rfl, rfl, rfl, rfl, rfl, rfl, ⟨rfl, trivial⟩, ⟨⟨⟨rfl, rfl, .inr rfl⟩, rfl, rfl, trivial⟩, trivial⟩, trivial⟩ ?_) | (refine callP.full [0] [] [.ptr 0 0] [pbx l _] [pbx l _] _ (c114 W0 hk l (pName l ⟨s.a + 1, s.bad⟩).2 ht (Nat.le_trans hl (by decide)) hn.2) ⟨rfl, rfl, rfl, rfl, rfl, rfl, rfl, rfl, rfl, rfl, ⟨rfl, trivial⟩, ⟨⟨⟨rfl, rfl, .inr rfl⟩, rfl, rfl, trivial⟩, trivial⟩, trivial⟩ ?_) | (refine And.intro (by constructor <;> ((try simp only [List.length_cons, List.length_nil]); (try simp only); omega)) ?_) | fail)))
  all_goals (conv => whnf)
  all_goals (first | exact ⟨⟨[], [], ⟨rfl, rfl, rfl, rfl⟩, ⟨rfl, rfl, rfl, ⟨rfl, rfl, .inl rfl⟩, trivial⟩, ⟨⟨⟨rfl, rfl, .inl rfl⟩, rfl, rfl, trivial⟩, trivial⟩, trivial⟩⟩)
end Go.Abs

set_option maxRecDepth 100000
namespace Go.Abs
open Go.Proofs
set_option maxHeartbeats 8000000 in
theorem b145_ord (W0 : Go.World) (hk : Wk W0) (l : List T) (E : PS → Exp × PS) (s : PS) (ht : tOK l) (hl : l.length ≤ 549755813888) (hs : s.a ≤ l.length)
    (hE : ∀ s', s.a ≤ s'.a → s'.a ≤ l.length → Ctr Tryz.prog W0 73 [.ptr 0 0] [pbx l s'] (eE (E s').1) [pbx l (E s').2])
    (hle : ∀ s', s'.a ≤ l.length → s'.a ≤ (E s').2.a ∧ (E s').2.a ≤ l.length) (kd : S) (p : Int) (hp : pPeek l s = (kd, [111, 114, 100], p)) :
    Body (Ctr Tryz.prog W0) F145.ac F145.rs [.ptr 0 0] [pbx l s] (eE (Exp.mk [111, 114, 100] (pName l ⟨s.a + 1, s.bad⟩).1 0 (pExps l E [93] (pMust l (pName l ⟨s.a + 1, s.bad⟩).2 [91])).1)) [pbx l ((pExps l E [93] (pMust l (pName l ⟨s.a + 1, s.bad⟩).2 [91])).2)] := by
  have hin := (pPeek_in (l := l) (s := s) (by rw [hp]; simp)).1
  have hn := pName_le (l := l) (s := ⟨s.a + 1, s.bad⟩) (by simp only; omega)
  simp only at hn
  have hm := pMust_le (x := [91]) hn.2
  conv => whnf
  (refine callP.full [0] [] [.ptr 0 0] [pbx l _] [pbx l _] _ (c108 W0 l s (Nat.le_trans hl (by decide)) hs) ⟨rfl, rfl, rfl, rfl, rfl, rfl, rfl, rfl, rfl, rfl, ⟨rfl, trivial⟩, ⟨⟨⟨rfl, rfl, .inr rfl⟩, rfl, rfl, trivial⟩, trivial⟩, trivial⟩ ?_)
  rw [hp]
  repeat' (first | (with_reducible refine Eq.mpr awp_r ?_; with_reducible refine Eq.mpr aopsD_r ?_) | ((conv => whnf); (first | with_reducible refine brec (fun _ => ?_) (fun _ => ?_) | (refine callP.full [0] [] [.ptr 0 0] [pbx l _] [pbx l _] _ (c110 W0 l ⟨s.a + 1, s.bad⟩ (Nat.le_trans hl (by decide)) (by simp only; omega)) ⟨rfl, rfl, rfl, rfl, rfl, rfl, rfl, rfl, rfl, rfl, ⟨rfl, trivial⟩, ⟨⟨⟨rfl, rfl, .inr rfl⟩, rfl, rfl, trivial⟩, trivial⟩, trivial⟩ ?_) | (refine callP.full [0] [] [.ptr 0 0, .sc (.s [91])] [pbx l _] [pbx l _] _ (c109 W0 l (pName l ⟨s.a + 1, s.bad⟩).2 [91] (Nat.le_trans hl (by decide)) hn.2) ⟨rfl, rfl, rfl, rfl, rfl, rfl, rfl, rfl, rfl, rfl, ⟨rfl, rfl, trivial⟩, ⟨⟨⟨rfl, rfl, .inr rfl⟩, rfl, rfl, trivial⟩, trivial⟩, trivial⟩ ?_) | (refine callP.full [0] [] [.ptr 0 0, .sc (.s [93])] [pbx l _] [pbx l _] _ (c143 W0 l E [93] (pMust l (pName l ⟨s.a + 1, s.bad⟩).2 [91]) hl hm.2 (fun s' h1 h2 => hE s' (by omega) h2) hle) ⟨rfl, rfl, rfl, rfl, rfl, rfl, rfl, rfl, rfl, rfl, ⟨rfl, rfl, trivial⟩, ⟨⟨⟨rfl, rfl, .inr rfl⟩, rfl, rfl, trivial⟩, trivial⟩, trivial⟩ ?_) | (refine And.intro (by constructor <;> ((try simp only [List.length_cons, List.length_nil]); (try simp only); omega)) ?_) | fail)))
  all_goals (conv => whnf)
  all_goals (first | exact ⟨⟨[], [], ⟨rfl, rfl, rfl, rfl⟩, ⟨rfl, rfl, rfl, ⟨rfl, rfl, .inl rfl⟩, trivial⟩, ⟨⟨⟨rfl, rfl, .inl rfl⟩, rfl, rfl, trivial⟩, trivial⟩, trivial⟩⟩)
end Go.Abs

set_option maxRecDepth 100000
namespace Go.Abs
open Go.Proofs
set_option maxHeartbeats 8000000 in
theorem b145_has (W0 : Go.World) (hk : Wk W0) (l : List T) (E : PS → Exp × PS) (s : PS) (ht : tOK l) (hl : l.length ≤ 549755813888) (hs : s.a ≤ l.length)
    (hE : ∀ s', s.a ≤ s'.a → s'.a ≤ l.length → Ctr Tryz.prog W0 73 [.ptr 0 0] [pbx l s'] (eE (E s').1) [pbx l (E s').2])
    (hle : ∀ s', s'.a ≤ l.length → s'.a ≤ (E s').2.a ∧ (E s').2.a ≤ l.length) (kd : S) (p : Int) (hp : pPeek l s = (kd, [104, 97, 115], p)) :
    Body (Ctr Tryz.prog W0) F145.ac F145.rs [.ptr 0 0] [pbx l s] (eE (Exp.mk [104, 97, 115] (pName l ⟨s.a + 1, s.bad⟩).1 0 (pExps l E [93] (pMust l (pName l ⟨s.a + 1, s.bad⟩).2 [91])).1)) [pbx l ((pExps l E [93] (pMust l (pName l ⟨s.a + 1, s.bad⟩).2 [91])).2)] := by
  have hin := (pPeek_in (l := l) (s := s) (by rw [hp]; simp)).1
  have hn := pName_le (l := l) (s := ⟨s.a + 1, s.bad⟩) (by simp only; omega)
  simp only at hn
  have hm := pMust_le (x := [91]) hn.2
  conv => whnf
  (refine callP.full [0] [] [.ptr 0 0] [pbx l _] [pbx l _] _ (c108 W0 l s (Nat.le_trans hl (by decide)) hs) ⟨rfl, rfl, rfl, rfl, rfl, rfl, rfl, rfl, rfl, rfl, ⟨rfl, trivial⟩, ⟨⟨⟨rfl, rfl, .inr rfl⟩, rfl, rfl, trivial⟩, trivial⟩, trivial⟩ ?_)
  rw [hp]
  repeat' (first | (with_reducible refine Eq.mpr awp_r ?_; with_reducible refine Eq.mpr aopsD_r ?_) | ((conv => whnf); (first | with_reducible refine brec (fun _ => ?_) (fun _ => ?_) | (refine callP.full [0] [] [.ptr 0 0] [pbx l _] [pbx l _] _ (c110 W0 l ⟨s.a + 1, s.bad⟩ (Nat.le_trans hl (by decide)) (by simp only; omega)) ⟨rfl, rfl, rfl, rfl, rfl, rfl, rfl, rfl, rfl, rfl, ⟨rfl, trivial⟩, ⟨⟨⟨rfl, rfl, .inr rfl⟩, rfl, rfl, trivial⟩, trivial⟩, trivial⟩ ?_) | (refine callP.full [0] [] [.ptr 0 0, .sc (.s [91])] [pbx l _] [pbx l _] _ (c109 W0 l (pName l ⟨s.a + 1, s.bad⟩).2 [91] (Nat.le_trans hl (by decide)) hn.2) ⟨rfl, rfl, rfl, rfl, rfl, rfl, rfl, rfl, rfl, rfl, ⟨rfl, rfl, trivial⟩, ⟨⟨⟨rfl, rfl, .inr rfl⟩, rfl, rfl, trivial⟩, trivial⟩, trivial⟩ ?_) | (refine callP.full [0] [] [.ptr 0 0, .sc (.s [93])] [pbx l _] [pbx l _] _ (c143 W0 l E [93] (pMust l (pName l ⟨s.a + 1, s.bad⟩).2 [91]) hl hm.2 (fun s' h1 h2 => hE s' (by omega) h2) hle) ⟨rfl, rfl, rfl, rfl, rfl, rfl, rfl, rfl, rfl, rfl, ⟨rfl, rfl, trivial⟩, ⟨⟨⟨rfl, rfl, .inr rfl⟩, rfl, rfl, trivial⟩, trivial⟩, trivial⟩ ?_) | (refine And.intro (by constructor <;> ((try simp only [List.length_cons, List.length_nil]); (try simp only); omega)) ?_) | fail)))
  all_goals (conv => whnf)
  all_goals (first | exact ⟨⟨[], [], ⟨rfl, rfl, rfl, rfl⟩, ⟨rfl, rfl, rfl, ⟨rfl, rfl, .inl rfl⟩, trivial⟩, ⟨⟨⟨rfl, rfl, .inl rfl⟩, rfl, rfl, trivial⟩, trivial⟩, trivial⟩⟩)
end Go.Abs

set_option maxRecDepth 100000
namespace Go.Abs
open Go.Proofs
set_option maxHeartbeats 8000000 in
theorem b145_nth (W0 : Go.World) (hk : Wk W0) (l : List T) (E : PS → Exp × PS) (s : PS) (ht : tOK l) (hl : l.length ≤ 549755813888) (hs : s.a ≤ l.length)
    (hE : ∀ s', s.a ≤ s'.a → s'.a ≤ l.length → Ctr Tryz.prog W0 73 [.ptr 0 0] [pbx l s'] (eE (E s').1) [pbx l (E s').2])
    (hle : ∀ s', s'.a ≤ l.length → s'.a ≤ (E s').2.a ∧ (E s').2.a ≤ l.length) (kd : S) (p : Int) (hp : pPeek l s = (kd, [110, 116, 104], p)) :
    Body (Ctr Tryz.prog W0) F145.ac F145.rs [.ptr 0 0] [pbx l s] (eE (Exp.mk [110, 116, 104] (pName l ⟨s.a + 1, s.bad⟩).1 (pNum l (pName l ⟨s.a + 1, s.bad⟩).2).1 [(E (pNum l (pName l ⟨s.a + 1, s.bad⟩).2).2).1])) [pbx l ((E (pNum l (pName l ⟨s.a + 1, s.bad⟩).2).2).2)] := by
  have hin := (pPeek_in (l := l) (s := s) (by rw [hp]; simp)).1
  have hn := pName_le (l := l) (s := ⟨s.a + 1, s.bad⟩) (by simp only; omega)
  simp only at hn
  have hu := pNum_le (l := l) hn.2
  have hE1 := hE (pNum l (pName l ⟨s.a + 1, s.bad⟩).2).2 (by omega) hu.2
  have hm1 := hle (pNum l (pName l ⟨s.a + 1, s.bad⟩).2).2 hu.2
  generalize hr1 : E (pNum l (pName l ⟨s.a + 1, s.bad⟩).2).2 = q1 at hE1 hm1 ⊢
  obtain ⟨⟨x1a, x1b, x1n, x1l⟩, s1⟩ := q1
  simp only at hE1 hm1 ⊢
  conv => whnf
  (refine callP.full [0] [] [.ptr 0 0] [pbx l _] [pbx l _] _ (c108 W0 l s (Nat.le_trans hl (by decide)) hs) ⟨rfl, rfl, rfl, rfl, rfl, rfl, rfl, rfl, rfl, rfl, ⟨rfl, trivial⟩, ⟨⟨⟨rfl, rfl, .inr rfl⟩, rfl, rfl, trivial⟩, trivial⟩, trivial⟩ ?_)
  rw [hp]
  repeat' (first | (with_reducible refine Eq.mpr awp_r ?_; with_reducible refine Eq.mpr aopsD_r ?_) | ((conv => whnf); (first | with_reducible refine brec (fun _ => ?_) (fun _ => ?_) | (refine callP.full [0] [] [.ptr 0 0] [pbx l _] [pbx l _] _ (c110 W0 l ⟨s.a + 1, s.bad⟩ (Nat.le_trans hl (by decide)) (by simp only; omega)) ⟨rfl, rfl, rfl, rfl, rfl, rfl, rfl, rfl, rfl, rfl, ⟨rfl, trivial⟩, ⟨⟨⟨rfl, rfl, .inr rfl⟩, rfl, rfl, trivial⟩, trivial⟩, trivial⟩ ?_) | (refine callP.full [0] [] [.ptr 0 0] [pbx l _] [pbx l _] _ (c114 W0 hk l (pName l ⟨s.a + 1, s.bad⟩).2 ht (Nat.le_trans hl (by decide)) hn.2) ⟨rfl, rfl, rfl, rfl, rfl, rfl, rfl, rfl, rfl, rfl, ⟨rfl, trivial⟩, ⟨⟨⟨rfl, rfl, .inr rfl⟩, rfl, rfl, trivial⟩, trivial⟩, trivial⟩ ?_) | (refine callP.full [0] [] [.ptr 0 0] [pbx l _] [pbx l _] _ (hE1) ⟨rfl, rfl, rfl, rfl, rfl, rfl, rfl, rfl, rfl, rfl, ⟨rfl, trivial⟩, ⟨⟨⟨rfl, rfl, .inr rfl⟩, rfl, rfl, trivial⟩, trivial⟩, trivial⟩ ?_) | (refine And.intro (by constructor <;> ((try simp only [List.length_cons, List.length_nil]); (try simp only); omega)) ?_) | fail)))
  all_goals (conv => whnf)
  all_goals (first | exact ⟨⟨[], [], ⟨rfl, rfl, rfl, rfl⟩, ⟨rfl, rfl, rfl, ⟨rfl, rfl, .inl rfl⟩, trivial⟩, ⟨⟨⟨rfl, rfl, .inl rfl⟩, rfl, rfl, trivial⟩, trivial⟩, trivial⟩⟩)
end Go.Abs

set_option maxRecDepth 100000
namespace Go.Abs
open Go.Proofs
set_option maxHeartbeats 16000000 in
theorem b145_d (W0 : Go.World) (hk : Wk W0) (l : List T) (E : PS → Exp × PS) (s : PS) (ht : tOK l) (hl : l.length ≤ 549755813888) (hs : s.a ≤ l.length)
    (hE : ∀ s', s.a ≤ s'.a → s'.a ≤ l.length → Ctr Tryz.prog W0 73 [.ptr 0 0] [pbx l s'] (eE (E s').1) [pbx l (E s').2])
    (hle : ∀ s', s'.a ≤ l.length → s'.a ≤ (E s').2.a ∧ (E s').2.a ≤ l.length) (g0 : beqL (pPeek l s).2.1 [109, 105, 110] = false) (g1 : beqL (pPeek l s).2.1 [109, 97, 120] = false) (g2 : beqL (pPeek l s).2.1 [33] = false) (g3 : beqL (pPeek l s).2.1 [105, 110, 116] = false) (g4 : beqL (pPeek l s).2.1 [110, 111, 110, 101] = false) (g5 : beqL (pPeek l s).2.1 [114, 101, 97, 100] = false) (g6 : beqL (pPeek l s).2.1 [103, 101, 116] = false) (g7 : beqL (pPeek l s).2.1 [99, 111, 117, 110, 116] = false) (g8 : beqL (pPeek l s).2.1 [108, 111, 119] = false) (g9 : beqL (pPeek l s).2.1 [104, 105, 103, 104] = false) (g10 : beqL (pPeek l s).2.1 [111, 114, 100] = false) (g11 : beqL (pPeek l s).2.1 [104, 97, 115] = false) (g12 : beqL (pPeek l s).2.1 [110, 116, 104] = false) :
    Body (Ctr Tryz.prog W0) F145.ac F145.rs [.ptr 0 0] [pbx l s] (eE (.mk [111, 112] (pNext l (E s).2).1.2.1 0 [(E s).1, (E (pBin l (E s).2)).1])) [pbx l (E (pBin l (E s).2)).2] := by
  have hE1 := hE s (Nat.le_refl _) hs
  have hm1 := hle s hs
  generalize hr1 : E s = q1 at hE1 hm1 ⊢
  obtain ⟨⟨x1a, x1b, x1n, x1l⟩, s1⟩ := q1
  simp only at hE1 hm1 ⊢
  have hx := pNext_le hm1.2
  have hE2 := hE ⟨(pNext l s1).2.a, true⟩ (by simp only; omega) hx.2.1
  have hE3 := hE (pNext l s1).2 (by omega) hx.2.1
  generalize hr2 : E ⟨(pNext l s1).2.a, true⟩ = q2 at hE2
  obtain ⟨⟨x2a, x2b, x2n, x2l⟩, s2⟩ := q2
  generalize hr3 : E (pNext l s1).2 = q3 at hE3
  obtain ⟨⟨x3a, x3b, x3n, x3l⟩, s3⟩ := q3
  simp only at hE2 hE3
  conv => whnf
  (refine callP.full [0] [] [.ptr 0 0] [pbx l _] [pbx l _] _ (c108 W0 l s (Nat.le_trans hl (by decide)) hs) ⟨rfl, rfl, rfl, rfl, rfl, rfl, rfl, rfl, rfl, rfl, ⟨rfl, trivial⟩, ⟨⟨⟨rfl, rfl, .inr rfl⟩, rfl, rfl, trivial⟩, trivial⟩, trivial⟩ ?_)
  conv => whnf
  rw [g0]
  conv => whnf
  rw [g1]
  conv => whnf
  rw [g2]
  conv => whnf
  rw [g3]
  conv => whnf
  rw [g4]
  conv => whnf
  rw [g5]
  conv => whnf
  rw [g6]
  conv => whnf
  rw [g7]
  conv => whnf
  rw [g8]
  conv => whnf
  rw [g9]
  conv => whnf
  rw [g10]
  conv => whnf
  rw [g11]
  conv => whnf
  rw [g12]
  conv => whnf
  (refine callP.full [0] [] [.ptr 0 0] [pbx l _] [pbx l _] _ (hE1) ⟨rfl, rfl, rfl, rfl, rfl, rfl, rfl, rfl, rfl, rfl, ⟨rfl, trivial⟩, ⟨⟨⟨rfl, rfl, .inr rfl⟩, rfl, rfl, trivial⟩, trivial⟩, trivial⟩ ?_)
  conv => whnf
  (refine callP.full [0] [] [.ptr 0 0] [pbx l _] [pbx l _] _ (c113 W0 l s1 (Nat.le_trans hl (by decide)) hm1.2) ⟨rfl, rfl, rfl, rfl, rfl, rfl, rfl, rfl, rfl, rfl, ⟨rfl, trivial⟩, ⟨⟨⟨rfl, rfl, .inr rfl⟩, rfl, rfl, trivial⟩, trivial⟩, trivial⟩ ?_)
  conv => whnf
  refine brec (fun h1 => ?_) (fun h1 => ?_)
  · conv => whnf
    refine callP.pure _ (c185 W0 (pNext l s1).1.2.1) ⟨rfl, rfl⟩ ?_
    conv => whnf
    refine brec (fun h2 => ?_) (fun h2 => ?_)
    · have ep : pBin l s1 = (pNext l s1).2 := by simp only [pBin, h1, h2, Bool.or_false, cond_false]
      rw [ep, hr3]
      conv => whnf
      (refine callP.full [0] [] [.ptr 0 0] [pbx l _] [pbx l _] _ (hE3) ⟨rfl, rfl, rfl, rfl, rfl, rfl, rfl, rfl, rfl, rfl, ⟨rfl, trivial⟩, ⟨⟨⟨rfl, rfl, .inr rfl⟩, rfl, rfl, trivial⟩, trivial⟩, trivial⟩ ?_)
      conv => whnf
      exact ⟨⟨[], [], ⟨rfl, rfl, rfl, rfl⟩, ⟨rfl, rfl, rfl, ⟨rfl, rfl, .inl rfl⟩, trivial⟩, ⟨⟨⟨rfl, rfl, .inl rfl⟩, rfl, rfl, trivial⟩, trivial⟩, trivial⟩⟩
    · have ep : pBin l s1 = ⟨(pNext l s1).2.a, true⟩ := by simp only [pBin, h1, h2, Bool.or_true, cond_true]
      rw [ep, hr2]
      conv => whnf
      (refine callP.full [0] [] [.ptr 0 0] [pbx l _] [pbx l _] _ (hE2) ⟨rfl, rfl, rfl, rfl, rfl, rfl, rfl, rfl, rfl, rfl, ⟨rfl, trivial⟩, ⟨⟨⟨rfl, rfl, .inr rfl⟩, rfl, rfl, trivial⟩, trivial⟩, trivial⟩ ?_)
      conv => whnf
      exact ⟨⟨[], [], ⟨rfl, rfl, rfl, rfl⟩, ⟨rfl, rfl, rfl, ⟨rfl, rfl, .inl rfl⟩, trivial⟩, ⟨⟨⟨rfl, rfl, .inl rfl⟩, rfl, rfl, trivial⟩, trivial⟩, trivial⟩⟩
  · have ep : pBin l s1 = ⟨(pNext l s1).2.a, true⟩ := by simp only [pBin, h1, Bool.true_or, cond_true]
    rw [ep, hr2]
    conv => whnf
    (refine callP.full [0] [] [.ptr 0 0] [pbx l _] [pbx l _] _ (hE2) ⟨rfl, rfl, rfl, rfl, rfl, rfl, rfl, rfl, rfl, rfl, ⟨rfl, trivial⟩, ⟨⟨⟨rfl, rfl, .inr rfl⟩, rfl, rfl, trivial⟩, trivial⟩, trivial⟩ ?_)
    conv => whnf
    exact ⟨⟨[], [], ⟨rfl, rfl, rfl, rfl⟩, ⟨rfl, rfl, rfl, ⟨rfl, rfl, .inl rfl⟩, trivial⟩, ⟨⟨⟨rfl, rfl, .inl rfl⟩, rfl, rfl, trivial⟩, trivial⟩, trivial⟩⟩
end Go.Abs

set_option maxRecDepth 100000
namespace Go.Abs
open Go.Proofs
theorem c145 (W0 : Go.World) (hk : Wk W0) (l : List T) (E : PS → Exp × PS) (s : PS) (ht : tOK l) (hl : l.length ≤ 549755813888) (hs : s.a ≤ l.length)
    (hE : ∀ s', s.a ≤ s'.a → s'.a ≤ l.length → Ctr Tryz.prog W0 73 [.ptr 0 0] [pbx l s'] (eE (E s').1) [pbx l (E s').2])
    (hle : ∀ s', s'.a ≤ l.length → s'.a ≤ (E s').2.a ∧ (E s').2.a ≤ l.length) : Ctr Tryz.prog W0 145 [.ptr 0 0] [pbx l s] (eE (pInner l E s).1) [pbx l (pInner l E s).2] := by
  cases g0 : beqL (pPeek l s).2.1 [109, 105, 110] with
  | true =>
    have e0 := beqL_iff.1 g0
    have e : pInner l E s = (Exp.mk [111, 112] [109, 105, 110] 0 [(E ⟨s.a + 1, s.bad⟩).1, (E (E ⟨s.a + 1, s.bad⟩).2).1], (E (E ⟨s.a + 1, s.bad⟩).2).2) := by simp [pInner, e0, hasB, beqL]
    rw [e]
    exact ctr_body follows F145_ok rfl (fun _ _ h => by cases h) rfl rfl (b145_min W0 hk l E s ht hl hs hE hle (pPeek l s).1 (pPeek l s).2.2 (Prod.ext rfl (Prod.ext e0 rfl)))
  | false =>
  cases g1 : beqL (pPeek l s).2.1 [109, 97, 120] with
  | true =>
    have e0 := beqL_iff.1 g1
    have e : pInner l E s = (Exp.mk [111, 112] [109, 97, 120] 0 [(E ⟨s.a + 1, s.bad⟩).1, (E (E ⟨s.a + 1, s.bad⟩).2).1], (E (E ⟨s.a + 1, s.bad⟩).2).2) := by simp [pInner, e0, hasB, beqL]
    rw [e]
    exact ctr_body follows F145_ok rfl (fun _ _ h => by cases h) rfl rfl (b145_max W0 hk l E s ht hl hs hE hle (pPeek l s).1 (pPeek l s).2.2 (Prod.ext rfl (Prod.ext e0 rfl)))
  | false =>
  cases g2 : beqL (pPeek l s).2.1 [33] with
  | true =>
    have e0 := beqL_iff.1 g2
    have e : pInner l E s = (Exp.mk [111, 112] [33] 0 [(E ⟨s.a + 1, s.bad⟩).1], (E ⟨s.a + 1, s.bad⟩).2) := by simp [pInner, e0, hasB, beqL]
    rw [e]
    exact ctr_body follows F145_ok rfl (fun _ _ h => by cases h) rfl rfl (b145_bang W0 hk l E s ht hl hs hE hle (pPeek l s).1 (pPeek l s).2.2 (Prod.ext rfl (Prod.ext e0 rfl)))
  | false =>
  cases g3 : beqL (pPeek l s).2.1 [105, 110, 116] with
  | true =>
    have e0 := beqL_iff.1 g3
    have e : pInner l E s = (Exp.mk [111, 112] [105, 110, 116] 0 [(E ⟨s.a + 1, s.bad⟩).1], (E ⟨s.a + 1, s.bad⟩).2) := by simp [pInner, e0, hasB, beqL]
    rw [e]
    exact ctr_body follows F145_ok rfl (fun _ _ h => by cases h) rfl rfl (b145_int W0 hk l E s ht hl hs hE hle (pPeek l s).1 (pPeek l s).2.2 (Prod.ext rfl (Prod.ext e0 rfl)))
  | false =>
  cases g4 : beqL (pPeek l s).2.1 [110, 111, 110, 101] with
  | true =>
    have e0 := beqL_iff.1 g4
    have e : pInner l E s = (Exp.mk [110, 111, 110, 101] (pOp l ⟨s.a + 1, s.bad⟩).1 0 [], (pOp l ⟨s.a + 1, s.bad⟩).2) := by simp [pInner, e0, hasB, beqL]
    rw [e]
    exact ctr_body follows F145_ok rfl (fun _ _ h => by cases h) rfl rfl (b145_none W0 hk l E s ht hl hs hE hle (pPeek l s).1 (pPeek l s).2.2 (Prod.ext rfl (Prod.ext e0 rfl)))
  | false =>
  cases g5 : beqL (pPeek l s).2.1 [114, 101, 97, 100] with
  | true =>
    have e0 := beqL_iff.1 g5
    have e : pInner l E s = (Exp.mk [114, 101, 97, 100] (pName l ⟨s.a + 1, s.bad⟩).1 0 [], (pName l ⟨s.a + 1, s.bad⟩).2) := by simp [pInner, e0, hasB, beqL]
    rw [e]
    exact ctr_body follows F145_ok rfl (fun _ _ h => by cases h) rfl rfl (b145_read W0 hk l E s ht hl hs hE hle (pPeek l s).1 (pPeek l s).2.2 (Prod.ext rfl (Prod.ext e0 rfl)))
  | false =>
  cases g6 : beqL (pPeek l s).2.1 [103, 101, 116] with
  | true =>
    have e0 := beqL_iff.1 g6
    have e : pInner l E s = (Exp.mk [103, 101, 116] (pName l ⟨s.a + 1, s.bad⟩).1 0 [], (pName l ⟨s.a + 1, s.bad⟩).2) := by simp [pInner, e0, hasB, beqL]
    rw [e]
    exact ctr_body follows F145_ok rfl (fun _ _ h => by cases h) rfl rfl (b145_get W0 hk l E s ht hl hs hE hle (pPeek l s).1 (pPeek l s).2.2 (Prod.ext rfl (Prod.ext e0 rfl)))
  | false =>
  cases g7 : beqL (pPeek l s).2.1 [99, 111, 117, 110, 116] with
  | true =>
    have e0 := beqL_iff.1 g7
    have e : pInner l E s = (Exp.mk [99, 111, 117, 110, 116] (pName l ⟨s.a + 1, s.bad⟩).1 0 [], (pName l ⟨s.a + 1, s.bad⟩).2) := by simp [pInner, e0, hasB, beqL]
    rw [e]
    exact ctr_body follows F145_ok rfl (fun _ _ h => by cases h) rfl rfl (b145_count W0 hk l E s ht hl hs hE hle (pPeek l s).1 (pPeek l s).2.2 (Prod.ext rfl (Prod.ext e0 rfl)))
  | false =>
  cases g8 : beqL (pPeek l s).2.1 [108, 111, 119] with
  | true =>
    have e0 := beqL_iff.1 g8
    have e : pInner l E s = (Exp.mk [108, 111, 119] (pName l ⟨s.a + 1, s.bad⟩).1 (pNum l (pName l ⟨s.a + 1, s.bad⟩).2).1 [], (pNum l (pName l ⟨s.a + 1, s.bad⟩).2).2) := by simp [pInner, e0, hasB, beqL]
    rw [e]
    exact ctr_body follows F145_ok rfl (fun _ _ h => by cases h) rfl rfl (b145_low W0 hk l E s ht hl hs hE hle (pPeek l s).1 (pPeek l s).2.2 (Prod.ext rfl (Prod.ext e0 rfl)))
  | false =>
  cases g9 : beqL (pPeek l s).2.1 [104, 105, 103, 104] with
  | true =>
    have e0 := beqL_iff.1 g9
    have e : pInner l E s = (Exp.mk [104, 105, 103, 104] (pName l ⟨s.a + 1, s.bad⟩).1 (pNum l (pName l ⟨s.a + 1, s.bad⟩).2).1 [], (pNum l (pName l ⟨s.a + 1, s.bad⟩).2).2) := by simp [pInner, e0, hasB, beqL]
    rw [e]
    exact ctr_body follows F145_ok rfl (fun _ _ h => by cases h) rfl rfl (b145_high W0 hk l E s ht hl hs hE hle (pPeek l s).1 (pPeek l s).2.2 (Prod.ext rfl (Prod.ext e0 rfl)))
  | false =>
  cases g10 : beqL (pPeek l s).2.1 [111, 114, 100] with
  | true =>
    have e0 := beqL_iff.1 g10
    have e : pInner l E s = (Exp.mk [111, 114, 100] (pName l ⟨s.a + 1, s.bad⟩).1 0 (pExps l E [93] (pMust l (pName l ⟨s.a + 1, s.bad⟩).2 [91])).1, (pExps l E [93] (pMust l (pName l ⟨s.a + 1, s.bad⟩).2 [91])).2) := by simp [pInner, e0, hasB, beqL]
    rw [e]
    exact ctr_body follows F145_ok rfl (fun _ _ h => by cases h) rfl rfl (b145_ord W0 hk l E s ht hl hs hE hle (pPeek l s).1 (pPeek l s).2.2 (Prod.ext rfl (Prod.ext e0 rfl)))
  | false =>
  cases g11 : beqL (pPeek l s).2.1 [104, 97, 115] with
  | true =>
    have e0 := beqL_iff.1 g11
    have e : pInner l E s = (Exp.mk [104, 97, 115] (pName l ⟨s.a + 1, s.bad⟩).1 0 (pExps l E [93] (pMust l (pName l ⟨s.a + 1, s.bad⟩).2 [91])).1, (pExps l E [93] (pMust l (pName l ⟨s.a + 1, s.bad⟩).2 [91])).2) := by simp [pInner, e0, hasB, beqL]
    rw [e]
    exact ctr_body follows F145_ok rfl (fun _ _ h => by cases h) rfl rfl (b145_has W0 hk l E s ht hl hs hE hle (pPeek l s).1 (pPeek l s).2.2 (Prod.ext rfl (Prod.ext e0 rfl)))
  | false =>
  cases g12 : beqL (pPeek l s).2.1 [110, 116, 104] with
  | true =>
    have e0 := beqL_iff.1 g12
    have e : pInner l E s = (Exp.mk [110, 116, 104] (pName l ⟨s.a + 1, s.bad⟩).1 (pNum l (pName l ⟨s.a + 1, s.bad⟩).2).1 [(E (pNum l (pName l ⟨s.a + 1, s.bad⟩).2).2).1], (E (pNum l (pName l ⟨s.a + 1, s.bad⟩).2).2).2) := by simp [pInner, e0, hasB, beqL]
    rw [e]
    exact ctr_body follows F145_ok rfl (fun _ _ h => by cases h) rfl rfl (b145_nth W0 hk l E s ht hl hs hE hle (pPeek l s).1 (pPeek l s).2.2 (Prod.ext rfl (Prod.ext e0 rfl)))
  | false =>
  have e : pInner l E s = (Exp.mk [111, 112] (pNext l (E s).2).1.2.1 0 [(E s).1, (E (pBin l (E s).2)).1], (E (pBin l (E s).2)).2) := by
    simp only [pInner, hasB, g0, g1, g2, g3, g4, g5, g6, g7, g8, g9, g10, g11, g12, Bool.or_false, cond_false]
  rw [e]
  exact ctr_body follows F145_ok rfl (fun _ _ h => by cases h) rfl rfl (b145_d W0 hk l E s ht hl hs hE hle g0 g1 g2 g3 g4 g5 g6 g7 g8 g9 g10 g11 g12)
theorem pBin_le {l : List T} {s : PS} (hs : s.a ≤ l.length) : s.a ≤ (pBin l s).a ∧ (pBin l s).a ≤ l.length := by
  have := pNext_le hs
  simp only [pBin]
  cases (!beqL (pNext l s).1.1 [115, 105, 103, 110] || !decide (operandsN (pNext l s).1.2.1 = 2)) <;> simp <;> omega
end Go.Abs
