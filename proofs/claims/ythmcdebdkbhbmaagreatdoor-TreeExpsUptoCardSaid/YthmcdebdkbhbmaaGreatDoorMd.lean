/- When two expressions are the same: the program, and the reference. -/
import Derived.Test.YthmcdebdkbhbmaaGreatDoorMc
import Derived.Test.YthmcdebdkbhbmaaGreatDoorProg
set_option maxRecDepth 100000
namespace Go.Abs
open Go.Proofs
theorem follows : Tryz.prog.follows .mixedOrders = true := by kernel_rfl
def F11 : Fn := ⟨.seq (.reg [⟨none, .box 2 (.t 0)⟩, ⟨none, .box 3 (.t 1)⟩, ⟨none, .mv 4 (.c (.sc (.b false)))⟩]) (.seq (.reg [⟨none, .fa 5 (.t 2) 0⟩, ⟨none, .ld 6 1 false (.t 5)⟩, ⟨none, .fa 7 (.t 3) 0⟩, ⟨none, .ld 8 1 false (.t 7)⟩, ⟨none, .bin 9 .eql (.t 6) (.t 8)⟩, ⟨none, .mv 10 (.t 9)⟩, ⟨some (10, true), .fa 11 (.t 2) 1⟩, ⟨some (10, true), .ld 12 1 false (.t 11)⟩, ⟨some (10, true), .fa 13 (.t 3) 1⟩, ⟨some (10, true), .ld 14 1 false (.t 13)⟩, ⟨some (10, true), .bin 15 .eql (.t 12) (.t 14)⟩, ⟨none, .pick 16 (.t 10) (.t 15) (.c (.sc (.b false)))⟩, ⟨none, .mv 17 (.t 16)⟩, ⟨some (17, true), .fa 18 (.t 2) 2⟩, ⟨some (17, true), .ld 19 1 false (.t 18)⟩, ⟨some (17, true), .fa 20 (.t 3) 2⟩, ⟨some (17, true), .ld 21 1 false (.t 20)⟩, ⟨some (17, true), .bin 22 .eql (.t 19) (.t 21)⟩, ⟨none, .pick 23 (.t 17) (.t 22) (.c (.sc (.b false)))⟩, ⟨none, .mv 24 (.t 23)⟩, ⟨some (24, true), .fa 25 (.t 2) 3⟩, ⟨some (24, true), .ld 26 1 false (.t 25)⟩, ⟨some (24, true), .fa 27 (.t 3) 3⟩, ⟨some (24, true), .ld 28 1 false (.t 27)⟩, ⟨some (24, true), .call (some 29) (.c (.fn 38 [])) [.t 26, .t 28, .c (.fn 11 [])]⟩, ⟨none, .pick 30 (.t 24) (.t 29) (.c (.sc (.b false)))⟩, ⟨none, .mv 4 (.t 30)⟩]) .ret), [(4, 0)], 31⟩
def F12 : Fn := ⟨.seq (.reg [⟨none, .box 2 (.t 0)⟩, ⟨none, .box 3 (.t 1)⟩, ⟨none, .mv 4 (.c (.sc (.b false)))⟩]) (.seq (.reg [⟨none, .fa 5 (.t 2) 0⟩, ⟨none, .ld 6 1 false (.t 5)⟩, ⟨none, .fa 7 (.t 3) 0⟩, ⟨none, .ld 8 1 false (.t 7)⟩, ⟨none, .bin 9 .eql (.t 6) (.t 8)⟩, ⟨none, .mv 10 (.t 9)⟩, ⟨some (10, true), .fa 11 (.t 2) 1⟩, ⟨some (10, true), .ld 12 1 false (.t 11)⟩, ⟨some (10, true), .fa 13 (.t 3) 1⟩, ⟨some (10, true), .ld 14 1 false (.t 13)⟩, ⟨some (10, true), .bin 15 .eql (.t 12) (.t 14)⟩, ⟨none, .pick 16 (.t 10) (.t 15) (.c (.sc (.b false)))⟩, ⟨none, .mv 17 (.t 16)⟩, ⟨some (17, true), .fa 18 (.t 2) 2⟩, ⟨some (17, true), .ld 19 1 false (.t 18)⟩, ⟨some (17, true), .fa 20 (.t 3) 2⟩, ⟨some (17, true), .ld 21 1 false (.t 20)⟩, ⟨some (17, true), .bin 22 .eql (.t 19) (.t 21)⟩, ⟨none, .pick 23 (.t 17) (.t 22) (.c (.sc (.b false)))⟩, ⟨none, .mv 24 (.t 23)⟩, ⟨some (24, true), .fa 25 (.t 2) 3⟩, ⟨some (24, true), .ld 26 1 false (.t 25)⟩, ⟨some (24, true), .fa 27 (.t 3) 3⟩, ⟨some (24, true), .ld 28 1 false (.t 27)⟩, ⟨some (24, true), .call (some 29) (.c (.fn 39 [])) [.t 26, .t 28]⟩, ⟨none, .pick 30 (.t 24) (.t 29) (.c (.sc (.b false)))⟩, ⟨none, .mv 4 (.t 30)⟩]) .ret), [(4, 0)], 31⟩
def F38 : Fn := ⟨.seq (.reg [⟨none, .mv 6 (.c (.sc (.b false)))⟩]) (.seq (.seq (.reg [⟨none, .mv 10 (.t 0)⟩, ⟨none, .len 11 (.t 10)⟩, ⟨none, .mv 12 (.t 1)⟩, ⟨none, .len 13 (.t 12)⟩, ⟨none, .bin 14 .neq (.t 11) (.t 13)⟩]) (.cond (.t 14) (.seq (.reg [⟨none, .mv 6 (.c (.sc (.b false)))⟩]) .ret) .skip)) (.seq (.seq (.reg [⟨none, .mv 15 (.t 0)⟩, ⟨none, .len 16 (.t 15)⟩, ⟨none, .mv 17 (.c (.sc (.i .i64 0)))⟩]) (.block 0 (.loop (.seq (.reg [⟨none, .bin 18 .lss (.t 17) (.t 16)⟩]) (.seq (.cond (.t 18) .skip (.exit 0)) (.seq (.block 1 (.seq (.reg [⟨none, .mv 19 (.t 17)⟩, ⟨none, .ia 20 4 (.t 15) (.t 17)⟩, ⟨none, .ld 21 4 true (.t 20)⟩, ⟨none, .alloc 8 [.sc (.s []), .sc (.s []), .sc (.i .i64 0), .sl 4 [] .full]⟩, ⟨none, .mv 7 (.t 19)⟩, ⟨none, .st (.t 8) 4 (.t 21)⟩]) (.seq (.reg [⟨none, .mv 22 (.t 1)⟩, ⟨none, .mv 23 (.t 7)⟩, ⟨none, .ia 24 4 (.t 22) (.t 23)⟩, ⟨none, .ld 25 4 true (.t 24)⟩, ⟨none, .alloc 9 [.sc (.s []), .sc (.s []), .sc (.i .i64 0), .sl 4 [] .full]⟩, ⟨none, .st (.t 9) 4 (.t 25)⟩]) (.seq (.reg [⟨none, .mv 26 (.t 2)⟩, ⟨none, .ld 27 4 true (.t 8)⟩, ⟨none, .ld 28 4 true (.t 9)⟩, ⟨none, .call (some 29) (.t 26) [.t 27, .t 28]⟩, ⟨none, .no 30 (.t 29)⟩]) (.cond (.t 30) (.seq (.reg [⟨none, .mv 6 (.c (.sc (.b false)))⟩]) .ret) .skip))))) (.reg [⟨none, .bin 31 .add (.t 17) (.c (.sc (.i .i64 1)))⟩, ⟨none, .mv 17 (.t 31)⟩]))))))) (.seq (.reg [⟨none, .mv 6 (.c (.sc (.b true)))⟩]) .ret))), [(6, 0)], 32⟩
def F39 : Fn := ⟨.seq (.reg [⟨none, .mv 4 (.c (.sc (.b false)))⟩]) (.seq (.seq (.reg [⟨none, .mv 6 (.t 0)⟩, ⟨none, .len 7 (.t 6)⟩, ⟨none, .mv 8 (.t 1)⟩, ⟨none, .len 9 (.t 8)⟩, ⟨none, .bin 10 .neq (.t 7) (.t 9)⟩]) (.cond (.t 10) (.seq (.reg [⟨none, .mv 4 (.c (.sc (.b false)))⟩]) .ret) .skip)) (.seq (.seq (.reg [⟨none, .mv 5 (.c (.sc (.i .i64 0)))⟩]) (.block 0 (.loop (.seq (.seq (.reg [⟨none, .mv 11 (.t 5)⟩, ⟨none, .mv 12 (.t 0)⟩, ⟨none, .len 13 (.t 12)⟩, ⟨none, .bin 14 .lss (.t 11) (.t 13)⟩]) (.cond (.t 14) .skip (.exit 0))) (.seq (.block 1 (.seq (.regD [⟨none, .mv 17 (.t 0)⟩, ⟨none, .mv 18 (.t 5)⟩, ⟨none, .ia 19 4 (.t 17) (.t 18)⟩, ⟨none, .ld 20 4 true (.t 19)⟩, ⟨none, .mv 21 (.t 1)⟩, ⟨none, .mv 22 (.t 5)⟩, ⟨none, .ia 23 4 (.t 21) (.t 22)⟩, ⟨none, .ld 24 4 true (.t 23)⟩, ⟨none, .call (some 25) (.c (.fn 12 [])) [.t 20, .t 24]⟩, ⟨none, .no 26 (.t 25)⟩] [0, 0, 3, 7, 0, 0, 48, 112, 255, 511]) (.cond (.t 26) (.seq (.reg [⟨none, .mv 4 (.c (.sc (.b false)))⟩]) .ret) .skip))) (.reg [⟨none, .mv 15 (.t 5)⟩, ⟨none, .bin 16 .add (.t 15) (.c (.sc (.i .i64 1)))⟩, ⟨none, .mv 5 (.t 16)⟩])))))) (.seq (.reg [⟨none, .mv 4 (.c (.sc (.b true)))⟩]) .ret))), [(4, 0)], 27⟩
theorem F11_ok : compT Tryz.prog (fun _ => an0) 11 = some F11 := by kernel_rfl
theorem F12_ok : compT Tryz.prog (fun _ => an0) 12 = some F12 := by kernel_rfl
theorem F38_ok : compT Tryz.prog (fun _ => an0) 38 = some F38 := by kernel_rfl
theorem F39_ok : compT Tryz.prog (fun _ => an0) 39 = some F39 := by kernel_rfl
theorem b11 (W0 : Go.World) (x y : Exp) (hx : x.ok) (hy : y.ok) (hc : ∀ l m, l.length ≤ 140737488355328 → m.length ≤ 140737488355328 → oksE l → oksE m → SizeOf.sizeOf l < SizeOf.sizeOf x → Ctr Tryz.prog W0 38 [eL l, eL m, .fn 11 []] [] (.sc (.b (sameL l m))) []) : Body (Ctr Tryz.prog W0) F11.ac F11.rs [eE x, eE y] [] (.sc (.b (sameE x y))) [] := by
  cases x with
  | mk a b n l =>
  cases y with
  | mk a' b' n' l' =>
  rw [sameE]
  conv => whnf
  refine brec (fun h1 => ?_) (fun h1 => ?_)
  · conv => whnf
    simp only [h1, Bool.false_and]
    exact fin_b rfl
  · simp only [h1, Bool.true_and]
    conv => whnf
    refine brec (fun h1 => ?_) (fun h1 => ?_)
    · conv => whnf
      simp only [h1, Bool.false_and]
      exact fin_b rfl
    · simp only [h1, Bool.true_and]
      conv => whnf
      refine brec (fun h1 => ?_) (fun h1 => ?_)
      · conv => whnf
        simp only [h1, Bool.false_and]
        exact fin_b rfl
      · simp only [h1, Bool.true_and]
        conv => whnf
        refine .pure _ (hc l l' hx.2.1 hy.2.1 hx.2.2 hy.2.2 (by simp; omega)) ⟨rfl, rfl⟩ ?_
        conv => whnf
        exact fin_b rfl
theorem b12 (W0 : Go.World) (x y : Exp) (hx : x.ok) (hy : y.ok) (hc : ∀ l m, l.length ≤ 140737488355328 → m.length ≤ 140737488355328 → oksE l → oksE m → SizeOf.sizeOf l < SizeOf.sizeOf x → Ctr Tryz.prog W0 39 [eL l, eL m] [] (.sc (.b (sameL l m))) []) : Body (Ctr Tryz.prog W0) F12.ac F12.rs [eE x, eE y] [] (.sc (.b (sameE x y))) [] := by
  cases x with
  | mk a b n l =>
  cases y with
  | mk a' b' n' l' =>
  rw [sameE]
  conv => whnf
  refine brec (fun h1 => ?_) (fun h1 => ?_)
  · conv => whnf
    simp only [h1, Bool.false_and]
    exact fin_b rfl
  · simp only [h1, Bool.true_and]
    conv => whnf
    refine brec (fun h1 => ?_) (fun h1 => ?_)
    · conv => whnf
      simp only [h1, Bool.false_and]
      exact fin_b rfl
    · simp only [h1, Bool.true_and]
      conv => whnf
      refine brec (fun h1 => ?_) (fun h1 => ?_)
      · conv => whnf
        simp only [h1, Bool.false_and]
        exact fin_b rfl
      · simp only [h1, Bool.true_and]
        conv => whnf
        refine .pure _ (hc l l' hx.2.1 hy.2.1 hx.2.2 hy.2.2 (by simp; omega)) ⟨rfl, rfl⟩ ?_
        conv => whnf
        exact fin_b rfl
theorem b38 (W0 : Go.World) (l m : List Exp) (hl : l.length ≤ 140737488355328) (ol : oksE l) (om : oksE m) (hc : ∀ x y, x.ok → y.ok → SizeOf.sizeOf x < SizeOf.sizeOf l → Ctr Tryz.prog W0 11 [eE x, eE y] [] (.sc (.b (sameE x y))) []) : Body (Ctr Tryz.prog W0) F38.ac F38.rs [eL l, eL m, .fn 11 []] [] (.sc (.b (sameL l m))) [] := by
  conv => whnf
  refine brec (fun h1 => ?_) (fun h1 => ?_)
  · conv => whnf
    simp only [expsD_length, Bool.not_eq_false', decide_eq_true_eq] at h1
    refine .st 1000 (fun k => l.length - k) (fun k => [(.s 1, .av (eL m)), (.s 2, .av (.fn 11 [])), (.s 15, .av (eL l)), (.s 16, .av (.sc (.i .i64 ((expsD l).length : Nat)))), (.s 17, .av (.sc (.i .i64 (k : Nat))))])
      (fun k => k ≤ l.length ∧ sameL l m = sameL (l.drop k) (m.drop k)) 0 ?_ ⟨Nat.zero_le _, rfl⟩ ?_
    · refine le_of rfl rfl ?_
      repeat' (first | exact rfl | exact trivial | refine ⟨?_, ?_⟩)
    · rintro k ⟨hk, he⟩
      conv => whnf
      refine brec (fun h2 => ?_) (fun h2 => ?_)
      · conv => whnf
        simp only [expsD_length, decide_eq_false_iff_not] at h2
        have e1 : l.drop k = [] := by simp; omega
        have e2 : m.drop k = [] := by simp; omega
        rw [he, e1, e2]
        exact fin_b rfl
      · simp only [expsD_length, decide_eq_true_eq] at h2
        obtain ⟨x, hx⟩ := get_of_lt (l := l) (k := k) (by omega)
        obtain ⟨y, hy⟩ := get_of_lt (l := m) (k := k) (by omega)
        have ox := oksE_get ol hx
        have oy := oksE_get om hy
        have dx := expsD_get hx
        have dy := expsD_get hy
        have sx := size_get hx
        rw [drop_get hx, drop_get hy, sameL] at he
        cases x with | mk a b n args =>
        cases y with | mk a' b' n' args' =>
        conv => whnf
        refine ⟨_, ⟨Int.natCast_nonneg _, dx⟩, ?_⟩
        conv => whnf
        refine ⟨_, ⟨Int.natCast_nonneg _, dy⟩, ?_⟩
        conv => whnf
        refine .pure _ (hc _ _ ox oy sx) ⟨rfl, rfl⟩ ?_
        conv => whnf
        refine brec (fun h3 => ?_) (fun h3 => ?_)
        · conv => whnf
          refine ⟨?_, ?_⟩
          · constructor <;> omega
          · conv => whnf
            refine nxt (k + 1) ⟨by omega, by omega, ?_⟩ ?_
            · simp only [Bool.not_eq_false'] at h3
              rw [he, h3, Bool.true_and]
            · refine le_of rfl rfl ?_
              repeat' (first | exact rfl | exact trivial | refine ⟨?_, ?_⟩)
        · conv => whnf
          simp only [Bool.not_eq_true'] at h3
          rw [he, h3, Bool.false_and]
          exact fin_b rfl
  · conv => whnf
    simp only [expsD_length, Bool.not_eq_true', decide_eq_false_iff_not] at h1
    rw [sameL_len (by omega)]
    exact fin_b rfl
theorem b39 (W0 : Go.World) (l m : List Exp) (hl : l.length ≤ 140737488355328) (ol : oksE l) (om : oksE m) (hc : ∀ x y, x.ok → y.ok → SizeOf.sizeOf x < SizeOf.sizeOf l → Ctr Tryz.prog W0 12 [eE x, eE y] [] (.sc (.b (sameE x y))) []) : Body (Ctr Tryz.prog W0) F39.ac F39.rs [eL l, eL m] [] (.sc (.b (sameL l m))) [] := by
  conv => whnf
  refine brec (fun h1 => ?_) (fun h1 => ?_)
  · conv => whnf
    simp only [expsD_length, Bool.not_eq_false', decide_eq_true_eq] at h1
    refine .st 1000 (fun k => l.length - k) (fun k => [(.s 0, .av (eL l)), (.s 1, .av (eL m)), (.s 5, .av (.sc (.i .i64 (k : Nat))))])
      (fun k => k ≤ l.length ∧ sameL l m = sameL (l.drop k) (m.drop k)) 0 ?_ ⟨Nat.zero_le _, rfl⟩ ?_
    · refine le_of rfl rfl ?_
      repeat' (first | exact rfl | exact trivial | refine ⟨?_, ?_⟩)
    · rintro k ⟨hk, he⟩
      conv => whnf
      refine brec (fun h2 => ?_) (fun h2 => ?_)
      · conv => whnf
        simp only [expsD_length, decide_eq_false_iff_not] at h2
        have e1 : l.drop k = [] := by simp; omega
        have e2 : m.drop k = [] := by simp; omega
        rw [he, e1, e2]
        exact fin_b rfl
      · simp only [expsD_length, decide_eq_true_eq] at h2
        obtain ⟨x, hx⟩ := get_of_lt (l := l) (k := k) (by omega)
        obtain ⟨y, hy⟩ := get_of_lt (l := m) (k := k) (by omega)
        have ox := oksE_get ol hx
        have oy := oksE_get om hy
        have dx := expsD_get hx
        have dy := expsD_get hy
        have sx := size_get hx
        rw [drop_get hx, drop_get hy, sameL] at he
        cases x with | mk a b n args =>
        cases y with | mk a' b' n' args' =>
        conv => whnf
        refine ⟨_, ⟨Int.natCast_nonneg _, dx⟩, ?_⟩
        conv => whnf
        refine ⟨_, ⟨Int.natCast_nonneg _, dy⟩, ?_⟩
        conv => whnf
        refine .pure _ (hc _ _ ox oy sx) ⟨rfl, rfl⟩ ?_
        conv => whnf
        refine brec (fun h3 => ?_) (fun h3 => ?_)
        · conv => whnf
          refine ⟨?_, ?_⟩
          · constructor <;> omega
          · conv => whnf
            refine nxt (k + 1) ⟨by omega, by omega, ?_⟩ ?_
            · simp only [Bool.not_eq_false'] at h3
              rw [he, h3, Bool.true_and]
            · refine le_of rfl rfl ?_
              repeat' (first | exact rfl | exact trivial | refine ⟨?_, ?_⟩)
        · conv => whnf
          simp only [Bool.not_eq_true'] at h3
          rw [he, h3, Bool.false_and]
          exact fin_b rfl
  · conv => whnf
    simp only [expsD_length, Bool.not_eq_true', decide_eq_false_iff_not] at h1
    rw [sameL_len (by omega)]
    exact fin_b rfl
theorem c11s (W0 : Go.World) : ∀ (n : Nat), (∀ x y : Exp, SizeOf.sizeOf x < n → x.ok → y.ok → Ctr Tryz.prog W0 11 [eE x, eE y] [] (.sc (.b (sameE x y))) []) ∧
    (∀ l m : List Exp, SizeOf.sizeOf l < n → l.length ≤ 140737488355328 → oksE l → oksE m → Ctr Tryz.prog W0 38 [eL l, eL m, .fn 11 []] [] (.sc (.b (sameL l m))) [])
  | 0 => ⟨fun _ _ h => absurd h (Nat.not_lt_zero _), fun _ _ h => absurd h (Nat.not_lt_zero _)⟩
  | n + 1 => by
    obtain ⟨ih1, ih2⟩ := c11s W0 n
    refine ⟨fun x y h hx hy => ?_, fun l m h hl ol om => ?_⟩
    · refine ctr_body follows F11_ok rfl (fun _ _ h => by cases h) rfl ?_ (b11 W0 x y hx hy fun l m hl _ ol om hs => ih2 l m (by omega) hl ol om)
      cases x; cases y; rfl
    · exact ctr_body follows F38_ok rfl (fun _ _ h => by cases h) rfl rfl (b38 W0 l m hl ol om fun x y hx hy hs => ih1 x y (by omega) hx hy)
theorem c11 (W0 : Go.World) (x y : Exp) (hx : x.ok) (hy : y.ok) : Ctr Tryz.prog W0 11 [eE x, eE y] [] (.sc (.b (sameE x y))) [] := (c11s W0 _).1 x y (Nat.lt_succ_self _) hx hy
theorem c38 (W0 : Go.World) (l m : List Exp) (hl : l.length ≤ 140737488355328) (ol : oksE l) (om : oksE m) : Ctr Tryz.prog W0 38 [eL l, eL m, .fn 11 []] [] (.sc (.b (sameL l m))) [] := (c11s W0 _).2 l m (Nat.lt_succ_self _) hl ol om
theorem c12s (W0 : Go.World) : ∀ (n : Nat), (∀ x y : Exp, SizeOf.sizeOf x < n → x.ok → y.ok → Ctr Tryz.prog W0 12 [eE x, eE y] [] (.sc (.b (sameE x y))) []) ∧
    (∀ l m : List Exp, SizeOf.sizeOf l < n → l.length ≤ 140737488355328 → oksE l → oksE m → Ctr Tryz.prog W0 39 [eL l, eL m] [] (.sc (.b (sameL l m))) [])
  | 0 => ⟨fun _ _ h => absurd h (Nat.not_lt_zero _), fun _ _ h => absurd h (Nat.not_lt_zero _)⟩
  | n + 1 => by
    obtain ⟨ih1, ih2⟩ := c12s W0 n
    refine ⟨fun x y h hx hy => ?_, fun l m h hl ol om => ?_⟩
    · refine ctr_body follows F12_ok rfl (fun _ _ h => by cases h) rfl ?_ (b12 W0 x y hx hy fun l m hl _ ol om hs => ih2 l m (by omega) hl ol om)
      cases x; cases y; rfl
    · exact ctr_body follows F39_ok rfl (fun _ _ h => by cases h) rfl rfl (b39 W0 l m hl ol om fun x y hx hy hs => ih1 x y (by omega) hx hy)
theorem c12 (W0 : Go.World) (x y : Exp) (hx : x.ok) (hy : y.ok) : Ctr Tryz.prog W0 12 [eE x, eE y] [] (.sc (.b (sameE x y))) [] := (c12s W0 _).1 x y (Nat.lt_succ_self _) hx hy
theorem c39 (W0 : Go.World) (l m : List Exp) (hl : l.length ≤ 140737488355328) (ol : oksE l) (om : oksE m) : Ctr Tryz.prog W0 39 [eL l, eL m] [] (.sc (.b (sameL l m))) [] := (c12s W0 _).2 l m (Nat.lt_succ_self _) hl ol om
end Go.Abs

set_option maxRecDepth 100000
namespace Go.Abs
open Go.Proofs
def F157 : Fn := ⟨.seq (.reg [⟨none, .mv 4 (.c (.sc (.b false)))⟩]) (.seq (.seq (.reg [⟨none, .mv 6 (.t 0)⟩, ⟨none, .len 7 (.t 6)⟩, ⟨none, .mv 8 (.t 1)⟩, ⟨none, .len 9 (.t 8)⟩, ⟨none, .bin 10 .neq (.t 7) (.t 9)⟩]) (.cond (.t 10) (.seq (.reg [⟨none, .mv 4 (.c (.sc (.b false)))⟩]) .ret) .skip)) (.seq (.seq (.reg [⟨none, .mv 11 (.t 0)⟩, ⟨none, .len 12 (.t 11)⟩, ⟨none, .mv 13 (.c (.sc (.i .i64 0)))⟩]) (.block 0 (.loop (.seq (.reg [⟨none, .bin 14 .lss (.t 13) (.t 12)⟩]) (.seq (.cond (.t 14) .skip (.exit 0)) (.seq (.block 1 (.seq (.reg [⟨none, .mv 15 (.t 13)⟩, ⟨none, .mv 5 (.t 15)⟩]) (.seq (.regD [⟨none, .mv 16 (.t 0)⟩, ⟨none, .mv 17 (.t 5)⟩, ⟨none, .ia 18 1 (.t 16) (.t 17)⟩, ⟨none, .ld 19 1 false (.t 18)⟩, ⟨none, .mv 20 (.t 1)⟩, ⟨none, .mv 21 (.t 5)⟩, ⟨none, .ia 22 1 (.t 20) (.t 21)⟩, ⟨none, .ld 23 1 false (.t 22)⟩, ⟨none, .bin 24 .neq (.t 19) (.t 23)⟩] [0, 0, 3, 7, 0, 0, 48, 112, 255]) (.cond (.t 24) (.seq (.reg [⟨none, .mv 4 (.c (.sc (.b false)))⟩]) .ret) .skip)))) (.reg [⟨none, .bin 25 .add (.t 13) (.c (.sc (.i .i64 1)))⟩, ⟨none, .mv 13 (.t 25)⟩]))))))) (.seq (.reg [⟨none, .mv 4 (.c (.sc (.b true)))⟩]) .ret))), [(4, 0)], 26⟩
def F37 : Fn := ⟨.seq (.reg [⟨none, .mv 4 (.c (.sc (.b false)))⟩]) (.seq (.seq (.reg [⟨none, .mv 6 (.t 0)⟩, ⟨none, .len 7 (.t 6)⟩, ⟨none, .mv 8 (.t 1)⟩, ⟨none, .len 9 (.t 8)⟩, ⟨none, .bin 10 .neq (.t 7) (.t 9)⟩]) (.cond (.t 10) (.seq (.reg [⟨none, .mv 4 (.c (.sc (.b false)))⟩]) .ret) .skip)) (.seq (.seq (.reg [⟨none, .mv 5 (.c (.sc (.i .i64 0)))⟩]) (.block 0 (.loop (.seq (.seq (.reg [⟨none, .mv 11 (.t 5)⟩, ⟨none, .mv 12 (.t 0)⟩, ⟨none, .len 13 (.t 12)⟩, ⟨none, .bin 14 .lss (.t 11) (.t 13)⟩]) (.cond (.t 14) .skip (.exit 0))) (.seq (.block 1 (.seq (.regD [⟨none, .mv 17 (.t 0)⟩, ⟨none, .mv 18 (.t 5)⟩, ⟨none, .ia 19 1 (.t 17) (.t 18)⟩, ⟨none, .ld 20 1 false (.t 19)⟩, ⟨none, .mv 21 (.t 1)⟩, ⟨none, .mv 22 (.t 5)⟩, ⟨none, .ia 23 1 (.t 21) (.t 22)⟩, ⟨none, .ld 24 1 false (.t 23)⟩, ⟨none, .bin 25 .neq (.t 20) (.t 24)⟩] [0, 0, 3, 7, 0, 0, 48, 112, 255]) (.cond (.t 25) (.seq (.reg [⟨none, .mv 4 (.c (.sc (.b false)))⟩]) .ret) .skip))) (.reg [⟨none, .mv 15 (.t 5)⟩, ⟨none, .bin 16 .add (.t 15) (.c (.sc (.i .i64 1)))⟩, ⟨none, .mv 5 (.t 16)⟩])))))) (.seq (.reg [⟨none, .mv 4 (.c (.sc (.b true)))⟩]) .ret))), [(4, 0)], 26⟩
def F158 : Fn := ⟨.seq (.reg [⟨none, .mv 4 (.c (.sc (.b false)))⟩]) (.seq (.seq (.reg [⟨none, .mv 6 (.t 0)⟩, ⟨none, .len 7 (.t 6)⟩, ⟨none, .mv 8 (.t 1)⟩, ⟨none, .len 9 (.t 8)⟩, ⟨none, .bin 10 .neq (.t 7) (.t 9)⟩]) (.cond (.t 10) (.seq (.reg [⟨none, .mv 4 (.c (.sc (.b false)))⟩]) .ret) .skip)) (.seq (.seq (.reg [⟨none, .mv 11 (.t 0)⟩, ⟨none, .len 12 (.t 11)⟩, ⟨none, .mv 13 (.c (.sc (.i .i64 0)))⟩]) (.block 0 (.loop (.seq (.reg [⟨none, .bin 14 .lss (.t 13) (.t 12)⟩]) (.seq (.cond (.t 14) .skip (.exit 0)) (.seq (.block 1 (.seq (.reg [⟨none, .mv 15 (.t 13)⟩, ⟨none, .mv 5 (.t 15)⟩]) (.seq (.regD [⟨none, .mv 16 (.t 0)⟩, ⟨none, .mv 17 (.t 5)⟩, ⟨none, .ia 18 2 (.t 16) (.t 17)⟩, ⟨none, .ld 19 2 true (.t 18)⟩, ⟨none, .mv 20 (.t 1)⟩, ⟨none, .mv 21 (.t 5)⟩, ⟨none, .ia 22 2 (.t 20) (.t 21)⟩, ⟨none, .ld 23 2 true (.t 22)⟩, ⟨none, .eqA 24 true [2, 2] (.t 19) (.t 23)⟩] [0, 0, 3, 7, 0, 0, 48, 112, 255]) (.cond (.t 24) (.seq (.reg [⟨none, .mv 4 (.c (.sc (.b false)))⟩]) .ret) .skip)))) (.reg [⟨none, .bin 25 .add (.t 13) (.c (.sc (.i .i64 1)))⟩, ⟨none, .mv 13 (.t 25)⟩]))))))) (.seq (.reg [⟨none, .mv 4 (.c (.sc (.b true)))⟩]) .ret))), [(4, 0)], 26⟩
def F83 : Fn := ⟨.seq (.reg [⟨none, .mv 4 (.c (.sc (.b false)))⟩]) (.seq (.seq (.reg [⟨none, .mv 6 (.t 0)⟩, ⟨none, .len 7 (.t 6)⟩, ⟨none, .mv 8 (.t 1)⟩, ⟨none, .len 9 (.t 8)⟩, ⟨none, .bin 10 .neq (.t 7) (.t 9)⟩]) (.cond (.t 10) (.seq (.reg [⟨none, .mv 4 (.c (.sc (.b false)))⟩]) .ret) .skip)) (.seq (.seq (.reg [⟨none, .mv 11 (.t 0)⟩, ⟨none, .len 12 (.t 11)⟩, ⟨none, .mv 13 (.c (.sc (.i .i64 0)))⟩]) (.block 0 (.loop (.seq (.reg [⟨none, .bin 14 .lss (.t 13) (.t 12)⟩]) (.seq (.cond (.t 14) .skip (.exit 0)) (.seq (.block 1 (.seq (.reg [⟨none, .mv 15 (.t 13)⟩, ⟨none, .mv 5 (.t 15)⟩]) (.seq (.regD [⟨none, .mv 16 (.t 0)⟩, ⟨none, .mv 17 (.t 5)⟩, ⟨none, .ia 18 3 (.t 16) (.t 17)⟩, ⟨none, .ld 19 3 true (.t 18)⟩, ⟨none, .mv 20 (.t 1)⟩, ⟨none, .mv 21 (.t 5)⟩, ⟨none, .ia 22 3 (.t 20) (.t 21)⟩, ⟨none, .ld 23 3 true (.t 22)⟩, ⟨none, .eqA 24 true [2, 2, 1] (.t 19) (.t 23)⟩] [0, 0, 3, 7, 0, 0, 48, 112, 255]) (.cond (.t 24) (.seq (.reg [⟨none, .mv 4 (.c (.sc (.b false)))⟩]) .ret) .skip)))) (.reg [⟨none, .bin 25 .add (.t 13) (.c (.sc (.i .i64 1)))⟩, ⟨none, .mv 13 (.t 25)⟩]))))))) (.seq (.reg [⟨none, .mv 4 (.c (.sc (.b true)))⟩]) .ret))), [(4, 0)], 26⟩
theorem F157_ok : compT Tryz.prog (fun _ => an0) 157 = some F157 := by kernel_rfl
theorem F37_ok : compT Tryz.prog (fun _ => an0) 37 = some F37 := by kernel_rfl
theorem F158_ok : compT Tryz.prog (fun _ => an0) 158 = some F158 := by kernel_rfl
theorem F83_ok : compT Tryz.prog (fun _ => an0) 83 = some F83 := by kernel_rfl
theorem b157 (W0 : Go.World) (l m : List S) (hl : l.length ≤ 140737488355328) : Body (Ctr Tryz.prog W0) F157.ac F157.rs [strL l, strL m] [] (.sc (.b (sameW beqL l m))) [] := by
  conv => whnf
  refine brec (fun h1 => ?_) (fun h1 => ?_)
  · conv => whnf
    simp only [strsD_length, Bool.not_eq_false', decide_eq_true_eq] at h1
    refine .st 1000 (fun k => l.length - k) (fun k => [(.s 0, .av (strL l)), (.s 1, .av (strL m)), (.s 12, .av (.sc (.i .i64 ((strsD l).length : Nat)))), (.s 13, .av (.sc (.i .i64 (k : Nat))))])
      (fun k => k ≤ l.length ∧ sameW beqL l m = sameW beqL (l.drop k) (m.drop k)) 0 ?_ ⟨Nat.zero_le _, rfl⟩ ?_
    · (refine le_of rfl rfl ?_; repeat' (first | exact rfl | exact trivial | refine ⟨?_, ?_⟩))
    · rintro k ⟨hk, he⟩
      conv => whnf
      refine brec (fun h2 => ?_) (fun h2 => ?_)
      · conv => whnf
        simp only [strsD_length, decide_eq_false_iff_not] at h2
        have e1 : l.drop k = [] := by simp; omega
        have e2 : m.drop k = [] := by simp; omega
        rw [he, e1, e2]
        exact fin_b (by simp [sameW])
      · simp only [strsD_length, decide_eq_true_eq] at h2
        obtain ⟨x, hx⟩ := get_of_lt (l := l) (k := k) (by omega)
        obtain ⟨y, hy⟩ := get_of_lt (l := m) (k := k) (by omega)
        have dx := strsD_get hx
        have dy := strsD_get hy

        rw [drop_get hx, drop_get hy, sameW] at he

        conv => whnf
        refine ⟨_, ⟨Int.natCast_nonneg _, dx⟩, ?_⟩
        conv => whnf
        refine ⟨_, ⟨Int.natCast_nonneg _, dy⟩, ?_⟩
        conv => whnf
        refine brec (fun h3 => ?_) (fun h3 => ?_)
        · have h4 : beqL x y = true := by simpa using h3
          conv => whnf
          refine ⟨?_, ?_⟩
          · constructor <;> omega
          · conv => whnf
            refine nxt (k + 1) ⟨by omega, by omega, ?_⟩ ?_
            · rw [he, h4, Bool.true_and]
            · (refine le_of rfl rfl ?_; repeat' (first | exact rfl | exact trivial | refine ⟨?_, ?_⟩))
        · have h4 : beqL x y = false := by simpa using h3
          conv => whnf
          rw [he, h4, Bool.false_and]
          exact fin_b rfl
  · conv => whnf
    simp only [strsD_length, Bool.not_eq_true', decide_eq_false_iff_not] at h1
    rw [sameW_len (by omega)]
    exact fin_b rfl
theorem c157 (W0 : Go.World) (l m : List S) (hl : l.length ≤ 140737488355328) : Ctr Tryz.prog W0 157 [strL l, strL m] [] (.sc (.b (sameW beqL l m))) [] :=
  ctr_body follows F157_ok rfl (fun _ _ h => by cases h) rfl (by rfl) (b157 W0 l m hl)
theorem b37 (W0 : Go.World) (l m : List S) (hl : l.length ≤ 140737488355328) : Body (Ctr Tryz.prog W0) F37.ac F37.rs [strL l, strL m] [] (.sc (.b (sameW beqL l m))) [] := by
  conv => whnf
  refine brec (fun h1 => ?_) (fun h1 => ?_)
  · conv => whnf
    simp only [strsD_length, Bool.not_eq_false', decide_eq_true_eq] at h1
    refine .st 1000 (fun k => l.length - k) (fun k => [(.s 0, .av (strL l)), (.s 1, .av (strL m)), (.s 5, .av (.sc (.i .i64 (k : Nat))))])
      (fun k => k ≤ l.length ∧ sameW beqL l m = sameW beqL (l.drop k) (m.drop k)) 0 ?_ ⟨Nat.zero_le _, rfl⟩ ?_
    · (refine le_of rfl rfl ?_; repeat' (first | exact rfl | exact trivial | refine ⟨?_, ?_⟩))
    · rintro k ⟨hk, he⟩
      conv => whnf
      refine brec (fun h2 => ?_) (fun h2 => ?_)
      · conv => whnf
        simp only [strsD_length, decide_eq_false_iff_not] at h2
        have e1 : l.drop k = [] := by simp; omega
        have e2 : m.drop k = [] := by simp; omega
        rw [he, e1, e2]
        exact fin_b (by simp [sameW])
      · simp only [strsD_length, decide_eq_true_eq] at h2
        obtain ⟨x, hx⟩ := get_of_lt (l := l) (k := k) (by omega)
        obtain ⟨y, hy⟩ := get_of_lt (l := m) (k := k) (by omega)
        have dx := strsD_get hx
        have dy := strsD_get hy

        rw [drop_get hx, drop_get hy, sameW] at he

        conv => whnf
        refine ⟨_, ⟨Int.natCast_nonneg _, dx⟩, ?_⟩
        conv => whnf
        refine ⟨_, ⟨Int.natCast_nonneg _, dy⟩, ?_⟩
        conv => whnf
        refine brec (fun h3 => ?_) (fun h3 => ?_)
        · have h4 : beqL x y = true := by simpa using h3
          conv => whnf
          refine ⟨?_, ?_⟩
          · constructor <;> omega
          · conv => whnf
            refine nxt (k + 1) ⟨by omega, by omega, ?_⟩ ?_
            · rw [he, h4, Bool.true_and]
            · (refine le_of rfl rfl ?_; repeat' (first | exact rfl | exact trivial | refine ⟨?_, ?_⟩))
        · have h4 : beqL x y = false := by simpa using h3
          conv => whnf
          rw [he, h4, Bool.false_and]
          exact fin_b rfl
  · conv => whnf
    simp only [strsD_length, Bool.not_eq_true', decide_eq_false_iff_not] at h1
    rw [sameW_len (by omega)]
    exact fin_b rfl
theorem c37 (W0 : Go.World) (l m : List S) (hl : l.length ≤ 140737488355328) : Ctr Tryz.prog W0 37 [strL l, strL m] [] (.sc (.b (sameW beqL l m))) [] :=
  ctr_body follows F37_ok rfl (fun _ _ h => by cases h) rfl (by rfl) (b37 W0 l m hl)
theorem b158 (W0 : Go.World) (l m : List Fold) (hl : l.length ≤ 140737488355328) : Body (Ctr Tryz.prog W0) F158.ac F158.rs [eFs l, eFs m] [] (.sc (.b (sameW sameFold l m))) [] := by
  conv => whnf
  refine brec (fun h1 => ?_) (fun h1 => ?_)
  · conv => whnf
    simp only [foldsD_length, Bool.not_eq_false', decide_eq_true_eq] at h1
    refine .st 1000 (fun k => l.length - k) (fun k => [(.s 0, .av (eFs l)), (.s 1, .av (eFs m)), (.s 12, .av (.sc (.i .i64 ((foldsD l).length : Nat)))), (.s 13, .av (.sc (.i .i64 (k : Nat))))])
      (fun k => k ≤ l.length ∧ sameW sameFold l m = sameW sameFold (l.drop k) (m.drop k)) 0 ?_ ⟨Nat.zero_le _, rfl⟩ ?_
    · (refine le_of rfl rfl ?_; repeat' (first | exact rfl | exact trivial | refine ⟨?_, ?_⟩))
    · rintro k ⟨hk, he⟩
      conv => whnf
      refine brec (fun h2 => ?_) (fun h2 => ?_)
      · conv => whnf
        simp only [foldsD_length, decide_eq_false_iff_not] at h2
        have e1 : l.drop k = [] := by simp; omega
        have e2 : m.drop k = [] := by simp; omega
        rw [he, e1, e2]
        exact fin_b (by simp [sameW])
      · simp only [foldsD_length, decide_eq_true_eq] at h2
        obtain ⟨x, hx⟩ := get_of_lt (l := l) (k := k) (by omega)
        obtain ⟨y, hy⟩ := get_of_lt (l := m) (k := k) (by omega)
        have dx := foldsD_get hx
        have dy := foldsD_get hy

        rw [drop_get hx, drop_get hy, sameW] at he
        obtain ⟨a, b⟩ := x
        obtain ⟨a', b'⟩ := y
        conv => whnf
        refine ⟨_, ⟨Int.natCast_nonneg _, dx⟩, ?_⟩
        conv => whnf
        refine ⟨_, ⟨Int.natCast_nonneg _, dy⟩, ?_⟩
        conv => whnf
        refine brec (fun h3 => ?_) (fun h3 => ?_)
        · have h4 : sameFold ⟨a, b⟩ ⟨a', b'⟩ = true := by rw [Bool.not_eq_false'] at h3; exact h3
          conv => whnf
          refine ⟨?_, ?_⟩
          · constructor <;> omega
          · conv => whnf
            refine nxt (k + 1) ⟨by omega, by omega, ?_⟩ ?_
            · rw [he, h4, Bool.true_and]
            · (refine le_of rfl rfl ?_; repeat' (first | exact rfl | exact trivial | refine ⟨?_, ?_⟩))
        · have h4 : sameFold ⟨a, b⟩ ⟨a', b'⟩ = false := by rw [Bool.not_eq_true'] at h3; exact h3
          conv => whnf
          rw [he, h4, Bool.false_and]
          exact fin_b rfl
  · conv => whnf
    simp only [foldsD_length, Bool.not_eq_true', decide_eq_false_iff_not] at h1
    rw [sameW_len (by omega)]
    exact fin_b rfl
theorem c158 (W0 : Go.World) (l m : List Fold) (hl : l.length ≤ 140737488355328) : Ctr Tryz.prog W0 158 [eFs l, eFs m] [] (.sc (.b (sameW sameFold l m))) [] :=
  ctr_body follows F158_ok rfl (fun _ _ h => by cases h) rfl (by rfl) (b158 W0 l m hl)
theorem b83 (W0 : Go.World) (l m : List Prm) (hl : l.length ≤ 140737488355328) : Body (Ctr Tryz.prog W0) F83.ac F83.rs [ePs l, ePs m] [] (.sc (.b (sameW samePrm l m))) [] := by
  conv => whnf
  refine brec (fun h1 => ?_) (fun h1 => ?_)
  · conv => whnf
    simp only [prmsD_length, Bool.not_eq_false', decide_eq_true_eq] at h1
    refine .st 1000 (fun k => l.length - k) (fun k => [(.s 0, .av (ePs l)), (.s 1, .av (ePs m)), (.s 12, .av (.sc (.i .i64 ((prmsD l).length : Nat)))), (.s 13, .av (.sc (.i .i64 (k : Nat))))])
      (fun k => k ≤ l.length ∧ sameW samePrm l m = sameW samePrm (l.drop k) (m.drop k)) 0 ?_ ⟨Nat.zero_le _, rfl⟩ ?_
    · (refine le_of rfl rfl ?_; repeat' (first | exact rfl | exact trivial | refine ⟨?_, ?_⟩))
    · rintro k ⟨hk, he⟩
      conv => whnf
      refine brec (fun h2 => ?_) (fun h2 => ?_)
      · conv => whnf
        simp only [prmsD_length, decide_eq_false_iff_not] at h2
        have e1 : l.drop k = [] := by simp; omega
        have e2 : m.drop k = [] := by simp; omega
        rw [he, e1, e2]
        exact fin_b (by simp [sameW])
      · simp only [prmsD_length, decide_eq_true_eq] at h2
        obtain ⟨x, hx⟩ := get_of_lt (l := l) (k := k) (by omega)
        obtain ⟨y, hy⟩ := get_of_lt (l := m) (k := k) (by omega)
        have dx := prmsD_get hx
        have dy := prmsD_get hy

        rw [drop_get hx, drop_get hy, sameW] at he
        obtain ⟨a, b, c⟩ := x
        obtain ⟨a', b', c'⟩ := y
        conv => whnf
        refine ⟨_, ⟨Int.natCast_nonneg _, dx⟩, ?_⟩
        conv => whnf
        refine ⟨_, ⟨Int.natCast_nonneg _, dy⟩, ?_⟩
        conv => whnf
        refine brec (fun h3 => ?_) (fun h3 => ?_)
        · have h4 : samePrm ⟨a, b, c⟩ ⟨a', b', c'⟩ = true := by rw [Bool.not_eq_false'] at h3; exact h3
          conv => whnf
          refine ⟨?_, ?_⟩
          · constructor <;> omega
          · conv => whnf
            refine nxt (k + 1) ⟨by omega, by omega, ?_⟩ ?_
            · rw [he, h4, Bool.true_and]
            · (refine le_of rfl rfl ?_; repeat' (first | exact rfl | exact trivial | refine ⟨?_, ?_⟩))
        · have h4 : samePrm ⟨a, b, c⟩ ⟨a', b', c'⟩ = false := by rw [Bool.not_eq_true'] at h3; exact h3
          conv => whnf
          rw [he, h4, Bool.false_and]
          exact fin_b rfl
  · conv => whnf
    simp only [prmsD_length, Bool.not_eq_true', decide_eq_false_iff_not] at h1
    rw [sameW_len (by omega)]
    exact fin_b rfl
theorem c83 (W0 : Go.World) (l m : List Prm) (hl : l.length ≤ 140737488355328) : Ctr Tryz.prog W0 83 [ePs l, ePs m] [] (.sc (.b (sameW samePrm l m))) [] :=
  ctr_body follows F83_ok rfl (fun _ _ h => by cases h) rfl (by rfl) (b83 W0 l m hl)
end Go.Abs

set_option maxRecDepth 100000
namespace Go.Abs
open Go.Proofs
def F85 : Fn := ⟨.seq (.reg [⟨none, .box 2 (.t 0)⟩, ⟨none, .box 3 (.t 1)⟩, ⟨none, .mv 4 (.c (.sc (.b false)))⟩]) (.seq (.seq (.reg [⟨none, .fa 5 (.t 2) 0⟩, ⟨none, .ld 6 1 false (.t 5)⟩, ⟨none, .fa 7 (.t 3) 0⟩, ⟨none, .ld 8 1 false (.t 7)⟩, ⟨none, .bin 9 .neq (.t 6) (.t 8)⟩, ⟨none, .mv 10 (.t 9)⟩, ⟨some (10, false), .fa 11 (.t 2) 1⟩, ⟨some (10, false), .ld 12 1 false (.t 11)⟩, ⟨some (10, false), .fa 13 (.t 3) 1⟩, ⟨some (10, false), .ld 14 1 false (.t 13)⟩, ⟨some (10, false), .bin 15 .neq (.t 12) (.t 14)⟩, ⟨none, .pick 16 (.t 10) (.c (.sc (.b true))) (.t 15)⟩, ⟨none, .mv 17 (.t 16)⟩, ⟨some (17, false), .fa 18 (.t 2) 2⟩, ⟨some (17, false), .ld 19 1 false (.t 18)⟩, ⟨some (17, false), .fa 20 (.t 3) 2⟩, ⟨some (17, false), .ld 21 1 false (.t 20)⟩, ⟨some (17, false), .bin 22 .neq (.t 19) (.t 21)⟩, ⟨none, .pick 23 (.t 17) (.c (.sc (.b true))) (.t 22)⟩, ⟨none, .mv 24 (.t 23)⟩, ⟨some (24, false), .fa 25 (.t 2) 3⟩, ⟨some (24, false), .ld 26 1 false (.t 25)⟩, ⟨some (24, false), .fa 27 (.t 3) 3⟩, ⟨some (24, false), .ld 28 1 false (.t 27)⟩, ⟨some (24, false), .bin 29 .neq (.t 26) (.t 28)⟩, ⟨none, .pick 30 (.t 24) (.c (.sc (.b true))) (.t 29)⟩, ⟨none, .mv 31 (.t 30)⟩, ⟨some (31, false), .fa 32 (.t 2) 4⟩, ⟨some (31, false), .ld 33 1 false (.t 32)⟩, ⟨some (31, false), .fa 34 (.t 3) 4⟩, ⟨some (31, false), .ld 35 1 false (.t 34)⟩, ⟨some (31, false), .call (some 36) (.c (.fn 157 [])) [.t 33, .t 35]⟩, ⟨some (31, false), .no 37 (.t 36)⟩, ⟨none, .pick 38 (.t 31) (.c (.sc (.b true))) (.t 37)⟩, ⟨none, .mv 39 (.t 38)⟩, ⟨some (39, false), .fa 40 (.t 2) 6⟩, ⟨some (39, false), .ld 41 1 false (.t 40)⟩, ⟨some (39, false), .fa 42 (.t 3) 6⟩, ⟨some (39, false), .ld 43 1 false (.t 42)⟩, ⟨some (39, false), .call (some 44) (.c (.fn 158 [])) [.t 41, .t 43]⟩, ⟨some (39, false), .no 45 (.t 44)⟩, ⟨none, .pick 46 (.t 39) (.c (.sc (.b true))) (.t 45)⟩]) (.cond (.t 46) (.seq (.reg [⟨none, .mv 4 (.c (.sc (.b false)))⟩]) .ret) .skip)) (.seq (.reg [⟨none, .fa 47 (.t 2) 5⟩, ⟨none, .ld 48 1 false (.t 47)⟩, ⟨none, .fa 49 (.t 3) 5⟩, ⟨none, .ld 50 1 false (.t 49)⟩, ⟨none, .call (some 51) (.c (.fn 38 [])) [.t 48, .t 50, .c (.fn 11 [])]⟩, ⟨none, .mv 52 (.t 51)⟩, ⟨some (52, true), .fa 53 (.t 2) 7⟩, ⟨some (52, true), .ld 54 1 false (.t 53)⟩, ⟨some (52, true), .fa 55 (.t 3) 7⟩, ⟨some (52, true), .ld 56 1 false (.t 55)⟩, ⟨some (52, true), .call (some 57) (.c (.fn 159 [])) [.t 54, .t 56, .c (.fn 42 [])]⟩, ⟨none, .pick 58 (.t 52) (.t 57) (.c (.sc (.b false)))⟩, ⟨none, .mv 4 (.t 58)⟩]) .ret)), [(4, 0)], 59⟩
def F84 : Fn := ⟨.seq (.reg [⟨none, .mv 6 (.c (.sc (.b false)))⟩]) (.seq (.seq (.reg [⟨none, .mv 10 (.t 0)⟩, ⟨none, .len 11 (.t 10)⟩, ⟨none, .mv 12 (.t 1)⟩, ⟨none, .len 13 (.t 12)⟩, ⟨none, .bin 14 .neq (.t 11) (.t 13)⟩]) (.cond (.t 14) (.seq (.reg [⟨none, .mv 6 (.c (.sc (.b false)))⟩]) .ret) .skip)) (.seq (.seq (.reg [⟨none, .mv 15 (.t 0)⟩, ⟨none, .len 16 (.t 15)⟩, ⟨none, .mv 17 (.c (.sc (.i .i64 0)))⟩]) (.block 0 (.loop (.seq (.reg [⟨none, .bin 18 .lss (.t 17) (.t 16)⟩]) (.seq (.cond (.t 18) .skip (.exit 0)) (.seq (.block 1 (.seq (.reg [⟨none, .mv 19 (.t 17)⟩, ⟨none, .ia 20 8 (.t 15) (.t 17)⟩, ⟨none, .ld 21 8 true (.t 20)⟩, ⟨none, .alloc 8 [.sc (.s []), .sc (.s []), .sc (.s []), .sc (.i .i64 0), .sl 1 [] .full, .sl 4 [] .full, .sl 2 [] .full, .sl 1 [] .full]⟩, ⟨none, .mv 7 (.t 19)⟩, ⟨none, .st (.t 8) 8 (.t 21)⟩]) (.seq (.reg [⟨none, .mv 22 (.t 1)⟩, ⟨none, .mv 23 (.t 7)⟩, ⟨none, .ia 24 8 (.t 22) (.t 23)⟩, ⟨none, .ld 25 8 true (.t 24)⟩, ⟨none, .alloc 9 [.sc (.s []), .sc (.s []), .sc (.s []), .sc (.i .i64 0), .sl 1 [] .full, .sl 4 [] .full, .sl 2 [] .full, .sl 1 [] .full]⟩, ⟨none, .st (.t 9) 8 (.t 25)⟩]) (.seq (.reg [⟨none, .mv 26 (.t 2)⟩, ⟨none, .ld 27 8 true (.t 8)⟩, ⟨none, .ld 28 8 true (.t 9)⟩, ⟨none, .call (some 29) (.t 26) [.t 27, .t 28]⟩, ⟨none, .no 30 (.t 29)⟩]) (.cond (.t 30) (.seq (.reg [⟨none, .mv 6 (.c (.sc (.b false)))⟩]) .ret) .skip))))) (.reg [⟨none, .bin 31 .add (.t 17) (.c (.sc (.i .i64 1)))⟩, ⟨none, .mv 17 (.t 31)⟩]))))))) (.seq (.reg [⟨none, .mv 6 (.c (.sc (.b true)))⟩]) .ret))), [(6, 0)], 32⟩
def F42 : Fn := ⟨.seq (.reg [⟨none, .mv 4 (.c (.sc (.b false)))⟩]) (.seq (.reg [⟨none, .mv 5 (.t 0)⟩, ⟨none, .mv 6 (.t 1)⟩, ⟨none, .call (some 7) (.c (.fn 84 [])) [.t 5, .t 6, .c (.fn 85 [])]⟩, ⟨none, .mv 4 (.t 7)⟩]) .ret), [(4, 0)], 8⟩
def F159 : Fn := ⟨.seq (.reg [⟨none, .mv 6 (.c (.sc (.b false)))⟩]) (.seq (.seq (.reg [⟨none, .mv 10 (.t 0)⟩, ⟨none, .len 11 (.t 10)⟩, ⟨none, .mv 12 (.t 1)⟩, ⟨none, .len 13 (.t 12)⟩, ⟨none, .bin 14 .neq (.t 11) (.t 13)⟩]) (.cond (.t 14) (.seq (.reg [⟨none, .mv 6 (.c (.sc (.b false)))⟩]) .ret) .skip)) (.seq (.seq (.reg [⟨none, .mv 15 (.t 0)⟩, ⟨none, .len 16 (.t 15)⟩, ⟨none, .mv 17 (.c (.sc (.i .i64 0)))⟩]) (.block 0 (.loop (.seq (.reg [⟨none, .bin 18 .lss (.t 17) (.t 16)⟩]) (.seq (.cond (.t 18) .skip (.exit 0)) (.seq (.block 1 (.seq (.reg [⟨none, .mv 19 (.t 17)⟩, ⟨none, .ia 20 1 (.t 15) (.t 17)⟩, ⟨none, .ld 21 1 false (.t 20)⟩, ⟨none, .mv 7 (.t 19)⟩, ⟨none, .mv 8 (.t 21)⟩]) (.seq (.reg [⟨none, .mv 22 (.t 1)⟩, ⟨none, .mv 23 (.t 7)⟩, ⟨none, .ia 24 1 (.t 22) (.t 23)⟩, ⟨none, .ld 25 1 false (.t 24)⟩, ⟨none, .mv 9 (.t 25)⟩]) (.seq (.reg [⟨none, .mv 26 (.t 2)⟩, ⟨none, .mv 27 (.t 8)⟩, ⟨none, .mv 28 (.t 9)⟩, ⟨none, .call (some 29) (.t 26) [.t 27, .t 28]⟩, ⟨none, .no 30 (.t 29)⟩]) (.cond (.t 30) (.seq (.reg [⟨none, .mv 6 (.c (.sc (.b false)))⟩]) .ret) .skip))))) (.reg [⟨none, .bin 31 .add (.t 17) (.c (.sc (.i .i64 1)))⟩, ⟨none, .mv 17 (.t 31)⟩]))))))) (.seq (.reg [⟨none, .mv 6 (.c (.sc (.b true)))⟩]) .ret))), [(6, 0)], 32⟩
def F43 : Fn := ⟨.seq (.reg [⟨none, .mv 4 (.c (.sc (.b false)))⟩]) (.seq (.seq (.reg [⟨none, .mv 6 (.t 0)⟩, ⟨none, .len 7 (.t 6)⟩, ⟨none, .mv 8 (.t 1)⟩, ⟨none, .len 9 (.t 8)⟩, ⟨none, .bin 10 .neq (.t 7) (.t 9)⟩]) (.cond (.t 10) (.seq (.reg [⟨none, .mv 4 (.c (.sc (.b false)))⟩]) .ret) .skip)) (.seq (.seq (.reg [⟨none, .mv 5 (.c (.sc (.i .i64 0)))⟩]) (.block 0 (.loop (.seq (.seq (.reg [⟨none, .mv 11 (.t 5)⟩, ⟨none, .mv 12 (.t 0)⟩, ⟨none, .len 13 (.t 12)⟩, ⟨none, .bin 14 .lss (.t 11) (.t 13)⟩]) (.cond (.t 14) .skip (.exit 0))) (.seq (.block 1 (.seq (.regD [⟨none, .mv 17 (.t 0)⟩, ⟨none, .mv 18 (.t 5)⟩, ⟨none, .ia 19 8 (.t 17) (.t 18)⟩, ⟨none, .ld 20 8 true (.t 19)⟩, ⟨none, .mv 21 (.t 1)⟩, ⟨none, .mv 22 (.t 5)⟩, ⟨none, .ia 23 8 (.t 21) (.t 22)⟩, ⟨none, .ld 24 8 true (.t 23)⟩, ⟨none, .call (some 25) (.c (.fn 32 [])) [.t 20, .t 24]⟩, ⟨none, .no 26 (.t 25)⟩] [0, 0, 3, 7, 0, 0, 48, 112, 255, 511]) (.cond (.t 26) (.seq (.reg [⟨none, .mv 4 (.c (.sc (.b false)))⟩]) .ret) .skip))) (.reg [⟨none, .mv 15 (.t 5)⟩, ⟨none, .bin 16 .add (.t 15) (.c (.sc (.i .i64 1)))⟩, ⟨none, .mv 5 (.t 16)⟩])))))) (.seq (.reg [⟨none, .mv 4 (.c (.sc (.b true)))⟩]) .ret))), [(4, 0)], 27⟩
theorem F85_ok : compT Tryz.prog (fun _ => an0) 85 = some F85 := by kernel_rfl
theorem F84_ok : compT Tryz.prog (fun _ => an0) 84 = some F84 := by kernel_rfl
theorem F42_ok : compT Tryz.prog (fun _ => an0) 42 = some F42 := by kernel_rfl
theorem F159_ok : compT Tryz.prog (fun _ => an0) 159 = some F159 := by kernel_rfl
theorem F43_ok : compT Tryz.prog (fun _ => an0) 43 = some F43 := by kernel_rfl
theorem size_getB {l : List Stm} {k : Nat} {x : Stm} (h : l[k]? = some x) : SizeOf.sizeOf x < SizeOf.sizeOf l := List.sizeOf_lt_of_mem (List.mem_of_getElem? h)
theorem size_getBs {l : List (List Stm)} {k : Nat} {x : List Stm} (h : l[k]? = some x) : SizeOf.sizeOf x < SizeOf.sizeOf l := List.sizeOf_lt_of_mem (List.mem_of_getElem? h)
set_option maxHeartbeats 2000000 in
theorem b85 (W0 : Go.World) (x y : Stm) (hx : x.ok) (hy : y.ok) (h159 : ∀ l m, l.length ≤ 140737488355328 → oksBs l → oksBs m → SizeOf.sizeOf l < SizeOf.sizeOf x → Ctr Tryz.prog W0 159 [eBs l, eBs m, .fn 42 []] [] (.sc (.b (sameBs l m))) []) : Body (Ctr Tryz.prog W0) F85.ac F85.rs [eS x, eS y] [] (.sc (.b (sameS x y))) [] := by
  cases x with | mk o nm tx n ns es fs bs =>
  cases y with | mk o' nm' tx' n' ns' es' fs' bs' =>
  repeat' ((conv => whnf); (first | with_reducible refine brec (fun _ => ?_) (fun _ => ?_) | (refine callP.pure _ (c157 W0 _ _ hx.2.1.1) ⟨rfl, rfl⟩ ?_) | (refine callP.pure _ (c158 W0 _ _ hx.2.2.2.1.1) ⟨rfl, rfl⟩ ?_) | (refine callP.pure _ (c38 W0 _ _ hx.2.2.1.1 hx.2.2.1.2 hy.2.2.1.2) ⟨rfl, rfl⟩ ?_) | (refine callP.pure _ (h159 _ _ hx.2.2.2.2.1 hx.2.2.2.2.2 hy.2.2.2.2.2 (by simp; omega)) ⟨rfl, rfl⟩ ?_) | fail))
  all_goals ((conv => whnf); refine fin_b ?_; simp_all [sameS])
theorem b84 (W0 : Go.World) (l m : List Stm) (hl : l.length ≤ 140737488355328) (ol : oksB l) (om : oksB m) (hc : ∀ x y, x.ok → y.ok → SizeOf.sizeOf x < SizeOf.sizeOf l → Ctr Tryz.prog W0 85 [eS x, eS y] [] (.sc (.b (sameS x y))) []) : Body (Ctr Tryz.prog W0) F84.ac F84.rs [eB l, eB m, .fn 85 []] [] (.sc (.b (sameB l m))) [] := by
  conv => whnf
  refine brec (fun h1 => ?_) (fun h1 => ?_)
  · conv => whnf
    simp only [stmsD_length, Bool.not_eq_false', decide_eq_true_eq] at h1
    refine .st 1000 (fun k => l.length - k) (fun k => [(.s 1, .av (eB m)), (.s 2, .av (.fn 85 [])), (.s 15, .av (eB l)), (.s 16, .av (.sc (.i .i64 ((stmsD l).length : Nat)))), (.s 17, .av (.sc (.i .i64 (k : Nat))))])
      (fun k => k ≤ l.length ∧ sameB l m = sameB (l.drop k) (m.drop k)) 0 ?_ ⟨Nat.zero_le _, rfl⟩ ?_
    · (refine le_of rfl rfl ?_; repeat' (first | exact rfl | exact trivial | refine ⟨?_, ?_⟩))
    · rintro k ⟨hk, he⟩
      conv => whnf
      refine brec (fun h2 => ?_) (fun h2 => ?_)
      · conv => whnf
        simp only [stmsD_length, decide_eq_false_iff_not] at h2
        have e1 : l.drop k = [] := by simp; omega
        have e2 : m.drop k = [] := by simp; omega
        rw [he, e1, e2]
        exact fin_b (by simp [sameB])
      · simp only [stmsD_length, decide_eq_true_eq] at h2
        obtain ⟨x, hx⟩ := get_of_lt (l := l) (k := k) (by omega)
        obtain ⟨y, hy⟩ := get_of_lt (l := m) (k := k) (by omega)
        have dx := stmsD_get hx
        have dy := stmsD_get hy
        have ox := oksB_get ol hx
        have oy := oksB_get om hy
        have sx := size_getB hx
        rw [drop_get hx, drop_get hy, sameB] at he
        cases x with | mk o nm tx n ns es fs bs =>
        cases y with | mk o' nm' tx' n' ns' es' fs' bs' =>
        conv => whnf
        refine ⟨_, ⟨Int.natCast_nonneg _, dx⟩, ?_⟩
        conv => whnf
        refine ⟨_, ⟨Int.natCast_nonneg _, dy⟩, ?_⟩
        conv => whnf
        refine .pure _ (hc _ _ ox oy sx) ⟨rfl, rfl⟩ ?_
        conv => whnf
        refine brec (fun h3 => ?_) (fun h3 => ?_)
        · simp only [Bool.not_eq_false'] at h3; have h4 := h3
          conv => whnf
          refine ⟨?_, ?_⟩
          · constructor <;> omega
          · conv => whnf
            refine nxt (k + 1) ⟨by omega, by omega, ?_⟩ ?_
            · rw [he, h4, Bool.true_and]
            · (refine le_of rfl rfl ?_; repeat' (first | exact rfl | exact trivial | refine ⟨?_, ?_⟩))
        · simp only [Bool.not_eq_true'] at h3; have h4 := h3
          conv => whnf
          rw [he, h4, Bool.false_and]
          exact fin_b rfl
  · conv => whnf
    simp only [stmsD_length, Bool.not_eq_true', decide_eq_false_iff_not] at h1
    rw [sameB_len (by omega)]
    exact fin_b rfl
theorem b43 (W0 : Go.World) (l m : List Stm) (hl : l.length ≤ 140737488355328) (ol : oksB l) (om : oksB m) (hc : ∀ x y, x.ok → y.ok → SizeOf.sizeOf x < SizeOf.sizeOf l → Ctr Tryz.prog W0 32 [eS x, eS y] [] (.sc (.b (sameS x y))) []) : Body (Ctr Tryz.prog W0) F43.ac F43.rs [eB l, eB m] [] (.sc (.b (sameB l m))) [] := by
  conv => whnf
  refine brec (fun h1 => ?_) (fun h1 => ?_)
  · conv => whnf
    simp only [stmsD_length, Bool.not_eq_false', decide_eq_true_eq] at h1
    refine .st 1000 (fun k => l.length - k) (fun k => [(.s 0, .av (eB l)), (.s 1, .av (eB m)), (.s 5, .av (.sc (.i .i64 (k : Nat))))])
      (fun k => k ≤ l.length ∧ sameB l m = sameB (l.drop k) (m.drop k)) 0 ?_ ⟨Nat.zero_le _, rfl⟩ ?_
    · (refine le_of rfl rfl ?_; repeat' (first | exact rfl | exact trivial | refine ⟨?_, ?_⟩))
    · rintro k ⟨hk, he⟩
      conv => whnf
      refine brec (fun h2 => ?_) (fun h2 => ?_)
      · conv => whnf
        simp only [stmsD_length, decide_eq_false_iff_not] at h2
        have e1 : l.drop k = [] := by simp; omega
        have e2 : m.drop k = [] := by simp; omega
        rw [he, e1, e2]
        exact fin_b (by simp [sameB])
      · simp only [stmsD_length, decide_eq_true_eq] at h2
        obtain ⟨x, hx⟩ := get_of_lt (l := l) (k := k) (by omega)
        obtain ⟨y, hy⟩ := get_of_lt (l := m) (k := k) (by omega)
        have dx := stmsD_get hx
        have dy := stmsD_get hy
        have ox := oksB_get ol hx
        have oy := oksB_get om hy
        have sx := size_getB hx
        rw [drop_get hx, drop_get hy, sameB] at he
        cases x with | mk o nm tx n ns es fs bs =>
        cases y with | mk o' nm' tx' n' ns' es' fs' bs' =>
        conv => whnf
        refine ⟨_, ⟨Int.natCast_nonneg _, dx⟩, ?_⟩
        conv => whnf
        refine ⟨_, ⟨Int.natCast_nonneg _, dy⟩, ?_⟩
        conv => whnf
        refine .pure _ (hc _ _ ox oy sx) ⟨rfl, rfl⟩ ?_
        conv => whnf
        refine brec (fun h3 => ?_) (fun h3 => ?_)
        · simp only [Bool.not_eq_false'] at h3; have h4 := h3
          conv => whnf
          refine ⟨?_, ?_⟩
          · constructor <;> omega
          · conv => whnf
            refine nxt (k + 1) ⟨by omega, by omega, ?_⟩ ?_
            · rw [he, h4, Bool.true_and]
            · (refine le_of rfl rfl ?_; repeat' (first | exact rfl | exact trivial | refine ⟨?_, ?_⟩))
        · simp only [Bool.not_eq_true'] at h3; have h4 := h3
          conv => whnf
          rw [he, h4, Bool.false_and]
          exact fin_b rfl
  · conv => whnf
    simp only [stmsD_length, Bool.not_eq_true', decide_eq_false_iff_not] at h1
    rw [sameB_len (by omega)]
    exact fin_b rfl
set_option maxHeartbeats 2000000 in
theorem b42 (W0 : Go.World) (l m : List Stm) (h84 : Ctr Tryz.prog W0 84 [eB l, eB m, .fn 85 []] [] (.sc (.b (sameB l m))) []) : Body (Ctr Tryz.prog W0) F42.ac F42.rs [eB l, eB m] [] (.sc (.b (sameB l m))) [] := by

  repeat' ((conv => whnf); (first | with_reducible refine brec (fun _ => ?_) (fun _ => ?_) | (refine callP.pure _ (h84) ⟨rfl, rfl⟩ ?_) | fail))
  all_goals ((conv => whnf); refine fin_b ?_; simp_all)
theorem b159 (W0 : Go.World) (l m : List (List Stm)) (hl : l.length ≤ 140737488355328) (ol : oksBs l) (om : oksBs m) (hc : ∀ x y, x.length ≤ 140737488355328 → oksB x → oksB y → SizeOf.sizeOf x < SizeOf.sizeOf l → Ctr Tryz.prog W0 42 [eB x, eB y] [] (.sc (.b (sameB x y))) []) : Body (Ctr Tryz.prog W0) F159.ac F159.rs [eBs l, eBs m, .fn 42 []] [] (.sc (.b (sameBs l m))) [] := by
  conv => whnf
  refine brec (fun h1 => ?_) (fun h1 => ?_)
  · conv => whnf
    simp only [bodiesD_length, Bool.not_eq_false', decide_eq_true_eq] at h1
    refine .st 1000 (fun k => l.length - k) (fun k => [(.s 1, .av (eBs m)), (.s 2, .av (.fn 42 [])), (.s 15, .av (eBs l)), (.s 16, .av (.sc (.i .i64 ((bodiesD l).length : Nat)))), (.s 17, .av (.sc (.i .i64 (k : Nat))))])
      (fun k => k ≤ l.length ∧ sameBs l m = sameBs (l.drop k) (m.drop k)) 0 ?_ ⟨Nat.zero_le _, rfl⟩ ?_
    · (refine le_of rfl rfl ?_; repeat' (first | exact rfl | exact trivial | refine ⟨?_, ?_⟩))
    · rintro k ⟨hk, he⟩
      conv => whnf
      refine brec (fun h2 => ?_) (fun h2 => ?_)
      · conv => whnf
        simp only [bodiesD_length, decide_eq_false_iff_not] at h2
        have e1 : l.drop k = [] := by simp; omega
        have e2 : m.drop k = [] := by simp; omega
        rw [he, e1, e2]
        exact fin_b (by simp [sameBs])
      · simp only [bodiesD_length, decide_eq_true_eq] at h2
        obtain ⟨x, hx⟩ := get_of_lt (l := l) (k := k) (by omega)
        obtain ⟨y, hy⟩ := get_of_lt (l := m) (k := k) (by omega)
        have dx := bodiesD_get hx
        have dy := bodiesD_get hy
        have ox := oksBs_get ol hx
        have oy := oksBs_get om hy
        have sx := size_getBs hx
        rw [drop_get hx, drop_get hy, sameBs] at he

        conv => whnf
        refine ⟨_, ⟨Int.natCast_nonneg _, dx⟩, ?_⟩
        conv => whnf
        refine ⟨_, ⟨Int.natCast_nonneg _, dy⟩, ?_⟩
        conv => whnf
        refine .pure _ (hc _ _ ox.1 ox.2 oy.2 sx) ⟨rfl, rfl⟩ ?_
        conv => whnf
        refine brec (fun h3 => ?_) (fun h3 => ?_)
        · simp only [Bool.not_eq_false'] at h3; have h4 := h3
          conv => whnf
          refine ⟨?_, ?_⟩
          · constructor <;> omega
          · conv => whnf
            refine nxt (k + 1) ⟨by omega, by omega, ?_⟩ ?_
            · rw [he, h4, Bool.true_and]
            · (refine le_of rfl rfl ?_; repeat' (first | exact rfl | exact trivial | refine ⟨?_, ?_⟩))
        · simp only [Bool.not_eq_true'] at h3; have h4 := h3
          conv => whnf
          rw [he, h4, Bool.false_and]
          exact fin_b rfl
  · conv => whnf
    simp only [bodiesD_length, Bool.not_eq_true', decide_eq_false_iff_not] at h1
    rw [sameBs_len (by omega)]
    exact fin_b rfl
theorem c85s (W0 : Go.World) : ∀ (n : Nat), (∀ x y : Stm, SizeOf.sizeOf x < n → x.ok → y.ok → Ctr Tryz.prog W0 85 [eS x, eS y] [] (.sc (.b (sameS x y))) []) ∧
    (∀ l m : List Stm, SizeOf.sizeOf l < n → l.length ≤ 140737488355328 → oksB l → oksB m → Ctr Tryz.prog W0 42 [eB l, eB m] [] (.sc (.b (sameB l m))) []) ∧
    (∀ l m : List (List Stm), SizeOf.sizeOf l < n → l.length ≤ 140737488355328 → oksBs l → oksBs m → Ctr Tryz.prog W0 159 [eBs l, eBs m, .fn 42 []] [] (.sc (.b (sameBs l m))) [])
  | 0 => ⟨fun _ _ h => absurd h (Nat.not_lt_zero _), fun _ _ h => absurd h (Nat.not_lt_zero _), fun _ _ h => absurd h (Nat.not_lt_zero _)⟩
  | n + 1 => by
    obtain ⟨ih1, ih2, ih3⟩ := c85s W0 n
    refine ⟨fun x y h hx hy => ?_, fun l m h hl ol om => ?_, fun l m h hl ol om => ?_⟩
    · refine ctr_body follows F85_ok rfl (fun _ _ h => by cases h) rfl ?_ (b85 W0 x y hx hy fun l m hl ol om hs => ih3 l m (by omega) hl ol om)
      cases x; cases y; rfl
    · refine ctr_body follows F42_ok rfl (fun _ _ h => by cases h) rfl rfl (b42 W0 l m ?_)
      exact ctr_body follows F84_ok rfl (fun _ _ h => by cases h) rfl rfl (b84 W0 l m hl ol om fun x y hx hy hs => ih1 x y (by omega) hx hy)
    · exact ctr_body follows F159_ok rfl (fun _ _ h => by cases h) rfl rfl (b159 W0 l m hl ol om fun x y hl ox oy hs => ih2 x y (by omega) hl ox oy)
theorem c42 (W0 : Go.World) (l m : List Stm) (hl : l.length ≤ 140737488355328) (ol : oksB l) (om : oksB m) : Ctr Tryz.prog W0 42 [eB l, eB m] [] (.sc (.b (sameB l m))) [] := (c85s W0 _).2.1 l m (Nat.lt_succ_self _) hl ol om
end Go.Abs
