/- When two expressions are the same: the program, and the reference. -/
import Derived.Test.YthmcdebdkbhbmaaGreatDoorMc
import Derived.Test.YthmcdebdkbhbmaaGreatDoorProg
set_option maxRecDepth 100000
namespace Go.Abs
open Go.Proofs
theorem follows : Tryz.prog.follows .mixedOrders = true := by kernel_rfl
def F11 : Fn := ⟨.seq (.reg [⟨none, .box 2 (.t 0)⟩, ⟨none, .box 3 (.t 1)⟩, ⟨none, .mv 4 (.c (.sc (.b false)))⟩]) (.seq (.reg [⟨none, .fa 5 (.t 2) 0⟩, ⟨none, .ld 6 1 false (.t 5)⟩, ⟨none, .fa 7 (.t 3) 0⟩, ⟨none, .ld 8 1 false (.t 7)⟩, ⟨none, .bin 9 .eql (.t 6) (.t 8)⟩, ⟨none, .mv 10 (.t 9)⟩, ⟨some (10, true), .fa 11 (.t 2) 1⟩, ⟨some (10, true), .ld 12 1 false (.t 11)⟩, ⟨some (10, true), .fa 13 (.t 3) 1⟩, ⟨some (10, true), .ld 14 1 false (.t 13)⟩, ⟨some (10, true), .bin 15 .eql (.t 12) (.t 14)⟩, ⟨none, .pick 16 (.t 10) (.t 15) (.c (.sc (.b false)))⟩, ⟨none, .mv 17 (.t 16)⟩, ⟨some (17, true), .fa 18 (.t 2) 2⟩, ⟨some (17, true), .ld 19 1 false (.t 18)⟩, ⟨some (17, true), .fa 20 (.t 3) 2⟩, ⟨some (17, true), .ld 21 1 false (.t 20)⟩, ⟨some (17, true), .bin 22 .eql (.t 19) (.t 21)⟩, ⟨none, .pick 23 (.t 17) (.t 22) (.c (.sc (.b false)))⟩, ⟨none, .mv 24 (.t 23)⟩, ⟨some (24, true), .fa 25 (.t 2) 3⟩, ⟨some (24, true), .ld 26 1 false (.t 25)⟩, ⟨some (24, true), .fa 27 (.t 3) 3⟩, ⟨some (24, true), .ld 28 1 false (.t 27)⟩, ⟨some (24, true), .call (some 29) (.c (.fn 38 [])) [.t 26, .t 28, .c (.fn 11 [])]⟩, ⟨none, .pick 30 (.t 24) (.t 29) (.c (.sc (.b false)))⟩, ⟨none, .mv 4 (.t 30)⟩]) .ret), [(4, 0)], 31⟩
def F12 : Fn := ⟨.seq (.reg [⟨none, .box 2 (.t 0)⟩, ⟨none, .box 3 (.t 1)⟩, ⟨none, .mv 4 (.c (.sc (.b false)))⟩]) (.seq (.reg [⟨none, .fa 5 (.t 2) 0⟩, ⟨none, .ld 6 1 false (.t 5)⟩, ⟨none, .fa 7 (.t 3) 0⟩, ⟨none, .ld 8 1 false (.t 7)⟩, ⟨none, .bin 9 .eql (.t 6) (.t 8)⟩, ⟨none, .mv 10 (.t 9)⟩, ⟨some (10, true), .fa 11 (.t 2) 1⟩, ⟨some (10, true), .ld 12 1 false (.t 11)⟩, ⟨some (10, true), .fa 13 (.t 3) 1⟩, ⟨some (10, true), .ld 14 1 false (.t 13)⟩, ⟨some (10, true), .bin 15 .eql (.t 12) (.t 14)⟩, ⟨none, .pick 16 (.t 10) (.t 15) (.c (.sc (.b false)))⟩, ⟨none, .mv 17 (.t 16)⟩, ⟨some (17, true), .fa 18 (.t 2) 2⟩, ⟨some (17, true), .ld 19 1 false (.t 18)⟩, ⟨some (17, true), .fa 20 (.t 3) 2⟩, ⟨some (17, true), .ld 21 1 false (.t 20)⟩, ⟨some (17, true), .bin 22 .eql (.t 19) (.t 21)⟩, ⟨none, .pick 23 (.t 17) (.t 22) (.c (.sc (.b false)))⟩, ⟨none, .mv 24 (.t 23)⟩, ⟨some (24, true), .fa 25 (.t 2) 3⟩, ⟨some (24, true), .ld 26 1 false (.t 25)⟩, ⟨some (24, true), .fa 27 (.t 3) 3⟩, ⟨some (24, true), .ld 28 1 false (.t 27)⟩, ⟨some (24, true), .call (some 29) (.c (.fn 39 [])) [.t 26, .t 28]⟩, ⟨none, .pick 30 (.t 24) (.t 29) (.c (.sc (.b false)))⟩, ⟨none, .mv 4 (.t 30)⟩]) .ret), [(4, 0)], 31⟩
def F38 : Fn := ⟨.seq (.reg [⟨none, .mv 6 (.c (.sc (.b false)))⟩]) (.seq (.seq (.reg [⟨none, .mv 10 (.t 0)⟩, ⟨none, .len 11 (.t 10)⟩, ⟨none, .mv 12 (.t 1)⟩, ⟨none, .len 13 (.t 12)⟩, ⟨none, .bin 14 .neq (.t 11) (.t 13)⟩]) (.cond (.t 14) (.seq (.reg [⟨none, .mv 6 (.c (.sc (.b false)))⟩]) .ret) .skip)) (.seq (.seq (.reg [⟨none, .mv 15 (.t 0)⟩, ⟨none, .len 16 (.t 15)⟩, ⟨none, .mv 17 (.c (.sc (.i .i64 0)))⟩]) (.block 0 (.loop (.seq (.reg [⟨none, .bin 18 .lss (.t 17) (.t 16)⟩]) (.seq (.cond (.t 18) .skip (.exit 0)) (.seq (.block 1 (.seq (.reg [⟨none, .mv 19 (.t 17)⟩, ⟨none, .ia 20 4 (.t 15) (.t 17)⟩, ⟨none, .ld 21 4 true (.t 20)⟩, ⟨none, .alloc 8 [.sc (.s []), .sc (.s []), .sc (.i .i64 0), .sl 4 [] .full]⟩, ⟨none, .mv 7 (.t 19)⟩, ⟨none, .st (.t 8) 4 (.t 21)⟩]) (.seq (.reg [⟨none, .mv 22 (.t 1)⟩, ⟨none, .mv 23 (.t 7)⟩, ⟨none, .ia 24 4 (.t 22) (.t 23)⟩, ⟨none, .ld 25 4 true (.t 24)⟩, ⟨none, .alloc 9 [.sc (.s []), .sc (.s []), .sc (.i .i64 0), .sl 4 [] .full]⟩, ⟨none, .st (.t 9) 4 (.t 25)⟩]) (.seq (.reg [⟨none, .mv 26 (.t 2)⟩, ⟨none, .ld 27 4 true (.t 8)⟩, ⟨none, .ld 28 4 true (.t 9)⟩, ⟨none, .call (some 29) (.t 26) [.t 27, .t 28]⟩, ⟨none, .no 30 (.t 29)⟩]) (.cond (.t 30) (.seq (.reg [⟨none, .mv 6 (.c (.sc (.b false)))⟩]) .ret) .skip))))) (.reg [⟨none, .bin 31 .add (.t 17) (.c (.sc (.i .i64 1)))⟩, ⟨none, .mv 17 (.t 31)⟩]))))))) (.seq (.reg [⟨none, .mv 6 (.c (.sc (.b true)))⟩]) .ret))), [(6, 0)], 32⟩
def F39 : Fn := ⟨.seq (.reg [⟨none, .mv 4 (.c (.sc (.b false)))⟩]) (.seq (.seq (.reg [⟨none, .mv 6 (.t 0)⟩, ⟨none, .len 7 (.t 6)⟩, ⟨none, .mv 8 (.t 1)⟩, ⟨none, .len 9 (.t 8)⟩, ⟨none, .bin 10 .neq (.t 7) (.t 9)⟩]) (.cond (.t 10) (.seq (.reg [⟨none, .mv 4 (.c (.sc (.b false)))⟩]) .ret) .skip)) (.seq (.seq (.reg [⟨none, .mv 5 (.c (.sc (.i .i64 0)))⟩]) (.block 0 (.loop (.seq (.seq (.reg [⟨none, .mv 11 (.t 5)⟩, ⟨none, .mv 12 (.t 0)⟩, ⟨none, .len 13 (.t 12)⟩, ⟨none, .bin 14 .lss (.t 11) (.t 13)⟩]) (.cond (.t 14) .skip (.exit 0))) (.seq (.block 1 (.seq (.regD [⟨none, .mv 17 (.t 0)⟩, ⟨none, .mv 18 (.t 5)⟩, ⟨none, .ia 19 4 (.t 17) (.t 18)⟩, ⟨none, .ld 20 4 true (.t 19)⟩, ⟨none, .mv 21 (.t 1)⟩, ⟨none, .mv 22 (.t 5)⟩, ⟨none, .ia 23 4 (.t 21) (.t 22)⟩, ⟨none, .ld 24 4 true (.t 23)⟩, ⟨none, .call (some 25) (.c (.fn 12 [])) [.t 20, .t 24]⟩, ⟨none, .no 26 (.t 25)⟩] [0, 0, 3, 7, 0, 0, 48, 112, 255, 511]) (.cond (.t 26) (.seq (.reg [⟨none, .mv 4 (.c (.sc (.b false)))⟩]) .ret) .skip))) (.reg [⟨none, .mv 15 (.t 5)⟩, ⟨none, .bin 16 .add (.t 15) (.c (.sc (.i .i64 1)))⟩, ⟨none, .mv 5 (.t 16)⟩])))))) (.seq (.reg [⟨none, .mv 4 (.c (.sc (.b true)))⟩]) .ret))), [(4, 0)], 27⟩
theorem F11_ok : compT Tryz.prog (fun _ => an0) 11 = some F11 := by kernel_rfl
theorem F12_ok : compT Tryz.prog (fun _ => an0) 12 = some F12 := by kernel_rfl
theorem F38_ok : compT Tryz.prog (fun _ => an0) 38 = some F38 := by kernel_rfl
theorem F39_ok : compT Tryz.prog (fun _ => an0) 39 = some F39 := by kernel_rfl
theorem b11 (W0 : Go.World) (x y : Exp) (hx : x.ok) (hy : y.ok) (hc : ∀ l m, l.length ≤ 140737488355328 → m.length ≤ 140737488355328 → oksE l → oksE m → SizeOf.sizeOf l < SizeOf.sizeOf x → Ctr Tryz.prog W0 38 [eL l, eL m, .fn 11 []] [] (.sc (.b (sameL l m))) []) : Body (Ctr Tryz.prog W0) F11.ac F11.rs [eE x, eE y] [] (.sc (.b (sameE x y))) [] := by
  cases x with
  | mk a b n l =>
  cases y with
  | mk a' b' n' l' =>
  rw [sameE]
  conv => whnf
  refine brec (fun h1 => ?_) (fun h1 => ?_)
  · conv => whnf
    simp only [h1, Bool.false_and]
    exact fin_b rfl
  · simp only [h1, Bool.true_and]
    conv => whnf
    refine brec (fun h1 => ?_) (fun h1 => ?_)
    · conv => whnf
      simp only [h1, Bool.false_and]
      exact fin_b rfl
    · simp only [h1, Bool.true_and]
      conv => whnf
      refine brec (fun h1 => ?_) (fun h1 => ?_)
      · conv => whnf
        simp only [h1, Bool.false_and]
        exact fin_b rfl
      · simp only [h1, Bool.true_and]
        conv => whnf
        refine .pure _ (hc l l' hx.2.1 hy.2.1 hx.2.2 hy.2.2 (by simp; omega)) ⟨rfl, rfl⟩ ?_
        conv => whnf
        exact fin_b rfl
theorem b12 (W0 : Go.World) (x y : Exp) (hx : x.ok) (hy : y.ok) (hc : ∀ l m, l.length ≤ 140737488355328 → m.length ≤ 140737488355328 → oksE l → oksE m → SizeOf.sizeOf l < SizeOf.sizeOf x → Ctr Tryz.prog W0 39 [eL l, eL m] [] (.sc (.b (sameL l m))) []) : Body (Ctr Tryz.prog W0) F12.ac F12.rs [eE x, eE y] [] (.sc (.b (sameE x y))) [] := by
  cases x with
  | mk a b n l =>
  cases y with
  | mk a' b' n' l' =>
  rw [sameE]
  conv => whnf
  refine brec (fun h1 => ?_) (fun h1 => ?_)
  · conv => whnf
    simp only [h1, Bool.false_and]
    exact fin_b rfl
  · simp only [h1, Bool.true_and]
    conv => whnf
    refine brec (fun h1 => ?_) (fun h1 => ?_)
    · conv => whnf
      simp only [h1, Bool.false_and]
      exact fin_b rfl
    · simp only [h1, Bool.true_and]
      conv => whnf
      refine brec (fun h1 => ?_) (fun h1 => ?_)
      · conv => whnf
        simp only [h1, Bool.false_and]
        exact fin_b rfl
      · simp only [h1, Bool.true_and]
        conv => whnf
        refine .pure _ (hc l l' hx.2.1 hy.2.1 hx.2.2 hy.2.2 (by simp; omega)) ⟨rfl, rfl⟩ ?_
        conv => whnf
        exact fin_b rfl
theorem b38 (W0 : Go.World) (l m : List Exp) (hl : l.length ≤ 140737488355328) (ol : oksE l) (om : oksE m) (hc : ∀ x y, x.ok → y.ok → SizeOf.sizeOf x < SizeOf.sizeOf l → Ctr Tryz.prog W0 11 [eE x, eE y] [] (.sc (.b (sameE x y))) []) : Body (Ctr Tryz.prog W0) F38.ac F38.rs [eL l, eL m, .fn 11 []] [] (.sc (.b (sameL l m))) [] := by
  conv => whnf
  refine brec (fun h1 => ?_) (fun h1 => ?_)
  · conv => whnf
    simp only [expsD_length, Bool.not_eq_false', decide_eq_true_eq] at h1
    refine .st 1000 (fun k => l.length - k) (fun k => [(.s 1, .av (eL m)), (.s 2, .av (.fn 11 [])), (.s 15, .av (eL l)), (.s 16, .av (.sc (.i .i64 ((expsD l).length : Nat)))), (.s 17, .av (.sc (.i .i64 (k : Nat))))])
      (fun k => k ≤ l.length ∧ sameL l m = sameL (l.drop k) (m.drop k)) 0 ?_ ⟨Nat.zero_le _, rfl⟩ ?_
    · refine le_of rfl rfl ?_
      repeat' (first | exact rfl | exact trivial | refine ⟨?_, ?_⟩)
    · rintro k ⟨hk, he⟩
      conv => whnf
      refine brec (fun h2 => ?_) (fun h2 => ?_)
      · conv => whnf
        simp only [expsD_length, decide_eq_false_iff_not] at h2
        have e1 : l.drop k = [] := by simp; omega
        have e2 : m.drop k = [] := by simp; omega
        rw [he, e1, e2]
        exact fin_b rfl
      · simp only [expsD_length, decide_eq_true_eq] at h2
        obtain ⟨x, hx⟩ := get_of_lt (l := l) (k := k) (by omega)
        obtain ⟨y, hy⟩ := get_of_lt (l := m) (k := k) (by omega)
        have ox := oksE_get ol hx
        have oy := oksE_get om hy
        have dx := expsD_get hx
        have dy := expsD_get hy
        have sx := size_get hx
        rw [drop_get hx, drop_get hy, sameL] at he
        cases x with | mk a b n args =>
        cases y with | mk a' b' n' args' =>
        conv => whnf
        refine ⟨_, ⟨Int.natCast_nonneg _, dx⟩, ?_⟩
        conv => whnf
        refine ⟨_, ⟨Int.natCast_nonneg _, dy⟩, ?_⟩
        conv => whnf
        refine .pure _ (hc _ _ ox oy sx) ⟨rfl, rfl⟩ ?_
        conv => whnf
        refine brec (fun h3 => ?_) (fun h3 => ?_)
        · conv => whnf
          refine ⟨?_, ?_⟩
          · constructor <;> omega
          · conv => whnf
            refine nxt (k + 1) ⟨by omega, by omega, ?_⟩ ?_
            · simp only [Bool.not_eq_false'] at h3
              rw [he, h3, Bool.true_and]
            · refine le_of rfl rfl ?_
              repeat' (first | exact rfl | exact trivial | refine ⟨?_, ?_⟩)
        · conv => whnf
          simp only [Bool.not_eq_true'] at h3
          rw [he, h3, Bool.false_and]
          exact fin_b rfl
  · conv => whnf
    simp only [expsD_length, Bool.not_eq_true', decide_eq_false_iff_not] at h1
    rw [sameL_len (by omega)]
    exact fin_b rfl
theorem b39 (W0 : Go.World) (l m : List Exp) (hl : l.length ≤ 140737488355328) (ol : oksE l) (om : oksE m) (hc : ∀ x y, x.ok → y.ok → SizeOf.sizeOf x < SizeOf.sizeOf l → Ctr Tryz.prog W0 12 [eE x, eE y] [] (.sc (.b (sameE x y))) []) : Body (Ctr Tryz.prog W0) F39.ac F39.rs [eL l, eL m] [] (.sc (.b (sameL l m))) [] := by
  conv => whnf
  refine brec (fun h1 => ?_) (fun h1 => ?_)
  · conv => whnf
    simp only [expsD_length, Bool.not_eq_false', decide_eq_true_eq] at h1
    refine .st 1000 (fun k => l.length - k) (fun k => [(.s 0, .av (eL l)), (.s 1, .av (eL m)), (.s 5, .av (.sc (.i .i64 (k : Nat))))])
      (fun k => k ≤ l.length ∧ sameL l m = sameL (l.drop k) (m.drop k)) 0 ?_ ⟨Nat.zero_le _, rfl⟩ ?_
    · refine le_of rfl rfl ?_
      repeat' (first | exact rfl | exact trivial | refine ⟨?_, ?_⟩)
    · rintro k ⟨hk, he⟩
      conv => whnf
      refine brec (fun h2 => ?_) (fun h2 => ?_)
      · conv => whnf
        simp only [expsD_length, decide_eq_false_iff_not] at h2
        have e1 : l.drop k = [] := by simp; omega
        have e2 : m.drop k = [] := by simp; omega
        rw [he, e1, e2]
        exact fin_b rfl
      · simp only [expsD_length, decide_eq_true_eq] at h2
        obtain ⟨x, hx⟩ := get_of_lt (l := l) (k := k) (by omega)
        obtain ⟨y, hy⟩ := get_of_lt (l := m) (k := k) (by omega)
        have ox := oksE_get ol hx
        have oy := oksE_get om hy
        have dx := expsD_get hx
        have dy := expsD_get hy
        have sx := size_get hx
        rw [drop_get hx, drop_get hy, sameL] at he
        cases x with | mk a b n args =>
        cases y with | mk a' b' n' args' =>
        conv => whnf
        refine ⟨_, ⟨Int.natCast_nonneg _, dx⟩, ?_⟩
        conv => whnf
        refine ⟨_, ⟨Int.natCast_nonneg _, dy⟩, ?_⟩
        conv => whnf
        refine .pure _ (hc _ _ ox oy sx) ⟨rfl, rfl⟩ ?_
        conv => whnf
        refine brec (fun h3 => ?_) (fun h3 => ?_)
        · conv => whnf
          refine ⟨?_, ?_⟩
          · constructor <;> omega
          · conv => whnf
            refine nxt (k + 1) ⟨by omega, by omega, ?_⟩ ?_
            · simp only [Bool.not_eq_false'] at h3
              rw [he, h3, Bool.true_and]
            · refine le_of rfl rfl ?_
              repeat' (first | exact rfl | exact trivial | refine ⟨?_, ?_⟩)
        · conv => whnf
          simp only [Bool.not_eq_true'] at h3
          rw [he, h3, Bool.false_and]
          exact fin_b rfl
  · conv => whnf
    simp only [expsD_length, Bool.not_eq_true', decide_eq_false_iff_not] at h1
    rw [sameL_len (by omega)]
    exact fin_b rfl
theorem c11s (W0 : Go.World) : ∀ (n : Nat), (∀ x y : Exp, SizeOf.sizeOf x < n → x.ok → y.ok → Ctr Tryz.prog W0 11 [eE x, eE y] [] (.sc (.b (sameE x y))) []) ∧
    (∀ l m : List Exp, SizeOf.sizeOf l < n → l.length ≤ 140737488355328 → oksE l → oksE m → Ctr Tryz.prog W0 38 [eL l, eL m, .fn 11 []] [] (.sc (.b (sameL l m))) [])
  | 0 => ⟨fun _ _ h => absurd h (Nat.not_lt_zero _), fun _ _ h => absurd h (Nat.not_lt_zero _)⟩
  | n + 1 => by
    obtain ⟨ih1, ih2⟩ := c11s W0 n
    refine ⟨fun x y h hx hy => ?_, fun l m h hl ol om => ?_⟩
    · refine ctr_body follows F11_ok rfl (fun _ _ h => by cases h) rfl ?_ (b11 W0 x y hx hy fun l m hl _ ol om hs => ih2 l m (by omega) hl ol om)
      cases x; cases y; rfl
    · exact ctr_body follows F38_ok rfl (fun _ _ h => by cases h) rfl rfl (b38 W0 l m hl ol om fun x y hx hy hs => ih1 x y (by omega) hx hy)
theorem c11 (W0 : Go.World) (x y : Exp) (hx : x.ok) (hy : y.ok) : Ctr Tryz.prog W0 11 [eE x, eE y] [] (.sc (.b (sameE x y))) [] := (c11s W0 _).1 x y (Nat.lt_succ_self _) hx hy
theorem c12s (W0 : Go.World) : ∀ (n : Nat), (∀ x y : Exp, SizeOf.sizeOf x < n → x.ok → y.ok → Ctr Tryz.prog W0 12 [eE x, eE y] [] (.sc (.b (sameE x y))) []) ∧
    (∀ l m : List Exp, SizeOf.sizeOf l < n → l.length ≤ 140737488355328 → oksE l → oksE m → Ctr Tryz.prog W0 39 [eL l, eL m] [] (.sc (.b (sameL l m))) [])
  | 0 => ⟨fun _ _ h => absurd h (Nat.not_lt_zero _), fun _ _ h => absurd h (Nat.not_lt_zero _)⟩
  | n + 1 => by
    obtain ⟨ih1, ih2⟩ := c12s W0 n
    refine ⟨fun x y h hx hy => ?_, fun l m h hl ol om => ?_⟩
    · refine ctr_body follows F12_ok rfl (fun _ _ h => by cases h) rfl ?_ (b12 W0 x y hx hy fun l m hl _ ol om hs => ih2 l m (by omega) hl ol om)
      cases x; cases y; rfl
    · exact ctr_body follows F39_ok rfl (fun _ _ h => by cases h) rfl rfl (b39 W0 l m hl ol om fun x y hx hy hs => ih1 x y (by omega) hx hy)
theorem c12 (W0 : Go.World) (x y : Exp) (hx : x.ok) (hy : y.ok) : Ctr Tryz.prog W0 12 [eE x, eE y] [] (.sc (.b (sameE x y))) [] := (c12s W0 _).1 x y (Nat.lt_succ_self _) hx hy
end Go.Abs
