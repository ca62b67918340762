/- When two expressions are the same: the program, and the reference. -/
import Derived.Test.YthmcdebdkbhbmaaGreatDoorMc
import Derived.Test.YthmcdebdkbhbmaaGreatDoorProg
set_option maxRecDepth 100000
namespace Go.Abs
open Go.Proofs
theorem follows : Tryz.prog.follows .mixedOrders = true := by kernel_rfl
def F11 : Fn := ⟨.seq (.reg [⟨none, .box 2 (.t 0)⟩, ⟨none, .box 3 (.t 1)⟩, ⟨none, .mv 4 (.c (.sc (.b false)))⟩]) (.seq (.reg [⟨none, .fa 5 (.t 2) 0⟩, ⟨none, .ld 6 1 false (.t 5)⟩, ⟨none, .fa 7 (.t 3) 0⟩, ⟨none, .ld 8 1 false (.t 7)⟩, ⟨none, .bin 9 .eql (.t 6) (.t 8)⟩, ⟨none, .mv 10 (.t 9)⟩, ⟨some (10, true), .fa 11 (.t 2) 1⟩, ⟨some (10, true), .ld 12 1 false (.t 11)⟩, ⟨some (10, true), .fa 13 (.t 3) 1⟩, ⟨some (10, true), .ld 14 1 false (.t 13)⟩, ⟨some (10, true), .bin 15 .eql (.t 12) (.t 14)⟩, ⟨none, .pick 16 (.t 10) (.t 15) (.c (.sc (.b false)))⟩, ⟨none, .mv 17 (.t 16)⟩, ⟨some (17, true), .fa 18 (.t 2) 2⟩, ⟨some (17, true), .ld 19 1 false (.t 18)⟩, ⟨some (17, true), .fa 20 (.t 3) 2⟩, ⟨some (17, true), .ld 21 1 false (.t 20)⟩, ⟨some (17, true), .bin 22 .eql (.t 19) (.t 21)⟩, ⟨none, .pick 23 (.t 17) (.t 22) (.c (.sc (.b false)))⟩, ⟨none, .mv 24 (.t 23)⟩, ⟨some (24, true), .fa 25 (.t 2) 3⟩, ⟨some (24, true), .ld 26 1 false (.t 25)⟩, ⟨some (24, true), .fa 27 (.t 3) 3⟩, ⟨some (24, true), .ld 28 1 false (.t 27)⟩, ⟨some (24, true), .call (some 29) (.c (.fn 38 [])) [.t 26, .t 28, .c (.fn 11 [])]⟩, ⟨none, .pick 30 (.t 24) (.t 29) (.c (.sc (.b false)))⟩, ⟨none, .mv 4 (.t 30)⟩]) .ret), [(4, 0)], 31⟩
def F12 : Fn := ⟨.seq (.reg [⟨none, .box 2 (.t 0)⟩, ⟨none, .box 3 (.t 1)⟩, ⟨none, .mv 4 (.c (.sc (.b false)))⟩]) (.seq (.reg [⟨none, .fa 5 (.t 2) 0⟩, ⟨none, .ld 6 1 false (.t 5)⟩, ⟨none, .fa 7 (.t 3) 0⟩, ⟨none, .ld 8 1 false (.t 7)⟩, ⟨none, .bin 9 .eql (.t 6) (.t 8)⟩, ⟨none, .mv 10 (.t 9)⟩, ⟨some (10, true), .fa 11 (.t 2) 1⟩, ⟨some (10, true), .ld 12 1 false (.t 11)⟩, ⟨some (10, true), .fa 13 (.t 3) 1⟩, ⟨some (10, true), .ld 14 1 false (.t 13)⟩, ⟨some (10, true), .bin 15 .eql (.t 12) (.t 14)⟩, ⟨none, .pick 16 (.t 10) (.t 15) (.c (.sc (.b false)))⟩, ⟨none, .mv 17 (.t 16)⟩, ⟨some (17, true), .fa 18 (.t 2) 2⟩, ⟨some (17, true), .ld 19 1 false (.t 18)⟩, ⟨some (17, true), .fa 20 (.t 3) 2⟩, ⟨some (17, true), .ld 21 1 false (.t 20)⟩, ⟨some (17, true), .bin 22 .eql (.t 19) (.t 21)⟩, ⟨none, .pick 23 (.t 17) (.t 22) (.c (.sc (.b false)))⟩, ⟨none, .mv 24 (.t 23)⟩, ⟨some (24, true), .fa 25 (.t 2) 3⟩, ⟨some (24, true), .ld 26 1 false (.t 25)⟩, ⟨some (24, true), .fa 27 (.t 3) 3⟩, ⟨some (24, true), .ld 28 1 false (.t 27)⟩, ⟨some (24, true), .call (some 29) (.c (.fn 39 [])) [.t 26, .t 28]⟩, ⟨none, .pick 30 (.t 24) (.t 29) (.c (.sc (.b false)))⟩, ⟨none, .mv 4 (.t 30)⟩]) .ret), [(4, 0)], 31⟩
def F38 : Fn := ⟨.seq (.reg [⟨none, .mv 6 (.c (.sc (.b false)))⟩]) (.seq (.seq (.reg [⟨none, .mv 10 (.t 0)⟩, ⟨none, .len 11 (.t 10)⟩, ⟨none, .mv 12 (.t 1)⟩, ⟨none, .len 13 (.t 12)⟩, ⟨none, .bin 14 .neq (.t 11) (.t 13)⟩]) (.cond (.t 14) (.seq (.reg [⟨none, .mv 6 (.c (.sc (.b false)))⟩]) .ret) .skip)) (.seq (.seq (.reg [⟨none, .mv 15 (.t 0)⟩, ⟨none, .len 16 (.t 15)⟩, ⟨none, .mv 17 (.c (.sc (.i .i64 0)))⟩]) (.block 0 (.loop (.seq (.reg [⟨none, .bin 18 .lss (.t 17) (.t 16)⟩]) (.seq (.cond (.t 18) .skip (.exit 0)) (.seq (.block 1 (.seq (.reg [⟨none, .mv 19 (.t 17)⟩, ⟨none, .ia 20 4 (.t 15) (.t 17)⟩, ⟨none, .ld 21 4 true (.t 20)⟩, ⟨none, .alloc 8 [.sc (.s []), .sc (.s []), .sc (.i .i64 0), .sl 4 [] .full]⟩, ⟨none, .mv 7 (.t 19)⟩, ⟨none, .st (.t 8) 4 (.t 21)⟩]) (.seq (.reg [⟨none, .mv 22 (.t 1)⟩, ⟨none, .mv 23 (.t 7)⟩, ⟨none, .ia 24 4 (.t 22) (.t 23)⟩, ⟨none, .ld 25 4 true (.t 24)⟩, ⟨none, .alloc 9 [.sc (.s []), .sc (.s []), .sc (.i .i64 0), .sl 4 [] .full]⟩, ⟨none, .st (.t 9) 4 (.t 25)⟩]) (.seq (.reg [⟨none, .mv 26 (.t 2)⟩, ⟨none, .ld 27 4 true (.t 8)⟩, ⟨none, .ld 28 4 true (.t 9)⟩, ⟨none, .call (some 29) (.t 26) [.t 27, .t 28]⟩, ⟨none, .no 30 (.t 29)⟩]) (.cond (.t 30) (.seq (.reg [⟨none, .mv 6 (.c (.sc (.b false)))⟩]) .ret) .skip))))) (.reg [⟨none, .bin 31 .add (.t 17) (.c (.sc (.i .i64 1)))⟩, ⟨none, .mv 17 (.t 31)⟩]))))))) (.seq (.reg [⟨none, .mv 6 (.c (.sc (.b true)))⟩]) .ret))), [(6, 0)], 32⟩
def F39 : Fn := ⟨.seq (.reg [⟨none, .mv 4 (.c (.sc (.b false)))⟩]) (.seq (.seq (.reg [⟨none, .mv 6 (.t 0)⟩, ⟨none, .len 7 (.t 6)⟩, ⟨none, .mv 8 (.t 1)⟩, ⟨none, .len 9 (.t 8)⟩, ⟨none, .bin 10 .neq (.t 7) (.t 9)⟩]) (.cond (.t 10) (.seq (.reg [⟨none, .mv 4 (.c (.sc (.b false)))⟩]) .ret) .skip)) (.seq (.seq (.reg [⟨none, .mv 5 (.c (.sc (.i .i64 0)))⟩]) (.block 0 (.loop (.seq (.seq (.reg [⟨none, .mv 11 (.t 5)⟩, ⟨none, .mv 12 (.t 0)⟩, ⟨none, .len 13 (.t 12)⟩, ⟨none, .bin 14 .lss (.t 11) (.t 13)⟩]) (.cond (.t 14) .skip (.exit 0))) (.seq (.block 1 (.seq (.regD [⟨none, .mv 17 (.t 0)⟩, ⟨none, .mv 18 (.t 5)⟩, ⟨none, .ia 19 4 (.t 17) (.t 18)⟩, ⟨none, .ld 20 4 true (.t 19)⟩, ⟨none, .mv 21 (.t 1)⟩, ⟨none, .mv 22 (.t 5)⟩, ⟨none, .ia 23 4 (.t 21) (.t 22)⟩, ⟨none, .ld 24 4 true (.t 23)⟩, ⟨none, .call (some 25) (.c (.fn 12 [])) [.t 20, .t 24]⟩, ⟨none, .no 26 (.t 25)⟩] [0, 0, 3, 7, 0, 0, 48, 112, 255, 511]) (.cond (.t 26) (.seq (.reg [⟨none, .mv 4 (.c (.sc (.b false)))⟩]) .ret) .skip))) (.reg [⟨none, .mv 15 (.t 5)⟩, ⟨none, .bin 16 .add (.t 15) (.c (.sc (.i .i64 1)))⟩, ⟨none, .mv 5 (.t 16)⟩])))))) (.seq (.reg [⟨none, .mv 4 (.c (.sc (.b true)))⟩]) .ret))), [(4, 0)], 27⟩
theorem F11_ok : compT Tryz.prog (fun _ => an0) 11 = some F11 := by kernel_rfl
theorem F12_ok : compT Tryz.prog (fun _ => an0) 12 = some F12 := by kernel_rfl
theorem F38_ok : compT Tryz.prog (fun _ => an0) 38 = some F38 := by kernel_rfl
theorem F39_ok : compT Tryz.prog (fun _ => an0) 39 = some F39 := by kernel_rfl
theorem b11 (W0 : Go.World) (x y : Exp) (hx : x.ok) (hy : y.ok) (hc : ∀ l m, l.length ≤ 140737488355328 → m.length ≤ 140737488355328 → oksE l → oksE m → SizeOf.sizeOf l < SizeOf.sizeOf x → Ctr Tryz.prog W0 38 [eL l, eL m, .fn 11 []] [] (.sc (.b (sameL l m))) []) : Body (Ctr Tryz.prog W0) F11.ac F11.rs [eE x, eE y] [] (.sc (.b (sameE x y))) [] := by
  cases x with
  | mk a b n l =>
  cases y with
  | mk a' b' n' l' =>
  rw [sameE]
  conv => whnf
  refine brec (fun h1 => ?_) (fun h1 => ?_)
  · conv => whnf
    simp only [h1, Bool.false_and]
    exact fin_b rfl
  · simp only [h1, Bool.true_and]
    conv => whnf
    refine brec (fun h1 => ?_) (fun h1 => ?_)
    · conv => whnf
      simp only [h1, Bool.false_and]
      exact fin_b rfl
    · simp only [h1, Bool.true_and]
      conv => whnf
      refine brec (fun h1 => ?_) (fun h1 => ?_)
      · conv => whnf
        simp only [h1, Bool.false_and]
        exact fin_b rfl
      · simp only [h1, Bool.true_and]
        conv => whnf
        refine .pure _ (hc l l' hx.2.1 hy.2.1 hx.2.2 hy.2.2 (by simp; omega)) ⟨rfl, rfl⟩ ?_
        conv => whnf
        exact fin_b rfl
theorem b12 (W0 : Go.World) (x y : Exp) (hx : x.ok) (hy : y.ok) (hc : ∀ l m, l.length ≤ 140737488355328 → m.length ≤ 140737488355328 → oksE l → oksE m → SizeOf.sizeOf l < SizeOf.sizeOf x → Ctr Tryz.prog W0 39 [eL l, eL m] [] (.sc (.b (sameL l m))) []) : Body (Ctr Tryz.prog W0) F12.ac F12.rs [eE x, eE y] [] (.sc (.b (sameE x y))) [] := by
  cases x with
  | mk a b n l =>
  cases y with
  | mk a' b' n' l' =>
  rw [sameE]
  conv => whnf
  refine brec (fun h1 => ?_) (fun h1 => ?_)
  · conv => whnf
    simp only [h1, Bool.false_and]
    exact fin_b rfl
  · simp only [h1, Bool.true_and]
    conv => whnf
    refine brec (fun h1 => ?_) (fun h1 => ?_)
    · conv => whnf
      simp only [h1, Bool.false_and]
      exact fin_b rfl
    · simp only [h1, Bool.true_and]
      conv => whnf
      refine brec (fun h1 => ?_) (fun h1 => ?_)
      · conv => whnf
        simp only [h1, Bool.false_and]
        exact fin_b rfl
      · simp only [h1, Bool.true_and]
        conv => whnf
        refine .pure _ (hc l l' hx.2.1 hy.2.1 hx.2.2 hy.2.2 (by simp; omega)) ⟨rfl, rfl⟩ ?_
        conv => whnf
        exact fin_b rfl
theorem b38 (W0 : Go.World) (l m : List Exp) (hl : l.length ≤ 140737488355328) (ol : oksE l) (om : oksE m) (hc : ∀ x y, x.ok → y.ok → SizeOf.sizeOf x < SizeOf.sizeOf l → Ctr Tryz.prog W0 11 [eE x, eE y] [] (.sc (.b (sameE x y))) []) : Body (Ctr Tryz.prog W0) F38.ac F38.rs [eL l, eL m, .fn 11 []] [] (.sc (.b (sameL l m))) [] := by
  conv => whnf
  refine brec (fun h1 => ?_) (fun h1 => ?_)
  · conv => whnf
    simp only [expsD_length, Bool.not_eq_false', decide_eq_true_eq] at h1
    refine .st 1000 (fun k => l.length - k) (fun k => [(.s 1, .av (eL m)), (.s 2, .av (.fn 11 [])), (.s 15, .av (eL l)), (.s 16, .av (.sc (.i .i64 ((expsD l).length : Nat)))), (.s 17, .av (.sc (.i .i64 (k : Nat))))])
      (fun k => k ≤ l.length ∧ sameL l m = sameL (l.drop k) (m.drop k)) 0 ?_ ⟨Nat.zero_le _, rfl⟩ ?_
    · refine le_of rfl rfl ?_
      repeat' (first | exact rfl | exact trivial | refine ⟨?_, ?_⟩)
    · rintro k ⟨hk, he⟩
      conv => whnf
      refine brec (fun h2 => ?_) (fun h2 => ?_)
      · conv => whnf
        simp only [expsD_length, decide_eq_false_iff_not] at h2
        have e1 : l.drop k = [] := by simp; omega
        have e2 : m.drop k = [] := by simp; omega
        rw [he, e1, e2]
        exact fin_b rfl
      · simp only [expsD_length, decide_eq_true_eq] at h2
        obtain ⟨x, hx⟩ := get_of_lt (l := l) (k := k) (by omega)
        obtain ⟨y, hy⟩ := get_of_lt (l := m) (k := k) (by omega)
        have ox := oksE_get ol hx
        have oy := oksE_get om hy
        have dx := expsD_get hx
        have dy := expsD_get hy
        have sx := size_get hx
        rw [drop_get hx, drop_get hy, sameL] at he
        cases x with | mk a b n args =>
        cases y with | mk a' b' n' args' =>
        conv => whnf
        refine ⟨_, ⟨Int.natCast_nonneg _, dx⟩, ?_⟩
        conv => whnf
        refine ⟨_, ⟨Int.natCast_nonneg _, dy⟩, ?_⟩
        conv => whnf
        refine .pure _ (hc _ _ ox oy sx) ⟨rfl, rfl⟩ ?_
        conv => whnf
        refine brec (fun h3 => ?_) (fun h3 => ?_)
        · conv => whnf
          refine ⟨?_, ?_⟩
          · constructor <;> omega
          · conv => whnf
            refine nxt (k + 1) ⟨by omega, by omega, ?_⟩ ?_
            · simp only [Bool.not_eq_false'] at h3
              rw [he, h3, Bool.true_and]
            · refine le_of rfl rfl ?_
              repeat' (first | exact rfl | exact trivial | refine ⟨?_, ?_⟩)
        · conv => whnf
          simp only [Bool.not_eq_true'] at h3
          rw [he, h3, Bool.false_and]
          exact fin_b rfl
  · conv => whnf
    simp only [expsD_length, Bool.not_eq_true', decide_eq_false_iff_not] at h1
    rw [sameL_len (by omega)]
    exact fin_b rfl
theorem b39 (W0 : Go.World) (l m : List Exp) (hl : l.length ≤ 140737488355328) (ol : oksE l) (om : oksE m) (hc : ∀ x y, x.ok → y.ok → SizeOf.sizeOf x < SizeOf.sizeOf l → Ctr Tryz.prog W0 12 [eE x, eE y] [] (.sc (.b (sameE x y))) []) : Body (Ctr Tryz.prog W0) F39.ac F39.rs [eL l, eL m] [] (.sc (.b (sameL l m))) [] := by
  conv => whnf
  refine brec (fun h1 => ?_) (fun h1 => ?_)
  · conv => whnf
    simp only [expsD_length, Bool.not_eq_false', decide_eq_true_eq] at h1
    refine .st 1000 (fun k => l.length - k) (fun k => [(.s 0, .av (eL l)), (.s 1, .av (eL m)), (.s 5, .av (.sc (.i .i64 (k : Nat))))])
      (fun k => k ≤ l.length ∧ sameL l m = sameL (l.drop k) (m.drop k)) 0 ?_ ⟨Nat.zero_le _, rfl⟩ ?_
    · refine le_of rfl rfl ?_
      repeat' (first | exact rfl | exact trivial | refine ⟨?_, ?_⟩)
    · rintro k ⟨hk, he⟩
      conv => whnf
      refine brec (fun h2 => ?_) (fun h2 => ?_)
      · conv => whnf
        simp only [expsD_length, decide_eq_false_iff_not] at h2
        have e1 : l.drop k = [] := by simp; omega
        have e2 : m.drop k = [] := by simp; omega
        rw [he, e1, e2]
        exact fin_b rfl
      · simp only [expsD_length, decide_eq_true_eq] at h2
        obtain ⟨x, hx⟩ := get_of_lt (l := l) (k := k) (by omega)
        obtain ⟨y, hy⟩ := get_of_lt (l := m) (k := k) (by omega)
        have ox := oksE_get ol hx
        have oy := oksE_get om hy
        have dx := expsD_get hx
        have dy := expsD_get hy
        have sx := size_get hx
        rw [drop_get hx, drop_get hy, sameL] at he
        cases x with | mk a b n args =>
        cases y with | mk a' b' n' args' =>
        conv => whnf
        refine ⟨_, ⟨Int.natCast_nonneg _, dx⟩, ?_⟩
        conv => whnf
        refine ⟨_, ⟨Int.natCast_nonneg _, dy⟩, ?_⟩
        conv => whnf
        refine .pure _ (hc _ _ ox oy sx) ⟨rfl, rfl⟩ ?_
        conv => whnf
        refine brec (fun h3 => ?_) (fun h3 => ?_)
        · conv => whnf
          refine ⟨?_, ?_⟩
          · constructor <;> omega
          · conv => whnf
            refine nxt (k + 1) ⟨by omega, by omega, ?_⟩ ?_
            · simp only [Bool.not_eq_false'] at h3
              rw [he, h3, Bool.true_and]
            · refine le_of rfl rfl ?_
              repeat' (first | exact rfl | exact trivial | refine ⟨?_, ?_⟩)
        · conv => whnf
          simp only [Bool.not_eq_true'] at h3
          rw [he, h3, Bool.false_and]
          exact fin_b rfl
  · conv => whnf
    simp only [expsD_length, Bool.not_eq_true', decide_eq_false_iff_not] at h1
    rw [sameL_len (by omega)]
    exact fin_b rfl
theorem c11s (W0 : Go.World) : ∀ (n : Nat), (∀ x y : Exp, SizeOf.sizeOf x < n → x.ok → y.ok → Ctr Tryz.prog W0 11 [eE x, eE y] [] (.sc (.b (sameE x y))) []) ∧
    (∀ l m : List Exp, SizeOf.sizeOf l < n → l.length ≤ 140737488355328 → oksE l → oksE m → Ctr Tryz.prog W0 38 [eL l, eL m, .fn 11 []] [] (.sc (.b (sameL l m))) [])
  | 0 => ⟨fun _ _ h => absurd h (Nat.not_lt_zero _), fun _ _ h => absurd h (Nat.not_lt_zero _)⟩
  | n + 1 => by
    obtain ⟨ih1, ih2⟩ := c11s W0 n
    refine ⟨fun x y h hx hy => ?_, fun l m h hl ol om => ?_⟩
    · refine ctr_body follows F11_ok rfl (fun _ _ h => by cases h) rfl ?_ (b11 W0 x y hx hy fun l m hl _ ol om hs => ih2 l m (by omega) hl ol om)
      cases x; cases y; rfl
    · exact ctr_body follows F38_ok rfl (fun _ _ h => by cases h) rfl rfl (b38 W0 l m hl ol om fun x y hx hy hs => ih1 x y (by omega) hx hy)
theorem c11 (W0 : Go.World) (x y : Exp) (hx : x.ok) (hy : y.ok) : Ctr Tryz.prog W0 11 [eE x, eE y] [] (.sc (.b (sameE x y))) [] := (c11s W0 _).1 x y (Nat.lt_succ_self _) hx hy
theorem c38 (W0 : Go.World) (l m : List Exp) (hl : l.length ≤ 140737488355328) (ol : oksE l) (om : oksE m) : Ctr Tryz.prog W0 38 [eL l, eL m, .fn 11 []] [] (.sc (.b (sameL l m))) [] := (c11s W0 _).2 l m (Nat.lt_succ_self _) hl ol om
theorem c12s (W0 : Go.World) : ∀ (n : Nat), (∀ x y : Exp, SizeOf.sizeOf x < n → x.ok → y.ok → Ctr Tryz.prog W0 12 [eE x, eE y] [] (.sc (.b (sameE x y))) []) ∧
    (∀ l m : List Exp, SizeOf.sizeOf l < n → l.length ≤ 140737488355328 → oksE l → oksE m → Ctr Tryz.prog W0 39 [eL l, eL m] [] (.sc (.b (sameL l m))) [])
  | 0 => ⟨fun _ _ h => absurd h (Nat.not_lt_zero _), fun _ _ h => absurd h (Nat.not_lt_zero _)⟩
  | n + 1 => by
    obtain ⟨ih1, ih2⟩ := c12s W0 n
    refine ⟨fun x y h hx hy => ?_, fun l m h hl ol om => ?_⟩
    · refine ctr_body follows F12_ok rfl (fun _ _ h => by cases h) rfl ?_ (b12 W0 x y hx hy fun l m hl _ ol om hs => ih2 l m (by omega) hl ol om)
      cases x; cases y; rfl
    · exact ctr_body follows F39_ok rfl (fun _ _ h => by cases h) rfl rfl (b39 W0 l m hl ol om fun x y hx hy hs => ih1 x y (by omega) hx hy)
theorem c12 (W0 : Go.World) (x y : Exp) (hx : x.ok) (hy : y.ok) : Ctr Tryz.prog W0 12 [eE x, eE y] [] (.sc (.b (sameE x y))) [] := (c12s W0 _).1 x y (Nat.lt_succ_self _) hx hy
theorem c39 (W0 : Go.World) (l m : List Exp) (hl : l.length ≤ 140737488355328) (ol : oksE l) (om : oksE m) : Ctr Tryz.prog W0 39 [eL l, eL m] [] (.sc (.b (sameL l m))) [] := (c12s W0 _).2 l m (Nat.lt_succ_self _) hl ol om
end Go.Abs

set_option maxRecDepth 100000
namespace Go.Abs
open Go.Proofs
def F157 : Fn := ⟨.seq (.reg [⟨none, .mv 4 (.c (.sc (.b false)))⟩]) (.seq (.seq (.reg [⟨none, .mv 6 (.t 0)⟩, ⟨none, .len 7 (.t 6)⟩, ⟨none, .mv 8 (.t 1)⟩, ⟨none, .len 9 (.t 8)⟩, ⟨none, .bin 10 .neq (.t 7) (.t 9)⟩]) (.cond (.t 10) (.seq (.reg [⟨none, .mv 4 (.c (.sc (.b false)))⟩]) .ret) .skip)) (.seq (.seq (.reg [⟨none, .mv 11 (.t 0)⟩, ⟨none, .len 12 (.t 11)⟩, ⟨none, .mv 13 (.c (.sc (.i .i64 0)))⟩]) (.block 0 (.loop (.seq (.reg [⟨none, .bin 14 .lss (.t 13) (.t 12)⟩]) (.seq (.cond (.t 14) .skip (.exit 0)) (.seq (.block 1 (.seq (.reg [⟨none, .mv 15 (.t 13)⟩, ⟨none, .mv 5 (.t 15)⟩]) (.seq (.regD [⟨none, .mv 16 (.t 0)⟩, ⟨none, .mv 17 (.t 5)⟩, ⟨none, .ia 18 1 (.t 16) (.t 17)⟩, ⟨none, .ld 19 1 false (.t 18)⟩, ⟨none, .mv 20 (.t 1)⟩, ⟨none, .mv 21 (.t 5)⟩, ⟨none, .ia 22 1 (.t 20) (.t 21)⟩, ⟨none, .ld 23 1 false (.t 22)⟩, ⟨none, .bin 24 .neq (.t 19) (.t 23)⟩] [0, 0, 3, 7, 0, 0, 48, 112, 255]) (.cond (.t 24) (.seq (.reg [⟨none, .mv 4 (.c (.sc (.b false)))⟩]) .ret) .skip)))) (.reg [⟨none, .bin 25 .add (.t 13) (.c (.sc (.i .i64 1)))⟩, ⟨none, .mv 13 (.t 25)⟩]))))))) (.seq (.reg [⟨none, .mv 4 (.c (.sc (.b true)))⟩]) .ret))), [(4, 0)], 26⟩
def F37 : Fn := ⟨.seq (.reg [⟨none, .mv 4 (.c (.sc (.b false)))⟩]) (.seq (.seq (.reg [⟨none, .mv 6 (.t 0)⟩, ⟨none, .len 7 (.t 6)⟩, ⟨none, .mv 8 (.t 1)⟩, ⟨none, .len 9 (.t 8)⟩, ⟨none, .bin 10 .neq (.t 7) (.t 9)⟩]) (.cond (.t 10) (.seq (.reg [⟨none, .mv 4 (.c (.sc (.b false)))⟩]) .ret) .skip)) (.seq (.seq (.reg [⟨none, .mv 5 (.c (.sc (.i .i64 0)))⟩]) (.block 0 (.loop (.seq (.seq (.reg [⟨none, .mv 11 (.t 5)⟩, ⟨none, .mv 12 (.t 0)⟩, ⟨none, .len 13 (.t 12)⟩, ⟨none, .bin 14 .lss (.t 11) (.t 13)⟩]) (.cond (.t 14) .skip (.exit 0))) (.seq (.block 1 (.seq (.regD [⟨none, .mv 17 (.t 0)⟩, ⟨none, .mv 18 (.t 5)⟩, ⟨none, .ia 19 1 (.t 17) (.t 18)⟩, ⟨none, .ld 20 1 false (.t 19)⟩, ⟨none, .mv 21 (.t 1)⟩, ⟨none, .mv 22 (.t 5)⟩, ⟨none, .ia 23 1 (.t 21) (.t 22)⟩, ⟨none, .ld 24 1 false (.t 23)⟩, ⟨none, .bin 25 .neq (.t 20) (.t 24)⟩] [0, 0, 3, 7, 0, 0, 48, 112, 255]) (.cond (.t 25) (.seq (.reg [⟨none, .mv 4 (.c (.sc (.b false)))⟩]) .ret) .skip))) (.reg [⟨none, .mv 15 (.t 5)⟩, ⟨none, .bin 16 .add (.t 15) (.c (.sc (.i .i64 1)))⟩, ⟨none, .mv 5 (.t 16)⟩])))))) (.seq (.reg [⟨none, .mv 4 (.c (.sc (.b true)))⟩]) .ret))), [(4, 0)], 26⟩
def F158 : Fn := ⟨.seq (.reg [⟨none, .mv 4 (.c (.sc (.b false)))⟩]) (.seq (.seq (.reg [⟨none, .mv 6 (.t 0)⟩, ⟨none, .len 7 (.t 6)⟩, ⟨none, .mv 8 (.t 1)⟩, ⟨none, .len 9 (.t 8)⟩, ⟨none, .bin 10 .neq (.t 7) (.t 9)⟩]) (.cond (.t 10) (.seq (.reg [⟨none, .mv 4 (.c (.sc (.b false)))⟩]) .ret) .skip)) (.seq (.seq (.reg [⟨none, .mv 11 (.t 0)⟩, ⟨none, .len 12 (.t 11)⟩, ⟨none, .mv 13 (.c (.sc (.i .i64 0)))⟩]) (.block 0 (.loop (.seq (.reg [⟨none, .bin 14 .lss (.t 13) (.t 12)⟩]) (.seq (.cond (.t 14) .skip (.exit 0)) (.seq (.block 1 (.seq (.reg [⟨none, .mv 15 (.t 13)⟩, ⟨none, .mv 5 (.t 15)⟩]) (.seq (.regD [⟨none, .mv 16 (.t 0)⟩, ⟨none, .mv 17 (.t 5)⟩, ⟨none, .ia 18 2 (.t 16) (.t 17)⟩, ⟨none, .ld 19 2 true (.t 18)⟩, ⟨none, .mv 20 (.t 1)⟩, ⟨none, .mv 21 (.t 5)⟩, ⟨none, .ia 22 2 (.t 20) (.t 21)⟩, ⟨none, .ld 23 2 true (.t 22)⟩, ⟨none, .eqA 24 true [2, 2] (.t 19) (.t 23)⟩] [0, 0, 3, 7, 0, 0, 48, 112, 255]) (.cond (.t 24) (.seq (.reg [⟨none, .mv 4 (.c (.sc (.b false)))⟩]) .ret) .skip)))) (.reg [⟨none, .bin 25 .add (.t 13) (.c (.sc (.i .i64 1)))⟩, ⟨none, .mv 13 (.t 25)⟩]))))))) (.seq (.reg [⟨none, .mv 4 (.c (.sc (.b true)))⟩]) .ret))), [(4, 0)], 26⟩
def F83 : Fn := ⟨.seq (.reg [⟨none, .mv 4 (.c (.sc (.b false)))⟩]) (.seq (.seq (.reg [⟨none, .mv 6 (.t 0)⟩, ⟨none, .len 7 (.t 6)⟩, ⟨none, .mv 8 (.t 1)⟩, ⟨none, .len 9 (.t 8)⟩, ⟨none, .bin 10 .neq (.t 7) (.t 9)⟩]) (.cond (.t 10) (.seq (.reg [⟨none, .mv 4 (.c (.sc (.b false)))⟩]) .ret) .skip)) (.seq (.seq (.reg [⟨none, .mv 11 (.t 0)⟩, ⟨none, .len 12 (.t 11)⟩, ⟨none, .mv 13 (.c (.sc (.i .i64 0)))⟩]) (.block 0 (.loop (.seq (.reg [⟨none, .bin 14 .lss (.t 13) (.t 12)⟩]) (.seq (.cond (.t 14) .skip (.exit 0)) (.seq (.block 1 (.seq (.reg [⟨none, .mv 15 (.t 13)⟩, ⟨none, .mv 5 (.t 15)⟩]) (.seq (.regD [⟨none, .mv 16 (.t 0)⟩, ⟨none, .mv 17 (.t 5)⟩, ⟨none, .ia 18 3 (.t 16) (.t 17)⟩, ⟨none, .ld 19 3 true (.t 18)⟩, ⟨none, .mv 20 (.t 1)⟩, ⟨none, .mv 21 (.t 5)⟩, ⟨none, .ia 22 3 (.t 20) (.t 21)⟩, ⟨none, .ld 23 3 true (.t 22)⟩, ⟨none, .eqA 24 true [2, 2, 1] (.t 19) (.t 23)⟩] [0, 0, 3, 7, 0, 0, 48, 112, 255]) (.cond (.t 24) (.seq (.reg [⟨none, .mv 4 (.c (.sc (.b false)))⟩]) .ret) .skip)))) (.reg [⟨none, .bin 25 .add (.t 13) (.c (.sc (.i .i64 1)))⟩, ⟨none, .mv 13 (.t 25)⟩]))))))) (.seq (.reg [⟨none, .mv 4 (.c (.sc (.b true)))⟩]) .ret))), [(4, 0)], 26⟩
theorem F157_ok : compT Tryz.prog (fun _ => an0) 157 = some F157 := by kernel_rfl
theorem F37_ok : compT Tryz.prog (fun _ => an0) 37 = some F37 := by kernel_rfl
theorem F158_ok : compT Tryz.prog (fun _ => an0) 158 = some F158 := by kernel_rfl
theorem F83_ok : compT Tryz.prog (fun _ => an0) 83 = some F83 := by kernel_rfl
theorem b157 (W0 : Go.World) (l m : List S) (hl : l.length ≤ 140737488355328) : Body (Ctr Tryz.prog W0) F157.ac F157.rs [strL l, strL m] [] (.sc (.b (sameW beqL l m))) [] := by
  conv => whnf
  refine brec (fun h1 => ?_) (fun h1 => ?_)
  · conv => whnf
    simp only [strsD_length, Bool.not_eq_false', decide_eq_true_eq] at h1
    refine .st 1000 (fun k => l.length - k) (fun k => [(.s 0, .av (strL l)), (.s 1, .av (strL m)), (.s 12, .av (.sc (.i .i64 ((strsD l).length : Nat)))), (.s 13, .av (.sc (.i .i64 (k : Nat))))])
      (fun k => k ≤ l.length ∧ sameW beqL l m = sameW beqL (l.drop k) (m.drop k)) 0 ?_ ⟨Nat.zero_le _, rfl⟩ ?_
    · (refine le_of rfl rfl ?_; repeat' (first | exact rfl | exact trivial | refine ⟨?_, ?_⟩))
    · rintro k ⟨hk, he⟩
      conv => whnf
      refine brec (fun h2 => ?_) (fun h2 => ?_)
      · conv => whnf
        simp only [strsD_length, decide_eq_false_iff_not] at h2
        have e1 : l.drop k = [] := by simp; omega
        have e2 : m.drop k = [] := by simp; omega
        rw [he, e1, e2]
        exact fin_b (by simp [sameW])
      · simp only [strsD_length, decide_eq_true_eq] at h2
        obtain ⟨x, hx⟩ := get_of_lt (l := l) (k := k) (by omega)
        obtain ⟨y, hy⟩ := get_of_lt (l := m) (k := k) (by omega)
        have dx := strsD_get hx
        have dy := strsD_get hy

        rw [drop_get hx, drop_get hy, sameW] at he

        conv => whnf
        refine ⟨_, ⟨Int.natCast_nonneg _, dx⟩, ?_⟩
        conv => whnf
        refine ⟨_, ⟨Int.natCast_nonneg _, dy⟩, ?_⟩
        conv => whnf
        refine brec (fun h3 => ?_) (fun h3 => ?_)
        · have h4 : beqL x y = true := by simpa using h3
          conv => whnf
          refine ⟨?_, ?_⟩
          · constructor <;> omega
          · conv => whnf
            refine nxt (k + 1) ⟨by omega, by omega, ?_⟩ ?_
            · rw [he, h4, Bool.true_and]
            · (refine le_of rfl rfl ?_; repeat' (first | exact rfl | exact trivial | refine ⟨?_, ?_⟩))
        · have h4 : beqL x y = false := by simpa using h3
          conv => whnf
          rw [he, h4, Bool.false_and]
          exact fin_b rfl
  · conv => whnf
    simp only [strsD_length, Bool.not_eq_true', decide_eq_false_iff_not] at h1
    rw [sameW_len (by omega)]
    exact fin_b rfl
theorem c157 (W0 : Go.World) (l m : List S) (hl : l.length ≤ 140737488355328) : Ctr Tryz.prog W0 157 [strL l, strL m] [] (.sc (.b (sameW beqL l m))) [] :=
  ctr_body follows F157_ok rfl (fun _ _ h => by cases h) rfl (by rfl) (b157 W0 l m hl)
theorem b37 (W0 : Go.World) (l m : List S) (hl : l.length ≤ 140737488355328) : Body (Ctr Tryz.prog W0) F37.ac F37.rs [strL l, strL m] [] (.sc (.b (sameW beqL l m))) [] := by
  conv => whnf
  refine brec (fun h1 => ?_) (fun h1 => ?_)
  · conv => whnf
    simp only [strsD_length, Bool.not_eq_false', decide_eq_true_eq] at h1
    refine .st 1000 (fun k => l.length - k) (fun k => [(.s 0, .av (strL l)), (.s 1, .av (strL m)), (.s 5, .av (.sc (.i .i64 (k : Nat))))])
      (fun k => k ≤ l.length ∧ sameW beqL l m = sameW beqL (l.drop k) (m.drop k)) 0 ?_ ⟨Nat.zero_le _, rfl⟩ ?_
    · (refine le_of rfl rfl ?_; repeat' (first | exact rfl | exact trivial | refine ⟨?_, ?_⟩))
    · rintro k ⟨hk, he⟩
      conv => whnf
      refine brec (fun h2 => ?_) (fun h2 => ?_)
      · conv => whnf
        simp only [strsD_length, decide_eq_false_iff_not] at h2
        have e1 : l.drop k = [] := by simp; omega
        have e2 : m.drop k = [] := by simp; omega
        rw [he, e1, e2]
        exact fin_b (by simp [sameW])
      · simp only [strsD_length, decide_eq_true_eq] at h2
        obtain ⟨x, hx⟩ := get_of_lt (l := l) (k := k) (by omega)
        obtain ⟨y, hy⟩ := get_of_lt (l := m) (k := k) (by omega)
        have dx := strsD_get hx
        have dy := strsD_get hy

        rw [drop_get hx, drop_get hy, sameW] at he

        conv => whnf
        refine ⟨_, ⟨Int.natCast_nonneg _, dx⟩, ?_⟩
        conv => whnf
        refine ⟨_, ⟨Int.natCast_nonneg _, dy⟩, ?_⟩
        conv => whnf
        refine brec (fun h3 => ?_) (fun h3 => ?_)
        · have h4 : beqL x y = true := by simpa using h3
          conv => whnf
          refine ⟨?_, ?_⟩
          · constructor <;> omega
          · conv => whnf
            refine nxt (k + 1) ⟨by omega, by omega, ?_⟩ ?_
            · rw [he, h4, Bool.true_and]
            · (refine le_of rfl rfl ?_; repeat' (first | exact rfl | exact trivial | refine ⟨?_, ?_⟩))
        · have h4 : beqL x y = false := by simpa using h3
          conv => whnf
          rw [he, h4, Bool.false_and]
          exact fin_b rfl
  · conv => whnf
    simp only [strsD_length, Bool.not_eq_true', decide_eq_false_iff_not] at h1
    rw [sameW_len (by omega)]
    exact fin_b rfl
theorem c37 (W0 : Go.World) (l m : List S) (hl : l.length ≤ 140737488355328) : Ctr Tryz.prog W0 37 [strL l, strL m] [] (.sc (.b (sameW beqL l m))) [] :=
  ctr_body follows F37_ok rfl (fun _ _ h => by cases h) rfl (by rfl) (b37 W0 l m hl)
theorem b158 (W0 : Go.World) (l m : List Fold) (hl : l.length ≤ 140737488355328) : Body (Ctr Tryz.prog W0) F158.ac F158.rs [eFs l, eFs m] [] (.sc (.b (sameW sameFold l m))) [] := by
  conv => whnf
  refine brec (fun h1 => ?_) (fun h1 => ?_)
  · conv => whnf
    simp only [foldsD_length, Bool.not_eq_false', decide_eq_true_eq] at h1
    refine .st 1000 (fun k => l.length - k) (fun k => [(.s 0, .av (eFs l)), (.s 1, .av (eFs m)), (.s 12, .av (.sc (.i .i64 ((foldsD l).length : Nat)))), (.s 13, .av (.sc (.i .i64 (k : Nat))))])
      (fun k => k ≤ l.length ∧ sameW sameFold l m = sameW sameFold (l.drop k) (m.drop k)) 0 ?_ ⟨Nat.zero_le _, rfl⟩ ?_
    · (refine le_of rfl rfl ?_; repeat' (first | exact rfl | exact trivial | refine ⟨?_, ?_⟩))
    · rintro k ⟨hk, he⟩
      conv => whnf
      refine brec (fun h2 => ?_) (fun h2 => ?_)
      · conv => whnf
        simp only [foldsD_length, decide_eq_false_iff_not] at h2
        have e1 : l.drop k = [] := by simp; omega
        have e2 : m.drop k = [] := by simp; omega
        rw [he, e1, e2]
        exact fin_b (by simp [sameW])
      · simp only [foldsD_length, decide_eq_true_eq] at h2
        obtain ⟨x, hx⟩ := get_of_lt (l := l) (k := k) (by omega)
        obtain ⟨y, hy⟩ := get_of_lt (l := m) (k := k) (by omega)
        have dx := foldsD_get hx
        have dy := foldsD_get hy

        rw [drop_get hx, drop_get hy, sameW] at he
        obtain ⟨a, b⟩ := x
        obtain ⟨a', b'⟩ := y
        conv => whnf
        refine ⟨_, ⟨Int.natCast_nonneg _, dx⟩, ?_⟩
        conv => whnf
        refine ⟨_, ⟨Int.natCast_nonneg _, dy⟩, ?_⟩
        conv => whnf
        refine brec (fun h3 => ?_) (fun h3 => ?_)
        · have h4 : sameFold ⟨a, b⟩ ⟨a', b'⟩ = true := by rw [Bool.not_eq_false'] at h3; exact h3
          conv => whnf
          refine ⟨?_, ?_⟩
          · constructor <;> omega
          · conv => whnf
            refine nxt (k + 1) ⟨by omega, by omega, ?_⟩ ?_
            · rw [he, h4, Bool.true_and]
            · (refine le_of rfl rfl ?_; repeat' (first | exact rfl | exact trivial | refine ⟨?_, ?_⟩))
        · have h4 : sameFold ⟨a, b⟩ ⟨a', b'⟩ = false := by rw [Bool.not_eq_true'] at h3; exact h3
          conv => whnf
          rw [he, h4, Bool.false_and]
          exact fin_b rfl
  · conv => whnf
    simp only [foldsD_length, Bool.not_eq_true', decide_eq_false_iff_not] at h1
    rw [sameW_len (by omega)]
    exact fin_b rfl
theorem c158 (W0 : Go.World) (l m : List Fold) (hl : l.length ≤ 140737488355328) : Ctr Tryz.prog W0 158 [eFs l, eFs m] [] (.sc (.b (sameW sameFold l m))) [] :=
  ctr_body follows F158_ok rfl (fun _ _ h => by cases h) rfl (by rfl) (b158 W0 l m hl)
theorem b83 (W0 : Go.World) (l m : List Prm) (hl : l.length ≤ 140737488355328) : Body (Ctr Tryz.prog W0) F83.ac F83.rs [ePs l, ePs m] [] (.sc (.b (sameW samePrm l m))) [] := by
  conv => whnf
  refine brec (fun h1 => ?_) (fun h1 => ?_)
  · conv => whnf
    simp only [prmsD_length, Bool.not_eq_false', decide_eq_true_eq] at h1
    refine .st 1000 (fun k => l.length - k) (fun k => [(.s 0, .av (ePs l)), (.s 1, .av (ePs m)), (.s 12, .av (.sc (.i .i64 ((prmsD l).length : Nat)))), (.s 13, .av (.sc (.i .i64 (k : Nat))))])
      (fun k => k ≤ l.length ∧ sameW samePrm l m = sameW samePrm (l.drop k) (m.drop k)) 0 ?_ ⟨Nat.zero_le _, rfl⟩ ?_
    · (refine le_of rfl rfl ?_; repeat' (first | exact rfl | exact trivial | refine ⟨?_, ?_⟩))
    · rintro k ⟨hk, he⟩
      conv => whnf
      refine brec (fun h2 => ?_) (fun h2 => ?_)
      · conv => whnf
        simp only [prmsD_length, decide_eq_false_iff_not] at h2
        have e1 : l.drop k = [] := by simp; omega
        have e2 : m.drop k = [] := by simp; omega
        rw [he, e1, e2]
        exact fin_b (by simp [sameW])
      · simp only [prmsD_length, decide_eq_true_eq] at h2
        obtain ⟨x, hx⟩ := get_of_lt (l := l) (k := k) (by omega)
        obtain ⟨y, hy⟩ := get_of_lt (l := m) (k := k) (by omega)
        have dx := prmsD_get hx
        have dy := prmsD_get hy

        rw [drop_get hx, drop_get hy, sameW] at he
        obtain ⟨a, b, c⟩ := x
        obtain ⟨a', b', c'⟩ := y
        conv => whnf
        refine ⟨_, ⟨Int.natCast_nonneg _, dx⟩, ?_⟩
        conv => whnf
        refine ⟨_, ⟨Int.natCast_nonneg _, dy⟩, ?_⟩
        conv => whnf
        refine brec (fun h3 => ?_) (fun h3 => ?_)
        · have h4 : samePrm ⟨a, b, c⟩ ⟨a', b', c'⟩ = true := by rw [Bool.not_eq_false'] at h3; exact h3
          conv => whnf
          refine ⟨?_, ?_⟩
          · constructor <;> omega
          · conv => whnf
            refine nxt (k + 1) ⟨by omega, by omega, ?_⟩ ?_
            · rw [he, h4, Bool.true_and]
            · (refine le_of rfl rfl ?_; repeat' (first | exact rfl | exact trivial | refine ⟨?_, ?_⟩))
        · have h4 : samePrm ⟨a, b, c⟩ ⟨a', b', c'⟩ = false := by rw [Bool.not_eq_true'] at h3; exact h3
          conv => whnf
          rw [he, h4, Bool.false_and]
          exact fin_b rfl
  · conv => whnf
    simp only [prmsD_length, Bool.not_eq_true', decide_eq_false_iff_not] at h1
    rw [sameW_len (by omega)]
    exact fin_b rfl
theorem c83 (W0 : Go.World) (l m : List Prm) (hl : l.length ≤ 140737488355328) : Ctr Tryz.prog W0 83 [ePs l, ePs m] [] (.sc (.b (sameW samePrm l m))) [] :=
  ctr_body follows F83_ok rfl (fun _ _ h => by cases h) rfl (by rfl) (b83 W0 l m hl)
end Go.Abs

set_option maxRecDepth 100000
namespace Go.Abs
open Go.Proofs
def F85 : Fn := ⟨.seq (.reg [⟨none, .box 2 (.t 0)⟩, ⟨none, .box 3 (.t 1)⟩, ⟨none, .mv 4 (.c (.sc (.b false)))⟩]) (.seq (.seq (.reg [⟨none, .fa 5 (.t 2) 0⟩, ⟨none, .ld 6 1 false (.t 5)⟩, ⟨none, .fa 7 (.t 3) 0⟩, ⟨none, .ld 8 1 false (.t 7)⟩, ⟨none, .bin 9 .neq (.t 6) (.t 8)⟩, ⟨none, .mv 10 (.t 9)⟩, ⟨some (10, false), .fa 11 (.t 2) 1⟩, ⟨some (10, false), .ld 12 1 false (.t 11)⟩, ⟨some (10, false), .fa 13 (.t 3) 1⟩, ⟨some (10, false), .ld 14 1 false (.t 13)⟩, ⟨some (10, false), .bin 15 .neq (.t 12) (.t 14)⟩, ⟨none, .pick 16 (.t 10) (.c (.sc (.b true))) (.t 15)⟩, ⟨none, .mv 17 (.t 16)⟩, ⟨some (17, false), .fa 18 (.t 2) 2⟩, ⟨some (17, false), .ld 19 1 false (.t 18)⟩, ⟨some (17, false), .fa 20 (.t 3) 2⟩, ⟨some (17, false), .ld 21 1 false (.t 20)⟩, ⟨some (17, false), .bin 22 .neq (.t 19) (.t 21)⟩, ⟨none, .pick 23 (.t 17) (.c (.sc (.b true))) (.t 22)⟩, ⟨none, .mv 24 (.t 23)⟩, ⟨some (24, false), .fa 25 (.t 2) 3⟩, ⟨some (24, false), .ld 26 1 false (.t 25)⟩, ⟨some (24, false), .fa 27 (.t 3) 3⟩, ⟨some (24, false), .ld 28 1 false (.t 27)⟩, ⟨some (24, false), .bin 29 .neq (.t 26) (.t 28)⟩, ⟨none, .pick 30 (.t 24) (.c (.sc (.b true))) (.t 29)⟩, ⟨none, .mv 31 (.t 30)⟩, ⟨some (31, false), .fa 32 (.t 2) 4⟩, ⟨some (31, false), .ld 33 1 false (.t 32)⟩, ⟨some (31, false), .fa 34 (.t 3) 4⟩, ⟨some (31, false), .ld 35 1 false (.t 34)⟩, ⟨some (31, false), .call (some 36) (.c (.fn 157 [])) [.t 33, .t 35]⟩, ⟨some (31, false), .no 37 (.t 36)⟩, ⟨none, .pick 38 (.t 31) (.c (.sc (.b true))) (.t 37)⟩, ⟨none, .mv 39 (.t 38)⟩, ⟨some (39, false), .fa 40 (.t 2) 6⟩, ⟨some (39, false), .ld 41 1 false (.t 40)⟩, ⟨some (39, false), .fa 42 (.t 3) 6⟩, ⟨some (39, false), .ld 43 1 false (.t 42)⟩, ⟨some (39, false), .call (some 44) (.c (.fn 158 [])) [.t 41, .t 43]⟩, ⟨some (39, false), .no 45 (.t 44)⟩, ⟨none, .pick 46 (.t 39) (.c (.sc (.b true))) (.t 45)⟩]) (.cond (.t 46) (.seq (.reg [⟨none, .mv 4 (.c (.sc (.b false)))⟩]) .ret) .skip)) (.seq (.reg [⟨none, .fa 47 (.t 2) 5⟩, ⟨none, .ld 48 1 false (.t 47)⟩, ⟨none, .fa 49 (.t 3) 5⟩, ⟨none, .ld 50 1 false (.t 49)⟩, ⟨none, .call (some 51) (.c (.fn 38 [])) [.t 48, .t 50, .c (.fn 11 [])]⟩, ⟨none, .mv 52 (.t 51)⟩, ⟨some (52, true), .fa 53 (.t 2) 7⟩, ⟨some (52, true), .ld 54 1 false (.t 53)⟩, ⟨some (52, true), .fa 55 (.t 3) 7⟩, ⟨some (52, true), .ld 56 1 false (.t 55)⟩, ⟨some (52, true), .call (some 57) (.c (.fn 159 [])) [.t 54, .t 56, .c (.fn 42 [])]⟩, ⟨none, .pick 58 (.t 52) (.t 57) (.c (.sc (.b false)))⟩, ⟨none, .mv 4 (.t 58)⟩]) .ret)), [(4, 0)], 59⟩
def F84 : Fn := ⟨.seq (.reg [⟨none, .mv 6 (.c (.sc (.b false)))⟩]) (.seq (.seq (.reg [⟨none, .mv 10 (.t 0)⟩, ⟨none, .len 11 (.t 10)⟩, ⟨none, .mv 12 (.t 1)⟩, ⟨none, .len 13 (.t 12)⟩, ⟨none, .bin 14 .neq (.t 11) (.t 13)⟩]) (.cond (.t 14) (.seq (.reg [⟨none, .mv 6 (.c (.sc (.b false)))⟩]) .ret) .skip)) (.seq (.seq (.reg [⟨none, .mv 15 (.t 0)⟩, ⟨none, .len 16 (.t 15)⟩, ⟨none, .mv 17 (.c (.sc (.i .i64 0)))⟩]) (.block 0 (.loop (.seq (.reg [⟨none, .bin 18 .lss (.t 17) (.t 16)⟩]) (.seq (.cond (.t 18) .skip (.exit 0)) (.seq (.block 1 (.seq (.reg [⟨none, .mv 19 (.t 17)⟩, ⟨none, .ia 20 8 (.t 15) (.t 17)⟩, ⟨none, .ld 21 8 true (.t 20)⟩, ⟨none, .alloc 8 [.sc (.s []), .sc (.s []), .sc (.s []), .sc (.i .i64 0), .sl 1 [] .full, .sl 4 [] .full, .sl 2 [] .full, .sl 1 [] .full]⟩, ⟨none, .mv 7 (.t 19)⟩, ⟨none, .st (.t 8) 8 (.t 21)⟩]) (.seq (.reg [⟨none, .mv 22 (.t 1)⟩, ⟨none, .mv 23 (.t 7)⟩, ⟨none, .ia 24 8 (.t 22) (.t 23)⟩, ⟨none, .ld 25 8 true (.t 24)⟩, ⟨none, .alloc 9 [.sc (.s []), .sc (.s []), .sc (.s []), .sc (.i .i64 0), .sl 1 [] .full, .sl 4 [] .full, .sl 2 [] .full, .sl 1 [] .full]⟩, ⟨none, .st (.t 9) 8 (.t 25)⟩]) (.seq (.reg [⟨none, .mv 26 (.t 2)⟩, ⟨none, .ld 27 8 true (.t 8)⟩, ⟨none, .ld 28 8 true (.t 9)⟩, ⟨none, .call (some 29) (.t 26) [.t 27, .t 28]⟩, ⟨none, .no 30 (.t 29)⟩]) (.cond (.t 30) (.seq (.reg [⟨none, .mv 6 (.c (.sc (.b false)))⟩]) .ret) .skip))))) (.reg [⟨none, .bin 31 .add (.t 17) (.c (.sc (.i .i64 1)))⟩, ⟨none, .mv 17 (.t 31)⟩]))))))) (.seq (.reg [⟨none, .mv 6 (.c (.sc (.b true)))⟩]) .ret))), [(6, 0)], 32⟩
def F42 : Fn := ⟨.seq (.reg [⟨none, .mv 4 (.c (.sc (.b false)))⟩]) (.seq (.reg [⟨none, .mv 5 (.t 0)⟩, ⟨none, .mv 6 (.t 1)⟩, ⟨none, .call (some 7) (.c (.fn 84 [])) [.t 5, .t 6, .c (.fn 85 [])]⟩, ⟨none, .mv 4 (.t 7)⟩]) .ret), [(4, 0)], 8⟩
def F159 : Fn := ⟨.seq (.reg [⟨none, .mv 6 (.c (.sc (.b false)))⟩]) (.seq (.seq (.reg [⟨none, .mv 10 (.t 0)⟩, ⟨none, .len 11 (.t 10)⟩, ⟨none, .mv 12 (.t 1)⟩, ⟨none, .len 13 (.t 12)⟩, ⟨none, .bin 14 .neq (.t 11) (.t 13)⟩]) (.cond (.t 14) (.seq (.reg [⟨none, .mv 6 (.c (.sc (.b false)))⟩]) .ret) .skip)) (.seq (.seq (.reg [⟨none, .mv 15 (.t 0)⟩, ⟨none, .len 16 (.t 15)⟩, ⟨none, .mv 17 (.c (.sc (.i .i64 0)))⟩]) (.block 0 (.loop (.seq (.reg [⟨none, .bin 18 .lss (.t 17) (.t 16)⟩]) (.seq (.cond (.t 18) .skip (.exit 0)) (.seq (.block 1 (.seq (.reg [⟨none, .mv 19 (.t 17)⟩, ⟨none, .ia 20 1 (.t 15) (.t 17)⟩, ⟨none, .ld 21 1 false (.t 20)⟩, ⟨none, .mv 7 (.t 19)⟩, ⟨none, .mv 8 (.t 21)⟩]) (.seq (.reg [⟨none, .mv 22 (.t 1)⟩, ⟨none, .mv 23 (.t 7)⟩, ⟨none, .ia 24 1 (.t 22) (.t 23)⟩, ⟨none, .ld 25 1 false (.t 24)⟩, ⟨none, .mv 9 (.t 25)⟩]) (.seq (.reg [⟨none, .mv 26 (.t 2)⟩, ⟨none, .mv 27 (.t 8)⟩, ⟨none, .mv 28 (.t 9)⟩, ⟨none, .call (some 29) (.t 26) [.t 27, .t 28]⟩, ⟨none, .no 30 (.t 29)⟩]) (.cond (.t 30) (.seq (.reg [⟨none, .mv 6 (.c (.sc (.b false)))⟩]) .ret) .skip))))) (.reg [⟨none, .bin 31 .add (.t 17) (.c (.sc (.i .i64 1)))⟩, ⟨none, .mv 17 (.t 31)⟩]))))))) (.seq (.reg [⟨none, .mv 6 (.c (.sc (.b true)))⟩]) .ret))), [(6, 0)], 32⟩
def F43 : Fn := ⟨.seq (.reg [⟨none, .mv 4 (.c (.sc (.b false)))⟩]) (.seq (.seq (.reg [⟨none, .mv 6 (.t 0)⟩, ⟨none, .len 7 (.t 6)⟩, ⟨none, .mv 8 (.t 1)⟩, ⟨none, .len 9 (.t 8)⟩, ⟨none, .bin 10 .neq (.t 7) (.t 9)⟩]) (.cond (.t 10) (.seq (.reg [⟨none, .mv 4 (.c (.sc (.b false)))⟩]) .ret) .skip)) (.seq (.seq (.reg [⟨none, .mv 5 (.c (.sc (.i .i64 0)))⟩]) (.block 0 (.loop (.seq (.seq (.reg [⟨none, .mv 11 (.t 5)⟩, ⟨none, .mv 12 (.t 0)⟩, ⟨none, .len 13 (.t 12)⟩, ⟨none, .bin 14 .lss (.t 11) (.t 13)⟩]) (.cond (.t 14) .skip (.exit 0))) (.seq (.block 1 (.seq (.regD [⟨none, .mv 17 (.t 0)⟩, ⟨none, .mv 18 (.t 5)⟩, ⟨none, .ia 19 8 (.t 17) (.t 18)⟩, ⟨none, .ld 20 8 true (.t 19)⟩, ⟨none, .mv 21 (.t 1)⟩, ⟨none, .mv 22 (.t 5)⟩, ⟨none, .ia 23 8 (.t 21) (.t 22)⟩, ⟨none, .ld 24 8 true (.t 23)⟩, ⟨none, .call (some 25) (.c (.fn 32 [])) [.t 20, .t 24]⟩, ⟨none, .no 26 (.t 25)⟩] [0, 0, 3, 7, 0, 0, 48, 112, 255, 511]) (.cond (.t 26) (.seq (.reg [⟨none, .mv 4 (.c (.sc (.b false)))⟩]) .ret) .skip))) (.reg [⟨none, .mv 15 (.t 5)⟩, ⟨none, .bin 16 .add (.t 15) (.c (.sc (.i .i64 1)))⟩, ⟨none, .mv 5 (.t 16)⟩])))))) (.seq (.reg [⟨none, .mv 4 (.c (.sc (.b true)))⟩]) .ret))), [(4, 0)], 27⟩
theorem F85_ok : compT Tryz.prog (fun _ => an0) 85 = some F85 := by kernel_rfl
theorem F84_ok : compT Tryz.prog (fun _ => an0) 84 = some F84 := by kernel_rfl
theorem F42_ok : compT Tryz.prog (fun _ => an0) 42 = some F42 := by kernel_rfl
theorem F159_ok : compT Tryz.prog (fun _ => an0) 159 = some F159 := by kernel_rfl
theorem F43_ok : compT Tryz.prog (fun _ => an0) 43 = some F43 := by kernel_rfl
theorem size_getB {l : List Stm} {k : Nat} {x : Stm} (h : l[k]? = some x) : SizeOf.sizeOf x < SizeOf.sizeOf l := List.sizeOf_lt_of_mem (List.mem_of_getElem? h)
theorem size_getBs {l : List (List Stm)} {k : Nat} {x : List Stm} (h : l[k]? = some x) : SizeOf.sizeOf x < SizeOf.sizeOf l := List.sizeOf_lt_of_mem (List.mem_of_getElem? h)
set_option maxHeartbeats 2000000 in
theorem b85 (W0 : Go.World) (x y : Stm) (hx : x.ok) (hy : y.ok) (h159 : ∀ l m, l.length ≤ 140737488355328 → oksBs l → oksBs m → SizeOf.sizeOf l < SizeOf.sizeOf x → Ctr Tryz.prog W0 159 [eBs l, eBs m, .fn 42 []] [] (.sc (.b (sameBs l m))) []) : Body (Ctr Tryz.prog W0) F85.ac F85.rs [eS x, eS y] [] (.sc (.b (sameS x y))) [] := by
  cases x with | mk o nm tx n ns es fs bs =>
  cases y with | mk o' nm' tx' n' ns' es' fs' bs' =>
  repeat' ((conv => whnf); (first | with_reducible refine brec (fun _ => ?_) (fun _ => ?_) | (refine callP.pure _ (c157 W0 _ _ hx.2.1.1) ⟨rfl, rfl⟩ ?_) | (refine callP.pure _ (c158 W0 _ _ hx.2.2.2.1.1) ⟨rfl, rfl⟩ ?_) | (refine callP.pure _ (c38 W0 _ _ hx.2.2.1.1 hx.2.2.1.2 hy.2.2.1.2) ⟨rfl, rfl⟩ ?_) | (refine callP.pure _ (h159 _ _ hx.2.2.2.2.1 hx.2.2.2.2.2 hy.2.2.2.2.2 (by simp; omega)) ⟨rfl, rfl⟩ ?_) | fail))
  all_goals ((conv => whnf); refine fin_b ?_; simp_all [sameS])
theorem b84 (W0 : Go.World) (l m : List Stm) (hl : l.length ≤ 140737488355328) (ol : oksB l) (om : oksB m) (hc : ∀ x y, x.ok → y.ok → SizeOf.sizeOf x < SizeOf.sizeOf l → Ctr Tryz.prog W0 85 [eS x, eS y] [] (.sc (.b (sameS x y))) []) : Body (Ctr Tryz.prog W0) F84.ac F84.rs [eB l, eB m, .fn 85 []] [] (.sc (.b (sameB l m))) [] := by
  conv => whnf
  refine brec (fun h1 => ?_) (fun h1 => ?_)
  · conv => whnf
    simp only [stmsD_length, Bool.not_eq_false', decide_eq_true_eq] at h1
    refine .st 1000 (fun k => l.length - k) (fun k => [(.s 1, .av (eB m)), (.s 2, .av (.fn 85 [])), (.s 15, .av (eB l)), (.s 16, .av (.sc (.i .i64 ((stmsD l).length : Nat)))), (.s 17, .av (.sc (.i .i64 (k : Nat))))])
      (fun k => k ≤ l.length ∧ sameB l m = sameB (l.drop k) (m.drop k)) 0 ?_ ⟨Nat.zero_le _, rfl⟩ ?_
    · (refine le_of rfl rfl ?_; repeat' (first | exact rfl | exact trivial | refine ⟨?_, ?_⟩))
    · rintro k ⟨hk, he⟩
      conv => whnf
      refine brec (fun h2 => ?_) (fun h2 => ?_)
      · conv => whnf
        simp only [stmsD_length, decide_eq_false_iff_not] at h2
        have e1 : l.drop k = [] := by simp; omega
        have e2 : m.drop k = [] := by simp; omega
        rw [he, e1, e2]
        exact fin_b (by simp [sameB])
      · simp only [stmsD_length, decide_eq_true_eq] at h2
        obtain ⟨x, hx⟩ := get_of_lt (l := l) (k := k) (by omega)
        obtain ⟨y, hy⟩ := get_of_lt (l := m) (k := k) (by omega)
        have dx := stmsD_get hx
        have dy := stmsD_get hy
        have ox := oksB_get ol hx
        have oy := oksB_get om hy
        have sx := size_getB hx
        rw [drop_get hx, drop_get hy, sameB] at he
        cases x with | mk o nm tx n ns es fs bs =>
        cases y with | mk o' nm' tx' n' ns' es' fs' bs' =>
        conv => whnf
        refine ⟨_, ⟨Int.natCast_nonneg _, dx⟩, ?_⟩
        conv => whnf
        refine ⟨_, ⟨Int.natCast_nonneg _, dy⟩, ?_⟩
        conv => whnf
        refine .pure _ (hc _ _ ox oy sx) ⟨rfl, rfl⟩ ?_
        conv => whnf
        refine brec (fun h3 => ?_) (fun h3 => ?_)
        · simp only [Bool.not_eq_false'] at h3; have h4 := h3
          conv => whnf
          refine ⟨?_, ?_⟩
          · constructor <;> omega
          · conv => whnf
            refine nxt (k + 1) ⟨by omega, by omega, ?_⟩ ?_
            · rw [he, h4, Bool.true_and]
            · (refine le_of rfl rfl ?_; repeat' (first | exact rfl | exact trivial | refine ⟨?_, ?_⟩))
        · simp only [Bool.not_eq_true'] at h3; have h4 := h3
          conv => whnf
          rw [he, h4, Bool.false_and]
          exact fin_b rfl
  · conv => whnf
    simp only [stmsD_length, Bool.not_eq_true', decide_eq_false_iff_not] at h1
    rw [sameB_len (by omega)]
    exact fin_b rfl
theorem b43 (W0 : Go.World) (l m : List Stm) (hl : l.length ≤ 140737488355328) (ol : oksB l) (om : oksB m) (hc : ∀ x y, x.ok → y.ok → SizeOf.sizeOf x < SizeOf.sizeOf l → Ctr Tryz.prog W0 32 [eS x, eS y] [] (.sc (.b (sameS x y))) []) : Body (Ctr Tryz.prog W0) F43.ac F43.rs [eB l, eB m] [] (.sc (.b (sameB l m))) [] := by
  conv => whnf
  refine brec (fun h1 => ?_) (fun h1 => ?_)
  · conv => whnf
    simp only [stmsD_length, Bool.not_eq_false', decide_eq_true_eq] at h1
    refine .st 1000 (fun k => l.length - k) (fun k => [(.s 0, .av (eB l)), (.s 1, .av (eB m)), (.s 5, .av (.sc (.i .i64 (k : Nat))))])
      (fun k => k ≤ l.length ∧ sameB l m = sameB (l.drop k) (m.drop k)) 0 ?_ ⟨Nat.zero_le _, rfl⟩ ?_
    · (refine le_of rfl rfl ?_; repeat' (first | exact rfl | exact trivial | refine ⟨?_, ?_⟩))
    · rintro k ⟨hk, he⟩
      conv => whnf
      refine brec (fun h2 => ?_) (fun h2 => ?_)
      · conv => whnf
        simp only [stmsD_length, decide_eq_false_iff_not] at h2
        have e1 : l.drop k = [] := by simp; omega
        have e2 : m.drop k = [] := by simp; omega
        rw [he, e1, e2]
        exact fin_b (by simp [sameB])
      · simp only [stmsD_length, decide_eq_true_eq] at h2
        obtain ⟨x, hx⟩ := get_of_lt (l := l) (k := k) (by omega)
        obtain ⟨y, hy⟩ := get_of_lt (l := m) (k := k) (by omega)
        have dx := stmsD_get hx
        have dy := stmsD_get hy
        have ox := oksB_get ol hx
        have oy := oksB_get om hy
        have sx := size_getB hx
        rw [drop_get hx, drop_get hy, sameB] at he
        cases x with | mk o nm tx n ns es fs bs =>
        cases y with | mk o' nm' tx' n' ns' es' fs' bs' =>
        conv => whnf
        refine ⟨_, ⟨Int.natCast_nonneg _, dx⟩, ?_⟩
        conv => whnf
        refine ⟨_, ⟨Int.natCast_nonneg _, dy⟩, ?_⟩
        conv => whnf
        refine .pure _ (hc _ _ ox oy sx) ⟨rfl, rfl⟩ ?_
        conv => whnf
        refine brec (fun h3 => ?_) (fun h3 => ?_)
        · simp only [Bool.not_eq_false'] at h3; have h4 := h3
          conv => whnf
          refine ⟨?_, ?_⟩
          · constructor <;> omega
          · conv => whnf
            refine nxt (k + 1) ⟨by omega, by omega, ?_⟩ ?_
            · rw [he, h4, Bool.true_and]
            · (refine le_of rfl rfl ?_; repeat' (first | exact rfl | exact trivial | refine ⟨?_, ?_⟩))
        · simp only [Bool.not_eq_true'] at h3; have h4 := h3
          conv => whnf
          rw [he, h4, Bool.false_and]
          exact fin_b rfl
  · conv => whnf
    simp only [stmsD_length, Bool.not_eq_true', decide_eq_false_iff_not] at h1
    rw [sameB_len (by omega)]
    exact fin_b rfl
set_option maxHeartbeats 2000000 in
theorem b42 (W0 : Go.World) (l m : List Stm) (h84 : Ctr Tryz.prog W0 84 [eB l, eB m, .fn 85 []] [] (.sc (.b (sameB l m))) []) : Body (Ctr Tryz.prog W0) F42.ac F42.rs [eB l, eB m] [] (.sc (.b (sameB l m))) [] := by

  repeat' ((conv => whnf); (first | with_reducible refine brec (fun _ => ?_) (fun _ => ?_) | (refine callP.pure _ (h84) ⟨rfl, rfl⟩ ?_) | fail))
  all_goals ((conv => whnf); refine fin_b ?_; simp_all)
theorem b159 (W0 : Go.World) (l m : List (List Stm)) (hl : l.length ≤ 140737488355328) (ol : oksBs l) (om : oksBs m) (hc : ∀ x y, x.length ≤ 140737488355328 → oksB x → oksB y → SizeOf.sizeOf x < SizeOf.sizeOf l → Ctr Tryz.prog W0 42 [eB x, eB y] [] (.sc (.b (sameB x y))) []) : Body (Ctr Tryz.prog W0) F159.ac F159.rs [eBs l, eBs m, .fn 42 []] [] (.sc (.b (sameBs l m))) [] := by
  conv => whnf
  refine brec (fun h1 => ?_) (fun h1 => ?_)
  · conv => whnf
    simp only [bodiesD_length, Bool.not_eq_false', decide_eq_true_eq] at h1
    refine .st 1000 (fun k => l.length - k) (fun k => [(.s 1, .av (eBs m)), (.s 2, .av (.fn 42 [])), (.s 15, .av (eBs l)), (.s 16, .av (.sc (.i .i64 ((bodiesD l).length : Nat)))), (.s 17, .av (.sc (.i .i64 (k : Nat))))])
      (fun k => k ≤ l.length ∧ sameBs l m = sameBs (l.drop k) (m.drop k)) 0 ?_ ⟨Nat.zero_le _, rfl⟩ ?_
    · (refine le_of rfl rfl ?_; repeat' (first | exact rfl | exact trivial | refine ⟨?_, ?_⟩))
    · rintro k ⟨hk, he⟩
      conv => whnf
      refine brec (fun h2 => ?_) (fun h2 => ?_)
      · conv => whnf
        simp only [bodiesD_length, decide_eq_false_iff_not] at h2
        have e1 : l.drop k = [] := by simp; omega
        have e2 : m.drop k = [] := by simp; omega
        rw [he, e1, e2]
        exact fin_b (by simp [sameBs])
      · simp only [bodiesD_length, decide_eq_true_eq] at h2
        obtain ⟨x, hx⟩ := get_of_lt (l := l) (k := k) (by omega)
        obtain ⟨y, hy⟩ := get_of_lt (l := m) (k := k) (by omega)
        have dx := bodiesD_get hx
        have dy := bodiesD_get hy
        have ox := oksBs_get ol hx
        have oy := oksBs_get om hy
        have sx := size_getBs hx
        rw [drop_get hx, drop_get hy, sameBs] at he

        conv => whnf
        refine ⟨_, ⟨Int.natCast_nonneg _, dx⟩, ?_⟩
        conv => whnf
        refine ⟨_, ⟨Int.natCast_nonneg _, dy⟩, ?_⟩
        conv => whnf
        refine .pure _ (hc _ _ ox.1 ox.2 oy.2 sx) ⟨rfl, rfl⟩ ?_
        conv => whnf
        refine brec (fun h3 => ?_) (fun h3 => ?_)
        · simp only [Bool.not_eq_false'] at h3; have h4 := h3
          conv => whnf
          refine ⟨?_, ?_⟩
          · constructor <;> omega
          · conv => whnf
            refine nxt (k + 1) ⟨by omega, by omega, ?_⟩ ?_
            · rw [he, h4, Bool.true_and]
            · (refine le_of rfl rfl ?_; repeat' (first | exact rfl | exact trivial | refine ⟨?_, ?_⟩))
        · simp only [Bool.not_eq_true'] at h3; have h4 := h3
          conv => whnf
          rw [he, h4, Bool.false_and]
          exact fin_b rfl
  · conv => whnf
    simp only [bodiesD_length, Bool.not_eq_true', decide_eq_false_iff_not] at h1
    rw [sameBs_len (by omega)]
    exact fin_b rfl
theorem c85s (W0 : Go.World) : ∀ (n : Nat), (∀ x y : Stm, SizeOf.sizeOf x < n → x.ok → y.ok → Ctr Tryz.prog W0 85 [eS x, eS y] [] (.sc (.b (sameS x y))) []) ∧
    (∀ l m : List Stm, SizeOf.sizeOf l < n → l.length ≤ 140737488355328 → oksB l → oksB m → Ctr Tryz.prog W0 42 [eB l, eB m] [] (.sc (.b (sameB l m))) []) ∧
    (∀ l m : List (List Stm), SizeOf.sizeOf l < n → l.length ≤ 140737488355328 → oksBs l → oksBs m → Ctr Tryz.prog W0 159 [eBs l, eBs m, .fn 42 []] [] (.sc (.b (sameBs l m))) [])
  | 0 => ⟨fun _ _ h => absurd h (Nat.not_lt_zero _), fun _ _ h => absurd h (Nat.not_lt_zero _), fun _ _ h => absurd h (Nat.not_lt_zero _)⟩
  | n + 1 => by
    obtain ⟨ih1, ih2, ih3⟩ := c85s W0 n
    refine ⟨fun x y h hx hy => ?_, fun l m h hl ol om => ?_, fun l m h hl ol om => ?_⟩
    · refine ctr_body follows F85_ok rfl (fun _ _ h => by cases h) rfl ?_ (b85 W0 x y hx hy fun l m hl ol om hs => ih3 l m (by omega) hl ol om)
      cases x; cases y; rfl
    · refine ctr_body follows F42_ok rfl (fun _ _ h => by cases h) rfl rfl (b42 W0 l m ?_)
      exact ctr_body follows F84_ok rfl (fun _ _ h => by cases h) rfl rfl (b84 W0 l m hl ol om fun x y hx hy hs => ih1 x y (by omega) hx hy)
    · exact ctr_body follows F159_ok rfl (fun _ _ h => by cases h) rfl rfl (b159 W0 l m hl ol om fun x y hl ox oy hs => ih2 x y (by omega) hl ox oy)
theorem c42 (W0 : Go.World) (l m : List Stm) (hl : l.length ≤ 140737488355328) (ol : oksB l) (om : oksB m) : Ctr Tryz.prog W0 42 [eB l, eB m] [] (.sc (.b (sameB l m))) [] := (c85s W0 _).2.1 l m (Nat.lt_succ_self _) hl ol om
end Go.Abs

set_option maxRecDepth 100000
namespace Go.Abs
open Go.Proofs
def F32 : Fn := ⟨.seq (.reg [⟨none, .box 2 (.t 0)⟩, ⟨none, .box 3 (.t 1)⟩, ⟨none, .mv 4 (.c (.sc (.b false)))⟩]) (.seq (.seq (.reg [⟨none, .fa 7 (.t 2) 0⟩, ⟨none, .ld 8 1 false (.t 7)⟩, ⟨none, .fa 9 (.t 3) 0⟩, ⟨none, .ld 10 1 false (.t 9)⟩, ⟨none, .bin 11 .neq (.t 8) (.t 10)⟩, ⟨none, .mv 12 (.t 11)⟩, ⟨some (12, false), .fa 13 (.t 2) 1⟩, ⟨some (12, false), .ld 14 1 false (.t 13)⟩, ⟨some (12, false), .fa 15 (.t 3) 1⟩, ⟨some (12, false), .ld 16 1 false (.t 15)⟩, ⟨some (12, false), .bin 17 .neq (.t 14) (.t 16)⟩, ⟨none, .pick 18 (.t 12) (.c (.sc (.b true))) (.t 17)⟩, ⟨none, .mv 19 (.t 18)⟩, ⟨some (19, false), .fa 20 (.t 2) 2⟩, ⟨some (19, false), .ld 21 1 false (.t 20)⟩, ⟨some (19, false), .fa 22 (.t 3) 2⟩, ⟨some (19, false), .ld 23 1 false (.t 22)⟩, ⟨some (19, false), .bin 24 .neq (.t 21) (.t 23)⟩, ⟨none, .pick 25 (.t 19) (.c (.sc (.b true))) (.t 24)⟩, ⟨none, .mv 26 (.t 25)⟩, ⟨some (26, false), .fa 27 (.t 2) 3⟩, ⟨some (26, false), .ld 28 1 false (.t 27)⟩, ⟨some (26, false), .fa 29 (.t 3) 3⟩, ⟨some (26, false), .ld 30 1 false (.t 29)⟩, ⟨some (26, false), .bin 31 .neq (.t 28) (.t 30)⟩, ⟨none, .pick 32 (.t 26) (.c (.sc (.b true))) (.t 31)⟩, ⟨none, .mv 33 (.t 32)⟩, ⟨some (33, false), .fa 34 (.t 2) 4⟩, ⟨some (33, false), .ld 35 1 false (.t 34)⟩, ⟨some (33, false), .fa 36 (.t 3) 4⟩, ⟨some (33, false), .ld 37 1 false (.t 36)⟩, ⟨some (33, false), .call (some 38) (.c (.fn 37 [])) [.t 35, .t 37]⟩, ⟨some (33, false), .no 39 (.t 38)⟩, ⟨none, .pick 40 (.t 33) (.c (.sc (.b true))) (.t 39)⟩, ⟨none, .mv 41 (.t 40)⟩, ⟨some (41, false), .fa 42 (.t 2) 5⟩, ⟨some (41, false), .ld 43 1 false (.t 42)⟩, ⟨some (41, false), .fa 44 (.t 3) 5⟩, ⟨some (41, false), .ld 45 1 false (.t 44)⟩, ⟨some (41, false), .call (some 46) (.c (.fn 39 [])) [.t 43, .t 45]⟩, ⟨some (41, false), .no 47 (.t 46)⟩, ⟨none, .pick 48 (.t 41) (.c (.sc (.b true))) (.t 47)⟩, ⟨none, .mv 49 (.t 48)⟩, ⟨some (49, false), .fa 50 (.t 2) 6⟩, ⟨some (49, false), .ld 51 1 false (.t 50)⟩, ⟨some (49, false), .len 52 (.t 51)⟩, ⟨some (49, false), .fa 53 (.t 3) 6⟩, ⟨some (49, false), .ld 54 1 false (.t 53)⟩, ⟨some (49, false), .len 55 (.t 54)⟩, ⟨some (49, false), .bin 56 .neq (.t 52) (.t 55)⟩, ⟨none, .pick 57 (.t 49) (.c (.sc (.b true))) (.t 56)⟩, ⟨none, .mv 58 (.t 57)⟩, ⟨some (58, false), .fa 59 (.t 2) 7⟩, ⟨some (58, false), .ld 60 1 false (.t 59)⟩, ⟨some (58, false), .len 61 (.t 60)⟩, ⟨some (58, false), .fa 62 (.t 3) 7⟩, ⟨some (58, false), .ld 63 1 false (.t 62)⟩, ⟨some (58, false), .len 64 (.t 63)⟩, ⟨some (58, false), .bin 65 .neq (.t 61) (.t 64)⟩, ⟨none, .pick 66 (.t 58) (.c (.sc (.b true))) (.t 65)⟩]) (.cond (.t 66) (.seq (.reg [⟨none, .mv 4 (.c (.sc (.b false)))⟩]) .ret) .skip)) (.seq (.seq (.reg [⟨none, .mv 5 (.c (.sc (.i .i64 0)))⟩]) (.block 0 (.loop (.seq (.seq (.reg [⟨none, .mv 67 (.t 5)⟩, ⟨none, .fa 68 (.t 2) 6⟩, ⟨none, .ld 69 1 false (.t 68)⟩, ⟨none, .len 70 (.t 69)⟩, ⟨none, .bin 71 .lss (.t 67) (.t 70)⟩]) (.cond (.t 71) .skip (.exit 0))) (.seq (.block 1 (.seq (.regD [⟨none, .fa 74 (.t 2) 6⟩, ⟨none, .ld 75 1 false (.t 74)⟩, ⟨none, .mv 76 (.t 5)⟩, ⟨none, .ia 77 2 (.t 75) (.t 76)⟩, ⟨none, .ld 78 2 true (.t 77)⟩, ⟨none, .fa 79 (.t 3) 6⟩, ⟨none, .ld 80 1 false (.t 79)⟩, ⟨none, .mv 81 (.t 5)⟩, ⟨none, .ia 82 2 (.t 80) (.t 81)⟩, ⟨none, .ld 83 2 true (.t 82)⟩, ⟨none, .eqA 84 true [2, 2] (.t 78) (.t 83)⟩] [0, 1, 0, 7, 15, 0, 32, 0, 224, 480, 1023]) (.cond (.t 84) (.seq (.reg [⟨none, .mv 4 (.c (.sc (.b false)))⟩]) .ret) .skip))) (.reg [⟨none, .mv 72 (.t 5)⟩, ⟨none, .bin 73 .add (.t 72) (.c (.sc (.i .i64 1)))⟩, ⟨none, .mv 5 (.t 73)⟩])))))) (.seq (.seq (.reg [⟨none, .mv 6 (.c (.sc (.i .i64 0)))⟩]) (.block 2 (.loop (.seq (.seq (.reg [⟨none, .mv 85 (.t 6)⟩, ⟨none, .fa 86 (.t 2) 7⟩, ⟨none, .ld 87 1 false (.t 86)⟩, ⟨none, .len 88 (.t 87)⟩, ⟨none, .bin 89 .lss (.t 85) (.t 88)⟩]) (.cond (.t 89) .skip (.exit 2))) (.seq (.block 3 (.seq (.regD [⟨none, .fa 92 (.t 2) 7⟩, ⟨none, .ld 93 1 false (.t 92)⟩, ⟨none, .mv 94 (.t 6)⟩, ⟨none, .ia 95 1 (.t 93) (.t 94)⟩, ⟨none, .ld 96 1 false (.t 95)⟩, ⟨none, .fa 97 (.t 3) 7⟩, ⟨none, .ld 98 1 false (.t 97)⟩, ⟨none, .mv 99 (.t 6)⟩, ⟨none, .ia 100 1 (.t 98) (.t 99)⟩, ⟨none, .ld 101 1 false (.t 100)⟩, ⟨none, .call (some 102) (.c (.fn 43 [])) [.t 96, .t 101]⟩, ⟨none, .no 103 (.t 102)⟩] [0, 1, 0, 7, 15, 0, 32, 0, 224, 480, 1023, 2047]) (.cond (.t 103) (.seq (.reg [⟨none, .mv 4 (.c (.sc (.b false)))⟩]) .ret) .skip))) (.reg [⟨none, .mv 90 (.t 6)⟩, ⟨none, .bin 91 .add (.t 90) (.c (.sc (.i .i64 1)))⟩, ⟨none, .mv 6 (.t 91)⟩])))))) (.seq (.reg [⟨none, .mv 4 (.c (.sc (.b true)))⟩]) .ret)))), [(4, 0)], 104⟩
theorem F32_ok : compT Tryz.prog (fun _ => an0) 32 = some F32 := by kernel_rfl
set_option maxHeartbeats 4000000 in
theorem b32 (W0 : Go.World) (x y : Stm) (hx0 : x.ok) (hy0 : y.ok) (hc : ∀ l m, l.length ≤ 140737488355328 → oksB l → oksB m → SizeOf.sizeOf l < SizeOf.sizeOf x → Ctr Tryz.prog W0 43 [eB l, eB m] [] (.sc (.b (sameB l m))) []) : Body (Ctr Tryz.prog W0) F32.ac F32.rs [eS x, eS y] [] (.sc (.b (sameS x y))) [] := by
  cases x with | mk o nm tx n ns es fs bs =>
  cases y with | mk o' nm' tx' n' ns' es' fs' bs' =>
  repeat' ((conv => whnf); (first | with_reducible refine brec (fun _ => ?_) (fun _ => ?_) | (refine callP.pure _ (c37 W0 _ _ hx0.2.1.1) ⟨rfl, rfl⟩ ?_) | (refine callP.pure _ (c39 W0 _ _ hx0.2.2.1.1 hx0.2.2.1.2 hy0.2.2.1.2) ⟨rfl, rfl⟩ ?_) | fail))
  all_goals (conv => whnf)
  all_goals (first | (refine fin_b ?_; (first | (simp_all [sameS, foldsD_length, bodiesD_length]; done) | (simp only [foldsD_length, Bool.not_eq_true', decide_eq_false_iff_not] at *; rw [sameS, sameW_len (l := fs) (by omega)]; simp; done) | (simp only [bodiesD_length, Bool.not_eq_true', decide_eq_false_iff_not] at *; rw [sameS, sameBs_len (l := bs) (by omega)]; simp; done))) | skip)
  rename_i q1 q2 q3 q4 q5 q6 q7 q8
  simp only [foldsD_length, bodiesD_length, Bool.not_eq_false', decide_eq_true_eq] at q1 q2 q3 q4 q5 q6 q7 q8
  have hl := hx0.2.2.2.1.1
  refine .st 2000 (fun k => fs.length - k) (fun k => [(.s 2, .av (.ptr 1000 0)), (.s 3, .av (.ptr 1100 0)), (.b 1000, .bx ((Stm.mk o nm tx n ns es fs bs).d.map dcell)), (.b 1100, .bx ((Stm.mk o' nm' tx' n' ns' es' fs' bs').d.map dcell)), (.s 5, .av (.sc (.i .i64 (k : Nat))))])
    (fun k => k ≤ fs.length ∧ sameW sameFold fs fs' = sameW sameFold (fs.drop k) (fs'.drop k)) 0 ?_ ⟨Nat.zero_le _, rfl⟩ ?_
  · (refine le_of rfl rfl ?_; repeat' (first | exact rfl | exact trivial | refine ⟨?_, ?_⟩))
  · rintro k ⟨hk, he⟩
    conv => whnf
    refine brec (fun h2 => ?_) (fun h2 => ?_)
    · simp only [foldsD_length, decide_eq_false_iff_not] at h2
      have e1 : fs.drop k = [] := by simp; omega
      have e2 : fs'.drop k = [] := by simp; omega
      have he : sameW sameFold fs fs' = true := by rw [he, e1, e2]; simp [sameW]
      clear e1 e2 h2 hk
      conv => whnf
      have hf := he
      clear he
      have hl := hx0.2.2.2.2.1
      refine .st 2000 (fun k => bs.length - k) (fun k => [(.s 2, .av (.ptr 1000 0)), (.s 3, .av (.ptr 1100 0)), (.b 1000, .bx ((Stm.mk o nm tx n ns es fs bs).d.map dcell)), (.b 1100, .bx ((Stm.mk o' nm' tx' n' ns' es' fs' bs').d.map dcell)), (.s 6, .av (.sc (.i .i64 (k : Nat))))])
        (fun k => k ≤ bs.length ∧ sameBs bs bs' = sameBs (bs.drop k) (bs'.drop k)) 0 ?_ ⟨Nat.zero_le _, rfl⟩ ?_
      · (refine le_of rfl rfl ?_; repeat' (first | exact rfl | exact trivial | refine ⟨?_, ?_⟩))
      · rintro k ⟨hk, he⟩
        conv => whnf
        refine brec (fun h2 => ?_) (fun h2 => ?_)
        · simp only [bodiesD_length, decide_eq_false_iff_not] at h2
          have e1 : bs.drop k = [] := by simp; omega
          have e2 : bs'.drop k = [] := by simp; omega
          have he : sameBs bs bs' = true := by rw [he, e1, e2]; simp [sameBs]
          clear e1 e2 h2 hk
          conv => whnf
          refine fin_b ?_
          simp_all [sameS]
        · simp only [bodiesD_length, decide_eq_true_eq] at h2
          obtain ⟨x, hx⟩ := get_of_lt (l := bs) (k := k) (by omega)
          obtain ⟨y, hy⟩ := get_of_lt (l := bs') (k := k) (by omega)
          have dx := bodiesD_get hx
          have dy := bodiesD_get hy
          have ox := oksBs_get hx0.2.2.2.2.2 hx
          have oy := oksBs_get hy0.2.2.2.2.2 hy
          have sx := size_getBs hx
          rw [drop_get hx, drop_get hy, sameBs] at he

          conv => whnf
          refine ⟨_, ⟨Int.natCast_nonneg _, dx⟩, ?_⟩
          conv => whnf
          refine ⟨_, ⟨Int.natCast_nonneg _, dy⟩, ?_⟩
          conv => whnf
          refine callP.pure _ (hc _ _ ox.1 ox.2 oy.2 (by simp; omega)) ⟨rfl, rfl⟩ ?_
          conv => whnf
          refine brec (fun h3 => ?_) (fun h3 => ?_)
          · have h4 : sameB x y = true := by rw [Bool.not_eq_false'] at h3; exact h3
            conv => whnf
            refine ⟨?_, ?_⟩
            · constructor <;> omega
            · conv => whnf
              refine nxt (k + 1) ⟨by omega, by omega, ?_⟩ ?_
              · rw [he, h4, Bool.true_and]
              · (refine le_of rfl rfl ?_; repeat' (first | exact rfl | exact trivial | refine ⟨?_, ?_⟩))
          · have h4 : sameB x y = false := by rw [Bool.not_eq_true'] at h3; exact h3
            have he : sameBs bs bs' = false := by rw [he, h4, Bool.false_and]
            conv => whnf
            refine fin_b ?_
            simp_all [sameS]
    · simp only [foldsD_length, decide_eq_true_eq] at h2
      obtain ⟨x, hx⟩ := get_of_lt (l := fs) (k := k) (by omega)
      obtain ⟨y, hy⟩ := get_of_lt (l := fs') (k := k) (by omega)
      have dx := foldsD_get hx
      have dy := foldsD_get hy

      rw [drop_get hx, drop_get hy, sameW] at he
      obtain ⟨a, b⟩ := x
      obtain ⟨a', b'⟩ := y
      conv => whnf
      refine ⟨_, ⟨Int.natCast_nonneg _, dx⟩, ?_⟩
      conv => whnf
      refine ⟨_, ⟨Int.natCast_nonneg _, dy⟩, ?_⟩
      conv => whnf
      refine brec (fun h3 => ?_) (fun h3 => ?_)
      · have h4 : sameFold ⟨a, b⟩ ⟨a', b'⟩ = true := by rw [Bool.not_eq_false'] at h3; exact h3
        conv => whnf
        refine ⟨?_, ?_⟩
        · constructor <;> omega
        · conv => whnf
          refine nxt (k + 1) ⟨by omega, by omega, ?_⟩ ?_
          · rw [he, h4, Bool.true_and]
          · (refine le_of rfl rfl ?_; repeat' (first | exact rfl | exact trivial | refine ⟨?_, ?_⟩))
      · have h4 : sameFold ⟨a, b⟩ ⟨a', b'⟩ = false := by rw [Bool.not_eq_true'] at h3; exact h3
        have he : sameW sameFold fs fs' = false := by rw [he, h4, Bool.false_and]
        conv => whnf
        refine fin_b ?_
        simp_all [sameS]
theorem c32s (W0 : Go.World) : ∀ (n : Nat), (∀ x y : Stm, SizeOf.sizeOf x < n → x.ok → y.ok → Ctr Tryz.prog W0 32 [eS x, eS y] [] (.sc (.b (sameS x y))) []) ∧
    (∀ l m : List Stm, SizeOf.sizeOf l < n → l.length ≤ 140737488355328 → oksB l → oksB m → Ctr Tryz.prog W0 43 [eB l, eB m] [] (.sc (.b (sameB l m))) [])
  | 0 => ⟨fun _ _ h => absurd h (Nat.not_lt_zero _), fun _ _ h => absurd h (Nat.not_lt_zero _)⟩
  | n + 1 => by
    obtain ⟨ih1, ih2⟩ := c32s W0 n
    refine ⟨fun x y h hx hy => ?_, fun l m h hl ol om => ?_⟩
    · refine ctr_body follows F32_ok rfl (fun _ _ h => by cases h) rfl ?_ (b32 W0 x y hx hy fun l m hl ol om hs => ih2 l m (by omega) hl ol om)
      cases x; cases y; rfl
    · exact ctr_body follows F43_ok rfl (fun _ _ h => by cases h) rfl rfl (b43 W0 l m hl ol om fun x y hx hy hs => ih1 x y (by omega) hx hy)
theorem c32 (W0 : Go.World) (x y : Stm) (hx : x.ok) (hy : y.ok) : Ctr Tryz.prog W0 32 [eS x, eS y] [] (.sc (.b (sameS x y))) [] := (c32s W0 _).1 x y (Nat.lt_succ_self _) hx hy
theorem c43 (W0 : Go.World) (l m : List Stm) (hl : l.length ≤ 140737488355328) (ol : oksB l) (om : oksB m) : Ctr Tryz.prog W0 43 [eB l, eB m] [] (.sc (.b (sameB l m))) [] := (c32s W0 _).2 l m (Nat.lt_succ_self _) hl ol om
end Go.Abs

set_option maxRecDepth 100000
namespace Go.Abs
open Go.Proofs
def F41 : Fn := ⟨.seq (.reg [⟨none, .box 2 (.t 0)⟩, ⟨none, .box 3 (.t 1)⟩, ⟨none, .mv 4 (.c (.sc (.b false)))⟩]) (.seq (.reg [⟨none, .fa 5 (.t 2) 0⟩, ⟨none, .ld 6 1 false (.t 5)⟩, ⟨none, .fa 7 (.t 3) 0⟩, ⟨none, .ld 8 1 false (.t 7)⟩, ⟨none, .bin 9 .eql (.t 6) (.t 8)⟩, ⟨none, .mv 10 (.t 9)⟩, ⟨some (10, true), .fa 11 (.t 2) 1⟩, ⟨some (10, true), .ld 12 1 false (.t 11)⟩, ⟨some (10, true), .fa 13 (.t 3) 1⟩, ⟨some (10, true), .ld 14 1 false (.t 13)⟩, ⟨some (10, true), .bin 15 .eql (.t 12) (.t 14)⟩, ⟨none, .pick 16 (.t 10) (.t 15) (.c (.sc (.b false)))⟩, ⟨none, .mv 17 (.t 16)⟩, ⟨some (17, true), .fa 18 (.t 2) 2⟩, ⟨some (17, true), .ld 19 1 false (.t 18)⟩, ⟨some (17, true), .fa 20 (.t 3) 2⟩, ⟨some (17, true), .ld 21 1 false (.t 20)⟩, ⟨some (17, true), .call (some 22) (.c (.fn 83 [])) [.t 19, .t 21]⟩, ⟨none, .pick 23 (.t 17) (.t 22) (.c (.sc (.b false)))⟩, ⟨none, .mv 24 (.t 23)⟩, ⟨some (24, true), .fa 25 (.t 2) 3⟩, ⟨some (24, true), .ld 26 1 false (.t 25)⟩, ⟨some (24, true), .fa 27 (.t 3) 3⟩, ⟨some (24, true), .ld 28 1 false (.t 27)⟩, ⟨some (24, true), .call (some 29) (.c (.fn 42 [])) [.t 26, .t 28]⟩, ⟨none, .pick 30 (.t 24) (.t 29) (.c (.sc (.b false)))⟩, ⟨none, .mv 4 (.t 30)⟩]) .ret), [(4, 0)], 31⟩
def F40 : Fn := ⟨.seq (.reg [⟨none, .mv 6 (.c (.sc (.b false)))⟩]) (.seq (.seq (.reg [⟨none, .mv 10 (.t 0)⟩, ⟨none, .len 11 (.t 10)⟩, ⟨none, .mv 12 (.t 1)⟩, ⟨none, .len 13 (.t 12)⟩, ⟨none, .bin 14 .neq (.t 11) (.t 13)⟩]) (.cond (.t 14) (.seq (.reg [⟨none, .mv 6 (.c (.sc (.b false)))⟩]) .ret) .skip)) (.seq (.seq (.reg [⟨none, .mv 15 (.t 0)⟩, ⟨none, .len 16 (.t 15)⟩, ⟨none, .mv 17 (.c (.sc (.i .i64 0)))⟩]) (.block 0 (.loop (.seq (.reg [⟨none, .bin 18 .lss (.t 17) (.t 16)⟩]) (.seq (.cond (.t 18) .skip (.exit 0)) (.seq (.block 1 (.seq (.reg [⟨none, .mv 19 (.t 17)⟩, ⟨none, .ia 20 4 (.t 15) (.t 17)⟩, ⟨none, .ld 21 4 true (.t 20)⟩, ⟨none, .alloc 8 [.sc (.s []), .sc (.s []), .sl 3 [] .full, .sl 8 [] .full]⟩, ⟨none, .mv 7 (.t 19)⟩, ⟨none, .st (.t 8) 4 (.t 21)⟩]) (.seq (.reg [⟨none, .mv 22 (.t 1)⟩, ⟨none, .mv 23 (.t 7)⟩, ⟨none, .ia 24 4 (.t 22) (.t 23)⟩, ⟨none, .ld 25 4 true (.t 24)⟩, ⟨none, .alloc 9 [.sc (.s []), .sc (.s []), .sl 3 [] .full, .sl 8 [] .full]⟩, ⟨none, .st (.t 9) 4 (.t 25)⟩]) (.seq (.reg [⟨none, .mv 26 (.t 2)⟩, ⟨none, .ld 27 4 true (.t 8)⟩, ⟨none, .ld 28 4 true (.t 9)⟩, ⟨none, .call (some 29) (.t 26) [.t 27, .t 28]⟩, ⟨none, .no 30 (.t 29)⟩]) (.cond (.t 30) (.seq (.reg [⟨none, .mv 6 (.c (.sc (.b false)))⟩]) .ret) .skip))))) (.reg [⟨none, .bin 31 .add (.t 17) (.c (.sc (.i .i64 1)))⟩, ⟨none, .mv 17 (.t 31)⟩]))))))) (.seq (.reg [⟨none, .mv 6 (.c (.sc (.b true)))⟩]) .ret))), [(6, 0)], 32⟩
def F14 : Fn := ⟨.seq (.reg [⟨none, .box 2 (.t 0)⟩, ⟨none, .box 3 (.t 1)⟩, ⟨none, .mv 4 (.c (.sc (.b false)))⟩]) (.seq (.reg [⟨none, .fa 5 (.t 2) 0⟩, ⟨none, .ld 6 1 false (.t 5)⟩, ⟨none, .fa 7 (.t 3) 0⟩, ⟨none, .ld 8 1 false (.t 7)⟩, ⟨none, .call (some 9) (.c (.fn 40 [])) [.t 6, .t 8, .c (.fn 41 [])]⟩, ⟨none, .mv 10 (.t 9)⟩, ⟨some (10, true), .fa 11 (.t 2) 1⟩, ⟨some (10, true), .ld 12 1 false (.t 11)⟩, ⟨some (10, true), .fa 13 (.t 3) 1⟩, ⟨some (10, true), .ld 14 1 false (.t 13)⟩, ⟨some (10, true), .call (some 15) (.c (.fn 42 [])) [.t 12, .t 14]⟩, ⟨none, .pick 16 (.t 10) (.t 15) (.c (.sc (.b false)))⟩, ⟨none, .mv 4 (.t 16)⟩]) .ret), [(4, 0)], 17⟩
def F15 : Fn := ⟨.seq (.reg [⟨none, .box 2 (.t 0)⟩, ⟨none, .box 3 (.t 1)⟩, ⟨none, .mv 4 (.c (.sc (.b false)))⟩]) (.seq (.seq (.reg [⟨none, .fa 9 (.t 2) 0⟩, ⟨none, .ld 10 1 false (.t 9)⟩, ⟨none, .len 11 (.t 10)⟩, ⟨none, .fa 12 (.t 3) 0⟩, ⟨none, .ld 13 1 false (.t 12)⟩, ⟨none, .len 14 (.t 13)⟩, ⟨none, .bin 15 .neq (.t 11) (.t 14)⟩, ⟨none, .mv 16 (.t 15)⟩, ⟨some (16, false), .fa 17 (.t 2) 1⟩, ⟨some (16, false), .ld 18 1 false (.t 17)⟩, ⟨some (16, false), .fa 19 (.t 3) 1⟩, ⟨some (16, false), .ld 20 1 false (.t 19)⟩, ⟨some (16, false), .call (some 21) (.c (.fn 43 [])) [.t 18, .t 20]⟩, ⟨some (16, false), .no 22 (.t 21)⟩, ⟨none, .pick 23 (.t 16) (.c (.sc (.b true))) (.t 22)⟩]) (.cond (.t 23) (.seq (.reg [⟨none, .mv 4 (.c (.sc (.b false)))⟩]) .ret) .skip)) (.seq (.seq (.reg [⟨none, .mv 5 (.c (.sc (.i .i64 0)))⟩]) (.block 0 (.loop (.seq (.seq (.reg [⟨none, .mv 24 (.t 5)⟩, ⟨none, .fa 25 (.t 2) 0⟩, ⟨none, .ld 26 1 false (.t 25)⟩, ⟨none, .len 27 (.t 26)⟩, ⟨none, .bin 28 .lss (.t 24) (.t 27)⟩]) (.cond (.t 28) .skip (.exit 0))) (.seq (.block 1 (.seq (.regD [⟨none, .fa 31 (.t 2) 0⟩, ⟨none, .ld 32 1 false (.t 31)⟩, ⟨none, .mv 33 (.t 5)⟩, ⟨none, .ia 34 4 (.t 32) (.t 33)⟩, ⟨none, .ld 35 4 true (.t 34)⟩, ⟨none, .fa 36 (.t 3) 0⟩, ⟨none, .ld 37 1 false (.t 36)⟩, ⟨none, .mv 38 (.t 5)⟩, ⟨none, .ia 39 4 (.t 37) (.t 38)⟩, ⟨none, .ld 40 4 true (.t 39)⟩, ⟨none, .alloc 6 [.sc (.s []), .sc (.s []), .sl 3 [] .full, .sl 8 [] .full]⟩, ⟨none, .alloc 7 [.sc (.s []), .sc (.s []), .sl 3 [] .full, .sl 8 [] .full]⟩, ⟨none, .st (.t 6) 4 (.t 35)⟩, ⟨none, .st (.t 7) 4 (.t 40)⟩] [0, 1, 0, 7, 15, 0, 32, 0, 224, 480, 0, 0, 3103, 8191]) (.seq (.seq (.reg [⟨none, .fa 41 (.t 6) 0⟩, ⟨none, .ld 42 1 false (.t 41)⟩, ⟨none, .fa 43 (.t 7) 0⟩, ⟨none, .ld 44 1 false (.t 43)⟩, ⟨none, .bin 45 .neq (.t 42) (.t 44)⟩, ⟨none, .mv 46 (.t 45)⟩, ⟨some (46, false), .fa 47 (.t 6) 1⟩, ⟨some (46, false), .ld 48 1 false (.t 47)⟩, ⟨some (46, false), .fa 49 (.t 7) 1⟩, ⟨some (46, false), .ld 50 1 false (.t 49)⟩, ⟨some (46, false), .bin 51 .neq (.t 48) (.t 50)⟩, ⟨none, .pick 52 (.t 46) (.c (.sc (.b true))) (.t 51)⟩, ⟨none, .mv 53 (.t 52)⟩, ⟨some (53, false), .fa 54 (.t 6) 2⟩, ⟨some (53, false), .ld 55 1 false (.t 54)⟩, ⟨some (53, false), .len 56 (.t 55)⟩, ⟨some (53, false), .fa 57 (.t 7) 2⟩, ⟨some (53, false), .ld 58 1 false (.t 57)⟩, ⟨some (53, false), .len 59 (.t 58)⟩, ⟨some (53, false), .bin 60 .neq (.t 56) (.t 59)⟩, ⟨none, .pick 61 (.t 53) (.c (.sc (.b true))) (.t 60)⟩, ⟨none, .mv 62 (.t 61)⟩, ⟨some (62, false), .fa 63 (.t 6) 3⟩, ⟨some (62, false), .ld 64 1 false (.t 63)⟩, ⟨some (62, false), .fa 65 (.t 7) 3⟩, ⟨some (62, false), .ld 66 1 false (.t 65)⟩, ⟨some (62, false), .call (some 67) (.c (.fn 43 [])) [.t 64, .t 66]⟩, ⟨some (62, false), .no 68 (.t 67)⟩, ⟨none, .pick 69 (.t 62) (.c (.sc (.b true))) (.t 68)⟩]) (.cond (.t 69) (.seq (.reg [⟨none, .mv 4 (.c (.sc (.b false)))⟩]) .ret) .skip)) (.seq (.reg [⟨none, .mv 8 (.c (.sc (.i .i64 0)))⟩]) (.block 2 (.loop (.seq (.seq (.reg [⟨none, .mv 70 (.t 8)⟩, ⟨none, .fa 71 (.t 6) 2⟩, ⟨none, .ld 72 1 false (.t 71)⟩, ⟨none, .len 73 (.t 72)⟩, ⟨none, .bin 74 .lss (.t 70) (.t 73)⟩]) (.cond (.t 74) .skip (.exit 2))) (.seq (.block 3 (.seq (.regD [⟨none, .fa 77 (.t 6) 2⟩, ⟨none, .ld 78 1 false (.t 77)⟩, ⟨none, .mv 79 (.t 8)⟩, ⟨none, .ia 80 3 (.t 78) (.t 79)⟩, ⟨none, .ld 81 3 true (.t 80)⟩, ⟨none, .fa 82 (.t 7) 2⟩, ⟨none, .ld 83 1 false (.t 82)⟩, ⟨none, .mv 84 (.t 8)⟩, ⟨none, .ia 85 3 (.t 83) (.t 84)⟩, ⟨none, .ld 86 3 true (.t 85)⟩, ⟨none, .eqA 87 true [2, 2, 1] (.t 81) (.t 86)⟩] [0, 1, 0, 7, 15, 0, 32, 0, 224, 480, 1023]) (.cond (.t 87) (.seq (.reg [⟨none, .mv 4 (.c (.sc (.b false)))⟩]) .ret) .skip))) (.reg [⟨none, .mv 75 (.t 8)⟩, ⟨none, .bin 76 .add (.t 75) (.c (.sc (.i .i64 1)))⟩, ⟨none, .mv 8 (.t 76)⟩]))))))))) (.reg [⟨none, .mv 29 (.t 5)⟩, ⟨none, .bin 30 .add (.t 29) (.c (.sc (.i .i64 1)))⟩, ⟨none, .mv 5 (.t 30)⟩])))))) (.seq (.reg [⟨none, .mv 4 (.c (.sc (.b true)))⟩]) .ret))), [(4, 0)], 88⟩
theorem F41_ok : compT Tryz.prog (fun _ => an0) 41 = some F41 := by kernel_rfl
theorem F40_ok : compT Tryz.prog (fun _ => an0) 40 = some F40 := by kernel_rfl
theorem F14_ok : compT Tryz.prog (fun _ => an0) 14 = some F14 := by kernel_rfl
theorem F15_ok : compT Tryz.prog (fun _ => an0) 15 = some F15 := by kernel_rfl
set_option maxHeartbeats 2000000 in
theorem b41 (W0 : Go.World) (x y : Prc) (hx : x.ok) (hy : y.ok) : Body (Ctr Tryz.prog W0) F41.ac F41.rs [eP x, eP y] [] (.sc (.b (samePrc x y))) [] := by
  obtain ⟨nm, res, ps, body⟩ := x
  obtain ⟨nm', res', ps', body'⟩ := y
  repeat' ((conv => whnf); (first | with_reducible refine brec (fun _ => ?_) (fun _ => ?_) | (refine callP.pure _ (c83 W0 _ _ hx.2.1.1) ⟨rfl, rfl⟩ ?_) | (refine callP.pure _ (c42 W0 _ _ hx.2.2.1 hx.2.2.2 hy.2.2.2) ⟨rfl, rfl⟩ ?_) | fail))
  all_goals ((conv => whnf); refine fin_b ?_; simp_all [samePrc])
theorem c41 (W0 : Go.World) (x y : Prc) (hx : x.ok) (hy : y.ok) : Ctr Tryz.prog W0 41 [eP x, eP y] [] (.sc (.b (samePrc x y))) [] :=
  ctr_body follows F41_ok rfl (fun _ _ h => by cases h) rfl (by rfl) (b41 W0 x y hx hy)
theorem b40 (W0 : Go.World) (l m : List Prc) (hl : l.length ≤ 140737488355328) (ol : ∀ x, x ∈ l → x.ok) (om : ∀ x, x ∈ m → x.ok) : Body (Ctr Tryz.prog W0) F40.ac F40.rs [ePL l, ePL m, .fn 41 []] [] (.sc (.b (sameW samePrc l m))) [] := by
  conv => whnf
  refine brec (fun h1 => ?_) (fun h1 => ?_)
  · conv => whnf
    simp only [prcsD_length, Bool.not_eq_false', decide_eq_true_eq] at h1
    refine .st 1000 (fun k => l.length - k) (fun k => [(.s 1, .av (ePL m)), (.s 2, .av (.fn 41 [])), (.s 15, .av (ePL l)), (.s 16, .av (.sc (.i .i64 ((prcsD l).length : Nat)))), (.s 17, .av (.sc (.i .i64 (k : Nat))))])
      (fun k => k ≤ l.length ∧ sameW samePrc l m = sameW samePrc (l.drop k) (m.drop k)) 0 ?_ ⟨Nat.zero_le _, rfl⟩ ?_
    · (refine le_of rfl rfl ?_; repeat' (first | exact rfl | exact trivial | refine ⟨?_, ?_⟩))
    · rintro k ⟨hk, he⟩
      conv => whnf
      refine brec (fun h2 => ?_) (fun h2 => ?_)
      · conv => whnf
        simp only [prcsD_length, decide_eq_false_iff_not] at h2
        have e1 : l.drop k = [] := by simp; omega
        have e2 : m.drop k = [] := by simp; omega
        rw [he, e1, e2]
        exact fin_b (by simp [sameW])
      · simp only [prcsD_length, decide_eq_true_eq] at h2
        obtain ⟨x, hx⟩ := get_of_lt (l := l) (k := k) (by omega)
        obtain ⟨y, hy⟩ := get_of_lt (l := m) (k := k) (by omega)
        have dx := prcsD_get hx
        have dy := prcsD_get hy
        have ox := ol _ (List.mem_of_getElem? hx)
        have oy := om _ (List.mem_of_getElem? hy)
        rw [drop_get hx, drop_get hy, sameW] at he
        obtain ⟨nm, res, ps, body⟩ := x
        obtain ⟨nm', res', ps', body'⟩ := y
        conv => whnf
        refine ⟨_, ⟨Int.natCast_nonneg _, dx⟩, ?_⟩
        conv => whnf
        refine ⟨_, ⟨Int.natCast_nonneg _, dy⟩, ?_⟩
        conv => whnf
        refine .pure _ (c41 W0 _ _ ox oy) ⟨rfl, rfl⟩ ?_
        conv => whnf
        refine brec (fun h3 => ?_) (fun h3 => ?_)
        · simp only [Bool.not_eq_false'] at h3; have h4 := h3
          conv => whnf
          refine ⟨?_, ?_⟩
          · constructor <;> omega
          · conv => whnf
            refine nxt (k + 1) ⟨by omega, by omega, ?_⟩ ?_
            · rw [he, h4, Bool.true_and]
            · (refine le_of rfl rfl ?_; repeat' (first | exact rfl | exact trivial | refine ⟨?_, ?_⟩))
        · simp only [Bool.not_eq_true'] at h3; have h4 := h3
          conv => whnf
          rw [he, h4, Bool.false_and]
          exact fin_b rfl
  · conv => whnf
    simp only [prcsD_length, Bool.not_eq_true', decide_eq_false_iff_not] at h1
    rw [sameW_len (by omega)]
    exact fin_b rfl
theorem c40 (W0 : Go.World) (l m : List Prc) (hl : l.length ≤ 140737488355328) (ol : ∀ x, x ∈ l → x.ok) (om : ∀ x, x ∈ m → x.ok) : Ctr Tryz.prog W0 40 [ePL l, ePL m, .fn 41 []] [] (.sc (.b (sameW samePrc l m))) [] :=
  ctr_body follows F40_ok rfl (fun _ _ h => by cases h) rfl (by rfl) (b40 W0 l m hl ol om)
set_option maxHeartbeats 2000000 in
theorem b14 (W0 : Go.World) (x y : Prg) (hx0 : x.ok) (hy0 : y.ok) : Body (Ctr Tryz.prog W0) F14.ac F14.rs [eG x, eG y] [] (.sc (.b (samePrg x y))) [] := by
  obtain ⟨procs, body⟩ := x
  obtain ⟨procs', body'⟩ := y
  repeat' ((conv => whnf); (first | with_reducible refine brec (fun _ => ?_) (fun _ => ?_) | (refine callP.pure _ (c40 W0 _ _ hx0.1.1 hx0.1.2 hy0.1.2) ⟨rfl, rfl⟩ ?_) | (refine callP.pure _ (c42 W0 _ _ hx0.2.1 hx0.2.2 hy0.2.2) ⟨rfl, rfl⟩ ?_) | fail))
  all_goals ((conv => whnf); refine fin_b ?_; simp_all [samePrg])
theorem c14 (W0 : Go.World) (x y : Prg) (hx0 : x.ok) (hy0 : y.ok) : Ctr Tryz.prog W0 14 [eG x, eG y] [] (.sc (.b (samePrg x y))) [] :=
  ctr_body follows F14_ok rfl (fun _ _ h => by cases h) rfl (by rfl) (b14 W0 x y hx0 hy0)
set_option maxHeartbeats 4000000 in
theorem b15 (W0 : Go.World) (x y : Prg) (hx0 : x.ok) (hy0 : y.ok) : Body (Ctr Tryz.prog W0) F15.ac F15.rs [eG x, eG y] [] (.sc (.b (samePrg x y))) [] := by
  obtain ⟨procs, body⟩ := x
  obtain ⟨procs', body'⟩ := y
  repeat' ((conv => whnf); (first | with_reducible refine brec (fun _ => ?_) (fun _ => ?_) | (refine callP.pure _ (c43 W0 _ _ hx0.2.1 hx0.2.2 hy0.2.2) ⟨rfl, rfl⟩ ?_) | fail))
  all_goals (conv => whnf)
  all_goals (first | (refine fin_b ?_; (first | (simp_all [samePrg]; done) | (rename_i r3; simp only [prcsD_length, Bool.not_eq_true', decide_eq_false_iff_not] at r3; simp only [samePrg]; rw [sameW_len (f := samePrc) (l := procs) (m := procs') (by omega)]; simp; done))) | skip)
  rename_i q1 q2
  simp only [prcsD_length, Bool.not_eq_false', decide_eq_true_eq] at q1 q2
  have hl0 : procs.length ≤ 140737488355328 := hx0.1.1
  refine .st 2000 (fun k => procs.length - k) (fun k => [(.s 2, .av (.ptr 1000 0)), (.s 3, .av (.ptr 1100 0)), (.b 1000, .bx ((Prg.mk procs body).d.map dcell)), (.b 1100, .bx ((Prg.mk procs' body').d.map dcell)), (.s 5, .av (.sc (.i .i64 (k : Nat))))])
    (fun k => k ≤ procs.length ∧ sameW samePrc procs procs' = sameW samePrc (procs.drop k) (procs'.drop k)) 0 ?_ ⟨Nat.zero_le _, rfl⟩ ?_
  · (refine le_of rfl rfl ?_; repeat' (first | exact rfl | exact trivial | refine ⟨?_, ?_⟩))
  · rintro k0 ⟨hk0, he0⟩
    conv => whnf
    refine brec (fun h2 => ?_) (fun h2 => ?_)
    · simp only [prcsD_length, decide_eq_false_iff_not] at h2
      have e1 : procs.drop k0 = [] := by simp; omega
      have e2 : procs'.drop k0 = [] := by simp; omega
      rw [e1, e2] at he0
      conv => whnf
      refine fin_b ?_
      rw [samePrg, he0, q2]; simp [sameW]
    · simp only [prcsD_length, decide_eq_true_eq] at h2
      obtain ⟨x, hx⟩ := get_of_lt (l := procs) (k := k0) (by omega)
      obtain ⟨y, hy⟩ := get_of_lt (l := procs') (k := k0) (by omega)
      have dx := prcsD_get hx
      have dy := prcsD_get hy
      have ox := hx0.1.2 _ (List.mem_of_getElem? hx)
      have oy := hy0.1.2 _ (List.mem_of_getElem? hy)
      rw [drop_get hx, drop_get hy, sameW] at he0
      obtain ⟨nm, res, ps, bd⟩ := x
      obtain ⟨nm', res', ps', bd'⟩ := y
      conv => whnf
      refine ⟨_, ⟨Int.natCast_nonneg _, dx⟩, ?_⟩
      conv => whnf
      refine ⟨_, ⟨Int.natCast_nonneg _, dy⟩, ?_⟩
      repeat' ((conv => whnf); (first | with_reducible refine brec (fun _ => ?_) (fun _ => ?_) | (refine callP.pure _ (c43 W0 _ _ ox.2.2.1 ox.2.2.2 oy.2.2.2) ⟨rfl, rfl⟩ ?_) | fail))
      all_goals (conv => whnf)
      all_goals (first | (refine fin_b ?_; have hp : samePrc ⟨nm, res, ps, bd⟩ ⟨nm', res', ps', bd'⟩ = false := (by first | (simp_all [samePrc]; done) | (rename_i r3; simp only [prmsD_length, Bool.not_eq_true', decide_eq_false_iff_not] at r3; simp only [samePrc]; rw [sameW_len (f := samePrm) (l := ps) (m := ps') (by omega)]; simp; done)); rw [samePrg, he0, hp, Bool.false_and, Bool.false_and]; done) | skip)
      rename_i r1 r2 r3 r4
      simp only [prmsD_length, Bool.not_eq_false', decide_eq_true_eq] at r1 r2 r3 r4
      have hl : ps.length ≤ 140737488355328 := ox.2.1.1
      refine .st 5000 (fun k => ps.length - k) (fun k => [(.s 2, .av (.ptr 1000 0)), (.s 3, .av (.ptr 1100 0)), (.b 1000, .bx ((Prg.mk procs body).d.map dcell)), (.b 1100, .bx ((Prg.mk procs' body').d.map dcell)), (.s 6, .av (.ptr 3500 0)), (.s 7, .av (.ptr 3600 0)), (.b 3500, .bx ((Prc.mk nm res ps bd).d.map dcell)), (.b 3600, .bx ((Prc.mk nm' res' ps' bd').d.map dcell)), (.s 5, .av (.sc (.i .i64 (k0 : Nat)))), (.s 8, .av (.sc (.i .i64 (k : Nat))))])
        (fun k => k ≤ ps.length ∧ sameW samePrm ps ps' = sameW samePrm (ps.drop k) (ps'.drop k)) 0 ?_ ⟨Nat.zero_le _, rfl⟩ ?_
      · (refine le_of rfl rfl ?_; repeat' (first | exact rfl | exact trivial | refine ⟨?_, ?_⟩))
      · rintro k ⟨hk, he⟩
        conv => whnf
        refine brec (fun h2 => ?_) (fun h2 => ?_)
        · simp only [prmsD_length, decide_eq_false_iff_not] at h2
          have e1 : ps.drop k = [] := by simp; omega
          have e2 : ps'.drop k = [] := by simp; omega
          have he : sameW samePrm ps ps' = true := by rw [he, e1, e2]; simp [sameW]
          clear e1 e2 h2 hk
          conv => whnf
          have hp : samePrc ⟨nm, res, ps, bd⟩ ⟨nm', res', ps', bd'⟩ = true := by simp_all [samePrc]
          rw [hp, Bool.true_and] at he0
          refine ⟨?_, ?_⟩
          · constructor <;> omega
          · conv => whnf
            refine nxt (k0 + 1) ⟨by omega, by omega, he0⟩ ?_
            (refine le_of rfl rfl ?_; repeat' (first | exact rfl | exact trivial | refine ⟨?_, ?_⟩))
        · simp only [prmsD_length, decide_eq_true_eq] at h2
          obtain ⟨x, hx⟩ := get_of_lt (l := ps) (k := k) (by omega)
          obtain ⟨y, hy⟩ := get_of_lt (l := ps') (k := k) (by omega)
          have dx := prmsD_get hx
          have dy := prmsD_get hy

          rw [drop_get hx, drop_get hy, sameW] at he
          obtain ⟨a, b, c⟩ := x
          obtain ⟨a', b', c'⟩ := y
          conv => whnf
          refine ⟨_, ⟨Int.natCast_nonneg _, dx⟩, ?_⟩
          conv => whnf
          refine ⟨_, ⟨Int.natCast_nonneg _, dy⟩, ?_⟩
          conv => whnf
          refine brec (fun h3 => ?_) (fun h3 => ?_)
          · have h4 : samePrm ⟨a, b, c⟩ ⟨a', b', c'⟩ = true := by rw [Bool.not_eq_false'] at h3; exact h3
            conv => whnf
            refine ⟨?_, ?_⟩
            · constructor <;> omega
            · conv => whnf
              refine nxt (k + 1) ⟨by omega, by omega, ?_⟩ ?_
              · rw [he, h4, Bool.true_and]
              · (refine le_of rfl rfl ?_; repeat' (first | exact rfl | exact trivial | refine ⟨?_, ?_⟩))
          · have h4 : samePrm ⟨a, b, c⟩ ⟨a', b', c'⟩ = false := by rw [Bool.not_eq_true'] at h3; exact h3
            have he : sameW samePrm ps ps' = false := by rw [he, h4, Bool.false_and]
            conv => whnf
            have hp : samePrc ⟨nm, res, ps, bd⟩ ⟨nm', res', ps', bd'⟩ = false := by simp_all [samePrc]
            rw [hp, Bool.false_and] at he0
            refine fin_b ?_
            rw [samePrg, he0, Bool.false_and]
theorem c15 (W0 : Go.World) (x y : Prg) (hx0 : x.ok) (hy0 : y.ok) : Ctr Tryz.prog W0 15 [eG x, eG y] [] (.sc (.b (samePrg x y))) [] :=
  ctr_body follows F15_ok rfl (fun _ _ h => by cases h) rfl (by rfl) (b15 W0 x y hx0 hy0)
end Go.Abs
