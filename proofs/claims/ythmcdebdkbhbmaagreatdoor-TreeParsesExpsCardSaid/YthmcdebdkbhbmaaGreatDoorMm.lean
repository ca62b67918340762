/- An expression: one step of the parser. -/
import Derived.Test.YthmcdebdkbhbmaaGreatDoorMl
import Derived.Test.YthmcdebdkbhbmaaGreatDoorMh
set_option maxRecDepth 100000
namespace Go.Abs
open Go.Proofs
def F73 : Fn := ⟨.seq (.reg [⟨none, .alloc 2 [.sc (.s []), .sc (.s []), .sc (.i .i64 0), .sl 4 [] .full]⟩]) (.seq (.reg [⟨none, .mv 8 (.t 0)⟩, ⟨none, .call (some 9) (.c (.fn 113 [])) [.t 8]⟩, ⟨none, .alloc 3 [.sc (.s []), .sc (.s []), .sc (.i .i64 0)]⟩, ⟨none, .st (.t 3) 3 (.t 9)⟩]) (.seq (.block 0 (.seq (.reg [⟨none, .mv 11 (.t 0)⟩, ⟨none, .nc 12 (.t 11)⟩, ⟨none, .fa 13 (.t 12) 2⟩, ⟨none, .ld 14 1 false (.t 13)⟩, ⟨none, .mv 10 (.t 14)⟩]) (.cond (.t 10) .skip (.seq (.reg [⟨none, .fa 16 (.t 3) 0⟩, ⟨none, .ld 17 1 false (.t 16)⟩, ⟨none, .bin 18 .eql (.t 17) (.c (.sc (.s [105, 110, 116])))⟩, ⟨none, .mv 15 (.t 18)⟩]) (.cond (.t 15) (.seq (.reg [⟨none, .fa 20 (.t 3) 1⟩, ⟨none, .ld 21 1 false (.t 20)⟩, ⟨none, .call (some 22) (.c (.fn 141 [])) [.t 21]⟩, ⟨none, .mv 19 (.t 22)⟩, ⟨none, .ext 23 (.t 19) 0⟩, ⟨none, .ext 24 (.t 19) 1⟩, ⟨none, .mv 4 (.t 23)⟩, ⟨none, .mv 5 (.t 24)⟩]) (.seq (.reg [⟨none, .mv 25 (.t 4)⟩, ⟨none, .build 26 [.sc (.s []), .sc (.s []), .sc (.i .i64 0), .sl 4 [] .full] [(0, (1, .c (.sc (.s [105, 110, 116])))), (2, (1, .t 25))]⟩, ⟨none, .st (.t 2) 4 (.t 26)⟩]) .ret)) (.seq (.reg [⟨none, .fa 28 (.t 3) 0⟩, ⟨none, .ld 29 1 false (.t 28)⟩, ⟨none, .bin 30 .eql (.t 29) (.c (.sc (.s [110, 97, 109, 101])))⟩, ⟨none, .mv 31 (.t 30)⟩, ⟨some (31, true), .mv 32 (.t 0)⟩, ⟨some (31, true), .call (some 33) (.c (.fn 142 [])) [.t 32, .c (.sc (.s [91]))]⟩, ⟨none, .pick 34 (.t 31) (.t 33) (.c (.sc (.b false)))⟩, ⟨none, .mv 27 (.t 34)⟩]) (.cond (.t 27) (.seq (.regD [⟨none, .fa 35 (.t 3) 1⟩, ⟨none, .ld 36 1 false (.t 35)⟩, ⟨none, .mv 37 (.t 0)⟩, ⟨none, .call (some 38) (.c (.fn 143 [])) [.t 37, .c (.sc (.s [93]))]⟩, ⟨none, .build 39 [.sc (.s []), .sc (.s []), .sc (.i .i64 0), .sl 4 [] .full] [(0, (1, .c (.sc (.s [97, 116])))), (1, (1, .t 36)), (3, (1, .t 38))]⟩, ⟨none, .st (.t 2) 4 (.t 39)⟩] [0, 1, 0, 4, 15, 31]) .ret) (.seq (.reg [⟨none, .fa 41 (.t 3) 0⟩, ⟨none, .ld 42 1 false (.t 41)⟩, ⟨none, .bin 43 .eql (.t 42) (.c (.sc (.s [110, 97, 109, 101])))⟩, ⟨none, .mv 44 (.t 43)⟩, ⟨some (44, true), .mv 45 (.t 0)⟩, ⟨some (44, true), .call (some 46) (.c (.fn 144 [])) [.t 45]⟩, ⟨none, .pick 47 (.t 44) (.t 46) (.c (.sc (.b false)))⟩, ⟨none, .mv 40 (.t 47)⟩]) (.cond (.t 40) (.seq (.reg [⟨none, .mv 48 (.t 0)⟩, ⟨none, .call (some 49) (.c (.fn 109 [])) [.t 48, .c (.sc (.s [40]))]⟩]) (.seq (.regD [⟨none, .fa 50 (.t 3) 1⟩, ⟨none, .ld 51 1 false (.t 50)⟩, ⟨none, .mv 52 (.t 0)⟩, ⟨none, .call (some 53) (.c (.fn 143 [])) [.t 52, .c (.sc (.s [41]))]⟩, ⟨none, .build 54 [.sc (.s []), .sc (.s []), .sc (.i .i64 0), .sl 4 [] .full] [(0, (1, .c (.sc (.s [99, 97, 108, 108])))), (1, (1, .t 51)), (3, (1, .t 53))]⟩, ⟨none, .st (.t 2) 4 (.t 54)⟩] [0, 1, 0, 4, 15, 31]) .ret)) (.seq (.reg [⟨none, .fa 56 (.t 3) 0⟩, ⟨none, .ld 57 1 false (.t 56)⟩, ⟨none, .bin 58 .eql (.t 57) (.c (.sc (.s [110, 97, 109, 101])))⟩, ⟨none, .mv 55 (.t 58)⟩]) (.cond (.t 55) (.seq (.reg [⟨none, .fa 59 (.t 3) 1⟩, ⟨none, .ld 60 1 false (.t 59)⟩, ⟨none, .build 61 [.sc (.s []), .sc (.s []), .sc (.i .i64 0), .sl 4 [] .full] [(0, (1, .c (.sc (.s [118, 97, 114])))), (1, (1, .t 60))]⟩, ⟨none, .st (.t 2) 4 (.t 61)⟩]) .ret) (.seq (.reg [⟨none, .fa 63 (.t 3) 0⟩, ⟨none, .ld 64 1 false (.t 63)⟩, ⟨none, .bin 65 .eql (.t 64) (.c (.sc (.s [107, 101, 121])))⟩, ⟨none, .mv 66 (.t 65)⟩, ⟨some (66, true), .fa 67 (.t 3) 1⟩, ⟨some (66, true), .ld 68 1 false (.t 67)⟩, ⟨some (66, true), .bin 69 .eql (.t 68) (.c (.sc (.s [102, 97, 108, 115, 101])))⟩, ⟨some (66, true), .mv 70 (.t 69)⟩, ⟨some (70, false), .fa 71 (.t 3) 1⟩, ⟨some (70, false), .ld 72 1 false (.t 71)⟩, ⟨some (70, false), .bin 73 .eql (.t 72) (.c (.sc (.s [116, 114, 117, 101])))⟩, ⟨some (66, true), .pick 74 (.t 70) (.c (.sc (.b true))) (.t 73)⟩, ⟨none, .pick 75 (.t 66) (.t 74) (.c (.sc (.b false)))⟩, ⟨none, .mv 62 (.t 75)⟩]) (.cond (.t 62) (.seq (.reg [⟨none, .build 76 [.sc (.s []), .sc (.s []), .sc (.i .i64 0), .sl 4 [] .full] [(0, (1, .c (.sc (.s [98, 111, 111, 108]))))]⟩, ⟨none, .alloc 6 [.sc (.s []), .sc (.s []), .sc (.i .i64 0), .sl 4 [] .full]⟩, ⟨none, .st (.t 6) 4 (.t 76)⟩]) (.seq (.seq (.reg [⟨none, .fa 77 (.t 3) 1⟩, ⟨none, .ld 78 1 false (.t 77)⟩, ⟨none, .bin 79 .eql (.t 78) (.c (.sc (.s [116, 114, 117, 101])))⟩]) (.cond (.t 79) (.reg [⟨none, .fa 80 (.t 6) 2⟩, ⟨none, .st (.t 80) 1 (.c (.sc (.i .i64 1)))⟩]) .skip)) (.seq (.reg [⟨none, .ld 81 4 true (.t 6)⟩, ⟨none, .st (.t 2) 4 (.t 81)⟩]) .ret))) (.seq (.reg [⟨none, .fa 83 (.t 3) 0⟩, ⟨none, .ld 84 1 false (.t 83)⟩, ⟨none, .bin 85 .eql (.t 84) (.c (.sc (.s [115, 105, 103, 110])))⟩, ⟨none, .mv 86 (.t 85)⟩, ⟨some (86, true), .fa 87 (.t 3) 1⟩, ⟨some (86, true), .ld 88 1 false (.t 87)⟩, ⟨some (86, true), .bin 89 .eql (.t 88) (.c (.sc (.s [40])))⟩, ⟨none, .pick 90 (.t 86) (.t 89) (.c (.sc (.b false)))⟩, ⟨none, .mv 82 (.t 90)⟩]) (.cond (.t 82) (.seq (.reg [⟨none, .mv 91 (.t 0)⟩, ⟨none, .call (some 92) (.c (.fn 145 [])) [.t 91]⟩, ⟨none, .alloc 7 [.sc (.s []), .sc (.s []), .sc (.i .i64 0), .sl 4 [] .full]⟩, ⟨none, .st (.t 7) 4 (.t 92)⟩]) (.seq (.reg [⟨none, .mv 93 (.t 0)⟩, ⟨none, .call (some 94) (.c (.fn 109 [])) [.t 93, .c (.sc (.s [41]))]⟩]) (.seq (.reg [⟨none, .ld 95 4 true (.t 7)⟩, ⟨none, .st (.t 2) 4 (.t 95)⟩]) .ret))) .skip))))))))))))))) (.seq (.reg [⟨none, .mv 96 (.t 0)⟩, ⟨none, .nc 97 (.t 96)⟩, ⟨none, .fa 98 (.t 97) 2⟩, ⟨none, .st (.t 98) 1 (.c (.sc (.b true)))⟩]) (.seq (.reg [⟨none, .build 99 [.sc (.s []), .sc (.s []), .sc (.i .i64 0), .sl 4 [] .full] []⟩, ⟨none, .st (.t 2) 4 (.t 99)⟩]) .ret)))), [(2, 4)], 100⟩
theorem F73_ok : compT Tryz.prog (fun _ => an0) 73 = some F73 := by kernel_rfl
def pStep (l : List T) (E : PS → Exp × PS) (s : PS) : Exp × PS :=
  bif (pNext l s).2.bad then (Exp.mk [] [] 0 [], ⟨(pNext l s).2.a, true⟩) else
  bif beqL (pNext l s).1.1 [105, 110, 116] then (.mk [105, 110, 116] [] (numV (pNext l s).1.2.1) [], (pNext l s).2) else
  bif beqL (pNext l s).1.1 [110, 97, 109, 101] then
    (bif (pHas l (pNext l s).2 [91]).1 then (.mk [97, 116] (pNext l s).1.2.1 0 (pExps l E [93] (pHas l (pNext l s).2 [91]).2).1, (pExps l E [93] (pHas l (pNext l s).2 [91]).2).2)
     else bif pIsCall l (pNext l s).2 then (.mk [99, 97, 108, 108] (pNext l s).1.2.1 0 (pExps l E [41] (pMust l (pNext l s).2 [40])).1, (pExps l E [41] (pMust l (pNext l s).2 [40])).2)
     else (.mk [118, 97, 114] (pNext l s).1.2.1 0 [], (pNext l s).2)) else
  bif beqL (pNext l s).1.1 [107, 101, 121] && (beqL (pNext l s).1.2.1 [102, 97, 108, 115, 101] || beqL (pNext l s).1.2.1 [116, 114, 117, 101]) then (.mk [98, 111, 111, 108] [] (bif beqL (pNext l s).1.2.1 [116, 114, 117, 101] then 1 else 0) [], (pNext l s).2) else
  bif beqL (pNext l s).1.1 [115, 105, 103, 110] && beqL (pNext l s).1.2.1 [40] then ((pInner l E (pNext l s).2).1, pMust l (pInner l E (pNext l s).2).2 [41]) else
  (Exp.mk [] [] 0 [], ⟨(pNext l s).2.a, true⟩)
end Go.Abs

set_option maxRecDepth 100000
namespace Go.Abs
open Go.Proofs
set_option maxHeartbeats 8000000 in
theorem b73_bad (W0 : Go.World) (hk : Wk W0) (l : List T) (E : PS → Exp × PS) (s : PS) (ht : tOK l) (hl : l.length ≤ 549755813888) (hs : s.a ≤ l.length)
    (hE : ∀ s', s.a < s'.a → s'.a ≤ l.length → Ctr Tryz.prog W0 73 [.ptr 0 0] [pbx l s'] (eE (E s').1) [pbx l (E s').2])
    (hle : ∀ s', s'.a ≤ l.length → s'.a ≤ (E s').2.a ∧ (E s').2.a ≤ l.length) (kd tx : S) (p : Int) (a1 : Nat) (hq : pNext l s = ((kd, tx, p), ⟨a1, true⟩)) (ha : a1 ≤ l.length)  :
    Body (Ctr Tryz.prog W0) F73.ac F73.rs [.ptr 0 0] [pbx l s] (eE (Exp.mk [] [] 0 [])) [pbx l (⟨a1, true⟩)] := by
  conv => whnf
  (refine callP.full [0] [] [.ptr 0 0] [pbx l _] [pbx l _] _ (c113 W0 l s (Nat.le_trans hl (by decide)) hs) ⟨rfl, rfl, rfl, rfl, rfl, rfl, rfl, rfl, rfl, rfl, ⟨rfl, trivial⟩, ⟨⟨⟨rfl, rfl, .inr rfl⟩, rfl, rfl, trivial⟩, trivial⟩, trivial⟩ ?_)
  rw [hq]
  repeat' (first | (with_reducible refine Eq.mpr awp_r ?_; with_reducible refine Eq.mpr aopsD_r ?_) | ((conv => whnf); (first | with_reducible refine brec (fun _ => ?_) (fun _ => ?_) | (refine And.intro (by constructor <;> ((try simp only [List.length_cons, List.length_nil]); (try simp only); omega)) ?_) | fail)))
  all_goals (conv => whnf)
  all_goals (first | exact ⟨⟨[], [], ⟨rfl, rfl, rfl, rfl⟩, ⟨rfl, rfl, rfl, ⟨rfl, rfl, .inl rfl⟩, trivial⟩, ⟨⟨⟨rfl, rfl, .inl rfl⟩, rfl, rfl, trivial⟩, trivial⟩, trivial⟩⟩)
end Go.Abs

set_option maxRecDepth 100000
namespace Go.Abs
open Go.Proofs
set_option maxHeartbeats 8000000 in
theorem b73_int (W0 : Go.World) (hk : Wk W0) (l : List T) (E : PS → Exp × PS) (s : PS) (ht : tOK l) (hl : l.length ≤ 549755813888) (hs : s.a ≤ l.length)
    (hE : ∀ s', s.a < s'.a → s'.a ≤ l.length → Ctr Tryz.prog W0 73 [.ptr 0 0] [pbx l s'] (eE (E s').1) [pbx l (E s').2])
    (hle : ∀ s', s'.a ≤ l.length → s'.a ≤ (E s').2.a ∧ (E s').2.a ≤ l.length) (tx : S) (p : Int) (a1 : Nat) (hq : pNext l s = (([105, 110, 116], tx, p), ⟨a1, false⟩)) (ha : a1 ≤ l.length)  :
    Body (Ctr Tryz.prog W0) F73.ac F73.rs [.ptr 0 0] [pbx l s] (eE (Exp.mk [105, 110, 116] [] (numV tx) [])) [pbx l (⟨a1, false⟩)] := by
  have htx : tx.length ≤ 10000 := by have := pNext_ok (s := s) ht; rw [hq] at this; exact this
  conv => whnf
  (refine callP.full [0] [] [.ptr 0 0] [pbx l _] [pbx l _] _ (c113 W0 l s (Nat.le_trans hl (by decide)) hs) ⟨rfl, rfl, rfl, rfl, rfl, rfl, rfl, rfl, rfl, rfl, ⟨rfl, trivial⟩, ⟨⟨⟨rfl, rfl, .inr rfl⟩, rfl, rfl, trivial⟩, trivial⟩, trivial⟩ ?_)
  rw [hq]
  repeat' (first | (with_reducible refine Eq.mpr awp_r ?_; with_reducible refine Eq.mpr aopsD_r ?_) | ((conv => whnf); (first | with_reducible refine brec (fun _ => ?_) (fun _ => ?_) | (refine callP.pure _ (c141 W0 hk tx (Nat.le_trans htx (by decide))) ⟨rfl, rfl⟩ ?_) | (refine And.intro (by constructor <;> ((try simp only [List.length_cons, List.length_nil]); (try simp only); omega)) ?_) | fail)))
  all_goals (conv => whnf)
  all_goals (first | exact ⟨⟨[], [], ⟨rfl, rfl, rfl, rfl⟩, ⟨rfl, rfl, rfl, ⟨rfl, rfl, .inl rfl⟩, trivial⟩, ⟨⟨⟨rfl, rfl, .inl rfl⟩, rfl, rfl, trivial⟩, trivial⟩, trivial⟩⟩)
end Go.Abs

set_option maxRecDepth 100000
namespace Go.Abs
open Go.Proofs
set_option maxHeartbeats 8000000 in
theorem b73_at (W0 : Go.World) (hk : Wk W0) (l : List T) (E : PS → Exp × PS) (s : PS) (ht : tOK l) (hl : l.length ≤ 549755813888) (hs : s.a ≤ l.length)
    (hE : ∀ s', s.a < s'.a → s'.a ≤ l.length → Ctr Tryz.prog W0 73 [.ptr 0 0] [pbx l s'] (eE (E s').1) [pbx l (E s').2])
    (hle : ∀ s', s'.a ≤ l.length → s'.a ≤ (E s').2.a ∧ (E s').2.a ≤ l.length) (tx : S) (p : Int) (a1 : Nat) (hq : pNext l s = (([110, 97, 109, 101], tx, p), ⟨a1, false⟩)) (ha : a1 ≤ l.length) (h1 : (pHas l ⟨a1, false⟩ [91]).1 = true) :
    Body (Ctr Tryz.prog W0) F73.ac F73.rs [.ptr 0 0] [pbx l s] (eE (Exp.mk [97, 116] tx 0 (pExps l E [93] (pHas l ⟨a1, false⟩ [91]).2).1)) [pbx l ((pExps l E [93] (pHas l ⟨a1, false⟩ [91]).2).2)] := by
  have hlt : s.a < a1 := by have := (pNext_le (l := l) hs).2.2; rw [hq] at this; exact this rfl
  have hh := pHas_le (l := l) (s := ⟨a1, false⟩) (x := [91]) ha
  simp only at hh
  conv => whnf
  (refine callP.full [0] [] [.ptr 0 0] [pbx l _] [pbx l _] _ (c113 W0 l s (Nat.le_trans hl (by decide)) hs) ⟨rfl, rfl, rfl, rfl, rfl, rfl, rfl, rfl, rfl, rfl, ⟨rfl, trivial⟩, ⟨⟨⟨rfl, rfl, .inr rfl⟩, rfl, rfl, trivial⟩, trivial⟩, trivial⟩ ?_)
  rw [hq]
  repeat' (first | (with_reducible refine Eq.mpr awp_r ?_; with_reducible refine Eq.mpr aopsD_r ?_) | ((conv => whnf); (first | with_reducible refine brec (fun h => absurd (h.symm.trans h1) (by decide)) (fun _ => ?_) | (refine callP.full [0] [] [.ptr 0 0, .sc (.s [91])] [pbx l _] [pbx l _] _ (c142 W0 l ⟨a1, false⟩ [91] (Nat.le_trans hl (by decide)) ha) ⟨rfl, rfl, rfl, rfl, rfl, rfl, rfl, rfl, rfl, rfl, ⟨rfl, rfl, trivial⟩, ⟨⟨⟨rfl, rfl, .inr rfl⟩, rfl, rfl, trivial⟩, trivial⟩, trivial⟩ ?_) | (refine callP.full [0] [] [.ptr 0 0, .sc (.s [93])] [pbx l _] [pbx l _] _ (c143 W0 l E [93] (pHas l ⟨a1, false⟩ [91]).2 hl hh.2 (fun s' h1 h2 => hE s' (by omega) h2) hle) ⟨rfl, rfl, rfl, rfl, rfl, rfl, rfl, rfl, rfl, rfl, ⟨rfl, rfl, trivial⟩, ⟨⟨⟨rfl, rfl, .inr rfl⟩, rfl, rfl, trivial⟩, trivial⟩, trivial⟩ ?_) | (refine And.intro (by constructor <;> ((try simp only [List.length_cons, List.length_nil]); (try simp only); omega)) ?_) | fail)))
  all_goals (conv => whnf)
  all_goals (first | exact ⟨⟨[], [], ⟨rfl, rfl, rfl, rfl⟩, ⟨rfl, rfl, rfl, ⟨rfl, rfl, .inl rfl⟩, trivial⟩, ⟨⟨⟨rfl, rfl, .inl rfl⟩, rfl, rfl, trivial⟩, trivial⟩, trivial⟩⟩)
end Go.Abs

set_option maxRecDepth 100000
namespace Go.Abs
open Go.Proofs
set_option maxHeartbeats 8000000 in
theorem b73_call (W0 : Go.World) (hk : Wk W0) (l : List T) (E : PS → Exp × PS) (s : PS) (ht : tOK l) (hl : l.length ≤ 549755813888) (hs : s.a ≤ l.length)
    (hE : ∀ s', s.a < s'.a → s'.a ≤ l.length → Ctr Tryz.prog W0 73 [.ptr 0 0] [pbx l s'] (eE (E s').1) [pbx l (E s').2])
    (hle : ∀ s', s'.a ≤ l.length → s'.a ≤ (E s').2.a ∧ (E s').2.a ≤ l.length) (tx : S) (p : Int) (a1 : Nat) (hq : pNext l s = (([110, 97, 109, 101], tx, p), ⟨a1, false⟩)) (ha : a1 ≤ l.length) (h1 : (pHas l ⟨a1, false⟩ [91]).1 = false) (h2 : pIsCall l ⟨a1, false⟩ = true) :
    Body (Ctr Tryz.prog W0) F73.ac F73.rs [.ptr 0 0] [pbx l s] (eE (Exp.mk [99, 97, 108, 108] tx 0 (pExps l E [41] (pMust l ⟨a1, false⟩ [40])).1)) [pbx l ((pExps l E [41] (pMust l ⟨a1, false⟩ [40])).2)] := by
  have hlt : s.a < a1 := by have := (pNext_le (l := l) hs).2.2; rw [hq] at this; exact this rfl
  have hh := pMust_le (l := l) (s := ⟨a1, false⟩) (x := [40]) ha
  simp only at hh
  conv => whnf
  (refine callP.full [0] [] [.ptr 0 0] [pbx l _] [pbx l _] _ (c113 W0 l s (Nat.le_trans hl (by decide)) hs) ⟨rfl, rfl, rfl, rfl, rfl, rfl, rfl, rfl, rfl, rfl, ⟨rfl, trivial⟩, ⟨⟨⟨rfl, rfl, .inr rfl⟩, rfl, rfl, trivial⟩, trivial⟩, trivial⟩ ?_)
  rw [hq]
  conv => whnf
  (refine callP.full [0] [] [.ptr 0 0, .sc (.s [91])] [pbx l _] [pbx l _] _ (c142 W0 l ⟨a1, false⟩ [91] (Nat.le_trans hl (by decide)) ha) ⟨rfl, rfl, rfl, rfl, rfl, rfl, rfl, rfl, rfl, rfl, ⟨rfl, rfl, trivial⟩, ⟨⟨⟨rfl, rfl, .inr rfl⟩, rfl, rfl, trivial⟩, trivial⟩, trivial⟩ ?_)
  rw [h1, pHas_f h1]
  conv => whnf
  (refine callP.full [0] [] [.ptr 0 0] [pbx l _] [pbx l _] _ (c144 W0 l ⟨a1, false⟩ (Nat.le_trans hl (by decide)) ha) ⟨rfl, rfl, rfl, rfl, rfl, rfl, rfl, rfl, rfl, rfl, ⟨rfl, trivial⟩, ⟨⟨⟨rfl, rfl, .inr rfl⟩, rfl, rfl, trivial⟩, trivial⟩, trivial⟩ ?_)
  rw [h2]
  repeat' (first | (with_reducible refine Eq.mpr awp_r ?_; with_reducible refine Eq.mpr aopsD_r ?_) | ((conv => whnf); (first | with_reducible refine brec (fun _ => ?_) (fun _ => ?_) | (refine callP.full [0] [] [.ptr 0 0, .sc (.s [40])] [pbx l _] [pbx l _] _ (c109 W0 l ⟨a1, false⟩ [40] (Nat.le_trans hl (by decide)) ha) ⟨rfl, rfl, rfl, rfl, rfl, rfl, rfl, rfl, rfl, rfl, ⟨rfl, rfl, trivial⟩, ⟨⟨⟨rfl, rfl, .inr rfl⟩, rfl, rfl, trivial⟩, trivial⟩, trivial⟩ ?_) | (refine callP.full [0] [] [.ptr 0 0, .sc (.s [41])] [pbx l _] [pbx l _] _ (c143 W0 l E [41] (pMust l ⟨a1, false⟩ [40]) hl hh.2 (fun s' h1 h2 => hE s' (by omega) h2) hle) ⟨rfl, rfl, rfl, rfl, rfl, rfl, rfl, rfl, rfl, rfl, ⟨rfl, rfl, trivial⟩, ⟨⟨⟨rfl, rfl, .inr rfl⟩, rfl, rfl, trivial⟩, trivial⟩, trivial⟩ ?_) | (refine And.intro (by constructor <;> ((try simp only [List.length_cons, List.length_nil]); (try simp only); omega)) ?_) | fail)))
  all_goals (conv => whnf)
  all_goals (first | exact ⟨⟨[], [], ⟨rfl, rfl, rfl, rfl⟩, ⟨rfl, rfl, rfl, ⟨rfl, rfl, .inl rfl⟩, trivial⟩, ⟨⟨⟨rfl, rfl, .inl rfl⟩, rfl, rfl, trivial⟩, trivial⟩, trivial⟩⟩)
end Go.Abs

set_option maxRecDepth 100000
namespace Go.Abs
open Go.Proofs
set_option maxHeartbeats 8000000 in
theorem b73_var (W0 : Go.World) (hk : Wk W0) (l : List T) (E : PS → Exp × PS) (s : PS) (ht : tOK l) (hl : l.length ≤ 549755813888) (hs : s.a ≤ l.length)
    (hE : ∀ s', s.a < s'.a → s'.a ≤ l.length → Ctr Tryz.prog W0 73 [.ptr 0 0] [pbx l s'] (eE (E s').1) [pbx l (E s').2])
    (hle : ∀ s', s'.a ≤ l.length → s'.a ≤ (E s').2.a ∧ (E s').2.a ≤ l.length) (tx : S) (p : Int) (a1 : Nat) (hq : pNext l s = (([110, 97, 109, 101], tx, p), ⟨a1, false⟩)) (ha : a1 ≤ l.length) (h1 : (pHas l ⟨a1, false⟩ [91]).1 = false) (h2 : pIsCall l ⟨a1, false⟩ = false) :
    Body (Ctr Tryz.prog W0) F73.ac F73.rs [.ptr 0 0] [pbx l s] (eE (Exp.mk [118, 97, 114] tx 0 [])) [pbx l (⟨a1, false⟩)] := by
  conv => whnf
  (refine callP.full [0] [] [.ptr 0 0] [pbx l _] [pbx l _] _ (c113 W0 l s (Nat.le_trans hl (by decide)) hs) ⟨rfl, rfl, rfl, rfl, rfl, rfl, rfl, rfl, rfl, rfl, ⟨rfl, trivial⟩, ⟨⟨⟨rfl, rfl, .inr rfl⟩, rfl, rfl, trivial⟩, trivial⟩, trivial⟩ ?_)
  rw [hq]
  conv => whnf
  (refine callP.full [0] [] [.ptr 0 0, .sc (.s [91])] [pbx l _] [pbx l _] _ (c142 W0 l ⟨a1, false⟩ [91] (Nat.le_trans hl (by decide)) ha) ⟨rfl, rfl, rfl, rfl, rfl, rfl, rfl, rfl, rfl, rfl, ⟨rfl, rfl, trivial⟩, ⟨⟨⟨rfl, rfl, .inr rfl⟩, rfl, rfl, trivial⟩, trivial⟩, trivial⟩ ?_)
  rw [h1, pHas_f h1]
  conv => whnf
  (refine callP.full [0] [] [.ptr 0 0] [pbx l _] [pbx l _] _ (c144 W0 l ⟨a1, false⟩ (Nat.le_trans hl (by decide)) ha) ⟨rfl, rfl, rfl, rfl, rfl, rfl, rfl, rfl, rfl, rfl, ⟨rfl, trivial⟩, ⟨⟨⟨rfl, rfl, .inr rfl⟩, rfl, rfl, trivial⟩, trivial⟩, trivial⟩ ?_)
  rw [h2]

  all_goals (conv => whnf)
  all_goals (first | exact ⟨⟨[], [], ⟨rfl, rfl, rfl, rfl⟩, ⟨rfl, rfl, rfl, ⟨rfl, rfl, .inl rfl⟩, trivial⟩, ⟨⟨⟨rfl, rfl, .inl rfl⟩, rfl, rfl, trivial⟩, trivial⟩, trivial⟩⟩)
end Go.Abs

set_option maxRecDepth 100000
namespace Go.Abs
open Go.Proofs
set_option maxHeartbeats 8000000 in
theorem b73_false (W0 : Go.World) (hk : Wk W0) (l : List T) (E : PS → Exp × PS) (s : PS) (ht : tOK l) (hl : l.length ≤ 549755813888) (hs : s.a ≤ l.length)
    (hE : ∀ s', s.a < s'.a → s'.a ≤ l.length → Ctr Tryz.prog W0 73 [.ptr 0 0] [pbx l s'] (eE (E s').1) [pbx l (E s').2])
    (hle : ∀ s', s'.a ≤ l.length → s'.a ≤ (E s').2.a ∧ (E s').2.a ≤ l.length)  (p : Int) (a1 : Nat) (hq : pNext l s = (([107, 101, 121], [102, 97, 108, 115, 101], p), ⟨a1, false⟩)) (ha : a1 ≤ l.length)  :
    Body (Ctr Tryz.prog W0) F73.ac F73.rs [.ptr 0 0] [pbx l s] (eE (Exp.mk [98, 111, 111, 108] [] 0 [])) [pbx l (⟨a1, false⟩)] := by
  conv => whnf
  (refine callP.full [0] [] [.ptr 0 0] [pbx l _] [pbx l _] _ (c113 W0 l s (Nat.le_trans hl (by decide)) hs) ⟨rfl, rfl, rfl, rfl, rfl, rfl, rfl, rfl, rfl, rfl, ⟨rfl, trivial⟩, ⟨⟨⟨rfl, rfl, .inr rfl⟩, rfl, rfl, trivial⟩, trivial⟩, trivial⟩ ?_)
  rw [hq]
  conv => whnf
  skip
  all_goals (conv => whnf)
  all_goals (first | exact ⟨⟨[], [], ⟨rfl, rfl, rfl, rfl⟩, ⟨rfl, rfl, rfl, ⟨rfl, rfl, .inl rfl⟩, trivial⟩, ⟨⟨⟨rfl, rfl, .inl rfl⟩, rfl, rfl, trivial⟩, trivial⟩, trivial⟩⟩)
end Go.Abs

set_option maxRecDepth 100000
namespace Go.Abs
open Go.Proofs
set_option maxHeartbeats 8000000 in
theorem b73_true (W0 : Go.World) (hk : Wk W0) (l : List T) (E : PS → Exp × PS) (s : PS) (ht : tOK l) (hl : l.length ≤ 549755813888) (hs : s.a ≤ l.length)
    (hE : ∀ s', s.a < s'.a → s'.a ≤ l.length → Ctr Tryz.prog W0 73 [.ptr 0 0] [pbx l s'] (eE (E s').1) [pbx l (E s').2])
    (hle : ∀ s', s'.a ≤ l.length → s'.a ≤ (E s').2.a ∧ (E s').2.a ≤ l.length)  (p : Int) (a1 : Nat) (hq : pNext l s = (([107, 101, 121], [116, 114, 117, 101], p), ⟨a1, false⟩)) (ha : a1 ≤ l.length)  :
    Body (Ctr Tryz.prog W0) F73.ac F73.rs [.ptr 0 0] [pbx l s] (eE (Exp.mk [98, 111, 111, 108] [] 1 [])) [pbx l (⟨a1, false⟩)] := by
  conv => whnf
  (refine callP.full [0] [] [.ptr 0 0] [pbx l _] [pbx l _] _ (c113 W0 l s (Nat.le_trans hl (by decide)) hs) ⟨rfl, rfl, rfl, rfl, rfl, rfl, rfl, rfl, rfl, rfl, ⟨rfl, trivial⟩, ⟨⟨⟨rfl, rfl, .inr rfl⟩, rfl, rfl, trivial⟩, trivial⟩, trivial⟩ ?_)
  rw [hq]
  conv => whnf
  skip
  all_goals (conv => whnf)
  all_goals (first | exact ⟨⟨[], [], ⟨rfl, rfl, rfl, rfl⟩, ⟨rfl, rfl, rfl, ⟨rfl, rfl, .inl rfl⟩, trivial⟩, ⟨⟨⟨rfl, rfl, .inl rfl⟩, rfl, rfl, trivial⟩, trivial⟩, trivial⟩⟩)
end Go.Abs

set_option maxRecDepth 100000
namespace Go.Abs
open Go.Proofs
set_option maxHeartbeats 8000000 in
theorem b73_key (W0 : Go.World) (hk : Wk W0) (l : List T) (E : PS → Exp × PS) (s : PS) (ht : tOK l) (hl : l.length ≤ 549755813888) (hs : s.a ≤ l.length)
    (hE : ∀ s', s.a < s'.a → s'.a ≤ l.length → Ctr Tryz.prog W0 73 [.ptr 0 0] [pbx l s'] (eE (E s').1) [pbx l (E s').2])
    (hle : ∀ s', s'.a ≤ l.length → s'.a ≤ (E s').2.a ∧ (E s').2.a ≤ l.length) (tx : S) (p : Int) (a1 : Nat) (hq : pNext l s = (([107, 101, 121], tx, p), ⟨a1, false⟩)) (ha : a1 ≤ l.length) (g1 : beqL tx [102, 97, 108, 115, 101] = false) (g2 : beqL tx [116, 114, 117, 101] = false) :
    Body (Ctr Tryz.prog W0) F73.ac F73.rs [.ptr 0 0] [pbx l s] (eE (Exp.mk [] [] 0 [])) [pbx l (⟨a1, true⟩)] := by
  conv => whnf
  (refine callP.full [0] [] [.ptr 0 0] [pbx l _] [pbx l _] _ (c113 W0 l s (Nat.le_trans hl (by decide)) hs) ⟨rfl, rfl, rfl, rfl, rfl, rfl, rfl, rfl, rfl, rfl, ⟨rfl, trivial⟩, ⟨⟨⟨rfl, rfl, .inr rfl⟩, rfl, rfl, trivial⟩, trivial⟩, trivial⟩ ?_)
  rw [hq]
  conv => whnf
  iterate 3 ((conv => whnf); (first | rw [g1] | rw [g2] | skip))
  all_goals (conv => whnf)
  all_goals (first | exact ⟨⟨[], [], ⟨rfl, rfl, rfl, rfl⟩, ⟨rfl, rfl, rfl, ⟨rfl, rfl, .inl rfl⟩, trivial⟩, ⟨⟨⟨rfl, rfl, .inl rfl⟩, rfl, rfl, trivial⟩, trivial⟩, trivial⟩⟩)
end Go.Abs

set_option maxRecDepth 100000
namespace Go.Abs
open Go.Proofs
set_option maxHeartbeats 8000000 in
theorem b73_sign (W0 : Go.World) (hk : Wk W0) (l : List T) (E : PS → Exp × PS) (s : PS) (ht : tOK l) (hl : l.length ≤ 549755813888) (hs : s.a ≤ l.length)
    (hE : ∀ s', s.a < s'.a → s'.a ≤ l.length → Ctr Tryz.prog W0 73 [.ptr 0 0] [pbx l s'] (eE (E s').1) [pbx l (E s').2])
    (hle : ∀ s', s'.a ≤ l.length → s'.a ≤ (E s').2.a ∧ (E s').2.a ≤ l.length) (tx : S) (p : Int) (a1 : Nat) (hq : pNext l s = (([115, 105, 103, 110], tx, p), ⟨a1, false⟩)) (ha : a1 ≤ l.length) (g1 : beqL tx [40] = false) :
    Body (Ctr Tryz.prog W0) F73.ac F73.rs [.ptr 0 0] [pbx l s] (eE (Exp.mk [] [] 0 [])) [pbx l (⟨a1, true⟩)] := by
  conv => whnf
  (refine callP.full [0] [] [.ptr 0 0] [pbx l _] [pbx l _] _ (c113 W0 l s (Nat.le_trans hl (by decide)) hs) ⟨rfl, rfl, rfl, rfl, rfl, rfl, rfl, rfl, rfl, rfl, ⟨rfl, trivial⟩, ⟨⟨⟨rfl, rfl, .inr rfl⟩, rfl, rfl, trivial⟩, trivial⟩, trivial⟩ ?_)
  rw [hq]
  conv => whnf
  iterate 3 ((conv => whnf); (first | rw [g1] | skip))
  all_goals (conv => whnf)
  all_goals (first | exact ⟨⟨[], [], ⟨rfl, rfl, rfl, rfl⟩, ⟨rfl, rfl, rfl, ⟨rfl, rfl, .inl rfl⟩, trivial⟩, ⟨⟨⟨rfl, rfl, .inl rfl⟩, rfl, rfl, trivial⟩, trivial⟩, trivial⟩⟩)
end Go.Abs

set_option maxRecDepth 100000
namespace Go.Abs
open Go.Proofs
set_option maxHeartbeats 8000000 in
theorem b73_other (W0 : Go.World) (hk : Wk W0) (l : List T) (E : PS → Exp × PS) (s : PS) (ht : tOK l) (hl : l.length ≤ 549755813888) (hs : s.a ≤ l.length)
    (hE : ∀ s', s.a < s'.a → s'.a ≤ l.length → Ctr Tryz.prog W0 73 [.ptr 0 0] [pbx l s'] (eE (E s').1) [pbx l (E s').2])
    (hle : ∀ s', s'.a ≤ l.length → s'.a ≤ (E s').2.a ∧ (E s').2.a ≤ l.length) (kd tx : S) (p : Int) (a1 : Nat) (hq : pNext l s = ((kd, tx, p), ⟨a1, false⟩)) (ha : a1 ≤ l.length) (g1 : beqL kd [105, 110, 116] = false) (g2 : beqL kd [110, 97, 109, 101] = false) (g3 : beqL kd [107, 101, 121] = false) (g4 : beqL kd [115, 105, 103, 110] = false) :
    Body (Ctr Tryz.prog W0) F73.ac F73.rs [.ptr 0 0] [pbx l s] (eE (Exp.mk [] [] 0 [])) [pbx l (⟨a1, true⟩)] := by
  conv => whnf
  (refine callP.full [0] [] [.ptr 0 0] [pbx l _] [pbx l _] _ (c113 W0 l s (Nat.le_trans hl (by decide)) hs) ⟨rfl, rfl, rfl, rfl, rfl, rfl, rfl, rfl, rfl, rfl, ⟨rfl, trivial⟩, ⟨⟨⟨rfl, rfl, .inr rfl⟩, rfl, rfl, trivial⟩, trivial⟩, trivial⟩ ?_)
  rw [hq]
  conv => whnf
  iterate 9 ((conv => whnf); (first | rw [g1] | rw [g2] | rw [g3] | rw [g4] | skip))
  all_goals (conv => whnf)
  all_goals (first | exact ⟨⟨[], [], ⟨rfl, rfl, rfl, rfl⟩, ⟨rfl, rfl, rfl, ⟨rfl, rfl, .inl rfl⟩, trivial⟩, ⟨⟨⟨rfl, rfl, .inl rfl⟩, rfl, rfl, trivial⟩, trivial⟩, trivial⟩⟩)
end Go.Abs

set_option maxRecDepth 100000
namespace Go.Abs
open Go.Proofs
set_option maxHeartbeats 8000000 in
theorem b73_paren (W0 : Go.World) (hk : Wk W0) (l : List T) (E : PS → Exp × PS) (s : PS) (ht : tOK l) (hl : l.length ≤ 549755813888) (hs : s.a ≤ l.length)
    (hE : ∀ s', s.a < s'.a → s'.a ≤ l.length → Ctr Tryz.prog W0 73 [.ptr 0 0] [pbx l s'] (eE (E s').1) [pbx l (E s').2])
    (hle : ∀ s', s'.a ≤ l.length → s'.a ≤ (E s').2.a ∧ (E s').2.a ≤ l.length)  (p : Int) (a1 : Nat) (hq : pNext l s = (([115, 105, 103, 110], [40], p), ⟨a1, false⟩)) (ha : a1 ≤ l.length) (hm : (pInner l E ⟨a1, false⟩).2.a ≤ l.length) :
    Body (Ctr Tryz.prog W0) F73.ac F73.rs [.ptr 0 0] [pbx l s] (eE ((pInner l E ⟨a1, false⟩).1)) [pbx l (pMust l (pInner l E ⟨a1, false⟩).2 [41])] := by
  have hlt : s.a < a1 := by have := (pNext_le (l := l) hs).2.2; rw [hq] at this; exact this rfl
  conv => whnf
  (refine callP.full [0] [] [.ptr 0 0] [pbx l _] [pbx l _] _ (c113 W0 l s (Nat.le_trans hl (by decide)) hs) ⟨rfl, rfl, rfl, rfl, rfl, rfl, rfl, rfl, rfl, rfl, ⟨rfl, trivial⟩, ⟨⟨⟨rfl, rfl, .inr rfl⟩, rfl, rfl, trivial⟩, trivial⟩, trivial⟩ ?_)
  rw [hq]
  conv => whnf
  have hI := c145 W0 hk l E ⟨a1, false⟩ ht hl ha (fun s' h1 h2 => hE s' (by simp only at h1; omega) h2) hle
  generalize hr : pInner l E ⟨a1, false⟩ = q at hI hm
  obtain ⟨⟨xa, xb, xn, xl⟩, s2⟩ := q
  simp only at hI hm
  rw [show (Prod.fst ((Exp.mk xa xb xn xl, s2) : Exp × PS)) = Exp.mk xa xb xn xl from rfl]
  repeat' (first | (with_reducible refine Eq.mpr awp_r ?_; with_reducible refine Eq.mpr aopsD_r ?_) | ((conv => whnf); (first | with_reducible refine brec (fun _ => ?_) (fun _ => ?_) | (refine callP.full [0] [] [.ptr 0 0] [pbx l _] [pbx l _] _ (hI) ⟨rfl, rfl, rfl, rfl, rfl, rfl, rfl, rfl, rfl, rfl, ⟨rfl, trivial⟩, ⟨⟨⟨rfl, rfl, .inr rfl⟩, rfl, rfl, trivial⟩, trivial⟩, trivial⟩ ?_) | (refine callP.full [0] [] [.ptr 0 0, .sc (.s [41])] [pbx l _] [pbx l _] _ (c109 W0 l s2 [41] (Nat.le_trans hl (by decide)) hm) ⟨rfl, rfl, rfl, rfl, rfl, rfl, rfl, rfl, rfl, rfl, ⟨rfl, rfl, trivial⟩, ⟨⟨⟨rfl, rfl, .inr rfl⟩, rfl, rfl, trivial⟩, trivial⟩, trivial⟩ ?_) | (refine And.intro (by constructor <;> ((try simp only [List.length_cons, List.length_nil]); (try simp only); omega)) ?_) | fail)))
  all_goals (conv => whnf)
  all_goals (first | exact ⟨⟨[], [], ⟨rfl, rfl, rfl, rfl⟩, ⟨rfl, rfl, rfl, ⟨rfl, rfl, .inl rfl⟩, trivial⟩, ⟨⟨⟨rfl, rfl, .inl rfl⟩, rfl, rfl, trivial⟩, trivial⟩, trivial⟩⟩)
end Go.Abs

set_option maxRecDepth 100000
namespace Go.Abs
open Go.Proofs
theorem cnd {α : Type} {c : Bool} {a b : α × PS} {P : PS → Prop} (ha : P a.2) (hb : P b.2) : P (bif c then a else b).2 := by cases c <;> assumption
theorem pInner_le {l : List T} {E : PS → Exp × PS} (hle : ∀ s', s'.a ≤ l.length → s'.a ≤ (E s').2.a ∧ (E s').2.a ≤ l.length) (s : PS) (hs : s.a ≤ l.length) : s.a ≤ (pInner l E s).2.a ∧ (pInner l E s).2.a ≤ l.length := by
  have d1 := hle s hs
  have d2 := pBin_le d1.2
  have d3 := hle _ d2.2
  by_cases hin : s.a < l.length
  · have a0 : (⟨s.a + 1, s.bad⟩ : PS).a ≤ l.length := hin
    have e1 := hle _ a0
    have e2 := hle _ e1.2
    have e3 := pOp_le a0
    have e4 := pName_le a0
    have e5 := pNum_le e4.2
    have e6 := pMust_le (x := [91]) e4.2
    have e7 := pExps_le (x := [93]) hle _ e6.2
    have e8 := hle _ e5.2
    simp only at e1 e3 e4
    simp only [pInner]
    repeat' (with_reducible refine cnd (P := fun x => s.a ≤ x.a ∧ x.a ≤ l.length) ?_ ?_)
    all_goals (constructor <;> (try simp only) <;> omega)
  · have hp : pPeek l s = t0 := pPeek_out (by omega)
    have e : pInner l E s = (Exp.mk [111, 112] (pNext l (E s).2).1.2.1 0 [(E s).1, (E (pBin l (E s).2)).1], (E (pBin l (E s).2)).2) := by
      simp [pInner, hp, t0, hasB, beqL]
    rw [e]
    constructor <;> (simp only; omega)
theorem pStep_le {l : List T} {E : PS → Exp × PS} (hle : ∀ s', s'.a ≤ l.length → s'.a ≤ (E s').2.a ∧ (E s').2.a ≤ l.length) (s : PS) (hs : s.a ≤ l.length) : s.a ≤ (pStep l E s).2.a ∧ (pStep l E s).2.a ≤ l.length := by
  have d1 := pNext_le hs
  have d2 := pHas_le (x := [91]) d1.2.1
  have d3 := pExps_le (x := [93]) hle _ d2.2
  have d4 := pMust_le (x := [40]) d1.2.1
  have d5 := pExps_le (x := [41]) hle _ d4.2
  have d6 := pInner_le hle _ d1.2.1
  have d7 := pMust_le (x := [41]) d6.2
  simp only [pStep]
  repeat' (with_reducible refine cnd (P := fun x => s.a ≤ x.a ∧ x.a ≤ l.length) ?_ ?_)
  all_goals (constructor <;> (simp only; omega))
/-- an expression, by so much fuel -/
def pExp (l : List T) : Nat → PS → Exp × PS
  | 0, s => (Exp.mk [] [] 0 [], ⟨s.a, true⟩)
  | n + 1, s => pStep l (pExp l n) s
theorem pExp_le {l : List T} : ∀ (n : Nat) (s : PS), s.a ≤ l.length → s.a ≤ (pExp l n s).2.a ∧ (pExp l n s).2.a ≤ l.length
  | 0, s, h => ⟨Nat.le_refl _, h⟩
  | n + 1, s, h => pStep_le (pExp_le n) s h
theorem c73s (W0 : Go.World) (hk : Wk W0) (l : List T) (E : PS → Exp × PS) (s : PS) (ht : tOK l) (hl : l.length ≤ 549755813888) (hs : s.a ≤ l.length)
    (hE : ∀ s', s.a < s'.a → s'.a ≤ l.length → Ctr Tryz.prog W0 73 [.ptr 0 0] [pbx l s'] (eE (E s').1) [pbx l (E s').2])
    (hle : ∀ s', s'.a ≤ l.length → s'.a ≤ (E s').2.a ∧ (E s').2.a ≤ l.length) : Ctr Tryz.prog W0 73 [.ptr 0 0] [pbx l s] (eE (pStep l E s).1) [pbx l (pStep l E s).2] := by
  have d1 := pNext_le hs
  generalize hq : pNext l s = q at d1
  obtain ⟨⟨kd, tx, p⟩, ⟨a1, b1⟩⟩ := q
  have ha : a1 ≤ l.length := d1.2.1
  cases b1 with
  | true =>
    have e : pStep l E s = (Exp.mk [] [] 0 [], ⟨a1, true⟩) := by simp [pStep, hq]
    rw [e]
    exact ctr_body follows F73_ok rfl (fun _ _ h => by cases h) rfl rfl (b73_bad W0 hk l E s ht hl hs hE hle kd tx p a1 hq ha)
  | false =>
    cases g1 : beqL kd [105, 110, 116] with
    | true =>
      have e0 := beqL_iff.1 g1; subst e0
      have e : pStep l E s = (.mk [105, 110, 116] [] (numV tx) [], ⟨a1, false⟩) := by simp [pStep, hq, beqL]
      rw [e]
      exact ctr_body follows F73_ok rfl (fun _ _ h => by cases h) rfl rfl (b73_int W0 hk l E s ht hl hs hE hle tx p a1 hq ha)
    | false =>
      cases g2 : beqL kd [110, 97, 109, 101] with
      | true =>
        have e0 := beqL_iff.1 g2; subst e0
        cases h1 : (pHas l ⟨a1, false⟩ [91]).1 with
        | true =>
          have e : pStep l E s = (.mk [97, 116] tx 0 (pExps l E [93] (pHas l ⟨a1, false⟩ [91]).2).1, (pExps l E [93] (pHas l ⟨a1, false⟩ [91]).2).2) := by simp [pStep, hq, beqL, h1]
          rw [e]
          exact ctr_body follows F73_ok rfl (fun _ _ h => by cases h) rfl rfl (b73_at W0 hk l E s ht hl hs hE hle tx p a1 hq ha h1)
        | false =>
          cases h2 : pIsCall l ⟨a1, false⟩ with
          | true =>
            have e : pStep l E s = (.mk [99, 97, 108, 108] tx 0 (pExps l E [41] (pMust l ⟨a1, false⟩ [40])).1, (pExps l E [41] (pMust l ⟨a1, false⟩ [40])).2) := by simp [pStep, hq, beqL, h1, h2]
            rw [e]
            exact ctr_body follows F73_ok rfl (fun _ _ h => by cases h) rfl rfl (b73_call W0 hk l E s ht hl hs hE hle tx p a1 hq ha h1 h2)
          | false =>
            have e : pStep l E s = (.mk [118, 97, 114] tx 0 [], ⟨a1, false⟩) := by simp [pStep, hq, beqL, h1, h2]
            rw [e]
            exact ctr_body follows F73_ok rfl (fun _ _ h => by cases h) rfl rfl (b73_var W0 hk l E s ht hl hs hE hle tx p a1 hq ha h1 h2)
      | false =>
        cases g3 : beqL kd [107, 101, 121] with
        | true =>
          have e0 := beqL_iff.1 g3; subst e0
          cases k1 : beqL tx [102, 97, 108, 115, 101] with
          | true =>
            have e0 := beqL_iff.1 k1; subst e0
            have e : pStep l E s = (.mk [98, 111, 111, 108] [] 0 [], ⟨a1, false⟩) := by simp [pStep, hq, beqL]
            rw [e]
            exact ctr_body follows F73_ok rfl (fun _ _ h => by cases h) rfl rfl (b73_false W0 hk l E s ht hl hs hE hle p a1 hq ha)
          | false =>
            cases k2 : beqL tx [116, 114, 117, 101] with
            | true =>
              have e0 := beqL_iff.1 k2; subst e0
              have e : pStep l E s = (.mk [98, 111, 111, 108] [] 1 [], ⟨a1, false⟩) := by simp [pStep, hq, beqL]
              rw [e]
              exact ctr_body follows F73_ok rfl (fun _ _ h => by cases h) rfl rfl (b73_true W0 hk l E s ht hl hs hE hle p a1 hq ha)
            | false =>
              have e : pStep l E s = (Exp.mk [] [] 0 [], ⟨a1, true⟩) := by simp [beqL] at k1 k2; simp [pStep, hq, beqL, k1, k2]
              rw [e]
              exact ctr_body follows F73_ok rfl (fun _ _ h => by cases h) rfl rfl (b73_key W0 hk l E s ht hl hs hE hle tx p a1 hq ha k1 k2)
        | false =>
          cases g4 : beqL kd [115, 105, 103, 110] with
          | true =>
            have e0 := beqL_iff.1 g4; subst e0
            cases k1 : beqL tx [40] with
            | true =>
              have e0 := beqL_iff.1 k1; subst e0
              have e : pStep l E s = ((pInner l E ⟨a1, false⟩).1, pMust l (pInner l E ⟨a1, false⟩).2 [41]) := by simp [pStep, hq, beqL]
              rw [e]
              exact ctr_body follows F73_ok rfl (fun _ _ h => by cases h) rfl rfl (b73_paren W0 hk l E s ht hl hs hE hle p a1 hq ha (pInner_le hle _ ha).2)
            | false =>
              have e : pStep l E s = (Exp.mk [] [] 0 [], ⟨a1, true⟩) := by simp [beqL] at k1; simp [pStep, hq, beqL, k1]
              rw [e]
              exact ctr_body follows F73_ok rfl (fun _ _ h => by cases h) rfl rfl (b73_sign W0 hk l E s ht hl hs hE hle tx p a1 hq ha k1)
          | false =>
            have e : pStep l E s = (Exp.mk [] [] 0 [], ⟨a1, true⟩) := by simp only [pStep, hq, g1, g2, g3, g4, cond_false, Bool.false_and]
            rw [e]
            exact ctr_body follows F73_ok rfl (fun _ _ h => by cases h) rfl rfl (b73_other W0 hk l E s ht hl hs hE hle kd tx p a1 hq ha g1 g2 g3 g4)
theorem c73 (W0 : Go.World) (hk : Wk W0) (l : List T) (ht : tOK l) (hl : l.length ≤ 549755813888) : ∀ (n : Nat) (s : PS), s.a ≤ l.length → l.length - s.a < n → Ctr Tryz.prog W0 73 [.ptr 0 0] [pbx l s] (eE (pExp l n s).1) [pbx l (pExp l n s).2]
  | 0, s, _, h => absurd h (Nat.not_lt_zero _)
  | n + 1, s, hs, h => c73s W0 hk l (pExp l n) s ht hl hs (fun s' h1 h2 => c73 W0 hk l ht hl n s' h2 (by omega)) (pExp_le n)
end Go.Abs

set_option maxRecDepth 100000
namespace Go.Abs
open Go.Proofs
def F55 : Fn := ⟨.seq (.reg [⟨none, .mv 2 (.c (.sc .np))⟩, ⟨none, .mv 3 (.c (.sc (.i .i64 0)))⟩]) (.seq (.reg [⟨none, .mv 7 (.t 0)⟩, ⟨none, .call (some 8) (.c (.fn 107 [])) [.t 7]⟩, ⟨none, .mv 6 (.t 8)⟩, ⟨none, .ext 9 (.t 6) 0⟩, ⟨none, .ext 10 (.t 6) 1⟩, ⟨none, .mv 4 (.t 9)⟩, ⟨none, .mv 5 (.t 10)⟩]) (.seq (.reg [⟨none, .mv 11 (.t 4)⟩, ⟨none, .build 12 [.sl 3 [] .full, .sc (.i .i64 0), .sc (.b false)] [(0, (1, .t 11))]⟩, ⟨none, .box 13 (.t 12)⟩, ⟨none, .mv 14 (.t 5)⟩, ⟨none, .mv 2 (.t 13)⟩, ⟨none, .mv 3 (.t 14)⟩]) .ret)), [(2, 0), (3, 0)], 15⟩
def F59 : Fn := ⟨.seq (.reg [⟨none, .box 5 (.t 2)⟩, ⟨none, .mv 6 (.c (.sc (.i .i64 0)))⟩]) (.seq (.block 0 (.seq (.regD [⟨none, .mv 8 (.t 0)⟩, ⟨none, .nc 9 (.t 8)⟩, ⟨none, .fa 10 (.t 9) 2⟩, ⟨none, .ld 11 1 false (.t 10)⟩, ⟨none, .mv 12 (.t 11)⟩, ⟨some (12, false), .mv 13 (.t 0)⟩, ⟨some (12, false), .nc 14 (.t 13)⟩, ⟨some (12, false), .fa 15 (.t 14) 1⟩, ⟨some (12, false), .ld 16 1 false (.t 15)⟩, ⟨some (12, false), .mv 17 (.t 0)⟩, ⟨some (12, false), .nc 18 (.t 17)⟩, ⟨some (12, false), .fa 19 (.t 18) 0⟩, ⟨some (12, false), .ld 20 1 false (.t 19)⟩, ⟨some (12, false), .len 21 (.t 20)⟩, ⟨some (12, false), .bin 22 .neq (.t 16) (.t 21)⟩, ⟨none, .pick 23 (.t 12) (.c (.sc (.b true))) (.t 22)⟩, ⟨none, .mv 24 (.t 23)⟩, ⟨some (24, false), .mv 25 (.t 1)⟩, ⟨some (24, false), .no 26 (.t 25)⟩, ⟨none, .pick 27 (.t 24) (.c (.sc (.b true))) (.t 26)⟩, ⟨none, .mv 7 (.t 27)⟩] [0, 1, 3, 7, 15, 31, 63, 127, 255, 31, 543, 1567, 3615, 7711, 16383, 32767, 65535, 131071, 262143, 524287, 1048575]) (.cond (.t 7) (.seq (.reg [⟨none, .mv 6 (.c (.sc (.i .i64 20)))⟩]) .ret) (.seq (.reg [⟨none, .ld 29 2 true (.t 5)⟩, ⟨none, .call (some 30) (.c (.fn 51 [])) [.t 29]⟩, ⟨none, .no 31 (.t 30)⟩, ⟨none, .mv 28 (.t 31)⟩]) (.cond (.t 28) (.seq (.reg [⟨none, .mv 6 (.c (.sc (.i .i64 4)))⟩]) .ret) .skip))))) (.seq (.reg [⟨none, .mv 6 (.c (.sc (.i .i64 0)))⟩]) .ret)), [(6, 0)], 32⟩
def F28 : Fn := ⟨.seq (.reg [⟨none, .alloc 2 [.sc (.s []), .sc (.s []), .sc (.i .i64 0), .sl 4 [] .full]⟩, ⟨none, .mv 3 (.c (.sc (.i .i64 0)))⟩]) (.seq (.reg [⟨none, .mv 10 (.t 0)⟩, ⟨none, .call (some 11) (.c (.fn 55 [])) [.t 10]⟩, ⟨none, .mv 9 (.t 11)⟩, ⟨none, .ext 12 (.t 9) 0⟩, ⟨none, .ext 13 (.t 9) 1⟩, ⟨none, .mv 4 (.t 12)⟩, ⟨none, .mv 5 (.t 13)⟩]) (.seq (.seq (.reg [⟨none, .mv 14 (.t 5)⟩, ⟨none, .bin 15 .neq (.t 14) (.c (.sc (.i .i64 0)))⟩]) (.cond (.t 15) (.seq (.reg [⟨none, .build 16 [.sc (.s []), .sc (.s []), .sc (.i .i64 0), .sl 4 [] .full] []⟩, ⟨none, .mv 17 (.t 5)⟩, ⟨none, .st (.t 2) 4 (.t 16)⟩, ⟨none, .mv 3 (.t 17)⟩]) .ret) .skip)) (.seq (.reg [⟨none, .mv 18 (.t 4)⟩, ⟨none, .call (some 19) (.c (.fn 73 [])) [.t 18]⟩, ⟨none, .alloc 6 [.sc (.s []), .sc (.s []), .sc (.i .i64 0), .sl 4 [] .full]⟩, ⟨none, .st (.t 6) 4 (.t 19)⟩]) (.seq (.reg [⟨none, .ld 20 4 true (.t 6)⟩, ⟨none, .bsl 21 4 [.t 20]⟩, ⟨none, .mv 7 (.t 21)⟩]) (.seq (.seq (.reg [⟨none, .mv 22 (.t 4)⟩, ⟨none, .mv 23 (.t 7)⟩, ⟨none, .call (some 24) (.c (.fn 69 [])) [.t 23]⟩, ⟨none, .mv 25 (.t 7)⟩, ⟨none, .call (some 26) (.c (.fn 68 [])) [.t 25]⟩, ⟨none, .call (some 27) (.c (.fn 59 [])) [.t 22, .t 24, .t 26]⟩, ⟨none, .mv 8 (.t 27)⟩]) (.seq (.reg [⟨none, .mv 28 (.t 8)⟩, ⟨none, .bin 29 .neq (.t 28) (.c (.sc (.i .i64 0)))⟩]) (.cond (.t 29) (.seq (.reg [⟨none, .build 30 [.sc (.s []), .sc (.s []), .sc (.i .i64 0), .sl 4 [] .full] []⟩, ⟨none, .mv 31 (.t 8)⟩, ⟨none, .st (.t 2) 4 (.t 30)⟩, ⟨none, .mv 3 (.t 31)⟩]) .ret) .skip))) (.seq (.reg [⟨none, .ld 32 4 true (.t 6)⟩, ⟨none, .st (.t 2) 4 (.t 32)⟩, ⟨none, .mv 3 (.c (.sc (.i .i64 0)))⟩]) .ret)))))), [(2, 4), (3, 0)], 33⟩
theorem F55_ok : compT Tryz.prog (fun _ => an0) 55 = some F55 := by kernel_rfl
theorem F59_ok : compT Tryz.prog (fun _ => an0) 59 = some F59 := by kernel_rfl
theorem F28_ok : compT Tryz.prog (fun _ => an0) 28 = some F28 := by kernel_rfl
def txtX (x : Exp) (e : Int) : AV := .tup [eE x, .sc (.i .i64 e)]
end Go.Abs
