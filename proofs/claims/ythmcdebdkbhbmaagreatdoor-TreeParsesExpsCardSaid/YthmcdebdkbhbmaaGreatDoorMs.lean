/- The reader of the reference: an expression, once. -/
import Derived.Test.YthmcdebdkbhbmaaGreatDoorMr
set_option maxRecDepth 100000
namespace Go.Abs
open Go.Proofs
def F146 : Fn := ⟨.seq (.reg [⟨none, .alloc 2 [.sc (.s []), .sc (.s []), .sc (.i .i64 0), .sl 4 [] .full]⟩]) (.seq (.reg [⟨none, .mv 8 (.t 0)⟩, ⟨none, .call (some 9) (.c (.fn 118 [])) [.t 8, .c (.sc (.i .i64 0))]⟩, ⟨none, .mv 7 (.t 9)⟩, ⟨none, .ext 10 (.t 7) 0⟩, ⟨none, .ext 11 (.t 7) 1⟩, ⟨none, .mv 3 (.t 10)⟩, ⟨none, .mv 4 (.t 11)⟩]) (.seq (.block 0 (.seq (.reg [⟨none, .mv 13 (.t 4)⟩, ⟨none, .bin 14 .eql (.t 13) (.c (.sc (.s [105, 110, 116])))⟩, ⟨none, .mv 12 (.t 14)⟩]) (.cond (.t 12) (.seq (.reg [⟨none, .mv 15 (.t 0)⟩, ⟨none, .call (some 16) (.c (.fn 122 [])) [.t 15]⟩, ⟨none, .build 17 [.sc (.s []), .sc (.s []), .sc (.i .i64 0), .sl 4 [] .full] [(0, (1, .c (.sc (.s [105, 110, 116])))), (2, (1, .t 16))]⟩, ⟨none, .st (.t 2) 4 (.t 17)⟩]) .ret) (.seq (.seq (.reg [⟨none, .mv 19 (.t 0)⟩, ⟨none, .call (some 20) (.c (.fn 60 [])) [.t 19, .c (.sc (.s [116, 114, 117, 101]))]⟩, ⟨none, .mv 18 (.t 20)⟩]) (.cond (.t 18) .skip (.reg [⟨none, .mv 21 (.t 0)⟩, ⟨none, .call (some 22) (.c (.fn 60 [])) [.t 21, .c (.sc (.s [102, 97, 108, 115, 101]))]⟩, ⟨none, .mv 18 (.t 22)⟩]))) (.cond (.t 18) (.seq (.reg [⟨none, .mv 23 (.t 0)⟩, ⟨none, .nc 24 (.t 23)⟩, ⟨none, .fa 25 (.t 24) 1⟩, ⟨none, .ld 26 1 false (.t 25)⟩, ⟨none, .bin 27 .add (.t 26) (.c (.sc (.i .i64 1)))⟩, ⟨none, .nc 28 (.t 23)⟩, ⟨none, .fa 29 (.t 28) 1⟩, ⟨none, .st (.t 29) 1 (.t 27)⟩]) (.seq (.reg [⟨none, .build 30 [.sc (.s []), .sc (.s []), .sc (.i .i64 0), .sl 4 [] .full] [(0, (1, .c (.sc (.s [98, 111, 111, 108]))))]⟩, ⟨none, .alloc 5 [.sc (.s []), .sc (.s []), .sc (.i .i64 0), .sl 4 [] .full]⟩, ⟨none, .st (.t 5) 4 (.t 30)⟩]) (.seq (.seq (.reg [⟨none, .mv 31 (.t 3)⟩, ⟨none, .bin 32 .eql (.t 31) (.c (.sc (.s [116, 114, 117, 101])))⟩]) (.cond (.t 32) (.reg [⟨none, .fa 33 (.t 5) 2⟩, ⟨none, .st (.t 33) 1 (.c (.sc (.i .i64 1)))⟩]) .skip)) (.seq (.reg [⟨none, .ld 34 4 true (.t 5)⟩, ⟨none, .st (.t 2) 4 (.t 34)⟩]) .ret)))) (.seq (.reg [⟨none, .mv 36 (.t 4)⟩, ⟨none, .bin 37 .eql (.t 36) (.c (.sc (.s [110, 97, 109, 101])))⟩, ⟨none, .mv 35 (.t 37)⟩]) (.cond (.t 35) (.seq (.reg [⟨none, .mv 38 (.t 0)⟩, ⟨none, .nc 39 (.t 38)⟩, ⟨none, .fa 40 (.t 39) 1⟩, ⟨none, .ld 41 1 false (.t 40)⟩, ⟨none, .bin 42 .add (.t 41) (.c (.sc (.i .i64 1)))⟩, ⟨none, .nc 43 (.t 38)⟩, ⟨none, .fa 44 (.t 43) 1⟩, ⟨none, .st (.t 44) 1 (.t 42)⟩]) (.seq (.seq (.reg [⟨none, .mv 45 (.t 0)⟩, ⟨none, .call (some 46) (.c (.fn 60 [])) [.t 45, .c (.sc (.s [91]))]⟩]) (.cond (.t 46) (.seq (.reg [⟨none, .mv 47 (.t 0)⟩, ⟨none, .nc 48 (.t 47)⟩, ⟨none, .fa 49 (.t 48) 1⟩, ⟨none, .ld 50 1 false (.t 49)⟩, ⟨none, .bin 51 .add (.t 50) (.c (.sc (.i .i64 1)))⟩, ⟨none, .nc 52 (.t 47)⟩, ⟨none, .fa 53 (.t 52) 1⟩, ⟨none, .st (.t 53) 1 (.t 51)⟩]) (.seq (.reg [⟨none, .mv 54 (.t 3)⟩, ⟨none, .mv 55 (.t 0)⟩, ⟨none, .call (some 56) (.c (.fn 182 [])) [.t 55, .c (.sc (.s [93]))]⟩, ⟨none, .build 57 [.sc (.s []), .sc (.s []), .sc (.i .i64 0), .sl 4 [] .full] [(0, (1, .c (.sc (.s [97, 116])))), (1, (1, .t 54)), (3, (1, .t 56))]⟩, ⟨none, .st (.t 2) 4 (.t 57)⟩]) .ret)) .skip)) (.seq (.seq (.reg [⟨none, .mv 58 (.t 0)⟩, ⟨none, .call (some 59) (.c (.fn 190 [])) [.t 58]⟩]) (.cond (.t 59) (.seq (.reg [⟨none, .mv 60 (.t 0)⟩, ⟨none, .nc 61 (.t 60)⟩, ⟨none, .fa 62 (.t 61) 1⟩, ⟨none, .ld 63 1 false (.t 62)⟩, ⟨none, .bin 64 .add (.t 63) (.c (.sc (.i .i64 1)))⟩, ⟨none, .nc 65 (.t 60)⟩, ⟨none, .fa 66 (.t 65) 1⟩, ⟨none, .st (.t 66) 1 (.t 64)⟩]) (.seq (.reg [⟨none, .mv 67 (.t 3)⟩, ⟨none, .mv 68 (.t 0)⟩, ⟨none, .call (some 69) (.c (.fn 182 [])) [.t 68, .c (.sc (.s [41]))]⟩, ⟨none, .build 70 [.sc (.s []), .sc (.s []), .sc (.i .i64 0), .sl 4 [] .full] [(0, (1, .c (.sc (.s [99, 97, 108, 108])))), (1, (1, .t 67)), (3, (1, .t 69))]⟩, ⟨none, .st (.t 2) 4 (.t 70)⟩]) .ret)) .skip)) (.seq (.reg [⟨none, .mv 71 (.t 3)⟩, ⟨none, .build 72 [.sc (.s []), .sc (.s []), .sc (.i .i64 0), .sl 4 [] .full] [(0, (1, .c (.sc (.s [118, 97, 114])))), (1, (1, .t 71))]⟩, ⟨none, .st (.t 2) 4 (.t 72)⟩]) .ret)))) .skip))))))) (.seq (.reg [⟨none, .mv 73 (.t 0)⟩, ⟨none, .bsl 74 1 [.c (.sc (.s [40]))]⟩, ⟨none, .call (some 75) (.c (.fn 119 [])) [.t 73, .t 74]⟩]) (.seq (.reg [⟨none, .mv 76 (.t 0)⟩, ⟨none, .call (some 77) (.c (.fn 191 [])) [.t 76]⟩, ⟨none, .alloc 6 [.sc (.s []), .sc (.s []), .sc (.i .i64 0), .sl 4 [] .full]⟩, ⟨none, .st (.t 6) 4 (.t 77)⟩]) (.seq (.reg [⟨none, .mv 78 (.t 0)⟩, ⟨none, .bsl 79 1 [.c (.sc (.s [41]))]⟩, ⟨none, .call (some 80) (.c (.fn 119 [])) [.t 78, .t 79]⟩]) (.seq (.reg [⟨none, .ld 81 4 true (.t 6)⟩, ⟨none, .st (.t 2) 4 (.t 81)⟩]) .ret)))))), [(2, 4)], 82⟩
theorem F146_ok : compT Tryz.prog (fun _ => an0) 146 = some F146 := by kernel_rfl
set_option maxHeartbeats 8000000 in
theorem b146_int (W0 : Go.World) (hk : Wk W0) (l : List T) (E : PS → Exp × PS) (m : PS → Mem → Mem) (M : Mem) (hl : l.length ≤ 549755813888) (a : Nat) (hR : RdC W0 l a E m) (hs : a ≤ l.length) (hp : Ph l ⟨a, false⟩ ≤ 4000000000000) (ht : tOK l) (hI : Inv l M) (tx : S) (p : Int) (hq : pPeek l ⟨a, false⟩ = ([105, 110, 116], tx, p))  :
    ∃ M', Inv l M' ∧ Body (Ctr Tryz.prog W0) F146.ac F146.rs [.ptr 0 0] [rbx l ⟨a, false⟩, mbx M] (eE (Exp.mk [105, 110, 116] [] (numV tx) [])) [rbx l (rNum l ⟨a, false⟩), mbx M'] := by
  refine ⟨M, hI, ?_⟩
  conv => whnf
  (refine callP.full [0, 1] [] [.ptr 0 0, .sc (.i .i64 (0))] [rbx l _, mbx _] [rbx l _, mbx _] _ (c118 W0 l ⟨a, false⟩ M (Nat.le_trans hl (by decide)) (by simp only; omega)) ⟨rfl, rfl, rfl, rfl, rfl, rfl, rfl, rfl, rfl, rfl, ⟨rfl, rfl, trivial⟩, ⟨⟨⟨rfl, rfl, .inr rfl⟩, rfl, rfl, rfl, trivial⟩, ⟨rfl, trivial⟩, trivial⟩, trivial⟩ ?_)
  rw [hq]
  conv => whnf
  have hc := c122 W0 l ⟨a, false⟩ M (Nat.le_trans hl (by decide)) ht (by simp only [rTake, rWant, rNum]; omega)
  rw [hq] at hc
  repeat' ((conv => whnf); (first | with_reducible refine brec (fun _ => ?_) (fun _ => ?_) | (refine callP.full [0, 1] [] [.ptr 0 0] [rbx l _, mbx _] [rbx l _, mbx _] _ (hc) ⟨rfl, rfl, rfl, rfl, rfl, rfl, rfl, rfl, rfl, rfl, ⟨rfl, trivial⟩, ⟨⟨⟨rfl, rfl, .inr rfl⟩, rfl, rfl, rfl, trivial⟩, ⟨rfl, trivial⟩, trivial⟩, trivial⟩ ?_) | fail))
  all_goals (conv => whnf)
  all_goals (first | (refine fin_rw rfl rfl rfl rfl rfl rfl rfl ?_ rfl; exact ⟨rfl, rfl, rfl, ⟨rfl, rfl, .inl rfl⟩, trivial⟩))
set_option maxHeartbeats 8000000 in
theorem b146_tt (W0 : Go.World) (hk : Wk W0) (l : List T) (E : PS → Exp × PS) (m : PS → Mem → Mem) (M : Mem) (hl : l.length ≤ 549755813888) (a : Nat) (hR : RdC W0 l a E m) (hs : a ≤ l.length) (hp : Ph l ⟨a, false⟩ ≤ 4000000000000) (ht : tOK l) (hI : Inv l M) (kd : S) (p : Int) (hq : pPeek l ⟨a, false⟩ = (kd, [116, 114, 117, 101], p)) (g1 : beqL kd [105, 110, 116] = false) (g2 : pIs l ⟨a, false⟩ [116, 114, 117, 101] = true) :
    ∃ M', Inv l M' ∧ Body (Ctr Tryz.prog W0) F146.ac F146.rs [.ptr 0 0] [rbx l ⟨a, false⟩, mbx M] (eE (Exp.mk [98, 111, 111, 108] [] 1 [])) [rbx l (⟨a + 1, false⟩), mbx M'] := by
  refine ⟨M, hI, ?_⟩
  conv => whnf
  (refine callP.full [0, 1] [] [.ptr 0 0, .sc (.i .i64 (0))] [rbx l _, mbx _] [rbx l _, mbx _] _ (c118 W0 l ⟨a, false⟩ M (Nat.le_trans hl (by decide)) (by simp only; omega)) ⟨rfl, rfl, rfl, rfl, rfl, rfl, rfl, rfl, rfl, rfl, ⟨rfl, rfl, trivial⟩, ⟨⟨⟨rfl, rfl, .inr rfl⟩, rfl, rfl, rfl, trivial⟩, ⟨rfl, trivial⟩, trivial⟩, trivial⟩ ?_)
  rw [hq]
  conv => whnf
  rw [g1]
  conv => whnf
  (refine callP.full [0, 1] [] [.ptr 0 0, .sc (.s [116, 114, 117, 101])] [rbx l _, mbx _] [rbx l _, mbx _] _ (c60 W0 l ⟨a, false⟩ M [116, 114, 117, 101] (Nat.le_trans hl (by decide)) (by simp only [rTake, rWant, rNum]; omega)) ⟨rfl, rfl, rfl, rfl, rfl, rfl, rfl, rfl, rfl, rfl, ⟨rfl, rfl, trivial⟩, ⟨⟨⟨rfl, rfl, .inr rfl⟩, rfl, rfl, rfl, trivial⟩, ⟨rfl, trivial⟩, trivial⟩, trivial⟩ ?_)
  rw [g2]
  repeat' ((conv => whnf); (first | with_reducible refine brec (fun _ => ?_) (fun _ => ?_) | (refine And.intro (by constructor <;> ((try simp only); omega)) ?_) | fail))
  all_goals (conv => whnf)
  all_goals (first | (refine fin_rw rfl rfl rfl rfl rfl rfl rfl ?_ rfl; exact ⟨rfl, rfl, rfl, ⟨rfl, rfl, .inl rfl⟩, trivial⟩))
set_option maxHeartbeats 8000000 in
theorem b146_ff (W0 : Go.World) (hk : Wk W0) (l : List T) (E : PS → Exp × PS) (m : PS → Mem → Mem) (M : Mem) (hl : l.length ≤ 549755813888) (a : Nat) (hR : RdC W0 l a E m) (hs : a ≤ l.length) (hp : Ph l ⟨a, false⟩ ≤ 4000000000000) (ht : tOK l) (hI : Inv l M) (kd : S) (p : Int) (hq : pPeek l ⟨a, false⟩ = (kd, [102, 97, 108, 115, 101], p)) (g1 : beqL kd [105, 110, 116] = false) (g2 : pIs l ⟨a, false⟩ [116, 114, 117, 101] = false) (g3 : pIs l ⟨a, false⟩ [102, 97, 108, 115, 101] = true) :
    ∃ M', Inv l M' ∧ Body (Ctr Tryz.prog W0) F146.ac F146.rs [.ptr 0 0] [rbx l ⟨a, false⟩, mbx M] (eE (Exp.mk [98, 111, 111, 108] [] 0 [])) [rbx l (⟨a + 1, false⟩), mbx M'] := by
  refine ⟨M, hI, ?_⟩
  conv => whnf
  (refine callP.full [0, 1] [] [.ptr 0 0, .sc (.i .i64 (0))] [rbx l _, mbx _] [rbx l _, mbx _] _ (c118 W0 l ⟨a, false⟩ M (Nat.le_trans hl (by decide)) (by simp only; omega)) ⟨rfl, rfl, rfl, rfl, rfl, rfl, rfl, rfl, rfl, rfl, ⟨rfl, rfl, trivial⟩, ⟨⟨⟨rfl, rfl, .inr rfl⟩, rfl, rfl, rfl, trivial⟩, ⟨rfl, trivial⟩, trivial⟩, trivial⟩ ?_)
  rw [hq]
  conv => whnf
  rw [g1]
  conv => whnf
  (refine callP.full [0, 1] [] [.ptr 0 0, .sc (.s [116, 114, 117, 101])] [rbx l _, mbx _] [rbx l _, mbx _] _ (c60 W0 l ⟨a, false⟩ M [116, 114, 117, 101] (Nat.le_trans hl (by decide)) (by simp only [rTake, rWant, rNum]; omega)) ⟨rfl, rfl, rfl, rfl, rfl, rfl, rfl, rfl, rfl, rfl, ⟨rfl, rfl, trivial⟩, ⟨⟨⟨rfl, rfl, .inr rfl⟩, rfl, rfl, rfl, trivial⟩, ⟨rfl, trivial⟩, trivial⟩, trivial⟩ ?_)
  rw [g2]
  conv => whnf
  (refine callP.full [0, 1] [] [.ptr 0 0, .sc (.s [102, 97, 108, 115, 101])] [rbx l _, mbx _] [rbx l _, mbx _] _ (c60 W0 l ⟨a, false⟩ M [102, 97, 108, 115, 101] (Nat.le_trans hl (by decide)) (by simp only [rTake, rWant, rNum]; omega)) ⟨rfl, rfl, rfl, rfl, rfl, rfl, rfl, rfl, rfl, rfl, ⟨rfl, rfl, trivial⟩, ⟨⟨⟨rfl, rfl, .inr rfl⟩, rfl, rfl, rfl, trivial⟩, ⟨rfl, trivial⟩, trivial⟩, trivial⟩ ?_)
  rw [g3]
  repeat' ((conv => whnf); (first | with_reducible refine brec (fun _ => ?_) (fun _ => ?_) | (refine And.intro (by constructor <;> ((try simp only); omega)) ?_) | fail))
  all_goals (conv => whnf)
  all_goals (first | (refine fin_rw rfl rfl rfl rfl rfl rfl rfl ?_ rfl; exact ⟨rfl, rfl, rfl, ⟨rfl, rfl, .inl rfl⟩, trivial⟩))
set_option maxHeartbeats 8000000 in
theorem b146_at (W0 : Go.World) (hk : Wk W0) (l : List T) (E : PS → Exp × PS) (m : PS → Mem → Mem) (M : Mem) (hl : l.length ≤ 549755813888) (a : Nat) (hR : RdC W0 l a E m) (hs : a ≤ l.length) (hp : Ph l ⟨a, false⟩ ≤ 4000000000000) (ht : tOK l) (hI : Inv l M) (tx : S) (p : Int) (hq : pPeek l ⟨a, false⟩ = ([110, 97, 109, 101], tx, p)) (g2 : pIs l ⟨a, false⟩ [116, 114, 117, 101] = false) (g3 : pIs l ⟨a, false⟩ [102, 97, 108, 115, 101] = false) (h5 : pIs l ⟨a + 1, false⟩ [91] = true) :
    ∃ M', Inv l M' ∧ Body (Ctr Tryz.prog W0) F146.ac F146.rs [.ptr 0 0] [rbx l ⟨a, false⟩, mbx M] (eE (Exp.mk [97, 116] tx 0 (rExps l E [93] ⟨a + 1 + 1, false⟩).1)) [rbx l ((rExps l E [93] ⟨a + 1 + 1, false⟩).2), mbx M'] := by
  have hlt : a < l.length := (peek_lt (l := l) (s := ⟨a, false⟩) (.inl (by rw [hq]; simp))).2
  have h1 : Mv l (-6) 1 ⟨a, false⟩ ⟨a + 1, false⟩ := mv_at (s := ⟨a, false⟩) rfl hlt
  have hp1 := h1.ph
  have hc1 : Cd l a ⟨a + 1, false⟩ := h1.cd1
  have hlt2 : a + 1 < l.length := (is_lt h5).2
  have h2 : Mv l (-6) 1 ⟨a + 1, false⟩ ⟨a + 1 + 1, false⟩ := mv_at (s := ⟨a + 1, false⟩) rfl hlt2
  have hp2 := h2.ph
  have hc2 : Cd l a ⟨a + 1 + 1, false⟩ := h2.cd hc1
  refine ⟨mExps l E m [93] ⟨a + 1 + 1, false⟩ M, inv_exps hR [93] _ M hc2 (by omega) hI, ?_⟩
  conv => whnf
  (refine callP.full [0, 1] [] [.ptr 0 0, .sc (.i .i64 (0))] [rbx l _, mbx _] [rbx l _, mbx _] _ (c118 W0 l ⟨a, false⟩ M (Nat.le_trans hl (by decide)) (by simp only; omega)) ⟨rfl, rfl, rfl, rfl, rfl, rfl, rfl, rfl, rfl, rfl, ⟨rfl, rfl, trivial⟩, ⟨⟨⟨rfl, rfl, .inr rfl⟩, rfl, rfl, rfl, trivial⟩, ⟨rfl, trivial⟩, trivial⟩, trivial⟩ ?_)
  rw [hq]
  conv => whnf
  (refine callP.full [0, 1] [] [.ptr 0 0, .sc (.s [116, 114, 117, 101])] [rbx l _, mbx _] [rbx l _, mbx _] _ (c60 W0 l ⟨a, false⟩ M [116, 114, 117, 101] (Nat.le_trans hl (by decide)) (by simp only [rTake, rWant, rNum]; omega)) ⟨rfl, rfl, rfl, rfl, rfl, rfl, rfl, rfl, rfl, rfl, ⟨rfl, rfl, trivial⟩, ⟨⟨⟨rfl, rfl, .inr rfl⟩, rfl, rfl, rfl, trivial⟩, ⟨rfl, trivial⟩, trivial⟩, trivial⟩ ?_)
  rw [g2]
  conv => whnf
  (refine callP.full [0, 1] [] [.ptr 0 0, .sc (.s [102, 97, 108, 115, 101])] [rbx l _, mbx _] [rbx l _, mbx _] _ (c60 W0 l ⟨a, false⟩ M [102, 97, 108, 115, 101] (Nat.le_trans hl (by decide)) (by simp only [rTake, rWant, rNum]; omega)) ⟨rfl, rfl, rfl, rfl, rfl, rfl, rfl, rfl, rfl, rfl, ⟨rfl, rfl, trivial⟩, ⟨⟨⟨rfl, rfl, .inr rfl⟩, rfl, rfl, rfl, trivial⟩, ⟨rfl, trivial⟩, trivial⟩, trivial⟩ ?_)
  rw [g3]
  conv => whnf
  refine And.intro (by constructor <;> ((try simp only); omega)) ?_
  conv => whnf
  (refine callP.full [0, 1] [] [.ptr 0 0, .sc (.s [91])] [rbx l _, mbx _] [rbx l _, mbx _] _ (c60 W0 l ⟨a + 1, false⟩ M [91] (Nat.le_trans hl (by decide)) (by simp only [rTake, rWant, rNum]; omega)) ⟨rfl, rfl, rfl, rfl, rfl, rfl, rfl, rfl, rfl, rfl, ⟨rfl, rfl, trivial⟩, ⟨⟨⟨rfl, rfl, .inr rfl⟩, rfl, rfl, rfl, trivial⟩, ⟨rfl, trivial⟩, trivial⟩, trivial⟩ ?_)
  rw [h5]
  repeat' ((conv => whnf); (first | with_reducible refine brec (fun _ => ?_) (fun _ => ?_) | (refine callP.full [0, 1] [] [.ptr 0 0, .sc (.s [93])] [rbx l _, mbx _] [rbx l _, mbx _] _ (c182 W0 l a E m ⟨a + 1 + 1, false⟩ M hl hR hc2 (by omega) hI [93]) ⟨rfl, rfl, rfl, rfl, rfl, rfl, rfl, rfl, rfl, rfl, ⟨rfl, rfl, trivial⟩, ⟨⟨⟨rfl, rfl, .inr rfl⟩, rfl, rfl, rfl, trivial⟩, ⟨rfl, trivial⟩, trivial⟩, trivial⟩ ?_) | (refine And.intro (by constructor <;> ((try simp only); omega)) ?_) | fail))
  all_goals (conv => whnf)
  all_goals (first | (refine fin_rw rfl rfl rfl rfl rfl rfl rfl ?_ rfl; exact ⟨rfl, rfl, rfl, ⟨rfl, rfl, .inl rfl⟩, trivial⟩))
set_option maxHeartbeats 8000000 in
theorem b146_call (W0 : Go.World) (hk : Wk W0) (l : List T) (E : PS → Exp × PS) (m : PS → Mem → Mem) (M : Mem) (hl : l.length ≤ 549755813888) (a : Nat) (hR : RdC W0 l a E m) (hs : a ≤ l.length) (hp : Ph l ⟨a, false⟩ ≤ 4000000000000) (ht : tOK l) (hI : Inv l M) (tx : S) (p : Int) (hq : pPeek l ⟨a, false⟩ = ([110, 97, 109, 101], tx, p)) (g2 : pIs l ⟨a, false⟩ [116, 114, 117, 101] = false) (g3 : pIs l ⟨a, false⟩ [102, 97, 108, 115, 101] = false) (h5 : pIs l ⟨a + 1, false⟩ [91] = false) (h6 : rIsCall l E ⟨a + 1, false⟩ = true) (h7 : pIs l ⟨a + 1, false⟩ [40] = true) :
    ∃ M', Inv l M' ∧ Body (Ctr Tryz.prog W0) F146.ac F146.rs [.ptr 0 0] [rbx l ⟨a, false⟩, mbx M] (eE (Exp.mk [99, 97, 108, 108] tx 0 (rExps l E [41] ⟨a + 1 + 1, false⟩).1)) [rbx l ((rExps l E [41] ⟨a + 1 + 1, false⟩).2), mbx M'] := by
  have hlt : a < l.length := (peek_lt (l := l) (s := ⟨a, false⟩) (.inl (by rw [hq]; simp))).2
  have h1 : Mv l (-6) 1 ⟨a, false⟩ ⟨a + 1, false⟩ := mv_at (s := ⟨a, false⟩) rfl hlt
  have hp1 := h1.ph
  have hc1 : Cd l a ⟨a + 1, false⟩ := h1.cd1
  have hlt2 : a + 1 < l.length := (is_lt h7).2
  have h2 : Mv l (-6) 1 ⟨a + 1, false⟩ ⟨a + 1 + 1, false⟩ := mv_at (s := ⟨a + 1, false⟩) rfl hlt2
  have hp2 := h2.ph
  have hc2 : Cd l a ⟨a + 1 + 1, false⟩ := h2.cd hc1
  have hI2 := inv_call hR ⟨a + 1, false⟩ M hc1 (by omega) hI
  refine ⟨mExps l E m [41] ⟨a + 1 + 1, false⟩ (mCall l m ⟨a + 1, false⟩ M), inv_exps hR [41] _ _ hc2 (by omega) hI2, ?_⟩
  conv => whnf
  (refine callP.full [0, 1] [] [.ptr 0 0, .sc (.i .i64 (0))] [rbx l _, mbx _] [rbx l _, mbx _] _ (c118 W0 l ⟨a, false⟩ M (Nat.le_trans hl (by decide)) (by simp only; omega)) ⟨rfl, rfl, rfl, rfl, rfl, rfl, rfl, rfl, rfl, rfl, ⟨rfl, rfl, trivial⟩, ⟨⟨⟨rfl, rfl, .inr rfl⟩, rfl, rfl, rfl, trivial⟩, ⟨rfl, trivial⟩, trivial⟩, trivial⟩ ?_)
  rw [hq]
  conv => whnf
  (refine callP.full [0, 1] [] [.ptr 0 0, .sc (.s [116, 114, 117, 101])] [rbx l _, mbx _] [rbx l _, mbx _] _ (c60 W0 l ⟨a, false⟩ M [116, 114, 117, 101] (Nat.le_trans hl (by decide)) (by simp only [rTake, rWant, rNum]; omega)) ⟨rfl, rfl, rfl, rfl, rfl, rfl, rfl, rfl, rfl, rfl, ⟨rfl, rfl, trivial⟩, ⟨⟨⟨rfl, rfl, .inr rfl⟩, rfl, rfl, rfl, trivial⟩, ⟨rfl, trivial⟩, trivial⟩, trivial⟩ ?_)
  rw [g2]
  conv => whnf
  (refine callP.full [0, 1] [] [.ptr 0 0, .sc (.s [102, 97, 108, 115, 101])] [rbx l _, mbx _] [rbx l _, mbx _] _ (c60 W0 l ⟨a, false⟩ M [102, 97, 108, 115, 101] (Nat.le_trans hl (by decide)) (by simp only [rTake, rWant, rNum]; omega)) ⟨rfl, rfl, rfl, rfl, rfl, rfl, rfl, rfl, rfl, rfl, ⟨rfl, rfl, trivial⟩, ⟨⟨⟨rfl, rfl, .inr rfl⟩, rfl, rfl, rfl, trivial⟩, ⟨rfl, trivial⟩, trivial⟩, trivial⟩ ?_)
  rw [g3]
  conv => whnf
  refine And.intro (by constructor <;> ((try simp only); omega)) ?_
  conv => whnf
  (refine callP.full [0, 1] [] [.ptr 0 0, .sc (.s [91])] [rbx l _, mbx _] [rbx l _, mbx _] _ (c60 W0 l ⟨a + 1, false⟩ M [91] (Nat.le_trans hl (by decide)) (by simp only [rTake, rWant, rNum]; omega)) ⟨rfl, rfl, rfl, rfl, rfl, rfl, rfl, rfl, rfl, rfl, ⟨rfl, rfl, trivial⟩, ⟨⟨⟨rfl, rfl, .inr rfl⟩, rfl, rfl, rfl, trivial⟩, ⟨rfl, trivial⟩, trivial⟩, trivial⟩ ?_)
  rw [h5]
  conv => whnf
  (refine callP.full [0, 1] [] [.ptr 0 0] [rbx l _, mbx _] [rbx l _, mbx _] _ (c190 W0 l a E m ⟨a + 1, false⟩ M hl hR hc1 (by omega) hI) ⟨rfl, rfl, rfl, rfl, rfl, rfl, rfl, rfl, rfl, rfl, ⟨rfl, trivial⟩, ⟨⟨⟨rfl, rfl, .inr rfl⟩, rfl, rfl, rfl, trivial⟩, ⟨rfl, trivial⟩, trivial⟩, trivial⟩ ?_)
  rw [h6]
  repeat' ((conv => whnf); (first | with_reducible refine brec (fun _ => ?_) (fun _ => ?_) | (refine callP.full [0, 1] [] [.ptr 0 0, .sc (.s [41])] [rbx l _, mbx _] [rbx l _, mbx _] _ (c182 W0 l a E m ⟨a + 1 + 1, false⟩ (mCall l m ⟨a + 1, false⟩ M) hl hR hc2 (by omega) hI2 [41]) ⟨rfl, rfl, rfl, rfl, rfl, rfl, rfl, rfl, rfl, rfl, ⟨rfl, rfl, trivial⟩, ⟨⟨⟨rfl, rfl, .inr rfl⟩, rfl, rfl, rfl, trivial⟩, ⟨rfl, trivial⟩, trivial⟩, trivial⟩ ?_) | (refine And.intro (by constructor <;> ((try simp only); omega)) ?_) | fail))
  all_goals (conv => whnf)
  all_goals (first | (refine fin_rw rfl rfl rfl rfl rfl rfl rfl ?_ rfl; exact ⟨rfl, rfl, rfl, ⟨rfl, rfl, .inl rfl⟩, trivial⟩))
set_option maxHeartbeats 8000000 in
theorem b146_var (W0 : Go.World) (hk : Wk W0) (l : List T) (E : PS → Exp × PS) (m : PS → Mem → Mem) (M : Mem) (hl : l.length ≤ 549755813888) (a : Nat) (hR : RdC W0 l a E m) (hs : a ≤ l.length) (hp : Ph l ⟨a, false⟩ ≤ 4000000000000) (ht : tOK l) (hI : Inv l M) (tx : S) (p : Int) (hq : pPeek l ⟨a, false⟩ = ([110, 97, 109, 101], tx, p)) (g2 : pIs l ⟨a, false⟩ [116, 114, 117, 101] = false) (g3 : pIs l ⟨a, false⟩ [102, 97, 108, 115, 101] = false) (h5 : pIs l ⟨a + 1, false⟩ [91] = false) (h6 : rIsCall l E ⟨a + 1, false⟩ = false) :
    ∃ M', Inv l M' ∧ Body (Ctr Tryz.prog W0) F146.ac F146.rs [.ptr 0 0] [rbx l ⟨a, false⟩, mbx M] (eE (Exp.mk [118, 97, 114] tx 0 [])) [rbx l (⟨a + 1, false⟩), mbx M'] := by
  have hlt : a < l.length := (peek_lt (l := l) (s := ⟨a, false⟩) (.inl (by rw [hq]; simp))).2
  have h1 : Mv l (-6) 1 ⟨a, false⟩ ⟨a + 1, false⟩ := mv_at (s := ⟨a, false⟩) rfl hlt
  have hp1 := h1.ph
  have hc1 : Cd l a ⟨a + 1, false⟩ := h1.cd1
  refine ⟨mCall l m ⟨a + 1, false⟩ M, inv_call hR ⟨a + 1, false⟩ M hc1 (by omega) hI, ?_⟩
  conv => whnf
  (refine callP.full [0, 1] [] [.ptr 0 0, .sc (.i .i64 (0))] [rbx l _, mbx _] [rbx l _, mbx _] _ (c118 W0 l ⟨a, false⟩ M (Nat.le_trans hl (by decide)) (by simp only; omega)) ⟨rfl, rfl, rfl, rfl, rfl, rfl, rfl, rfl, rfl, rfl, ⟨rfl, rfl, trivial⟩, ⟨⟨⟨rfl, rfl, .inr rfl⟩, rfl, rfl, rfl, trivial⟩, ⟨rfl, trivial⟩, trivial⟩, trivial⟩ ?_)
  rw [hq]
  conv => whnf
  (refine callP.full [0, 1] [] [.ptr 0 0, .sc (.s [116, 114, 117, 101])] [rbx l _, mbx _] [rbx l _, mbx _] _ (c60 W0 l ⟨a, false⟩ M [116, 114, 117, 101] (Nat.le_trans hl (by decide)) (by simp only [rTake, rWant, rNum]; omega)) ⟨rfl, rfl, rfl, rfl, rfl, rfl, rfl, rfl, rfl, rfl, ⟨rfl, rfl, trivial⟩, ⟨⟨⟨rfl, rfl, .inr rfl⟩, rfl, rfl, rfl, trivial⟩, ⟨rfl, trivial⟩, trivial⟩, trivial⟩ ?_)
  rw [g2]
  conv => whnf
  (refine callP.full [0, 1] [] [.ptr 0 0, .sc (.s [102, 97, 108, 115, 101])] [rbx l _, mbx _] [rbx l _, mbx _] _ (c60 W0 l ⟨a, false⟩ M [102, 97, 108, 115, 101] (Nat.le_trans hl (by decide)) (by simp only [rTake, rWant, rNum]; omega)) ⟨rfl, rfl, rfl, rfl, rfl, rfl, rfl, rfl, rfl, rfl, ⟨rfl, rfl, trivial⟩, ⟨⟨⟨rfl, rfl, .inr rfl⟩, rfl, rfl, rfl, trivial⟩, ⟨rfl, trivial⟩, trivial⟩, trivial⟩ ?_)
  rw [g3]
  conv => whnf
  refine And.intro (by constructor <;> ((try simp only); omega)) ?_
  conv => whnf
  (refine callP.full [0, 1] [] [.ptr 0 0, .sc (.s [91])] [rbx l _, mbx _] [rbx l _, mbx _] _ (c60 W0 l ⟨a + 1, false⟩ M [91] (Nat.le_trans hl (by decide)) (by simp only [rTake, rWant, rNum]; omega)) ⟨rfl, rfl, rfl, rfl, rfl, rfl, rfl, rfl, rfl, rfl, ⟨rfl, rfl, trivial⟩, ⟨⟨⟨rfl, rfl, .inr rfl⟩, rfl, rfl, rfl, trivial⟩, ⟨rfl, trivial⟩, trivial⟩, trivial⟩ ?_)
  rw [h5]
  conv => whnf
  (refine callP.full [0, 1] [] [.ptr 0 0] [rbx l _, mbx _] [rbx l _, mbx _] _ (c190 W0 l a E m ⟨a + 1, false⟩ M hl hR hc1 (by omega) hI) ⟨rfl, rfl, rfl, rfl, rfl, rfl, rfl, rfl, rfl, rfl, ⟨rfl, trivial⟩, ⟨⟨⟨rfl, rfl, .inr rfl⟩, rfl, rfl, rfl, trivial⟩, ⟨rfl, trivial⟩, trivial⟩, trivial⟩ ?_)
  rw [h6]
  all_goals (conv => whnf)
  all_goals (first | (refine fin_rw rfl rfl rfl rfl rfl rfl rfl ?_ rfl; exact ⟨rfl, rfl, rfl, ⟨rfl, rfl, .inl rfl⟩, trivial⟩))
set_option maxHeartbeats 8000000 in
theorem b146_d (W0 : Go.World) (hk : Wk W0) (l : List T) (E : PS → Exp × PS) (m : PS → Mem → Mem) (M : Mem) (hl : l.length ≤ 549755813888) (a : Nat) (hR : RdC W0 l a E m) (hs : a ≤ l.length) (hp : Ph l ⟨a, false⟩ ≤ 4000000000000) (ht : tOK l) (hI : Inv l M) (kd tx : S) (p : Int) (hq : pPeek l ⟨a, false⟩ = (kd, tx, p)) (g1 : beqL kd [105, 110, 116] = false) (g2 : pIs l ⟨a, false⟩ [116, 114, 117, 101] = false) (g3 : pIs l ⟨a, false⟩ [102, 97, 108, 115, 101] = false) (g4 : beqL kd [110, 97, 109, 101] = false) :
    ∃ M', Inv l M' ∧ Body (Ctr Tryz.prog W0) F146.ac F146.rs [.ptr 0 0] [rbx l ⟨a, false⟩, mbx M] (eE ((rInside l E (rWant l ⟨a, false⟩ [40])).1)) [rbx l (rWant l (rInside l E (rWant l ⟨a, false⟩ [40])).2 [41]), mbx M'] := by
  have w1 : Mv l (-5) 1 ⟨a, false⟩ (rWant l ⟨a, false⟩ [40]) := mv_want1 (s := ⟨a, false⟩) [40] rfl hs
  have hp1 := w1.ph
  have hc1 : Cd l a (rWant l ⟨a, false⟩ [40]) := w1.cd1
  obtain ⟨M2, hI2, hE⟩ := c191 W0 hk l a E m M hl hR (rWant l ⟨a, false⟩ [40]) hc1 (by omega) ht hI
  have i1 := mv_inside hR.rd (rWant l ⟨a, false⟩ [40]) hc1
  have hpi := i1.ph
  generalize rInside l E (rWant l ⟨a, false⟩ [40]) = q at hE i1 hpi ⊢
  obtain ⟨⟨xa, xb, xn, xl⟩, s2⟩ := q
  simp only at hE i1 hpi ⊢
  have ha2 : s2.a ≤ 4611686018427387904 := pb i1.wf hl (by omega : Ph l s2 ≤ 4000000000000) (by decide)
  refine ⟨M2, hI2, ?_⟩
  conv => whnf
  (refine callP.full [0, 1] [] [.ptr 0 0, .sc (.i .i64 (0))] [rbx l _, mbx _] [rbx l _, mbx _] _ (c118 W0 l ⟨a, false⟩ M (Nat.le_trans hl (by decide)) (by simp only; omega)) ⟨rfl, rfl, rfl, rfl, rfl, rfl, rfl, rfl, rfl, rfl, ⟨rfl, rfl, trivial⟩, ⟨⟨⟨rfl, rfl, .inr rfl⟩, rfl, rfl, rfl, trivial⟩, ⟨rfl, trivial⟩, trivial⟩, trivial⟩ ?_)
  rw [hq]
  conv => whnf
  rw [g1]
  conv => whnf
  (refine callP.full [0, 1] [] [.ptr 0 0, .sc (.s [116, 114, 117, 101])] [rbx l _, mbx _] [rbx l _, mbx _] _ (c60 W0 l ⟨a, false⟩ M [116, 114, 117, 101] (Nat.le_trans hl (by decide)) (by simp only [rTake, rWant, rNum]; omega)) ⟨rfl, rfl, rfl, rfl, rfl, rfl, rfl, rfl, rfl, rfl, ⟨rfl, rfl, trivial⟩, ⟨⟨⟨rfl, rfl, .inr rfl⟩, rfl, rfl, rfl, trivial⟩, ⟨rfl, trivial⟩, trivial⟩, trivial⟩ ?_)
  rw [g2]
  conv => whnf
  (refine callP.full [0, 1] [] [.ptr 0 0, .sc (.s [102, 97, 108, 115, 101])] [rbx l _, mbx _] [rbx l _, mbx _] _ (c60 W0 l ⟨a, false⟩ M [102, 97, 108, 115, 101] (Nat.le_trans hl (by decide)) (by simp only [rTake, rWant, rNum]; omega)) ⟨rfl, rfl, rfl, rfl, rfl, rfl, rfl, rfl, rfl, rfl, ⟨rfl, rfl, trivial⟩, ⟨⟨⟨rfl, rfl, .inr rfl⟩, rfl, rfl, rfl, trivial⟩, ⟨rfl, trivial⟩, trivial⟩, trivial⟩ ?_)
  rw [g3]
  conv => whnf
  rw [g4]
  conv => whnf
  (refine callP.full [0, 1] [] [.ptr 0 0, .sl 1 [[.sc (.s [40])]] .none] [rbx l _, mbx _] [rbx l _, mbx _] _ (c119 W0 l ⟨a, false⟩ M [40] (Nat.le_trans hl (by decide)) (by simp only [rTake, rWant, rNum]; omega)) ⟨rfl, rfl, rfl, rfl, rfl, rfl, rfl, rfl, rfl, rfl, ⟨rfl, ⟨rfl, rfl, .inl rfl⟩, trivial⟩, ⟨⟨⟨rfl, rfl, .inr rfl⟩, rfl, rfl, rfl, trivial⟩, ⟨rfl, trivial⟩, trivial⟩, trivial⟩ ?_)
  conv => whnf
  (refine callP.full [0, 1] [] [.ptr 0 0] [rbx l _, mbx _] [rbx l _, mbx _] _ (hE) ⟨rfl, rfl, rfl, rfl, rfl, rfl, rfl, rfl, rfl, rfl, ⟨rfl, trivial⟩, ⟨⟨⟨rfl, rfl, .inr rfl⟩, rfl, rfl, rfl, trivial⟩, ⟨rfl, trivial⟩, trivial⟩, trivial⟩ ?_)
  conv => whnf
  (refine callP.full [0, 1] [] [.ptr 0 0, .sl 1 [[.sc (.s [41])]] .none] [rbx l _, mbx _] [rbx l _, mbx _] _ (c119 W0 l s2 M2 [41] (Nat.le_trans hl (by decide)) ha2) ⟨rfl, rfl, rfl, rfl, rfl, rfl, rfl, rfl, rfl, rfl, ⟨rfl, ⟨rfl, rfl, .inl rfl⟩, trivial⟩, ⟨⟨⟨rfl, rfl, .inr rfl⟩, rfl, rfl, rfl, trivial⟩, ⟨rfl, trivial⟩, trivial⟩, trivial⟩ ?_)
  all_goals (conv => whnf)
  all_goals (first | (refine fin_rw rfl rfl rfl rfl rfl rfl rfl ?_ rfl; exact ⟨rfl, rfl, rfl, ⟨rfl, rfl, .inl rfl⟩, trivial⟩))
set_option maxHeartbeats 4000000 in
theorem c146 (W0 : Go.World) (hk : Wk W0) (l : List T) (E : PS → Exp × PS) (m : PS → Mem → Mem) (M : Mem) (hl : l.length ≤ 549755813888) (a : Nat) (hR : RdC W0 l a E m) (hs : a ≤ l.length) (hp : Ph l ⟨a, false⟩ ≤ 4000000000000) (ht : tOK l) (hI : Inv l M) : ∃ M', Inv l M' ∧ Ctr Tryz.prog W0 146 [.ptr 0 0] [rbx l ⟨a, false⟩, mbx M] (eE (rStep l E ⟨a, false⟩).1) [rbx l (rStep l E ⟨a, false⟩).2, mbx M'] := by
  have lift : ∀ {r : Exp × PS} (e : rStep l E ⟨a, false⟩ = r), (∃ M', Inv l M' ∧ Body (Ctr Tryz.prog W0) F146.ac F146.rs [.ptr 0 0] [rbx l ⟨a, false⟩, mbx M] (eE r.1) [rbx l r.2, mbx M']) →
      ∃ M', Inv l M' ∧ Ctr Tryz.prog W0 146 [.ptr 0 0] [rbx l ⟨a, false⟩, mbx M] (eE (rStep l E ⟨a, false⟩).1) [rbx l (rStep l E ⟨a, false⟩).2, mbx M'] := by
    rintro r e ⟨M', h1, h2⟩
    rw [e]
    exact ⟨M', h1, ctr_body follows F146_ok rfl (fun _ _ h => by cases h) rfl rfl h2⟩
  generalize hq : pPeek l ⟨a, false⟩ = t
  obtain ⟨kd, tx, p⟩ := t
  have his : ∀ x : S, pIs l ⟨a, false⟩ x = true → tx = x := by
    intro x hx
    simp only [pIs, hq, Bool.and_eq_true] at hx
    exact beqL_iff.1 hx.2
  cases g1 : beqL kd [105, 110, 116] with
  | true =>
    have := beqL_iff.1 g1; subst this
    exact lift (r := (.mk [105, 110, 116] [] (numV tx) [], rNum l ⟨a, false⟩)) (by simp only [rStep, hq, g1, cond_true]) (b146_int W0 hk l E m M hl a hR hs hp ht hI tx p hq)
  | false =>
    cases g2 : pIs l ⟨a, false⟩ [116, 114, 117, 101] with
    | true =>
      have := his _ g2; subst this
      exact lift (r := (.mk [98, 111, 111, 108] [] 1 [], ⟨a + 1, false⟩)) (by simp only [rStep, hq, g1, g2, Bool.true_or, cond_true, cond_false]; simp [beqL]) (b146_tt W0 hk l E m M hl a hR hs hp ht hI kd p hq g1 g2)
    | false =>
      cases g3 : pIs l ⟨a, false⟩ [102, 97, 108, 115, 101] with
      | true =>
        have := his _ g3; subst this
        exact lift (r := (.mk [98, 111, 111, 108] [] 0 [], ⟨a + 1, false⟩)) (by simp only [rStep, hq, g1, g2, g3, Bool.or_true, cond_true, cond_false]; simp [beqL]) (b146_ff W0 hk l E m M hl a hR hs hp ht hI kd p hq g1 g2 g3)
      | false =>
        cases g4 : beqL kd [110, 97, 109, 101] with
        | true =>
          have := beqL_iff.1 g4; subst this
          cases h5 : pIs l ⟨a + 1, false⟩ [91] with
          | true => exact lift (r := (Exp.mk [97, 116] tx 0 (rExps l E [93] ⟨a + 1 + 1, false⟩).1, (rExps l E [93] ⟨a + 1 + 1, false⟩).2)) (by simp only [rStep, hq, g1, g2, g3, g4, h5, Bool.or_self, cond_true, cond_false]) (b146_at W0 hk l E m M hl a hR hs hp ht hI tx p hq g2 g3 h5)
          | false =>
            cases h6 : rIsCall l E ⟨a + 1, false⟩ with
            | true =>
              have h7 : pIs l ⟨a + 1, false⟩ [40] = true := by
                cases hp : pIs l ⟨a + 1, false⟩ [40] with
                | true => rfl
                | false => simp [rIsCall, hp] at h6
              exact lift (r := (Exp.mk [99, 97, 108, 108] tx 0 (rExps l E [41] ⟨a + 1 + 1, false⟩).1, (rExps l E [41] ⟨a + 1 + 1, false⟩).2)) (by simp only [rStep, hq, g1, g2, g3, g4, h5, h6, Bool.or_self, cond_true, cond_false]) (b146_call W0 hk l E m M hl a hR hs hp ht hI tx p hq g2 g3 h5 h6 h7)
            | false => exact lift (r := (.mk [118, 97, 114] tx 0 [], ⟨a + 1, false⟩)) (by simp only [rStep, hq, g1, g2, g3, g4, h5, h6, Bool.or_self, cond_true, cond_false]) (b146_var W0 hk l E m M hl a hR hs hp ht hI tx p hq g2 g3 h5 h6)
        | false => exact lift (r := ((rInside l E (rWant l ⟨a, false⟩ [40])).1, rWant l (rInside l E (rWant l ⟨a, false⟩ [40])).2 [41])) (by simp only [rStep, hq, g1, g2, g3, g4, Bool.or_self, cond_true, cond_false]) (b146_d W0 hk l E m M hl a hR hs hp ht hI kd tx p hq g1 g2 g3 g4)
end Go.Abs

set_option maxRecDepth 100000
namespace Go.Abs
open Go.Proofs
def F74 : Fn := ⟨.seq (.reg [⟨none, .alloc 2 [.sc (.s []), .sc (.s []), .sc (.i .i64 0), .sl 4 [] .full]⟩]) (.seq (.seq (.reg [⟨none, .mv 7 (.t 0)⟩, ⟨none, .nc 8 (.t 7)⟩, ⟨none, .fa 9 (.t 8) 2⟩, ⟨none, .ld 10 1 false (.t 9)⟩]) (.cond (.t 10) (.seq (.reg [⟨none, .build 11 [.sc (.s []), .sc (.s []), .sc (.i .i64 0), .sl 4 [] .full] []⟩, ⟨none, .st (.t 2) 4 (.t 11)⟩]) .ret) .skip)) (.seq (.reg [⟨none, .mv 12 (.t 0)⟩, ⟨none, .nc 13 (.t 12)⟩, ⟨none, .fa 14 (.t 13) 1⟩, ⟨none, .ld 15 1 false (.t 14)⟩, ⟨none, .mv 3 (.t 15)⟩]) (.seq (.reg [⟨none, .mv 17 (.t 0)⟩, ⟨none, .nc 18 (.t 17)⟩, ⟨none, .fa 19 (.t 18) 3⟩, ⟨none, .ld 20 1 false (.t 19)⟩, ⟨none, .mv 21 (.t 3)⟩, ⟨none, .lkM 22 [.sc (.s []), .sc (.s []), .sc (.i .i64 0), .lst 4 [], .sc (.i .i64 0), .sc (.b false)] (.t 20) (.t 21)⟩, ⟨none, .mv 16 (.t 22)⟩, ⟨none, .ext 23 (.t 16) 0⟩, ⟨none, .ext 24 (.t 16) 1⟩, ⟨none, .alloc 4 [.sc (.s []), .sc (.s []), .sc (.i .i64 0), .sl 4 [] .full, .sc (.i .i64 0), .sc (.b false)]⟩, ⟨none, .st (.t 4) 6 (.t 23)⟩, ⟨none, .mv 5 (.t 24)⟩]) (.seq (.seq (.reg [⟨none, .mv 25 (.t 5)⟩, ⟨none, .no 26 (.t 25)⟩]) (.cond (.t 26) (.seq (.reg [⟨none, .mv 27 (.t 0)⟩, ⟨none, .call (some 28) (.c (.fn 146 [])) [.t 27]⟩, ⟨none, .alloc 6 [.sc (.s []), .sc (.s []), .sc (.i .i64 0), .sl 4 [] .full]⟩, ⟨none, .st (.t 6) 4 (.t 28)⟩]) (.seq (.regD [⟨none, .ld 29 4 true (.t 6)⟩, ⟨none, .mv 30 (.t 0)⟩, ⟨none, .nc 31 (.t 30)⟩, ⟨none, .fa 32 (.t 31) 1⟩, ⟨none, .ld 33 1 false (.t 32)⟩, ⟨none, .mv 34 (.t 0)⟩, ⟨none, .nc 35 (.t 34)⟩, ⟨none, .fa 36 (.t 35) 2⟩, ⟨none, .ld 37 1 false (.t 36)⟩, ⟨none, .build 38 [.sc (.s []), .sc (.s []), .sc (.i .i64 0), .sl 4 [] .full, .sc (.i .i64 0), .sc (.b false)] [(0, (4, .t 29)), (4, (1, .t 33)), (5, (1, .t 37))]⟩, ⟨none, .st (.t 4) 6 (.t 38)⟩] [0, 0, 2, 6, 14, 0, 32, 96, 224, 511, 1023]) (.regD [⟨none, .mv 39 (.t 0)⟩, ⟨none, .nc 40 (.t 39)⟩, ⟨none, .fa 41 (.t 40) 3⟩, ⟨none, .ld 42 1 false (.t 41)⟩, ⟨none, .mv 43 (.t 3)⟩, ⟨none, .ld 44 6 true (.t 4)⟩, ⟨none, .upM (.t 42) (.t 43) (.t 44)⟩] [0, 1, 3, 7, 0, 0, 63]))) .skip)) (.seq (.regD [⟨none, .mv 45 (.t 0)⟩, ⟨none, .mv 46 (.t 0)⟩, ⟨none, .fa 47 (.t 4) 4⟩, ⟨none, .ld 48 1 false (.t 47)⟩, ⟨none, .fa 49 (.t 4) 5⟩, ⟨none, .ld 50 1 false (.t 49)⟩, ⟨none, .nc 51 (.t 45)⟩, ⟨none, .fa 52 (.t 51) 1⟩, ⟨none, .st (.t 52) 1 (.t 48)⟩, ⟨none, .nc 53 (.t 46)⟩, ⟨none, .fa 54 (.t 53) 2⟩, ⟨none, .st (.t 54) 1 (.t 50)⟩] [0, 0, 0, 4, 0, 16, 13, 77, 205, 511, 1023, 2047]) (.seq (.reg [⟨none, .fa 55 (.t 4) 0⟩, ⟨none, .ld 56 4 true (.t 55)⟩, ⟨none, .st (.t 2) 4 (.t 56)⟩]) .ret)))))), [(2, 4)], 57⟩
theorem F74_ok : compT Tryz.prog (fun _ => an0) 74 = some F74 := by kernel_rfl
theorem inv_ins {l : List T} {M : Mem} {a : Nat} (h : Inv l M) : Inv l (insA (a : Nat) ((rE l ⟨a, false⟩).1, (rE l ⟨a, false⟩).2.a, (rE l ⟨a, false⟩).2.bad) M) := by
  intro k x hx
  rw [find_ins] at hx
  by_cases hk : k = (a : Int)
  · rw [if_pos hk] at hx
    cases hx
    exact ⟨a, hk, rfl⟩
  · rw [if_neg hk] at hx
    exact h k x hx
set_option maxHeartbeats 8000000 in
theorem b74_bad (W0 : Go.World) (l : List T) (M : Mem) (a : Nat) : Body (Ctr Tryz.prog W0) F74.ac F74.rs [.ptr 0 0] [rbx l ⟨a, true⟩, mbx M] (eE ex0) [rbx l ⟨a, true⟩, mbx M] := by
  conv => whnf
  first | (refine fin_rw rfl rfl rfl rfl rfl rfl rfl ?_ rfl; exact ⟨rfl, rfl, rfl, ⟨rfl, rfl, .inl rfl⟩, trivial⟩)
set_option maxHeartbeats 8000000 in
theorem b74_hit (W0 : Go.World) (l : List T) (M : Mem) (a : Nat) (xa xb : S) (xn : Int) (xl : List Exp) (a1 : Nat) (b1 : Bool) (hf : findM (a : Nat) (encM M) = some (entM (.mk xa xb xn xl, a1, b1))) :
    Body (Ctr Tryz.prog W0) F74.ac F74.rs [.ptr 0 0] [rbx l ⟨a, false⟩, mbx M] (eE (.mk xa xb xn xl)) [rbx l ⟨a1, b1⟩, mbx M] := by
  conv => whnf
  rw [hf]
  conv => whnf
  first | (refine fin_rw rfl rfl rfl rfl rfl rfl rfl ?_ rfl; exact ⟨rfl, rfl, rfl, ⟨rfl, rfl, .inl rfl⟩, trivial⟩)
set_option maxHeartbeats 8000000 in
theorem b74_miss (W0 : Go.World) (l : List T) (M : Mem) (a : Nat) (xa xb : S) (xn : Int) (xl : List Exp) (a1 : Nat) (b1 : Bool) (M1 : Mem) (hf : findM (a : Nat) (encM M) = none)
    (hc : Ctr Tryz.prog W0 146 [.ptr 0 0] [rbx l ⟨a, false⟩, mbx M] (eE (.mk xa xb xn xl)) [rbx l ⟨a1, b1⟩, mbx M1]) :
    Body (Ctr Tryz.prog W0) F74.ac F74.rs [.ptr 0 0] [rbx l ⟨a, false⟩, mbx M] (eE (.mk xa xb xn xl)) [rbx l ⟨a1, b1⟩, mbx (insA (a : Nat) (.mk xa xb xn xl, a1, b1) M1)] := by
  conv => whnf
  rw [hf]
  conv => whnf
  (refine callP.full [0, 1] [] [.ptr 0 0] [rbx l _, mbx _] [rbx l _, mbx _] _ (hc) ⟨rfl, rfl, rfl, rfl, rfl, rfl, rfl, rfl, rfl, rfl, ⟨rfl, trivial⟩, ⟨⟨⟨rfl, rfl, .inr rfl⟩, rfl, rfl, rfl, trivial⟩, ⟨rfl, trivial⟩, trivial⟩, trivial⟩ ?_)
  conv => whnf
  first | (refine fin_rw rfl rfl (ins_enc _ (.mk xa xb xn xl, a1, b1) M1) rfl rfl rfl rfl ?_ rfl; exact ⟨rfl, rfl, rfl, ⟨rfl, rfl, .inl rfl⟩, trivial⟩)
theorem c74 (W0 : Go.World) (hk : Wk W0) (l : List T) (hl : l.length ≤ 549755813888) (ht : tOK l) : ∀ (n : Nat) (s : PS) (M : Mem), l.length - s.a < n → (s.bad = false → s.a ≤ l.length) → Ph l s ≤ 4000000000000 → Inv l M →
    ∃ M', Inv l M' ∧ Ctr Tryz.prog W0 74 [.ptr 0 0] [rbx l s, mbx M] (eE (rE l s).1) [rbx l (rE l s).2, mbx M']
  | 0, _, _, hn, _, _, _ => absurd hn (Nat.not_lt_zero _)
  | n + 1, ⟨a, true⟩, M, _, _, _, hI => by
    rw [rE_bad l _ rfl]
    exact ⟨M, hI, ctr_body follows F74_ok rfl (fun _ _ h => by cases h) rfl rfl (b74_bad W0 l M a)⟩
  | n + 1, ⟨a, false⟩, M, hn, hw, hp, hI => by
    have hs : a ≤ l.length := hw rfl
    simp only at hn
    have hx : ∀ s' M, Cd l a s' → Ph l s' ≤ 4000000000000 → Inv l M → ∃ M', Inv l M' ∧ Ctr Tryz.prog W0 74 [.ptr 0 0] [rbx l s', mbx M] (eE (rG l a s').1) [rbx l (rG l a s').2, mbx M'] := by
      intro s' M1 h1 h2 h3
      rw [rG_eq h1]
      obtain ⟨a', b'⟩ := s'
      cases b' with
      | true =>
        rw [rE_bad l _ rfl]
        exact ⟨M1, h3, ctr_body follows F74_ok rfl (fun _ _ h => by cases h) rfl rfl (b74_bad W0 l M1 a')⟩
      | false =>
        have := h1 rfl
        simp only at this
        exact c74 W0 hk l hl ht n ⟨a', false⟩ M1 (by simp only; omega) (fun _ => this.2) h2 h3
    have hR : ∃ m, RdC W0 l a (rG l a) m := by
      classical
      refine ⟨fun s' M => if h : Cd l a s' ∧ Ph l s' ≤ 4000000000000 ∧ Inv l M then Classical.choose (hx s' M h.1 h.2.1 h.2.2) else M, rd_rG l a, fun s' M h1 h2 h3 => ?_⟩
      have h : Cd l a s' ∧ Ph l s' ≤ 4000000000000 ∧ Inv l M := ⟨h1, h2, h3⟩
      simp only [dif_pos h]
      exact Classical.choose_spec (hx s' M h1 h2 h3)
    obtain ⟨m, hR⟩ := hR
    cases hf : findA (a : Nat) M with
    | some x =>
      obtain ⟨a', e1, e2⟩ := hI _ _ hf
      have e1 : a = a' := by omega
      subst e1
      have hf2 := find_enc (a : Nat) M
      rw [hf, e2] at hf2
      generalize rE l ⟨a, false⟩ = q at hf2 ⊢
      obtain ⟨⟨xa, xb, xn, xl⟩, ⟨a1, b1⟩⟩ := q
      exact ⟨M, hI, ctr_body follows F74_ok rfl (fun _ _ h => by cases h) rfl rfl (b74_hit W0 l M a xa xb xn xl a1 b1 hf2)⟩
    | none =>
      have hf2 := find_enc (a : Nat) M
      rw [hf] at hf2
      obtain ⟨M1, hI1, hc⟩ := c146 W0 hk l (rG l a) m M hl a hR hs hp ht hI
      have hI2 := inv_ins (a := a) hI1
      rw [← rE_eq l ⟨a, false⟩ rfl hs] at hc
      generalize rE l ⟨a, false⟩ = q at hc hI2 ⊢
      obtain ⟨⟨xa, xb, xn, xl⟩, ⟨a1, b1⟩⟩ := q
      exact ⟨_, hI2, ctr_body follows F74_ok rfl (fun _ _ h => by cases h) rfl rfl (b74_miss W0 l M a xa xb xn xl a1 b1 M1 hf2 hc)⟩
end Go.Abs
