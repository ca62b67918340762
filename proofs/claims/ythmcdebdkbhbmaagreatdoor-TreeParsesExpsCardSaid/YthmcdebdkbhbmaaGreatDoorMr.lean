/- The reader of the reference: what stands in parentheses. -/
import Derived.Test.YthmcdebdkbhbmaaGreatDoorMq
set_option maxRecDepth 100000
namespace Go.Abs
open Go.Proofs
def F191 : Fn := ⟨.seq (.reg [⟨none, .alloc 2 [.sc (.s []), .sc (.s []), .sc (.i .i64 0), .sl 4 [] .full]⟩]) (.seq (.reg [⟨none, .mv 13 (.t 0)⟩, ⟨none, .call (some 14) (.c (.fn 118 [])) [.t 13, .c (.sc (.i .i64 0))]⟩, ⟨none, .mv 12 (.t 14)⟩, ⟨none, .ext 15 (.t 12) 0⟩, ⟨none, .ext 16 (.t 12) 1⟩, ⟨none, .mv 3 (.t 15)⟩, ⟨none, .mv 4 (.t 16)⟩]) (.seq (.seq (.reg [⟨none, .mv 17 (.t 4)⟩, ⟨none, .bin 18 .eql (.t 17) (.c (.sc (.s [107, 101, 121])))⟩, ⟨none, .mv 19 (.t 18)⟩, ⟨some (19, true), .mv 20 (.t 3)⟩, ⟨some (19, true), .bin 21 .neq (.t 20) (.c (.sc (.s [116, 114, 117, 101])))⟩, ⟨none, .pick 22 (.t 19) (.t 21) (.c (.sc (.b false)))⟩, ⟨none, .mv 23 (.t 22)⟩, ⟨some (23, true), .mv 24 (.t 3)⟩, ⟨some (23, true), .bin 25 .neq (.t 24) (.c (.sc (.s [102, 97, 108, 115, 101])))⟩, ⟨none, .pick 26 (.t 23) (.t 25) (.c (.sc (.b false)))⟩, ⟨none, .mv 27 (.t 26)⟩, ⟨some (27, false), .mv 28 (.t 3)⟩, ⟨some (27, false), .bin 29 .eql (.t 28) (.c (.sc (.s [33])))⟩, ⟨none, .pick 30 (.t 27) (.c (.sc (.b true))) (.t 29)⟩]) (.cond (.t 30) (.seq (.reg [⟨none, .mv 31 (.t 0)⟩, ⟨none, .nc 32 (.t 31)⟩, ⟨none, .fa 33 (.t 32) 1⟩, ⟨none, .ld 34 1 false (.t 33)⟩, ⟨none, .bin 35 .add (.t 34) (.c (.sc (.i .i64 1)))⟩, ⟨none, .nc 36 (.t 31)⟩, ⟨none, .fa 37 (.t 36) 1⟩, ⟨none, .st (.t 37) 1 (.t 35)⟩]) (.seq (.seq (.reg [⟨none, .mv 38 (.t 3)⟩]) (.block 0 (.seq (.seq (.reg [⟨none, .bin 40 .eql (.t 38) (.c (.sc (.s [109, 105, 110])))⟩, ⟨none, .mv 39 (.t 40)⟩]) (.cond (.t 39) .skip (.reg [⟨none, .bin 41 .eql (.t 38) (.c (.sc (.s [109, 97, 120])))⟩, ⟨none, .mv 39 (.t 41)⟩]))) (.cond (.t 39) (.seq (.reg [⟨none, .mv 42 (.t 0)⟩, ⟨none, .call (some 43) (.c (.fn 74 [])) [.t 42]⟩, ⟨none, .alloc 5 [.sc (.s []), .sc (.s []), .sc (.i .i64 0), .sl 4 [] .full]⟩, ⟨none, .st (.t 5) 4 (.t 43)⟩]) (.seq (.regD [⟨none, .mv 44 (.t 3)⟩, ⟨none, .ld 45 4 true (.t 5)⟩, ⟨none, .mv 46 (.t 0)⟩, ⟨none, .call (some 47) (.c (.fn 74 [])) [.t 46]⟩, ⟨none, .bsl 48 4 [.t 45, .t 47]⟩, ⟨none, .build 49 [.sc (.s []), .sc (.s []), .sc (.i .i64 0), .sl 4 [] .full] [(0, (1, .c (.sc (.s [111, 112])))), (1, (1, .t 44)), (3, (1, .t 48))]⟩, ⟨none, .st (.t 2) 4 (.t 49)⟩] [0, 0, 0, 4, 14, 31, 63]) .ret)) (.seq (.seq (.reg [⟨none, .bin 51 .eql (.t 38) (.c (.sc (.s [33])))⟩, ⟨none, .mv 50 (.t 51)⟩]) (.cond (.t 50) .skip (.reg [⟨none, .bin 52 .eql (.t 38) (.c (.sc (.s [105, 110, 116])))⟩, ⟨none, .mv 50 (.t 52)⟩]))) (.cond (.t 50) (.seq (.reg [⟨none, .mv 53 (.t 3)⟩, ⟨none, .mv 54 (.t 0)⟩, ⟨none, .call (some 55) (.c (.fn 74 [])) [.t 54]⟩, ⟨none, .bsl 56 4 [.t 55]⟩, ⟨none, .build 57 [.sc (.s []), .sc (.s []), .sc (.i .i64 0), .sl 4 [] .full] [(0, (1, .c (.sc (.s [111, 112])))), (1, (1, .t 53)), (3, (1, .t 56))]⟩, ⟨none, .st (.t 2) 4 (.t 57)⟩]) .ret) (.seq (.reg [⟨none, .bin 59 .eql (.t 38) (.c (.sc (.s [110, 111, 110, 101])))⟩, ⟨none, .mv 58 (.t 59)⟩]) (.cond (.t 58) (.seq (.reg [⟨none, .mv 60 (.t 3)⟩, ⟨none, .mv 61 (.t 0)⟩, ⟨none, .call (some 62) (.c (.fn 123 [])) [.t 61, .c (.sc (.s [43, 32, 42, 32, 109, 105, 110, 32, 109, 97, 120, 32, 38, 32, 124]))]⟩, ⟨none, .build 63 [.sc (.s []), .sc (.s []), .sc (.i .i64 0), .sl 4 [] .full] [(0, (1, .t 60)), (1, (1, .t 62))]⟩, ⟨none, .st (.t 2) 4 (.t 63)⟩]) .ret) (.seq (.seq (.reg [⟨none, .bin 65 .eql (.t 38) (.c (.sc (.s [114, 101, 97, 100])))⟩, ⟨none, .mv 64 (.t 65)⟩]) (.cond (.t 64) .skip (.seq (.reg [⟨none, .bin 66 .eql (.t 38) (.c (.sc (.s [103, 101, 116])))⟩, ⟨none, .mv 64 (.t 66)⟩]) (.cond (.t 64) .skip (.reg [⟨none, .bin 67 .eql (.t 38) (.c (.sc (.s [99, 111, 117, 110, 116])))⟩, ⟨none, .mv 64 (.t 67)⟩]))))) (.cond (.t 64) (.seq (.reg [⟨none, .mv 68 (.t 3)⟩, ⟨none, .mv 69 (.t 0)⟩, ⟨none, .call (some 70) (.c (.fn 120 [])) [.t 69, .c (.sc (.s [110, 97, 109, 101]))]⟩, ⟨none, .build 71 [.sc (.s []), .sc (.s []), .sc (.i .i64 0), .sl 4 [] .full] [(0, (1, .t 68)), (1, (1, .t 70))]⟩, ⟨none, .st (.t 2) 4 (.t 71)⟩]) .ret) (.seq (.seq (.reg [⟨none, .bin 73 .eql (.t 38) (.c (.sc (.s [108, 111, 119])))⟩, ⟨none, .mv 72 (.t 73)⟩]) (.cond (.t 72) .skip (.reg [⟨none, .bin 74 .eql (.t 38) (.c (.sc (.s [104, 105, 103, 104])))⟩, ⟨none, .mv 72 (.t 74)⟩]))) (.cond (.t 72) (.seq (.reg [⟨none, .mv 75 (.t 0)⟩, ⟨none, .call (some 76) (.c (.fn 120 [])) [.t 75, .c (.sc (.s [110, 97, 109, 101]))]⟩, ⟨none, .mv 6 (.t 76)⟩]) (.seq (.reg [⟨none, .mv 77 (.t 3)⟩, ⟨none, .mv 78 (.t 6)⟩, ⟨none, .mv 79 (.t 0)⟩, ⟨none, .call (some 80) (.c (.fn 122 [])) [.t 79]⟩, ⟨none, .build 81 [.sc (.s []), .sc (.s []), .sc (.i .i64 0), .sl 4 [] .full] [(0, (1, .t 77)), (1, (1, .t 78)), (2, (1, .t 80))]⟩, ⟨none, .st (.t 2) 4 (.t 81)⟩]) .ret)) (.seq (.seq (.reg [⟨none, .bin 83 .eql (.t 38) (.c (.sc (.s [111, 114, 100])))⟩, ⟨none, .mv 82 (.t 83)⟩]) (.cond (.t 82) .skip (.reg [⟨none, .bin 84 .eql (.t 38) (.c (.sc (.s [104, 97, 115])))⟩, ⟨none, .mv 82 (.t 84)⟩]))) (.cond (.t 82) (.seq (.reg [⟨none, .mv 85 (.t 0)⟩, ⟨none, .call (some 86) (.c (.fn 120 [])) [.t 85, .c (.sc (.s [110, 97, 109, 101]))]⟩, ⟨none, .mv 7 (.t 86)⟩]) (.seq (.reg [⟨none, .mv 87 (.t 0)⟩, ⟨none, .bsl 88 1 [.c (.sc (.s [91]))]⟩, ⟨none, .call (some 89) (.c (.fn 119 [])) [.t 87, .t 88]⟩]) (.seq (.reg [⟨none, .mv 90 (.t 3)⟩, ⟨none, .mv 91 (.t 7)⟩, ⟨none, .mv 92 (.t 0)⟩, ⟨none, .call (some 93) (.c (.fn 182 [])) [.t 92, .c (.sc (.s [93]))]⟩, ⟨none, .build 94 [.sc (.s []), .sc (.s []), .sc (.i .i64 0), .sl 4 [] .full] [(0, (1, .t 90)), (1, (1, .t 91)), (3, (1, .t 93))]⟩, ⟨none, .st (.t 2) 4 (.t 94)⟩]) .ret))) (.seq (.reg [⟨none, .bin 96 .eql (.t 38) (.c (.sc (.s [110, 116, 104])))⟩, ⟨none, .mv 95 (.t 96)⟩]) (.cond (.t 95) (.seq (.reg [⟨none, .mv 97 (.t 0)⟩, ⟨none, .call (some 98) (.c (.fn 120 [])) [.t 97, .c (.sc (.s [110, 97, 109, 101]))]⟩, ⟨none, .mv 8 (.t 98)⟩]) (.seq (.reg [⟨none, .mv 99 (.t 0)⟩, ⟨none, .call (some 100) (.c (.fn 122 [])) [.t 99]⟩, ⟨none, .mv 9 (.t 100)⟩]) (.seq (.reg [⟨none, .mv 101 (.t 3)⟩, ⟨none, .mv 102 (.t 8)⟩, ⟨none, .mv 103 (.t 9)⟩, ⟨none, .mv 104 (.t 0)⟩, ⟨none, .call (some 105) (.c (.fn 74 [])) [.t 104]⟩, ⟨none, .bsl 106 4 [.t 105]⟩, ⟨none, .build 107 [.sc (.s []), .sc (.s []), .sc (.i .i64 0), .sl 4 [] .full] [(0, (1, .t 101)), (1, (1, .t 102)), (2, (1, .t 103)), (3, (1, .t 106))]⟩, ⟨none, .st (.t 2) 4 (.t 107)⟩]) .ret))) .skip)))))))))))))))) (.seq (.reg [⟨none, .mv 108 (.t 0)⟩, ⟨none, .nc 109 (.t 108)⟩, ⟨none, .fa 110 (.t 109) 2⟩, ⟨none, .st (.t 110) 1 (.c (.sc (.b true)))⟩]) (.seq (.reg [⟨none, .build 111 [.sc (.s []), .sc (.s []), .sc (.i .i64 0), .sl 4 [] .full] []⟩, ⟨none, .st (.t 2) 4 (.t 111)⟩]) .ret)))) .skip)) (.seq (.reg [⟨none, .mv 112 (.t 0)⟩, ⟨none, .call (some 113) (.c (.fn 74 [])) [.t 112]⟩, ⟨none, .alloc 10 [.sc (.s []), .sc (.s []), .sc (.i .i64 0), .sl 4 [] .full]⟩, ⟨none, .st (.t 10) 4 (.t 113)⟩]) (.seq (.reg [⟨none, .mv 114 (.t 0)⟩, ⟨none, .call (some 115) (.c (.fn 123 [])) [.t 114, .c (.sc (.s [43, 32, 45, 32, 42, 32, 47, 32, 37, 32, 60, 32, 60, 61, 32, 61, 61, 32, 38, 32, 124]))]⟩, ⟨none, .mv 11 (.t 115)⟩]) (.seq (.regD [⟨none, .mv 116 (.t 11)⟩, ⟨none, .ld 117 4 true (.t 10)⟩, ⟨none, .mv 118 (.t 0)⟩, ⟨none, .call (some 119) (.c (.fn 74 [])) [.t 118]⟩, ⟨none, .bsl 120 4 [.t 117, .t 119]⟩, ⟨none, .build 121 [.sc (.s []), .sc (.s []), .sc (.i .i64 0), .sl 4 [] .full] [(0, (1, .c (.sc (.s [111, 112])))), (1, (1, .t 116)), (3, (1, .t 120))]⟩, ⟨none, .st (.t 2) 4 (.t 121)⟩] [0, 0, 0, 4, 14, 31, 63]) .ret))))), [(2, 4)], 122⟩
theorem F191_ok : compT Tryz.prog (fun _ => an0) 191 = some F191 := by kernel_rfl
theorem pb {l : List T} {s : PS} {k : Int} (h : s.bad = false → s.a ≤ l.length) (hl : l.length ≤ 549755813888) (hp : Ph l s ≤ k) (hk : k ≤ 4000000001000) : s.a ≤ 4611686018427387904 := Nat.le_trans (ph_a h hl hp hk) (by decide)
end Go.Abs

set_option maxRecDepth 100000
namespace Go.Abs
open Go.Proofs
set_option maxHeartbeats 8000000 in
theorem b191_not (W0 : Go.World) (hk : Wk W0) (l : List T) (a0 : Nat) (E : PS → Exp × PS) (m : PS → Mem → Mem) (M : Mem) (hl : l.length ≤ 549755813888) (hR : RdC W0 l a0 E m) (a : Nat) (hc : Cd l a0 ⟨a, false⟩) (hp : Ph l ⟨a, false⟩ ≤ 4000000000000) (ht : tOK l) (hlt : a < l.length) (hI : Inv l M) (kd : S) (p : Int) (hq : pPeek l ⟨a, false⟩ = (kd, [33], p)) :
    ∃ M', Inv l M' ∧ Body (Ctr Tryz.prog W0) F191.ac F191.rs [.ptr 0 0] [rbx l ⟨a, false⟩, mbx M] (eE (Exp.mk [111, 112] [33] 0 [(E ⟨a + 1, false⟩).1])) [rbx l ((E ⟨a + 1, false⟩).2), mbx M'] := by
  have h1 : Mv l (-6) 1 ⟨a, false⟩ ⟨a + 1, false⟩ := mv_at (s := ⟨a, false⟩) rfl hlt
  have hn : ([110, 97, 109, 101] : S) ≠ [] := by decide
  have hw1 := h1
  have hp1 := hw1.ph
  have hc1 := hw1.cd hc
  have hE1 := hR.c ⟨a + 1, false⟩ M hc1 (by omega) hI
  have hv1 := hR.rd ⟨a + 1, false⟩ hc1
  generalize hr1 : E ⟨a + 1, false⟩ = q1 at hE1 hv1 ⊢
  generalize hm1 : m ⟨a + 1, false⟩ M = M1 at hE1 ⊢
  obtain ⟨⟨x1a, x1b, x1n, x1l⟩, s1⟩ := q1
  obtain ⟨hI1, hE1⟩ := hE1
  simp only at hE1 hv1 ⊢
  refine ⟨M1, hI1, ?_⟩
  conv => whnf
  (refine callP.full [0, 1] [] [.ptr 0 0, .sc (.i .i64 (0))] [rbx l _, mbx _] [rbx l _, mbx _] _ (c118 W0 l ⟨a, false⟩ M (Nat.le_trans hl (by decide)) (by simp only; omega)) ⟨rfl, rfl, rfl, rfl, rfl, rfl, rfl, rfl, rfl, rfl, ⟨rfl, rfl, trivial⟩, ⟨⟨⟨rfl, rfl, .inr rfl⟩, rfl, rfl, rfl, trivial⟩, ⟨rfl, trivial⟩, trivial⟩, trivial⟩ ?_)
  rw [hq]
  repeat' ((conv => whnf); (first | with_reducible refine brec (fun _ => ?_) (fun _ => ?_) | (refine callP.full [0, 1] [] [.ptr 0 0] [rbx l _, mbx _] [rbx l _, mbx _] _ (hE1) ⟨rfl, rfl, rfl, rfl, rfl, rfl, rfl, rfl, rfl, rfl, ⟨rfl, trivial⟩, ⟨⟨⟨rfl, rfl, .inr rfl⟩, rfl, rfl, rfl, trivial⟩, ⟨rfl, trivial⟩, trivial⟩, trivial⟩ ?_) | (refine And.intro (by constructor <;> ((try simp only); omega)) ?_) | fail))
  all_goals (conv => whnf)
  all_goals (first | (refine fin_rw rfl rfl rfl rfl rfl rfl rfl ?_ rfl; exact ⟨rfl, rfl, rfl, ⟨rfl, rfl, .inl rfl⟩, trivial⟩))
end Go.Abs

set_option maxRecDepth 100000
namespace Go.Abs
open Go.Proofs
set_option maxHeartbeats 16000000 in
theorem b191_bo (W0 : Go.World) (hk : Wk W0) (l : List T) (a0 : Nat) (E : PS → Exp × PS) (m : PS → Mem → Mem) (M : Mem) (hl : l.length ≤ 549755813888) (hR : RdC W0 l a0 E m) (s : PS) (hc : Cd l a0 s) (hp : Ph l s + 2 ≤ 4000000000000) (ht : tOK l) (hI : Inv l M) (kd tx : S) (p : Int) (hq : pPeek l s = (kd, tx, p)) (g0 : beqL kd [107, 101, 121] = false) (g1 : beqL tx [33] = false) :
    ∃ M', Inv l M' ∧ Body (Ctr Tryz.prog W0) F191.ac F191.rs [.ptr 0 0] [rbx l s, mbx M] (eE (.mk [111, 112] (pPeek l (E s).2).2.1 0 [(E s).1, (E (rWord l (E s).2 opWs)).1])) [rbx l (E (rWord l (E s).2 opWs)).2, mbx M'] := by
  have h121 : ∀ x : S, Ctr Tryz.prog W0 121 [.sc (.s x), .sc (.s [43, 32, 45, 32, 42, 32, 47, 32, 37, 32, 60, 32, 60, 61, 32, 61, 61, 32, 38, 32, 124])] [] (.sc (.b (hasB x opWs))) [] := fun x => c121 W0 hk x [43, 32, 45, 32, 42, 32, 47, 32, 37, 32, 60, 32, 60, 61, 32, 61, 61, 32, 38, 32, 124] opWs (by decide) (by kernel_rfl) (by kernel_rfl) (by decide)
  have h0 : Mv l 0 0 s s := .refl fun hb => (hc hb).2
  have ha : s.a ≤ 4611686018427387904 := pb h0.wf hl (by omega : Ph l s ≤ 4000000000000) (by decide)
  have hw1 := h0
  have hp1 := hw1.ph
  have hc1 := hw1.cd hc
  have hE1 := hR.c s M hc1 (by omega) hI
  have hv1 := hR.rd s hc1
  generalize hr1 : E s = q1 at hE1 hv1 ⊢
  generalize hm1 : m s M = M1 at hE1 ⊢
  obtain ⟨⟨x1a, x1b, x1n, x1l⟩, s1⟩ := q1
  obtain ⟨hI1, hE1⟩ := hE1
  simp only at hE1 hv1 ⊢
  have ha1 : s1.a ≤ 4611686018427387904 := pb hv1.wf hl (by have := hv1.ph; omega : Ph l s1 ≤ 4000000000000) (by decide)
  have w1 := mv_word (W := opWs) hv1.wf
  have hw2 := (hv1.trans w1)
  have hp2 := hw2.ph
  have hc2 := hw2.cd hc
  have hE2 := hR.c (rWord l s1 opWs) M1 hc2 (by omega) hI1
  have hv2 := hR.rd (rWord l s1 opWs) hc2
  generalize hr2 : E (rWord l s1 opWs) = q2 at hE2 hv2 ⊢
  generalize hm2 : m (rWord l s1 opWs) M1 = M2 at hE2 ⊢
  obtain ⟨⟨x2a, x2b, x2n, x2l⟩, s2⟩ := q2
  obtain ⟨hI2, hE2⟩ := hE2
  simp only at hE2 hv2 ⊢
  refine ⟨M2, hI2, ?_⟩
  conv => whnf
  (refine callP.full [0, 1] [] [.ptr 0 0, .sc (.i .i64 (0))] [rbx l _, mbx _] [rbx l _, mbx _] _ (c118 W0 l s M (Nat.le_trans hl (by decide)) ha) ⟨rfl, rfl, rfl, rfl, rfl, rfl, rfl, rfl, rfl, rfl, ⟨rfl, rfl, trivial⟩, ⟨⟨⟨rfl, rfl, .inr rfl⟩, rfl, rfl, rfl, trivial⟩, ⟨rfl, trivial⟩, trivial⟩, trivial⟩ ?_)
  rw [hq]
  iterate 2 ((conv => whnf); (first | rw [g0] | rw [g1] | skip))
  repeat' ((conv => whnf); (first | with_reducible refine brec (fun _ => ?_) (fun _ => ?_) | (refine callP.full [0, 1] [] [.ptr 0 0] [rbx l _, mbx _] [rbx l _, mbx _] _ (hE1) ⟨rfl, rfl, rfl, rfl, rfl, rfl, rfl, rfl, rfl, rfl, ⟨rfl, trivial⟩, ⟨⟨⟨rfl, rfl, .inr rfl⟩, rfl, rfl, rfl, trivial⟩, ⟨rfl, trivial⟩, trivial⟩, trivial⟩ ?_) | (refine callP.full [0, 1] [] [.ptr 0 0, .sc (.s [43, 32, 45, 32, 42, 32, 47, 32, 37, 32, 60, 32, 60, 61, 32, 61, 61, 32, 38, 32, 124])] [rbx l _, mbx _] [rbx l _, mbx _] _ (c123 W0 l s1 M1 (Nat.le_trans hl (by decide)) [43, 32, 45, 32, 42, 32, 47, 32, 37, 32, 60, 32, 60, 61, 32, 61, 61, 32, 38, 32, 124] opWs h121 ha1) ⟨rfl, rfl, rfl, rfl, rfl, rfl, rfl, rfl, rfl, rfl, ⟨rfl, rfl, trivial⟩, ⟨⟨⟨rfl, rfl, .inr rfl⟩, rfl, rfl, rfl, trivial⟩, ⟨rfl, trivial⟩, trivial⟩, trivial⟩ ?_) | (refine callP.full [0, 1] [] [.ptr 0 0] [rbx l _, mbx _] [rbx l _, mbx _] _ (hE2) ⟨rfl, rfl, rfl, rfl, rfl, rfl, rfl, rfl, rfl, rfl, ⟨rfl, trivial⟩, ⟨⟨⟨rfl, rfl, .inr rfl⟩, rfl, rfl, rfl, trivial⟩, ⟨rfl, trivial⟩, trivial⟩, trivial⟩ ?_) | (refine And.intro (by constructor <;> ((try simp only); omega)) ?_) | fail))
  all_goals (conv => whnf)
  all_goals (first | (refine fin_rw rfl rfl rfl rfl rfl rfl rfl ?_ rfl; exact ⟨rfl, rfl, rfl, ⟨rfl, rfl, .inl rfl⟩, trivial⟩))
end Go.Abs

set_option maxRecDepth 100000
namespace Go.Abs
open Go.Proofs
set_option maxHeartbeats 16000000 in
theorem b191_bt (W0 : Go.World) (hk : Wk W0) (l : List T) (a0 : Nat) (E : PS → Exp × PS) (m : PS → Mem → Mem) (M : Mem) (hl : l.length ≤ 549755813888) (hR : RdC W0 l a0 E m) (s : PS) (hc : Cd l a0 s) (hp : Ph l s + 2 ≤ 4000000000000) (ht : tOK l) (hI : Inv l M) (p : Int) (hq : pPeek l s = ([107, 101, 121], [116, 114, 117, 101], p))  :
    ∃ M', Inv l M' ∧ Body (Ctr Tryz.prog W0) F191.ac F191.rs [.ptr 0 0] [rbx l s, mbx M] (eE (.mk [111, 112] (pPeek l (E s).2).2.1 0 [(E s).1, (E (rWord l (E s).2 opWs)).1])) [rbx l (E (rWord l (E s).2 opWs)).2, mbx M'] := by
  have h121 : ∀ x : S, Ctr Tryz.prog W0 121 [.sc (.s x), .sc (.s [43, 32, 45, 32, 42, 32, 47, 32, 37, 32, 60, 32, 60, 61, 32, 61, 61, 32, 38, 32, 124])] [] (.sc (.b (hasB x opWs))) [] := fun x => c121 W0 hk x [43, 32, 45, 32, 42, 32, 47, 32, 37, 32, 60, 32, 60, 61, 32, 61, 61, 32, 38, 32, 124] opWs (by decide) (by kernel_rfl) (by kernel_rfl) (by decide)
  have h0 : Mv l 0 0 s s := .refl fun hb => (hc hb).2
  have ha : s.a ≤ 4611686018427387904 := pb h0.wf hl (by omega : Ph l s ≤ 4000000000000) (by decide)
  have hw1 := h0
  have hp1 := hw1.ph
  have hc1 := hw1.cd hc
  have hE1 := hR.c s M hc1 (by omega) hI
  have hv1 := hR.rd s hc1
  generalize hr1 : E s = q1 at hE1 hv1 ⊢
  generalize hm1 : m s M = M1 at hE1 ⊢
  obtain ⟨⟨x1a, x1b, x1n, x1l⟩, s1⟩ := q1
  obtain ⟨hI1, hE1⟩ := hE1
  simp only at hE1 hv1 ⊢
  have ha1 : s1.a ≤ 4611686018427387904 := pb hv1.wf hl (by have := hv1.ph; omega : Ph l s1 ≤ 4000000000000) (by decide)
  have w1 := mv_word (W := opWs) hv1.wf
  have hw2 := (hv1.trans w1)
  have hp2 := hw2.ph
  have hc2 := hw2.cd hc
  have hE2 := hR.c (rWord l s1 opWs) M1 hc2 (by omega) hI1
  have hv2 := hR.rd (rWord l s1 opWs) hc2
  generalize hr2 : E (rWord l s1 opWs) = q2 at hE2 hv2 ⊢
  generalize hm2 : m (rWord l s1 opWs) M1 = M2 at hE2 ⊢
  obtain ⟨⟨x2a, x2b, x2n, x2l⟩, s2⟩ := q2
  obtain ⟨hI2, hE2⟩ := hE2
  simp only at hE2 hv2 ⊢
  refine ⟨M2, hI2, ?_⟩
  conv => whnf
  (refine callP.full [0, 1] [] [.ptr 0 0, .sc (.i .i64 (0))] [rbx l _, mbx _] [rbx l _, mbx _] _ (c118 W0 l s M (Nat.le_trans hl (by decide)) ha) ⟨rfl, rfl, rfl, rfl, rfl, rfl, rfl, rfl, rfl, rfl, ⟨rfl, rfl, trivial⟩, ⟨⟨⟨rfl, rfl, .inr rfl⟩, rfl, rfl, rfl, trivial⟩, ⟨rfl, trivial⟩, trivial⟩, trivial⟩ ?_)
  rw [hq]
  skip
  repeat' ((conv => whnf); (first | with_reducible refine brec (fun _ => ?_) (fun _ => ?_) | (refine callP.full [0, 1] [] [.ptr 0 0] [rbx l _, mbx _] [rbx l _, mbx _] _ (hE1) ⟨rfl, rfl, rfl, rfl, rfl, rfl, rfl, rfl, rfl, rfl, ⟨rfl, trivial⟩, ⟨⟨⟨rfl, rfl, .inr rfl⟩, rfl, rfl, rfl, trivial⟩, ⟨rfl, trivial⟩, trivial⟩, trivial⟩ ?_) | (refine callP.full [0, 1] [] [.ptr 0 0, .sc (.s [43, 32, 45, 32, 42, 32, 47, 32, 37, 32, 60, 32, 60, 61, 32, 61, 61, 32, 38, 32, 124])] [rbx l _, mbx _] [rbx l _, mbx _] _ (c123 W0 l s1 M1 (Nat.le_trans hl (by decide)) [43, 32, 45, 32, 42, 32, 47, 32, 37, 32, 60, 32, 60, 61, 32, 61, 61, 32, 38, 32, 124] opWs h121 ha1) ⟨rfl, rfl, rfl, rfl, rfl, rfl, rfl, rfl, rfl, rfl, ⟨rfl, rfl, trivial⟩, ⟨⟨⟨rfl, rfl, .inr rfl⟩, rfl, rfl, rfl, trivial⟩, ⟨rfl, trivial⟩, trivial⟩, trivial⟩ ?_) | (refine callP.full [0, 1] [] [.ptr 0 0] [rbx l _, mbx _] [rbx l _, mbx _] _ (hE2) ⟨rfl, rfl, rfl, rfl, rfl, rfl, rfl, rfl, rfl, rfl, ⟨rfl, trivial⟩, ⟨⟨⟨rfl, rfl, .inr rfl⟩, rfl, rfl, rfl, trivial⟩, ⟨rfl, trivial⟩, trivial⟩, trivial⟩ ?_) | (refine And.intro (by constructor <;> ((try simp only); omega)) ?_) | fail))
  all_goals (conv => whnf)
  all_goals (first | (refine fin_rw rfl rfl rfl rfl rfl rfl rfl ?_ rfl; exact ⟨rfl, rfl, rfl, ⟨rfl, rfl, .inl rfl⟩, trivial⟩))
set_option maxHeartbeats 16000000 in
theorem b191_bf (W0 : Go.World) (hk : Wk W0) (l : List T) (a0 : Nat) (E : PS → Exp × PS) (m : PS → Mem → Mem) (M : Mem) (hl : l.length ≤ 549755813888) (hR : RdC W0 l a0 E m) (s : PS) (hc : Cd l a0 s) (hp : Ph l s + 2 ≤ 4000000000000) (ht : tOK l) (hI : Inv l M) (p : Int) (hq : pPeek l s = ([107, 101, 121], [102, 97, 108, 115, 101], p))  :
    ∃ M', Inv l M' ∧ Body (Ctr Tryz.prog W0) F191.ac F191.rs [.ptr 0 0] [rbx l s, mbx M] (eE (.mk [111, 112] (pPeek l (E s).2).2.1 0 [(E s).1, (E (rWord l (E s).2 opWs)).1])) [rbx l (E (rWord l (E s).2 opWs)).2, mbx M'] := by
  have h121 : ∀ x : S, Ctr Tryz.prog W0 121 [.sc (.s x), .sc (.s [43, 32, 45, 32, 42, 32, 47, 32, 37, 32, 60, 32, 60, 61, 32, 61, 61, 32, 38, 32, 124])] [] (.sc (.b (hasB x opWs))) [] := fun x => c121 W0 hk x [43, 32, 45, 32, 42, 32, 47, 32, 37, 32, 60, 32, 60, 61, 32, 61, 61, 32, 38, 32, 124] opWs (by decide) (by kernel_rfl) (by kernel_rfl) (by decide)
  have h0 : Mv l 0 0 s s := .refl fun hb => (hc hb).2
  have ha : s.a ≤ 4611686018427387904 := pb h0.wf hl (by omega : Ph l s ≤ 4000000000000) (by decide)
  have hw1 := h0
  have hp1 := hw1.ph
  have hc1 := hw1.cd hc
  have hE1 := hR.c s M hc1 (by omega) hI
  have hv1 := hR.rd s hc1
  generalize hr1 : E s = q1 at hE1 hv1 ⊢
  generalize hm1 : m s M = M1 at hE1 ⊢
  obtain ⟨⟨x1a, x1b, x1n, x1l⟩, s1⟩ := q1
  obtain ⟨hI1, hE1⟩ := hE1
  simp only at hE1 hv1 ⊢
  have ha1 : s1.a ≤ 4611686018427387904 := pb hv1.wf hl (by have := hv1.ph; omega : Ph l s1 ≤ 4000000000000) (by decide)
  have w1 := mv_word (W := opWs) hv1.wf
  have hw2 := (hv1.trans w1)
  have hp2 := hw2.ph
  have hc2 := hw2.cd hc
  have hE2 := hR.c (rWord l s1 opWs) M1 hc2 (by omega) hI1
  have hv2 := hR.rd (rWord l s1 opWs) hc2
  generalize hr2 : E (rWord l s1 opWs) = q2 at hE2 hv2 ⊢
  generalize hm2 : m (rWord l s1 opWs) M1 = M2 at hE2 ⊢
  obtain ⟨⟨x2a, x2b, x2n, x2l⟩, s2⟩ := q2
  obtain ⟨hI2, hE2⟩ := hE2
  simp only at hE2 hv2 ⊢
  refine ⟨M2, hI2, ?_⟩
  conv => whnf
  (refine callP.full [0, 1] [] [.ptr 0 0, .sc (.i .i64 (0))] [rbx l _, mbx _] [rbx l _, mbx _] _ (c118 W0 l s M (Nat.le_trans hl (by decide)) ha) ⟨rfl, rfl, rfl, rfl, rfl, rfl, rfl, rfl, rfl, rfl, ⟨rfl, rfl, trivial⟩, ⟨⟨⟨rfl, rfl, .inr rfl⟩, rfl, rfl, rfl, trivial⟩, ⟨rfl, trivial⟩, trivial⟩, trivial⟩ ?_)
  rw [hq]
  skip
  repeat' ((conv => whnf); (first | with_reducible refine brec (fun _ => ?_) (fun _ => ?_) | (refine callP.full [0, 1] [] [.ptr 0 0] [rbx l _, mbx _] [rbx l _, mbx _] _ (hE1) ⟨rfl, rfl, rfl, rfl, rfl, rfl, rfl, rfl, rfl, rfl, ⟨rfl, trivial⟩, ⟨⟨⟨rfl, rfl, .inr rfl⟩, rfl, rfl, rfl, trivial⟩, ⟨rfl, trivial⟩, trivial⟩, trivial⟩ ?_) | (refine callP.full [0, 1] [] [.ptr 0 0, .sc (.s [43, 32, 45, 32, 42, 32, 47, 32, 37, 32, 60, 32, 60, 61, 32, 61, 61, 32, 38, 32, 124])] [rbx l _, mbx _] [rbx l _, mbx _] _ (c123 W0 l s1 M1 (Nat.le_trans hl (by decide)) [43, 32, 45, 32, 42, 32, 47, 32, 37, 32, 60, 32, 60, 61, 32, 61, 61, 32, 38, 32, 124] opWs h121 ha1) ⟨rfl, rfl, rfl, rfl, rfl, rfl, rfl, rfl, rfl, rfl, ⟨rfl, rfl, trivial⟩, ⟨⟨⟨rfl, rfl, .inr rfl⟩, rfl, rfl, rfl, trivial⟩, ⟨rfl, trivial⟩, trivial⟩, trivial⟩ ?_) | (refine callP.full [0, 1] [] [.ptr 0 0] [rbx l _, mbx _] [rbx l _, mbx _] _ (hE2) ⟨rfl, rfl, rfl, rfl, rfl, rfl, rfl, rfl, rfl, rfl, ⟨rfl, trivial⟩, ⟨⟨⟨rfl, rfl, .inr rfl⟩, rfl, rfl, rfl, trivial⟩, ⟨rfl, trivial⟩, trivial⟩, trivial⟩ ?_) | (refine And.intro (by constructor <;> ((try simp only); omega)) ?_) | fail))
  all_goals (conv => whnf)
  all_goals (first | (refine fin_rw rfl rfl rfl rfl rfl rfl rfl ?_ rfl; exact ⟨rfl, rfl, rfl, ⟨rfl, rfl, .inl rfl⟩, trivial⟩))
end Go.Abs

set_option maxRecDepth 100000
namespace Go.Abs
open Go.Proofs
set_option maxHeartbeats 8000000 in
theorem b191_count (W0 : Go.World) (hk : Wk W0) (l : List T) (a0 : Nat) (E : PS → Exp × PS) (m : PS → Mem → Mem) (M : Mem) (hl : l.length ≤ 549755813888) (hR : RdC W0 l a0 E m) (a : Nat) (hc : Cd l a0 ⟨a, false⟩) (hp : Ph l ⟨a, false⟩ ≤ 4000000000000) (ht : tOK l) (hlt : a < l.length) (hI : Inv l M) (p : Int) (hq : pPeek l ⟨a, false⟩ = ([107, 101, 121], [99, 111, 117, 110, 116], p)) :
    ∃ M', Inv l M' ∧ Body (Ctr Tryz.prog W0) F191.ac F191.rs [.ptr 0 0] [rbx l ⟨a, false⟩, mbx M] (eE (Exp.mk [99, 111, 117, 110, 116] (pPeek l ⟨a + 1, false⟩).2.1 0 [])) [rbx l (rTake l ⟨a + 1, false⟩ [110, 97, 109, 101]), mbx M'] := by
  have h1 : Mv l (-6) 1 ⟨a, false⟩ ⟨a + 1, false⟩ := mv_at (s := ⟨a, false⟩) rfl hlt
  have hn : ([110, 97, 109, 101] : S) ≠ [] := by decide
  refine ⟨M, hI, ?_⟩
  conv => whnf
  (refine callP.full [0, 1] [] [.ptr 0 0, .sc (.i .i64 (0))] [rbx l _, mbx _] [rbx l _, mbx _] _ (c118 W0 l ⟨a, false⟩ M (Nat.le_trans hl (by decide)) (by simp only; omega)) ⟨rfl, rfl, rfl, rfl, rfl, rfl, rfl, rfl, rfl, rfl, ⟨rfl, rfl, trivial⟩, ⟨⟨⟨rfl, rfl, .inr rfl⟩, rfl, rfl, rfl, trivial⟩, ⟨rfl, trivial⟩, trivial⟩, trivial⟩ ?_)
  rw [hq]
  repeat' ((conv => whnf); (first | with_reducible refine brec (fun _ => ?_) (fun _ => ?_) | (refine callP.full [0, 1] [] [.ptr 0 0, .sc (.s [110, 97, 109, 101])] [rbx l _, mbx _] [rbx l _, mbx _] _ (c120 W0 l ⟨a + 1, false⟩ M [110, 97, 109, 101] (Nat.le_trans hl (by decide)) (by simp only [rTake, rWant, rNum]; omega)) ⟨rfl, rfl, rfl, rfl, rfl, rfl, rfl, rfl, rfl, rfl, ⟨rfl, rfl, trivial⟩, ⟨⟨⟨rfl, rfl, .inr rfl⟩, rfl, rfl, rfl, trivial⟩, ⟨rfl, trivial⟩, trivial⟩, trivial⟩ ?_) | (refine And.intro (by constructor <;> ((try simp only); omega)) ?_) | fail))
  all_goals (conv => whnf)
  all_goals (first | (refine fin_rw rfl rfl rfl rfl rfl rfl rfl ?_ rfl; exact ⟨rfl, rfl, rfl, ⟨rfl, rfl, .inl rfl⟩, trivial⟩))
end Go.Abs

set_option maxRecDepth 100000
namespace Go.Abs
open Go.Proofs
set_option maxHeartbeats 8000000 in
theorem b191_get (W0 : Go.World) (hk : Wk W0) (l : List T) (a0 : Nat) (E : PS → Exp × PS) (m : PS → Mem → Mem) (M : Mem) (hl : l.length ≤ 549755813888) (hR : RdC W0 l a0 E m) (a : Nat) (hc : Cd l a0 ⟨a, false⟩) (hp : Ph l ⟨a, false⟩ ≤ 4000000000000) (ht : tOK l) (hlt : a < l.length) (hI : Inv l M) (p : Int) (hq : pPeek l ⟨a, false⟩ = ([107, 101, 121], [103, 101, 116], p)) :
    ∃ M', Inv l M' ∧ Body (Ctr Tryz.prog W0) F191.ac F191.rs [.ptr 0 0] [rbx l ⟨a, false⟩, mbx M] (eE (Exp.mk [103, 101, 116] (pPeek l ⟨a + 1, false⟩).2.1 0 [])) [rbx l (rTake l ⟨a + 1, false⟩ [110, 97, 109, 101]), mbx M'] := by
  have h1 : Mv l (-6) 1 ⟨a, false⟩ ⟨a + 1, false⟩ := mv_at (s := ⟨a, false⟩) rfl hlt
  have hn : ([110, 97, 109, 101] : S) ≠ [] := by decide
  refine ⟨M, hI, ?_⟩
  conv => whnf
  (refine callP.full [0, 1] [] [.ptr 0 0, .sc (.i .i64 (0))] [rbx l _, mbx _] [rbx l _, mbx _] _ (c118 W0 l ⟨a, false⟩ M (Nat.le_trans hl (by decide)) (by simp only; omega)) ⟨rfl, rfl, rfl, rfl, rfl, rfl, rfl, rfl, rfl, rfl, ⟨rfl, rfl, trivial⟩, ⟨⟨⟨rfl, rfl, .inr rfl⟩, rfl, rfl, rfl, trivial⟩, ⟨rfl, trivial⟩, trivial⟩, trivial⟩ ?_)
  rw [hq]
  repeat' ((conv => whnf); (first | with_reducible refine brec (fun _ => ?_) (fun _ => ?_) | (refine callP.full [0, 1] [] [.ptr 0 0, .sc (.s [110, 97, 109, 101])] [rbx l _, mbx _] [rbx l _, mbx _] _ (c120 W0 l ⟨a + 1, false⟩ M [110, 97, 109, 101] (Nat.le_trans hl (by decide)) (by simp only [rTake, rWant, rNum]; omega)) ⟨rfl, rfl, rfl, rfl, rfl, rfl, rfl, rfl, rfl, rfl, ⟨rfl, rfl, trivial⟩, ⟨⟨⟨rfl, rfl, .inr rfl⟩, rfl, rfl, rfl, trivial⟩, ⟨rfl, trivial⟩, trivial⟩, trivial⟩ ?_) | (refine And.intro (by constructor <;> ((try simp only); omega)) ?_) | fail))
  all_goals (conv => whnf)
  all_goals (first | (refine fin_rw rfl rfl rfl rfl rfl rfl rfl ?_ rfl; exact ⟨rfl, rfl, rfl, ⟨rfl, rfl, .inl rfl⟩, trivial⟩))
end Go.Abs

set_option maxRecDepth 100000
namespace Go.Abs
open Go.Proofs
set_option maxHeartbeats 8000000 in
theorem b191_has (W0 : Go.World) (hk : Wk W0) (l : List T) (a0 : Nat) (E : PS → Exp × PS) (m : PS → Mem → Mem) (M : Mem) (hl : l.length ≤ 549755813888) (hR : RdC W0 l a0 E m) (a : Nat) (hc : Cd l a0 ⟨a, false⟩) (hp : Ph l ⟨a, false⟩ ≤ 4000000000000) (ht : tOK l) (hlt : a < l.length) (hI : Inv l M) (p : Int) (hq : pPeek l ⟨a, false⟩ = ([107, 101, 121], [104, 97, 115], p)) :
    ∃ M', Inv l M' ∧ Body (Ctr Tryz.prog W0) F191.ac F191.rs [.ptr 0 0] [rbx l ⟨a, false⟩, mbx M] (eE (Exp.mk [104, 97, 115] (pPeek l ⟨a + 1, false⟩).2.1 0 (rExps l E [93] (rWant l (rTake l ⟨a + 1, false⟩ [110, 97, 109, 101]) [91])).1)) [rbx l ((rExps l E [93] (rWant l (rTake l ⟨a + 1, false⟩ [110, 97, 109, 101]) [91])).2), mbx M'] := by
  have h1 : Mv l (-6) 1 ⟨a, false⟩ ⟨a + 1, false⟩ := mv_at (s := ⟨a, false⟩) rfl hlt
  have hn : ([110, 97, 109, 101] : S) ≠ [] := by decide
  have t1 := mv_take (l := l) (s := ⟨a + 1, false⟩) hn h1.wf
  have w1 := mv_want [91] t1.wf
  have hw := (h1.trans t1).trans w1
  have hph := hw.ph
  have hcq := hw.cd hc
  have hq2 : Ph l (rWant l (rTake l ⟨a + 1, false⟩ [110, 97, 109, 101]) [91]) ≤ 4000000000000 := by omega
  refine ⟨mExps l E m [93] (rWant l (rTake l ⟨a + 1, false⟩ [110, 97, 109, 101]) [91]) M, inv_exps hR [93] _ M hcq hq2 hI, ?_⟩
  conv => whnf
  (refine callP.full [0, 1] [] [.ptr 0 0, .sc (.i .i64 (0))] [rbx l _, mbx _] [rbx l _, mbx _] _ (c118 W0 l ⟨a, false⟩ M (Nat.le_trans hl (by decide)) (by simp only; omega)) ⟨rfl, rfl, rfl, rfl, rfl, rfl, rfl, rfl, rfl, rfl, ⟨rfl, rfl, trivial⟩, ⟨⟨⟨rfl, rfl, .inr rfl⟩, rfl, rfl, rfl, trivial⟩, ⟨rfl, trivial⟩, trivial⟩, trivial⟩ ?_)
  rw [hq]
  repeat' ((conv => whnf); (first | with_reducible refine brec (fun _ => ?_) (fun _ => ?_) | (refine callP.full [0, 1] [] [.ptr 0 0, .sc (.s [110, 97, 109, 101])] [rbx l _, mbx _] [rbx l _, mbx _] _ (c120 W0 l ⟨a + 1, false⟩ M [110, 97, 109, 101] (Nat.le_trans hl (by decide)) (by simp only [rTake, rWant, rNum]; omega)) ⟨rfl, rfl, rfl, rfl, rfl, rfl, rfl, rfl, rfl, rfl, ⟨rfl, rfl, trivial⟩, ⟨⟨⟨rfl, rfl, .inr rfl⟩, rfl, rfl, rfl, trivial⟩, ⟨rfl, trivial⟩, trivial⟩, trivial⟩ ?_) | (refine callP.full [0, 1] [] [.ptr 0 0, .sl 1 [[.sc (.s [91])]] .none] [rbx l _, mbx _] [rbx l _, mbx _] _ (c119 W0 l (rTake l ⟨a + 1, false⟩ [110, 97, 109, 101]) M [91] (Nat.le_trans hl (by decide)) (by simp only [rTake, rWant, rNum]; omega)) ⟨rfl, rfl, rfl, rfl, rfl, rfl, rfl, rfl, rfl, rfl, ⟨rfl, ⟨rfl, rfl, .inl rfl⟩, trivial⟩, ⟨⟨⟨rfl, rfl, .inr rfl⟩, rfl, rfl, rfl, trivial⟩, ⟨rfl, trivial⟩, trivial⟩, trivial⟩ ?_) | (refine callP.full [0, 1] [] [.ptr 0 0, .sc (.s [93])] [rbx l _, mbx _] [rbx l _, mbx _] _ (c182 W0 l a0 E m (rWant l (rTake l ⟨a + 1, false⟩ [110, 97, 109, 101]) [91]) M hl hR hcq hq2 hI [93]) ⟨rfl, rfl, rfl, rfl, rfl, rfl, rfl, rfl, rfl, rfl, ⟨rfl, rfl, trivial⟩, ⟨⟨⟨rfl, rfl, .inr rfl⟩, rfl, rfl, rfl, trivial⟩, ⟨rfl, trivial⟩, trivial⟩, trivial⟩ ?_) | (refine And.intro (by constructor <;> ((try simp only); omega)) ?_) | fail))
  all_goals (conv => whnf)
  all_goals (first | (refine fin_rw rfl rfl rfl rfl rfl rfl rfl ?_ rfl; exact ⟨rfl, rfl, rfl, ⟨rfl, rfl, .inl rfl⟩, trivial⟩))
end Go.Abs

set_option maxRecDepth 100000
namespace Go.Abs
open Go.Proofs
set_option maxHeartbeats 8000000 in
theorem b191_high (W0 : Go.World) (hk : Wk W0) (l : List T) (a0 : Nat) (E : PS → Exp × PS) (m : PS → Mem → Mem) (M : Mem) (hl : l.length ≤ 549755813888) (hR : RdC W0 l a0 E m) (a : Nat) (hc : Cd l a0 ⟨a, false⟩) (hp : Ph l ⟨a, false⟩ ≤ 4000000000000) (ht : tOK l) (hlt : a < l.length) (hI : Inv l M) (p : Int) (hq : pPeek l ⟨a, false⟩ = ([107, 101, 121], [104, 105, 103, 104], p)) :
    ∃ M', Inv l M' ∧ Body (Ctr Tryz.prog W0) F191.ac F191.rs [.ptr 0 0] [rbx l ⟨a, false⟩, mbx M] (eE (Exp.mk [104, 105, 103, 104] (pPeek l ⟨a + 1, false⟩).2.1 (numV (pPeek l (rTake l ⟨a + 1, false⟩ [110, 97, 109, 101])).2.1) [])) [rbx l (rNum l (rTake l ⟨a + 1, false⟩ [110, 97, 109, 101])), mbx M'] := by
  have h1 : Mv l (-6) 1 ⟨a, false⟩ ⟨a + 1, false⟩ := mv_at (s := ⟨a, false⟩) rfl hlt
  have hn : ([110, 97, 109, 101] : S) ≠ [] := by decide
  refine ⟨M, hI, ?_⟩
  conv => whnf
  (refine callP.full [0, 1] [] [.ptr 0 0, .sc (.i .i64 (0))] [rbx l _, mbx _] [rbx l _, mbx _] _ (c118 W0 l ⟨a, false⟩ M (Nat.le_trans hl (by decide)) (by simp only; omega)) ⟨rfl, rfl, rfl, rfl, rfl, rfl, rfl, rfl, rfl, rfl, ⟨rfl, rfl, trivial⟩, ⟨⟨⟨rfl, rfl, .inr rfl⟩, rfl, rfl, rfl, trivial⟩, ⟨rfl, trivial⟩, trivial⟩, trivial⟩ ?_)
  rw [hq]
  repeat' ((conv => whnf); (first | with_reducible refine brec (fun _ => ?_) (fun _ => ?_) | (refine callP.full [0, 1] [] [.ptr 0 0, .sc (.s [110, 97, 109, 101])] [rbx l _, mbx _] [rbx l _, mbx _] _ (c120 W0 l ⟨a + 1, false⟩ M [110, 97, 109, 101] (Nat.le_trans hl (by decide)) (by simp only [rTake, rWant, rNum]; omega)) ⟨rfl, rfl, rfl, rfl, rfl, rfl, rfl, rfl, rfl, rfl, ⟨rfl, rfl, trivial⟩, ⟨⟨⟨rfl, rfl, .inr rfl⟩, rfl, rfl, rfl, trivial⟩, ⟨rfl, trivial⟩, trivial⟩, trivial⟩ ?_) | (refine callP.full [0, 1] [] [.ptr 0 0] [rbx l _, mbx _] [rbx l _, mbx _] _ (c122 W0 l (rTake l ⟨a + 1, false⟩ [110, 97, 109, 101]) M (Nat.le_trans hl (by decide)) ht (by simp only [rTake, rWant, rNum]; omega)) ⟨rfl, rfl, rfl, rfl, rfl, rfl, rfl, rfl, rfl, rfl, ⟨rfl, trivial⟩, ⟨⟨⟨rfl, rfl, .inr rfl⟩, rfl, rfl, rfl, trivial⟩, ⟨rfl, trivial⟩, trivial⟩, trivial⟩ ?_) | (refine And.intro (by constructor <;> ((try simp only); omega)) ?_) | fail))
  all_goals (conv => whnf)
  all_goals (first | (refine fin_rw rfl rfl rfl rfl rfl rfl rfl ?_ rfl; exact ⟨rfl, rfl, rfl, ⟨rfl, rfl, .inl rfl⟩, trivial⟩))
end Go.Abs

set_option maxRecDepth 100000
namespace Go.Abs
open Go.Proofs
set_option maxHeartbeats 8000000 in
theorem b191_int (W0 : Go.World) (hk : Wk W0) (l : List T) (a0 : Nat) (E : PS → Exp × PS) (m : PS → Mem → Mem) (M : Mem) (hl : l.length ≤ 549755813888) (hR : RdC W0 l a0 E m) (a : Nat) (hc : Cd l a0 ⟨a, false⟩) (hp : Ph l ⟨a, false⟩ ≤ 4000000000000) (ht : tOK l) (hlt : a < l.length) (hI : Inv l M) (p : Int) (hq : pPeek l ⟨a, false⟩ = ([107, 101, 121], [105, 110, 116], p)) :
    ∃ M', Inv l M' ∧ Body (Ctr Tryz.prog W0) F191.ac F191.rs [.ptr 0 0] [rbx l ⟨a, false⟩, mbx M] (eE (Exp.mk [111, 112] [105, 110, 116] 0 [(E ⟨a + 1, false⟩).1])) [rbx l ((E ⟨a + 1, false⟩).2), mbx M'] := by
  have h1 : Mv l (-6) 1 ⟨a, false⟩ ⟨a + 1, false⟩ := mv_at (s := ⟨a, false⟩) rfl hlt
  have hn : ([110, 97, 109, 101] : S) ≠ [] := by decide
  have hw1 := h1
  have hp1 := hw1.ph
  have hc1 := hw1.cd hc
  have hE1 := hR.c ⟨a + 1, false⟩ M hc1 (by omega) hI
  have hv1 := hR.rd ⟨a + 1, false⟩ hc1
  generalize hr1 : E ⟨a + 1, false⟩ = q1 at hE1 hv1 ⊢
  generalize hm1 : m ⟨a + 1, false⟩ M = M1 at hE1 ⊢
  obtain ⟨⟨x1a, x1b, x1n, x1l⟩, s1⟩ := q1
  obtain ⟨hI1, hE1⟩ := hE1
  simp only at hE1 hv1 ⊢
  refine ⟨M1, hI1, ?_⟩
  conv => whnf
  (refine callP.full [0, 1] [] [.ptr 0 0, .sc (.i .i64 (0))] [rbx l _, mbx _] [rbx l _, mbx _] _ (c118 W0 l ⟨a, false⟩ M (Nat.le_trans hl (by decide)) (by simp only; omega)) ⟨rfl, rfl, rfl, rfl, rfl, rfl, rfl, rfl, rfl, rfl, ⟨rfl, rfl, trivial⟩, ⟨⟨⟨rfl, rfl, .inr rfl⟩, rfl, rfl, rfl, trivial⟩, ⟨rfl, trivial⟩, trivial⟩, trivial⟩ ?_)
  rw [hq]
  repeat' ((conv => whnf); (first | with_reducible refine brec (fun _ => ?_) (fun _ => ?_) | (refine callP.full [0, 1] [] [.ptr 0 0] [rbx l _, mbx _] [rbx l _, mbx _] _ (hE1) ⟨rfl, rfl, rfl, rfl, rfl, rfl, rfl, rfl, rfl, rfl, ⟨rfl, trivial⟩, ⟨⟨⟨rfl, rfl, .inr rfl⟩, rfl, rfl, rfl, trivial⟩, ⟨rfl, trivial⟩, trivial⟩, trivial⟩ ?_) | (refine And.intro (by constructor <;> ((try simp only); omega)) ?_) | fail))
  all_goals (conv => whnf)
  all_goals (first | (refine fin_rw rfl rfl rfl rfl rfl rfl rfl ?_ rfl; exact ⟨rfl, rfl, rfl, ⟨rfl, rfl, .inl rfl⟩, trivial⟩))
end Go.Abs

set_option maxRecDepth 100000
namespace Go.Abs
open Go.Proofs
set_option maxHeartbeats 16000000 in
theorem b191_key (W0 : Go.World) (hk : Wk W0) (l : List T) (a0 : Nat) (E : PS → Exp × PS) (m : PS → Mem → Mem) (M : Mem) (hl : l.length ≤ 549755813888) (hR : RdC W0 l a0 E m) (a : Nat) (hc : Cd l a0 ⟨a, false⟩) (hp : Ph l ⟨a, false⟩ ≤ 4000000000000) (ht : tOK l) (hlt : a < l.length) (hI : Inv l M) (tx : S) (p : Int) (hq : pPeek l ⟨a, false⟩ = ([107, 101, 121], tx, p)) (g0 : beqL tx [116, 114, 117, 101] = false) (g1 : beqL tx [102, 97, 108, 115, 101] = false) (g2 : beqL tx [109, 105, 110] = false) (g3 : beqL tx [109, 97, 120] = false) (g4 : beqL tx [33] = false) (g5 : beqL tx [105, 110, 116] = false) (g6 : beqL tx [110, 111, 110, 101] = false) (g7 : beqL tx [114, 101, 97, 100] = false) (g8 : beqL tx [103, 101, 116] = false) (g9 : beqL tx [99, 111, 117, 110, 116] = false) (g10 : beqL tx [108, 111, 119] = false) (g11 : beqL tx [104, 105, 103, 104] = false) (g12 : beqL tx [111, 114, 100] = false) (g13 : beqL tx [104, 97, 115] = false) (g14 : beqL tx [110, 116, 104] = false) :
    Body (Ctr Tryz.prog W0) F191.ac F191.rs [.ptr 0 0] [rbx l ⟨a, false⟩, mbx M] (eE ex0) [rbx l ⟨a + 1, true⟩, mbx M] := by
  conv => whnf
  (refine callP.full [0, 1] [] [.ptr 0 0, .sc (.i .i64 (0))] [rbx l _, mbx _] [rbx l _, mbx _] _ (c118 W0 l ⟨a, false⟩ M (Nat.le_trans hl (by decide)) (by simp only; omega)) ⟨rfl, rfl, rfl, rfl, rfl, rfl, rfl, rfl, rfl, rfl, ⟨rfl, rfl, trivial⟩, ⟨⟨⟨rfl, rfl, .inr rfl⟩, rfl, rfl, rfl, trivial⟩, ⟨rfl, trivial⟩, trivial⟩, trivial⟩ ?_)
  rw [hq]
  iterate 2 ((conv => whnf); (first | rw [g0] | rw [g1] | skip))
  conv => whnf
  refine And.intro (by constructor <;> ((try simp only); omega)) ?_
  iterate 15 ((conv => whnf); (first | rw [g0] | rw [g1] | rw [g2] | rw [g3] | rw [g4] | rw [g5] | rw [g6] | rw [g7] | rw [g8] | rw [g9] | rw [g10] | rw [g11] | rw [g12] | rw [g13] | rw [g14] | skip))
  conv => whnf
  first | (refine fin_rw rfl rfl rfl rfl rfl rfl rfl ?_ rfl; exact ⟨rfl, rfl, rfl, ⟨rfl, rfl, .inl rfl⟩, trivial⟩)
end Go.Abs

set_option maxRecDepth 100000
namespace Go.Abs
open Go.Proofs
set_option maxHeartbeats 8000000 in
theorem b191_low (W0 : Go.World) (hk : Wk W0) (l : List T) (a0 : Nat) (E : PS → Exp × PS) (m : PS → Mem → Mem) (M : Mem) (hl : l.length ≤ 549755813888) (hR : RdC W0 l a0 E m) (a : Nat) (hc : Cd l a0 ⟨a, false⟩) (hp : Ph l ⟨a, false⟩ ≤ 4000000000000) (ht : tOK l) (hlt : a < l.length) (hI : Inv l M) (p : Int) (hq : pPeek l ⟨a, false⟩ = ([107, 101, 121], [108, 111, 119], p)) :
    ∃ M', Inv l M' ∧ Body (Ctr Tryz.prog W0) F191.ac F191.rs [.ptr 0 0] [rbx l ⟨a, false⟩, mbx M] (eE (Exp.mk [108, 111, 119] (pPeek l ⟨a + 1, false⟩).2.1 (numV (pPeek l (rTake l ⟨a + 1, false⟩ [110, 97, 109, 101])).2.1) [])) [rbx l (rNum l (rTake l ⟨a + 1, false⟩ [110, 97, 109, 101])), mbx M'] := by
  have h1 : Mv l (-6) 1 ⟨a, false⟩ ⟨a + 1, false⟩ := mv_at (s := ⟨a, false⟩) rfl hlt
  have hn : ([110, 97, 109, 101] : S) ≠ [] := by decide
  refine ⟨M, hI, ?_⟩
  conv => whnf
  (refine callP.full [0, 1] [] [.ptr 0 0, .sc (.i .i64 (0))] [rbx l _, mbx _] [rbx l _, mbx _] _ (c118 W0 l ⟨a, false⟩ M (Nat.le_trans hl (by decide)) (by simp only; omega)) ⟨rfl, rfl, rfl, rfl, rfl, rfl, rfl, rfl, rfl, rfl, ⟨rfl, rfl, trivial⟩, ⟨⟨⟨rfl, rfl, .inr rfl⟩, rfl, rfl, rfl, trivial⟩, ⟨rfl, trivial⟩, trivial⟩, trivial⟩ ?_)
  rw [hq]
  repeat' ((conv => whnf); (first | with_reducible refine brec (fun _ => ?_) (fun _ => ?_) | (refine callP.full [0, 1] [] [.ptr 0 0, .sc (.s [110, 97, 109, 101])] [rbx l _, mbx _] [rbx l _, mbx _] _ (c120 W0 l ⟨a + 1, false⟩ M [110, 97, 109, 101] (Nat.le_trans hl (by decide)) (by simp only [rTake, rWant, rNum]; omega)) ⟨rfl, rfl, rfl, rfl, rfl, rfl, rfl, rfl, rfl, rfl, ⟨rfl, rfl, trivial⟩, ⟨⟨⟨rfl, rfl, .inr rfl⟩, rfl, rfl, rfl, trivial⟩, ⟨rfl, trivial⟩, trivial⟩, trivial⟩ ?_) | (refine callP.full [0, 1] [] [.ptr 0 0] [rbx l _, mbx _] [rbx l _, mbx _] _ (c122 W0 l (rTake l ⟨a + 1, false⟩ [110, 97, 109, 101]) M (Nat.le_trans hl (by decide)) ht (by simp only [rTake, rWant, rNum]; omega)) ⟨rfl, rfl, rfl, rfl, rfl, rfl, rfl, rfl, rfl, rfl, ⟨rfl, trivial⟩, ⟨⟨⟨rfl, rfl, .inr rfl⟩, rfl, rfl, rfl, trivial⟩, ⟨rfl, trivial⟩, trivial⟩, trivial⟩ ?_) | (refine And.intro (by constructor <;> ((try simp only); omega)) ?_) | fail))
  all_goals (conv => whnf)
  all_goals (first | (refine fin_rw rfl rfl rfl rfl rfl rfl rfl ?_ rfl; exact ⟨rfl, rfl, rfl, ⟨rfl, rfl, .inl rfl⟩, trivial⟩))
end Go.Abs

set_option maxRecDepth 100000
namespace Go.Abs
open Go.Proofs
set_option maxHeartbeats 8000000 in
theorem b191_max (W0 : Go.World) (hk : Wk W0) (l : List T) (a0 : Nat) (E : PS → Exp × PS) (m : PS → Mem → Mem) (M : Mem) (hl : l.length ≤ 549755813888) (hR : RdC W0 l a0 E m) (a : Nat) (hc : Cd l a0 ⟨a, false⟩) (hp : Ph l ⟨a, false⟩ ≤ 4000000000000) (ht : tOK l) (hlt : a < l.length) (hI : Inv l M) (p : Int) (hq : pPeek l ⟨a, false⟩ = ([107, 101, 121], [109, 97, 120], p)) :
    ∃ M', Inv l M' ∧ Body (Ctr Tryz.prog W0) F191.ac F191.rs [.ptr 0 0] [rbx l ⟨a, false⟩, mbx M] (eE (Exp.mk [111, 112] [109, 97, 120] 0 [(E ⟨a + 1, false⟩).1, (E (E ⟨a + 1, false⟩).2).1])) [rbx l ((E (E ⟨a + 1, false⟩).2).2), mbx M'] := by
  have h1 : Mv l (-6) 1 ⟨a, false⟩ ⟨a + 1, false⟩ := mv_at (s := ⟨a, false⟩) rfl hlt
  have hn : ([110, 97, 109, 101] : S) ≠ [] := by decide
  have hw1 := h1
  have hp1 := hw1.ph
  have hc1 := hw1.cd hc
  have hE1 := hR.c ⟨a + 1, false⟩ M hc1 (by omega) hI
  have hv1 := hR.rd ⟨a + 1, false⟩ hc1
  generalize hr1 : E ⟨a + 1, false⟩ = q1 at hE1 hv1 ⊢
  generalize hm1 : m ⟨a + 1, false⟩ M = M1 at hE1 ⊢
  obtain ⟨⟨x1a, x1b, x1n, x1l⟩, s1⟩ := q1
  obtain ⟨hI1, hE1⟩ := hE1
  simp only at hE1 hv1 ⊢
  have hw2 := (h1.trans hv1)
  have hp2 := hw2.ph
  have hc2 := hw2.cd hc
  have hE2 := hR.c s1 M1 hc2 (by omega) hI1
  have hv2 := hR.rd s1 hc2
  generalize hr2 : E s1 = q2 at hE2 hv2 ⊢
  generalize hm2 : m s1 M1 = M2 at hE2 ⊢
  obtain ⟨⟨x2a, x2b, x2n, x2l⟩, s2⟩ := q2
  obtain ⟨hI2, hE2⟩ := hE2
  simp only at hE2 hv2 ⊢
  refine ⟨M2, hI2, ?_⟩
  conv => whnf
  (refine callP.full [0, 1] [] [.ptr 0 0, .sc (.i .i64 (0))] [rbx l _, mbx _] [rbx l _, mbx _] _ (c118 W0 l ⟨a, false⟩ M (Nat.le_trans hl (by decide)) (by simp only; omega)) ⟨rfl, rfl, rfl, rfl, rfl, rfl, rfl, rfl, rfl, rfl, ⟨rfl, rfl, trivial⟩, ⟨⟨⟨rfl, rfl, .inr rfl⟩, rfl, rfl, rfl, trivial⟩, ⟨rfl, trivial⟩, trivial⟩, trivial⟩ ?_)
  rw [hq]
  repeat' ((conv => whnf); (first | with_reducible refine brec (fun _ => ?_) (fun _ => ?_) | (refine callP.full [0, 1] [] [.ptr 0 0] [rbx l _, mbx _] [rbx l _, mbx _] _ (hE1) ⟨rfl, rfl, rfl, rfl, rfl, rfl, rfl, rfl, rfl, rfl, ⟨rfl, trivial⟩, ⟨⟨⟨rfl, rfl, .inr rfl⟩, rfl, rfl, rfl, trivial⟩, ⟨rfl, trivial⟩, trivial⟩, trivial⟩ ?_) | (refine callP.full [0, 1] [] [.ptr 0 0] [rbx l _, mbx _] [rbx l _, mbx _] _ (hE2) ⟨rfl, rfl, rfl, rfl, rfl, rfl, rfl, rfl, rfl, rfl, ⟨rfl, trivial⟩, ⟨⟨⟨rfl, rfl, .inr rfl⟩, rfl, rfl, rfl, trivial⟩, ⟨rfl, trivial⟩, trivial⟩, trivial⟩ ?_) | (refine And.intro (by constructor <;> ((try simp only); omega)) ?_) | fail))
  all_goals (conv => whnf)
  all_goals (first | (refine fin_rw rfl rfl rfl rfl rfl rfl rfl ?_ rfl; exact ⟨rfl, rfl, rfl, ⟨rfl, rfl, .inl rfl⟩, trivial⟩))
end Go.Abs

set_option maxRecDepth 100000
namespace Go.Abs
open Go.Proofs
set_option maxHeartbeats 8000000 in
theorem b191_min (W0 : Go.World) (hk : Wk W0) (l : List T) (a0 : Nat) (E : PS → Exp × PS) (m : PS → Mem → Mem) (M : Mem) (hl : l.length ≤ 549755813888) (hR : RdC W0 l a0 E m) (a : Nat) (hc : Cd l a0 ⟨a, false⟩) (hp : Ph l ⟨a, false⟩ ≤ 4000000000000) (ht : tOK l) (hlt : a < l.length) (hI : Inv l M) (p : Int) (hq : pPeek l ⟨a, false⟩ = ([107, 101, 121], [109, 105, 110], p)) :
    ∃ M', Inv l M' ∧ Body (Ctr Tryz.prog W0) F191.ac F191.rs [.ptr 0 0] [rbx l ⟨a, false⟩, mbx M] (eE (Exp.mk [111, 112] [109, 105, 110] 0 [(E ⟨a + 1, false⟩).1, (E (E ⟨a + 1, false⟩).2).1])) [rbx l ((E (E ⟨a + 1, false⟩).2).2), mbx M'] := by
  have h1 : Mv l (-6) 1 ⟨a, false⟩ ⟨a + 1, false⟩ := mv_at (s := ⟨a, false⟩) rfl hlt
  have hn : ([110, 97, 109, 101] : S) ≠ [] := by decide
  have hw1 := h1
  have hp1 := hw1.ph
  have hc1 := hw1.cd hc
  have hE1 := hR.c ⟨a + 1, false⟩ M hc1 (by omega) hI
  have hv1 := hR.rd ⟨a + 1, false⟩ hc1
  generalize hr1 : E ⟨a + 1, false⟩ = q1 at hE1 hv1 ⊢
  generalize hm1 : m ⟨a + 1, false⟩ M = M1 at hE1 ⊢
  obtain ⟨⟨x1a, x1b, x1n, x1l⟩, s1⟩ := q1
  obtain ⟨hI1, hE1⟩ := hE1
  simp only at hE1 hv1 ⊢
  have hw2 := (h1.trans hv1)
  have hp2 := hw2.ph
  have hc2 := hw2.cd hc
  have hE2 := hR.c s1 M1 hc2 (by omega) hI1
  have hv2 := hR.rd s1 hc2
  generalize hr2 : E s1 = q2 at hE2 hv2 ⊢
  generalize hm2 : m s1 M1 = M2 at hE2 ⊢
  obtain ⟨⟨x2a, x2b, x2n, x2l⟩, s2⟩ := q2
  obtain ⟨hI2, hE2⟩ := hE2
  simp only at hE2 hv2 ⊢
  refine ⟨M2, hI2, ?_⟩
  conv => whnf
  (refine callP.full [0, 1] [] [.ptr 0 0, .sc (.i .i64 (0))] [rbx l _, mbx _] [rbx l _, mbx _] _ (c118 W0 l ⟨a, false⟩ M (Nat.le_trans hl (by decide)) (by simp only; omega)) ⟨rfl, rfl, rfl, rfl, rfl, rfl, rfl, rfl, rfl, rfl, ⟨rfl, rfl, trivial⟩, ⟨⟨⟨rfl, rfl, .inr rfl⟩, rfl, rfl, rfl, trivial⟩, ⟨rfl, trivial⟩, trivial⟩, trivial⟩ ?_)
  rw [hq]
  repeat' ((conv => whnf); (first | with_reducible refine brec (fun _ => ?_) (fun _ => ?_) | (refine callP.full [0, 1] [] [.ptr 0 0] [rbx l _, mbx _] [rbx l _, mbx _] _ (hE1) ⟨rfl, rfl, rfl, rfl, rfl, rfl, rfl, rfl, rfl, rfl, ⟨rfl, trivial⟩, ⟨⟨⟨rfl, rfl, .inr rfl⟩, rfl, rfl, rfl, trivial⟩, ⟨rfl, trivial⟩, trivial⟩, trivial⟩ ?_) | (refine callP.full [0, 1] [] [.ptr 0 0] [rbx l _, mbx _] [rbx l _, mbx _] _ (hE2) ⟨rfl, rfl, rfl, rfl, rfl, rfl, rfl, rfl, rfl, rfl, ⟨rfl, trivial⟩, ⟨⟨⟨rfl, rfl, .inr rfl⟩, rfl, rfl, rfl, trivial⟩, ⟨rfl, trivial⟩, trivial⟩, trivial⟩ ?_) | (refine And.intro (by constructor <;> ((try simp only); omega)) ?_) | fail))
  all_goals (conv => whnf)
  all_goals (first | (refine fin_rw rfl rfl rfl rfl rfl rfl rfl ?_ rfl; exact ⟨rfl, rfl, rfl, ⟨rfl, rfl, .inl rfl⟩, trivial⟩))
end Go.Abs

set_option maxRecDepth 100000
namespace Go.Abs
open Go.Proofs
set_option maxHeartbeats 8000000 in
theorem b191_none (W0 : Go.World) (hk : Wk W0) (l : List T) (a0 : Nat) (E : PS → Exp × PS) (m : PS → Mem → Mem) (M : Mem) (hl : l.length ≤ 549755813888) (hR : RdC W0 l a0 E m) (a : Nat) (hc : Cd l a0 ⟨a, false⟩) (hp : Ph l ⟨a, false⟩ ≤ 4000000000000) (ht : tOK l) (hlt : a < l.length) (hI : Inv l M) (p : Int) (hq : pPeek l ⟨a, false⟩ = ([107, 101, 121], [110, 111, 110, 101], p)) :
    ∃ M', Inv l M' ∧ Body (Ctr Tryz.prog W0) F191.ac F191.rs [.ptr 0 0] [rbx l ⟨a, false⟩, mbx M] (eE (Exp.mk [110, 111, 110, 101] (pPeek l ⟨a + 1, false⟩).2.1 0 [])) [rbx l (rWord l ⟨a + 1, false⟩ ws0), mbx M'] := by
  have h1 : Mv l (-6) 1 ⟨a, false⟩ ⟨a + 1, false⟩ := mv_at (s := ⟨a, false⟩) rfl hlt
  have hn : ([110, 97, 109, 101] : S) ≠ [] := by decide
  refine ⟨M, hI, ?_⟩
  conv => whnf
  (refine callP.full [0, 1] [] [.ptr 0 0, .sc (.i .i64 (0))] [rbx l _, mbx _] [rbx l _, mbx _] _ (c118 W0 l ⟨a, false⟩ M (Nat.le_trans hl (by decide)) (by simp only; omega)) ⟨rfl, rfl, rfl, rfl, rfl, rfl, rfl, rfl, rfl, rfl, ⟨rfl, rfl, trivial⟩, ⟨⟨⟨rfl, rfl, .inr rfl⟩, rfl, rfl, rfl, trivial⟩, ⟨rfl, trivial⟩, trivial⟩, trivial⟩ ?_)
  rw [hq]
  repeat' ((conv => whnf); (first | with_reducible refine brec (fun _ => ?_) (fun _ => ?_) | (refine callP.full [0, 1] [] [.ptr 0 0, .sc (.s [43, 32, 42, 32, 109, 105, 110, 32, 109, 97, 120, 32, 38, 32, 124])] [rbx l _, mbx _] [rbx l _, mbx _] _ (c123 W0 l ⟨a + 1, false⟩ M (Nat.le_trans hl (by decide)) [43, 32, 42, 32, 109, 105, 110, 32, 109, 97, 120, 32, 38, 32, 124] ws0 (c121_0 W0 hk) (by simp only [rTake, rWant, rNum]; omega)) ⟨rfl, rfl, rfl, rfl, rfl, rfl, rfl, rfl, rfl, rfl, ⟨rfl, rfl, trivial⟩, ⟨⟨⟨rfl, rfl, .inr rfl⟩, rfl, rfl, rfl, trivial⟩, ⟨rfl, trivial⟩, trivial⟩, trivial⟩ ?_) | (refine And.intro (by constructor <;> ((try simp only); omega)) ?_) | fail))
  all_goals (conv => whnf)
  all_goals (first | (refine fin_rw rfl rfl rfl rfl rfl rfl rfl ?_ rfl; exact ⟨rfl, rfl, rfl, ⟨rfl, rfl, .inl rfl⟩, trivial⟩))
end Go.Abs

set_option maxRecDepth 100000
namespace Go.Abs
open Go.Proofs
set_option maxHeartbeats 8000000 in
theorem b191_nth (W0 : Go.World) (hk : Wk W0) (l : List T) (a0 : Nat) (E : PS → Exp × PS) (m : PS → Mem → Mem) (M : Mem) (hl : l.length ≤ 549755813888) (hR : RdC W0 l a0 E m) (a : Nat) (hc : Cd l a0 ⟨a, false⟩) (hp : Ph l ⟨a, false⟩ ≤ 4000000000000) (ht : tOK l) (hlt : a < l.length) (hI : Inv l M) (p : Int) (hq : pPeek l ⟨a, false⟩ = ([107, 101, 121], [110, 116, 104], p)) :
    ∃ M', Inv l M' ∧ Body (Ctr Tryz.prog W0) F191.ac F191.rs [.ptr 0 0] [rbx l ⟨a, false⟩, mbx M] (eE (Exp.mk [110, 116, 104] (pPeek l ⟨a + 1, false⟩).2.1 (numV (pPeek l (rTake l ⟨a + 1, false⟩ [110, 97, 109, 101])).2.1) [(E (rNum l (rTake l ⟨a + 1, false⟩ [110, 97, 109, 101]))).1])) [rbx l ((E (rNum l (rTake l ⟨a + 1, false⟩ [110, 97, 109, 101]))).2), mbx M'] := by
  have h1 : Mv l (-6) 1 ⟨a, false⟩ ⟨a + 1, false⟩ := mv_at (s := ⟨a, false⟩) rfl hlt
  have hn : ([110, 97, 109, 101] : S) ≠ [] := by decide
  have t1 := mv_take (l := l) (s := ⟨a + 1, false⟩) hn h1.wf
  have n1 := mv_num t1.wf
  have hw1 := ((h1.trans t1).trans n1)
  have hp1 := hw1.ph
  have hc1 := hw1.cd hc
  have hE1 := hR.c (rNum l (rTake l ⟨a + 1, false⟩ [110, 97, 109, 101])) M hc1 (by omega) hI
  have hv1 := hR.rd (rNum l (rTake l ⟨a + 1, false⟩ [110, 97, 109, 101])) hc1
  generalize hr1 : E (rNum l (rTake l ⟨a + 1, false⟩ [110, 97, 109, 101])) = q1 at hE1 hv1 ⊢
  generalize hm1 : m (rNum l (rTake l ⟨a + 1, false⟩ [110, 97, 109, 101])) M = M1 at hE1 ⊢
  obtain ⟨⟨x1a, x1b, x1n, x1l⟩, s1⟩ := q1
  obtain ⟨hI1, hE1⟩ := hE1
  simp only at hE1 hv1 ⊢
  refine ⟨M1, hI1, ?_⟩
  conv => whnf
  (refine callP.full [0, 1] [] [.ptr 0 0, .sc (.i .i64 (0))] [rbx l _, mbx _] [rbx l _, mbx _] _ (c118 W0 l ⟨a, false⟩ M (Nat.le_trans hl (by decide)) (by simp only; omega)) ⟨rfl, rfl, rfl, rfl, rfl, rfl, rfl, rfl, rfl, rfl, ⟨rfl, rfl, trivial⟩, ⟨⟨⟨rfl, rfl, .inr rfl⟩, rfl, rfl, rfl, trivial⟩, ⟨rfl, trivial⟩, trivial⟩, trivial⟩ ?_)
  rw [hq]
  repeat' ((conv => whnf); (first | with_reducible refine brec (fun _ => ?_) (fun _ => ?_) | (refine callP.full [0, 1] [] [.ptr 0 0, .sc (.s [110, 97, 109, 101])] [rbx l _, mbx _] [rbx l _, mbx _] _ (c120 W0 l ⟨a + 1, false⟩ M [110, 97, 109, 101] (Nat.le_trans hl (by decide)) (by simp only [rTake, rWant, rNum]; omega)) ⟨rfl, rfl, rfl, rfl, rfl, rfl, rfl, rfl, rfl, rfl, ⟨rfl, rfl, trivial⟩, ⟨⟨⟨rfl, rfl, .inr rfl⟩, rfl, rfl, rfl, trivial⟩, ⟨rfl, trivial⟩, trivial⟩, trivial⟩ ?_) | (refine callP.full [0, 1] [] [.ptr 0 0] [rbx l _, mbx _] [rbx l _, mbx _] _ (c122 W0 l (rTake l ⟨a + 1, false⟩ [110, 97, 109, 101]) M (Nat.le_trans hl (by decide)) ht (by simp only [rTake, rWant, rNum]; omega)) ⟨rfl, rfl, rfl, rfl, rfl, rfl, rfl, rfl, rfl, rfl, ⟨rfl, trivial⟩, ⟨⟨⟨rfl, rfl, .inr rfl⟩, rfl, rfl, rfl, trivial⟩, ⟨rfl, trivial⟩, trivial⟩, trivial⟩ ?_) | (refine callP.full [0, 1] [] [.ptr 0 0] [rbx l _, mbx _] [rbx l _, mbx _] _ (hE1) ⟨rfl, rfl, rfl, rfl, rfl, rfl, rfl, rfl, rfl, rfl, ⟨rfl, trivial⟩, ⟨⟨⟨rfl, rfl, .inr rfl⟩, rfl, rfl, rfl, trivial⟩, ⟨rfl, trivial⟩, trivial⟩, trivial⟩ ?_) | (refine And.intro (by constructor <;> ((try simp only); omega)) ?_) | fail))
  all_goals (conv => whnf)
  all_goals (first | (refine fin_rw rfl rfl rfl rfl rfl rfl rfl ?_ rfl; exact ⟨rfl, rfl, rfl, ⟨rfl, rfl, .inl rfl⟩, trivial⟩))
end Go.Abs

set_option maxRecDepth 100000
namespace Go.Abs
open Go.Proofs
set_option maxHeartbeats 8000000 in
theorem b191_ord (W0 : Go.World) (hk : Wk W0) (l : List T) (a0 : Nat) (E : PS → Exp × PS) (m : PS → Mem → Mem) (M : Mem) (hl : l.length ≤ 549755813888) (hR : RdC W0 l a0 E m) (a : Nat) (hc : Cd l a0 ⟨a, false⟩) (hp : Ph l ⟨a, false⟩ ≤ 4000000000000) (ht : tOK l) (hlt : a < l.length) (hI : Inv l M) (p : Int) (hq : pPeek l ⟨a, false⟩ = ([107, 101, 121], [111, 114, 100], p)) :
    ∃ M', Inv l M' ∧ Body (Ctr Tryz.prog W0) F191.ac F191.rs [.ptr 0 0] [rbx l ⟨a, false⟩, mbx M] (eE (Exp.mk [111, 114, 100] (pPeek l ⟨a + 1, false⟩).2.1 0 (rExps l E [93] (rWant l (rTake l ⟨a + 1, false⟩ [110, 97, 109, 101]) [91])).1)) [rbx l ((rExps l E [93] (rWant l (rTake l ⟨a + 1, false⟩ [110, 97, 109, 101]) [91])).2), mbx M'] := by
  have h1 : Mv l (-6) 1 ⟨a, false⟩ ⟨a + 1, false⟩ := mv_at (s := ⟨a, false⟩) rfl hlt
  have hn : ([110, 97, 109, 101] : S) ≠ [] := by decide
  have t1 := mv_take (l := l) (s := ⟨a + 1, false⟩) hn h1.wf
  have w1 := mv_want [91] t1.wf
  have hw := (h1.trans t1).trans w1
  have hph := hw.ph
  have hcq := hw.cd hc
  have hq2 : Ph l (rWant l (rTake l ⟨a + 1, false⟩ [110, 97, 109, 101]) [91]) ≤ 4000000000000 := by omega
  refine ⟨mExps l E m [93] (rWant l (rTake l ⟨a + 1, false⟩ [110, 97, 109, 101]) [91]) M, inv_exps hR [93] _ M hcq hq2 hI, ?_⟩
  conv => whnf
  (refine callP.full [0, 1] [] [.ptr 0 0, .sc (.i .i64 (0))] [rbx l _, mbx _] [rbx l _, mbx _] _ (c118 W0 l ⟨a, false⟩ M (Nat.le_trans hl (by decide)) (by simp only; omega)) ⟨rfl, rfl, rfl, rfl, rfl, rfl, rfl, rfl, rfl, rfl, ⟨rfl, rfl, trivial⟩, ⟨⟨⟨rfl, rfl, .inr rfl⟩, rfl, rfl, rfl, trivial⟩, ⟨rfl, trivial⟩, trivial⟩, trivial⟩ ?_)
  rw [hq]
  repeat' ((conv => whnf); (first | with_reducible refine brec (fun _ => ?_) (fun _ => ?_) | (refine callP.full [0, 1] [] [.ptr 0 0, .sc (.s [110, 97, 109, 101])] [rbx l _, mbx _] [rbx l _, mbx _] _ (c120 W0 l ⟨a + 1, false⟩ M [110, 97, 109, 101] (Nat.le_trans hl (by decide)) (by simp only [rTake, rWant, rNum]; omega)) ⟨rfl, rfl, rfl, rfl, rfl, rfl, rfl, rfl, rfl, rfl, ⟨rfl, rfl, trivial⟩, ⟨⟨⟨rfl, rfl, .inr rfl⟩, rfl, rfl, rfl, trivial⟩, ⟨rfl, trivial⟩, trivial⟩, trivial⟩ ?_) | (refine callP.full [0, 1] [] [.ptr 0 0, .sl 1 [[.sc (.s [91])]] .none] [rbx l _, mbx _] [rbx l _, mbx _] _ (c119 W0 l (rTake l ⟨a + 1, false⟩ [110, 97, 109, 101]) M [91] (Nat.le_trans hl (by decide)) (by simp only [rTake, rWant, rNum]; omega)) ⟨rfl, rfl, rfl, rfl, rfl, rfl, rfl, rfl, rfl, rfl, ⟨rfl, ⟨rfl, rfl, .inl rfl⟩, trivial⟩, ⟨⟨⟨rfl, rfl, .inr rfl⟩, rfl, rfl, rfl, trivial⟩, ⟨rfl, trivial⟩, trivial⟩, trivial⟩ ?_) | (refine callP.full [0, 1] [] [.ptr 0 0, .sc (.s [93])] [rbx l _, mbx _] [rbx l _, mbx _] _ (c182 W0 l a0 E m (rWant l (rTake l ⟨a + 1, false⟩ [110, 97, 109, 101]) [91]) M hl hR hcq hq2 hI [93]) ⟨rfl, rfl, rfl, rfl, rfl, rfl, rfl, rfl, rfl, rfl, ⟨rfl, rfl, trivial⟩, ⟨⟨⟨rfl, rfl, .inr rfl⟩, rfl, rfl, rfl, trivial⟩, ⟨rfl, trivial⟩, trivial⟩, trivial⟩ ?_) | (refine And.intro (by constructor <;> ((try simp only); omega)) ?_) | fail))
  all_goals (conv => whnf)
  all_goals (first | (refine fin_rw rfl rfl rfl rfl rfl rfl rfl ?_ rfl; exact ⟨rfl, rfl, rfl, ⟨rfl, rfl, .inl rfl⟩, trivial⟩))
end Go.Abs

set_option maxRecDepth 100000
namespace Go.Abs
open Go.Proofs
set_option maxHeartbeats 8000000 in
theorem b191_read (W0 : Go.World) (hk : Wk W0) (l : List T) (a0 : Nat) (E : PS → Exp × PS) (m : PS → Mem → Mem) (M : Mem) (hl : l.length ≤ 549755813888) (hR : RdC W0 l a0 E m) (a : Nat) (hc : Cd l a0 ⟨a, false⟩) (hp : Ph l ⟨a, false⟩ ≤ 4000000000000) (ht : tOK l) (hlt : a < l.length) (hI : Inv l M) (p : Int) (hq : pPeek l ⟨a, false⟩ = ([107, 101, 121], [114, 101, 97, 100], p)) :
    ∃ M', Inv l M' ∧ Body (Ctr Tryz.prog W0) F191.ac F191.rs [.ptr 0 0] [rbx l ⟨a, false⟩, mbx M] (eE (Exp.mk [114, 101, 97, 100] (pPeek l ⟨a + 1, false⟩).2.1 0 [])) [rbx l (rTake l ⟨a + 1, false⟩ [110, 97, 109, 101]), mbx M'] := by
  have h1 : Mv l (-6) 1 ⟨a, false⟩ ⟨a + 1, false⟩ := mv_at (s := ⟨a, false⟩) rfl hlt
  have hn : ([110, 97, 109, 101] : S) ≠ [] := by decide
  refine ⟨M, hI, ?_⟩
  conv => whnf
  (refine callP.full [0, 1] [] [.ptr 0 0, .sc (.i .i64 (0))] [rbx l _, mbx _] [rbx l _, mbx _] _ (c118 W0 l ⟨a, false⟩ M (Nat.le_trans hl (by decide)) (by simp only; omega)) ⟨rfl, rfl, rfl, rfl, rfl, rfl, rfl, rfl, rfl, rfl, ⟨rfl, rfl, trivial⟩, ⟨⟨⟨rfl, rfl, .inr rfl⟩, rfl, rfl, rfl, trivial⟩, ⟨rfl, trivial⟩, trivial⟩, trivial⟩ ?_)
  rw [hq]
  repeat' ((conv => whnf); (first | with_reducible refine brec (fun _ => ?_) (fun _ => ?_) | (refine callP.full [0, 1] [] [.ptr 0 0, .sc (.s [110, 97, 109, 101])] [rbx l _, mbx _] [rbx l _, mbx _] _ (c120 W0 l ⟨a + 1, false⟩ M [110, 97, 109, 101] (Nat.le_trans hl (by decide)) (by simp only [rTake, rWant, rNum]; omega)) ⟨rfl, rfl, rfl, rfl, rfl, rfl, rfl, rfl, rfl, rfl, ⟨rfl, rfl, trivial⟩, ⟨⟨⟨rfl, rfl, .inr rfl⟩, rfl, rfl, rfl, trivial⟩, ⟨rfl, trivial⟩, trivial⟩, trivial⟩ ?_) | (refine And.intro (by constructor <;> ((try simp only); omega)) ?_) | fail))
  all_goals (conv => whnf)
  all_goals (first | (refine fin_rw rfl rfl rfl rfl rfl rfl rfl ?_ rfl; exact ⟨rfl, rfl, rfl, ⟨rfl, rfl, .inl rfl⟩, trivial⟩))
end Go.Abs

set_option maxRecDepth 100000
namespace Go.Abs
open Go.Proofs
theorem rIn_min {l : List T} {E : PS → Exp × PS} {a : Nat} {p : Int} (hq : pPeek l ⟨a, false⟩ = ([107, 101, 121], [109, 105, 110], p)) : rInside l E ⟨a, false⟩ = (Exp.mk [111, 112] [109, 105, 110] 0 [(E ⟨a + 1, false⟩).1, (E (E ⟨a + 1, false⟩).2).1], (E (E ⟨a + 1, false⟩).2).2) := by
  simp only [rInside, hq]
  simp [beqL, hasB]
theorem rIn_max {l : List T} {E : PS → Exp × PS} {a : Nat} {p : Int} (hq : pPeek l ⟨a, false⟩ = ([107, 101, 121], [109, 97, 120], p)) : rInside l E ⟨a, false⟩ = (Exp.mk [111, 112] [109, 97, 120] 0 [(E ⟨a + 1, false⟩).1, (E (E ⟨a + 1, false⟩).2).1], (E (E ⟨a + 1, false⟩).2).2) := by
  simp only [rInside, hq]
  simp [beqL, hasB]
theorem rIn_not {l : List T} {E : PS → Exp × PS} {a : Nat} {kd : S} {p : Int} (hq : pPeek l ⟨a, false⟩ = (kd, [33], p)) : rInside l E ⟨a, false⟩ = (Exp.mk [111, 112] [33] 0 [(E ⟨a + 1, false⟩).1], (E ⟨a + 1, false⟩).2) := by
  simp only [rInside, hq]
  simp [beqL, hasB]
theorem rIn_int {l : List T} {E : PS → Exp × PS} {a : Nat} {p : Int} (hq : pPeek l ⟨a, false⟩ = ([107, 101, 121], [105, 110, 116], p)) : rInside l E ⟨a, false⟩ = (Exp.mk [111, 112] [105, 110, 116] 0 [(E ⟨a + 1, false⟩).1], (E ⟨a + 1, false⟩).2) := by
  simp only [rInside, hq]
  simp [beqL, hasB]
theorem rIn_none {l : List T} {E : PS → Exp × PS} {a : Nat} {p : Int} (hq : pPeek l ⟨a, false⟩ = ([107, 101, 121], [110, 111, 110, 101], p)) : rInside l E ⟨a, false⟩ = (Exp.mk [110, 111, 110, 101] (pPeek l ⟨a + 1, false⟩).2.1 0 [], rWord l ⟨a + 1, false⟩ ws0) := by
  simp only [rInside, hq]
  simp [beqL, hasB]
theorem rIn_read {l : List T} {E : PS → Exp × PS} {a : Nat} {p : Int} (hq : pPeek l ⟨a, false⟩ = ([107, 101, 121], [114, 101, 97, 100], p)) : rInside l E ⟨a, false⟩ = (Exp.mk [114, 101, 97, 100] (pPeek l ⟨a + 1, false⟩).2.1 0 [], rTake l ⟨a + 1, false⟩ [110, 97, 109, 101]) := by
  simp only [rInside, hq]
  simp [beqL, hasB]
theorem rIn_get {l : List T} {E : PS → Exp × PS} {a : Nat} {p : Int} (hq : pPeek l ⟨a, false⟩ = ([107, 101, 121], [103, 101, 116], p)) : rInside l E ⟨a, false⟩ = (Exp.mk [103, 101, 116] (pPeek l ⟨a + 1, false⟩).2.1 0 [], rTake l ⟨a + 1, false⟩ [110, 97, 109, 101]) := by
  simp only [rInside, hq]
  simp [beqL, hasB]
theorem rIn_count {l : List T} {E : PS → Exp × PS} {a : Nat} {p : Int} (hq : pPeek l ⟨a, false⟩ = ([107, 101, 121], [99, 111, 117, 110, 116], p)) : rInside l E ⟨a, false⟩ = (Exp.mk [99, 111, 117, 110, 116] (pPeek l ⟨a + 1, false⟩).2.1 0 [], rTake l ⟨a + 1, false⟩ [110, 97, 109, 101]) := by
  simp only [rInside, hq]
  simp [beqL, hasB]
theorem rIn_low {l : List T} {E : PS → Exp × PS} {a : Nat} {p : Int} (hq : pPeek l ⟨a, false⟩ = ([107, 101, 121], [108, 111, 119], p)) : rInside l E ⟨a, false⟩ = (Exp.mk [108, 111, 119] (pPeek l ⟨a + 1, false⟩).2.1 (numV (pPeek l (rTake l ⟨a + 1, false⟩ [110, 97, 109, 101])).2.1) [], rNum l (rTake l ⟨a + 1, false⟩ [110, 97, 109, 101])) := by
  simp only [rInside, hq]
  simp [beqL, hasB]
theorem rIn_high {l : List T} {E : PS → Exp × PS} {a : Nat} {p : Int} (hq : pPeek l ⟨a, false⟩ = ([107, 101, 121], [104, 105, 103, 104], p)) : rInside l E ⟨a, false⟩ = (Exp.mk [104, 105, 103, 104] (pPeek l ⟨a + 1, false⟩).2.1 (numV (pPeek l (rTake l ⟨a + 1, false⟩ [110, 97, 109, 101])).2.1) [], rNum l (rTake l ⟨a + 1, false⟩ [110, 97, 109, 101])) := by
  simp only [rInside, hq]
  simp [beqL, hasB]
theorem rIn_ord {l : List T} {E : PS → Exp × PS} {a : Nat} {p : Int} (hq : pPeek l ⟨a, false⟩ = ([107, 101, 121], [111, 114, 100], p)) : rInside l E ⟨a, false⟩ = (Exp.mk [111, 114, 100] (pPeek l ⟨a + 1, false⟩).2.1 0 (rExps l E [93] (rWant l (rTake l ⟨a + 1, false⟩ [110, 97, 109, 101]) [91])).1, (rExps l E [93] (rWant l (rTake l ⟨a + 1, false⟩ [110, 97, 109, 101]) [91])).2) := by
  simp only [rInside, hq]
  simp [beqL, hasB]
theorem rIn_has {l : List T} {E : PS → Exp × PS} {a : Nat} {p : Int} (hq : pPeek l ⟨a, false⟩ = ([107, 101, 121], [104, 97, 115], p)) : rInside l E ⟨a, false⟩ = (Exp.mk [104, 97, 115] (pPeek l ⟨a + 1, false⟩).2.1 0 (rExps l E [93] (rWant l (rTake l ⟨a + 1, false⟩ [110, 97, 109, 101]) [91])).1, (rExps l E [93] (rWant l (rTake l ⟨a + 1, false⟩ [110, 97, 109, 101]) [91])).2) := by
  simp only [rInside, hq]
  simp [beqL, hasB]
theorem rIn_nth {l : List T} {E : PS → Exp × PS} {a : Nat} {p : Int} (hq : pPeek l ⟨a, false⟩ = ([107, 101, 121], [110, 116, 104], p)) : rInside l E ⟨a, false⟩ = (Exp.mk [110, 116, 104] (pPeek l ⟨a + 1, false⟩).2.1 (numV (pPeek l (rTake l ⟨a + 1, false⟩ [110, 97, 109, 101])).2.1) [(E (rNum l (rTake l ⟨a + 1, false⟩ [110, 97, 109, 101]))).1], (E (rNum l (rTake l ⟨a + 1, false⟩ [110, 97, 109, 101]))).2) := by
  simp only [rInside, hq]
  simp [beqL, hasB]
theorem rIn_key {l : List T} {E : PS → Exp × PS} {a : Nat} {tx : S} {p : Int} (hq : pPeek l ⟨a, false⟩ = ([107, 101, 121], tx, p)) (g0 : ¬ tx = [116, 114, 117, 101]) (g1 : ¬ tx = [102, 97, 108, 115, 101]) (g2 : ¬ tx = [109, 105, 110]) (g3 : ¬ tx = [109, 97, 120]) (g4 : ¬ tx = [33]) (g5 : ¬ tx = [105, 110, 116]) (g6 : ¬ tx = [110, 111, 110, 101]) (g7 : ¬ tx = [114, 101, 97, 100]) (g8 : ¬ tx = [103, 101, 116]) (g9 : ¬ tx = [99, 111, 117, 110, 116]) (g10 : ¬ tx = [108, 111, 119]) (g11 : ¬ tx = [104, 105, 103, 104]) (g12 : ¬ tx = [111, 114, 100]) (g13 : ¬ tx = [104, 97, 115]) (g14 : ¬ tx = [110, 116, 104]) : rInside l E ⟨a, false⟩ = (ex0, ⟨a + 1, true⟩) := by
  simp only [rInside, hq]
  simp [beqL, hasB, g0, g1, g2, g3, g4, g5, g6, g7, g8, g9, g10, g11, g12, g13, g14]
set_option maxHeartbeats 4000000 in
theorem c191 (W0 : Go.World) (hk : Wk W0) (l : List T) (a0 : Nat) (E : PS → Exp × PS) (m : PS → Mem → Mem) (M : Mem) (hl : l.length ≤ 549755813888) (hR : RdC W0 l a0 E m) (s : PS) (hc : Cd l a0 s) (hp : Ph l s + 2 ≤ 4000000000000) (ht : tOK l) (hI : Inv l M) : ∃ M', Inv l M' ∧ Ctr Tryz.prog W0 191 [.ptr 0 0] [rbx l s, mbx M] (eE (rInside l E s).1) [rbx l (rInside l E s).2, mbx M'] := by
  have lift : ∀ {r : Exp × PS} (e : rInside l E s = r), (∃ M', Inv l M' ∧ Body (Ctr Tryz.prog W0) F191.ac F191.rs [.ptr 0 0] [rbx l s, mbx M] (eE r.1) [rbx l r.2, mbx M']) →
      ∃ M', Inv l M' ∧ Ctr Tryz.prog W0 191 [.ptr 0 0] [rbx l s, mbx M] (eE (rInside l E s).1) [rbx l (rInside l E s).2, mbx M'] := by
    rintro r e ⟨M', h1, h2⟩
    rw [e]
    exact ⟨M', h1, ctr_body follows F191_ok rfl (fun _ _ h => by cases h) rfl rfl h2⟩
  generalize hq : pPeek l s = t
  obtain ⟨kd, tx, p⟩ := t
  cases g : ((beqL kd [107, 101, 121] && (!beqL tx [116, 114, 117, 101] && !beqL tx [102, 97, 108, 115, 101])) || beqL tx [33]) with
  | true =>
    obtain ⟨hb, hlt⟩ : s.bad = false ∧ s.a < l.length := by
      refine peek_lt ?_
      rw [hq]
      rw [Bool.or_eq_true] at g
      rcases g with g | g
      · left; intro e; simp only at e; rw [e] at g; simp [beqL] at g
      · right; intro e; simp only at e; rw [e] at g; simp [beqL] at g
    obtain ⟨a, b⟩ := s
    simp only at hb hlt
    subst hb
    have hp' : Ph l ⟨a, false⟩ ≤ 4000000000000 := by omega
    by_cases t2 : tx = [33]
    · subst t2
      exact lift (r := (Exp.mk [111, 112] [33] 0 [(E ⟨a + 1, false⟩).1], (E ⟨a + 1, false⟩).2)) (rIn_not hq) (b191_not W0 hk l a0 E m M hl hR a hc hp' ht hlt hI kd p hq)
    have hkd : kd = [107, 101, 121] := by
      rw [Bool.or_eq_true] at g
      rcases g with g | g
      · simp only [Bool.and_eq_true] at g; exact beqL_iff.1 g.1
      · exact absurd (beqL_iff.1 g) t2
    subst hkd
    by_cases t0 : tx = [109, 105, 110]
    · subst t0
      exact lift (r := (Exp.mk [111, 112] [109, 105, 110] 0 [(E ⟨a + 1, false⟩).1, (E (E ⟨a + 1, false⟩).2).1], (E (E ⟨a + 1, false⟩).2).2)) (rIn_min hq) (b191_min W0 hk l a0 E m M hl hR a hc hp' ht hlt hI p hq)
    by_cases t1 : tx = [109, 97, 120]
    · subst t1
      exact lift (r := (Exp.mk [111, 112] [109, 97, 120] 0 [(E ⟨a + 1, false⟩).1, (E (E ⟨a + 1, false⟩).2).1], (E (E ⟨a + 1, false⟩).2).2)) (rIn_max hq) (b191_max W0 hk l a0 E m M hl hR a hc hp' ht hlt hI p hq)
    by_cases t3 : tx = [105, 110, 116]
    · subst t3
      exact lift (r := (Exp.mk [111, 112] [105, 110, 116] 0 [(E ⟨a + 1, false⟩).1], (E ⟨a + 1, false⟩).2)) (rIn_int hq) (b191_int W0 hk l a0 E m M hl hR a hc hp' ht hlt hI p hq)
    by_cases t4 : tx = [110, 111, 110, 101]
    · subst t4
      exact lift (r := (Exp.mk [110, 111, 110, 101] (pPeek l ⟨a + 1, false⟩).2.1 0 [], rWord l ⟨a + 1, false⟩ ws0)) (rIn_none hq) (b191_none W0 hk l a0 E m M hl hR a hc hp' ht hlt hI p hq)
    by_cases t5 : tx = [114, 101, 97, 100]
    · subst t5
      exact lift (r := (Exp.mk [114, 101, 97, 100] (pPeek l ⟨a + 1, false⟩).2.1 0 [], rTake l ⟨a + 1, false⟩ [110, 97, 109, 101])) (rIn_read hq) (b191_read W0 hk l a0 E m M hl hR a hc hp' ht hlt hI p hq)
    by_cases t6 : tx = [103, 101, 116]
    · subst t6
      exact lift (r := (Exp.mk [103, 101, 116] (pPeek l ⟨a + 1, false⟩).2.1 0 [], rTake l ⟨a + 1, false⟩ [110, 97, 109, 101])) (rIn_get hq) (b191_get W0 hk l a0 E m M hl hR a hc hp' ht hlt hI p hq)
    by_cases t7 : tx = [99, 111, 117, 110, 116]
    · subst t7
      exact lift (r := (Exp.mk [99, 111, 117, 110, 116] (pPeek l ⟨a + 1, false⟩).2.1 0 [], rTake l ⟨a + 1, false⟩ [110, 97, 109, 101])) (rIn_count hq) (b191_count W0 hk l a0 E m M hl hR a hc hp' ht hlt hI p hq)
    by_cases t8 : tx = [108, 111, 119]
    · subst t8
      exact lift (r := (Exp.mk [108, 111, 119] (pPeek l ⟨a + 1, false⟩).2.1 (numV (pPeek l (rTake l ⟨a + 1, false⟩ [110, 97, 109, 101])).2.1) [], rNum l (rTake l ⟨a + 1, false⟩ [110, 97, 109, 101]))) (rIn_low hq) (b191_low W0 hk l a0 E m M hl hR a hc hp' ht hlt hI p hq)
    by_cases t9 : tx = [104, 105, 103, 104]
    · subst t9
      exact lift (r := (Exp.mk [104, 105, 103, 104] (pPeek l ⟨a + 1, false⟩).2.1 (numV (pPeek l (rTake l ⟨a + 1, false⟩ [110, 97, 109, 101])).2.1) [], rNum l (rTake l ⟨a + 1, false⟩ [110, 97, 109, 101]))) (rIn_high hq) (b191_high W0 hk l a0 E m M hl hR a hc hp' ht hlt hI p hq)
    by_cases t10 : tx = [111, 114, 100]
    · subst t10
      exact lift (r := (Exp.mk [111, 114, 100] (pPeek l ⟨a + 1, false⟩).2.1 0 (rExps l E [93] (rWant l (rTake l ⟨a + 1, false⟩ [110, 97, 109, 101]) [91])).1, (rExps l E [93] (rWant l (rTake l ⟨a + 1, false⟩ [110, 97, 109, 101]) [91])).2)) (rIn_ord hq) (b191_ord W0 hk l a0 E m M hl hR a hc hp' ht hlt hI p hq)
    by_cases t11 : tx = [104, 97, 115]
    · subst t11
      exact lift (r := (Exp.mk [104, 97, 115] (pPeek l ⟨a + 1, false⟩).2.1 0 (rExps l E [93] (rWant l (rTake l ⟨a + 1, false⟩ [110, 97, 109, 101]) [91])).1, (rExps l E [93] (rWant l (rTake l ⟨a + 1, false⟩ [110, 97, 109, 101]) [91])).2)) (rIn_has hq) (b191_has W0 hk l a0 E m M hl hR a hc hp' ht hlt hI p hq)
    by_cases t12 : tx = [110, 116, 104]
    · subst t12
      exact lift (r := (Exp.mk [110, 116, 104] (pPeek l ⟨a + 1, false⟩).2.1 (numV (pPeek l (rTake l ⟨a + 1, false⟩ [110, 97, 109, 101])).2.1) [(E (rNum l (rTake l ⟨a + 1, false⟩ [110, 97, 109, 101]))).1], (E (rNum l (rTake l ⟨a + 1, false⟩ [110, 97, 109, 101]))).2)) (rIn_nth hq) (b191_nth W0 hk l a0 E m M hl hR a hc hp' ht hlt hI p hq)
    have hh : ¬ tx = [116, 114, 117, 101] ∧ ¬ tx = [102, 97, 108, 115, 101] := by
      constructor <;> (intro e; subst e; simp [beqL] at g)
    obtain ⟨htrue, hfalse⟩ := hh
    have gs : ∀ {x : S}, ¬ tx = x → beqL tx x = false := fun h => by simpa [beqL] using h
    exact lift (r := (ex0, ⟨a + 1, true⟩)) (rIn_key hq htrue hfalse t0 t1 t2 t3 t4 t5 t6 t7 t8 t9 t10 t11 t12) ⟨M, hI, b191_key W0 hk l a0 E m M hl hR a hc hp' ht hlt hI tx p hq (gs htrue) (gs hfalse) (gs t0) (gs t1) (gs t2) (gs t3) (gs t4) (gs t5) (gs t6) (gs t7) (gs t8) (gs t9) (gs t10) (gs t11) (gs t12)⟩
  | false =>
    have er : rInside l E s = (.mk [111, 112] (pPeek l (E s).2).2.1 0 [(E s).1, (E (rWord l (E s).2 opWs)).1], (E (rWord l (E s).2 opWs)).2) := by simp only [rInside, hq, g, cond_false]
    rw [Bool.or_eq_false_iff] at g
    obtain ⟨g1, g2⟩ := g
    cases hk2 : beqL kd [107, 101, 121] with
    | false => exact lift er (b191_bo W0 hk l a0 E m M hl hR s hc hp ht hI kd tx p hq hk2 g2)
    | true =>
      have hkd := beqL_iff.1 hk2
      subst hkd
      rw [hk2] at g1
      simp only [Bool.true_and, Bool.and_eq_false_iff, Bool.not_eq_false'] at g1
      rcases g1 with g1 | g1
      · have := beqL_iff.1 g1; subst this
        exact lift er (b191_bt W0 hk l a0 E m M hl hR s hc hp ht hI p hq)
      · have := beqL_iff.1 g1; subst this
        exact lift er (b191_bf W0 hk l a0 E m M hl hR s hc hp ht hI p hq)
end Go.Abs
