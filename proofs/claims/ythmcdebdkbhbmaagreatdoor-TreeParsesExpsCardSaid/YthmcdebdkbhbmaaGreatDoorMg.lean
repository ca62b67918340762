/- The shapes of statements: the program. -/
import Derived.Test.YthmcdebdkbhbmaaGreatDoorMf
import Derived.Test.YthmcdebdkbhbmaaGreatDoorMc
import Derived.Test.YthmcdebdkbhbmaaGreatDoorMd
set_option maxRecDepth 100000
namespace Go.Abs
open Go.Proofs
structure Shp where
  nm : Bool
  least : Int
  most : Int
  bodies : Int
  upTo : Int
  names : Bool
  folds : Bool
  text : S
  ok : Bool
def Shp.a (x : Shp) : AV := .agg [.sc (.b x.nm), .sc (.i .i64 x.least), .sc (.i .i64 x.most), .sc (.i .i64 x.bodies), .sc (.i .i64 x.upTo), .sc (.b x.names), .sc (.b x.folds), .sc (.s x.text)]
def Stm.es : Stm → List Exp | .mk _ _ _ _ _ es _ _ => es
def Stm.o : Stm → S | .mk o _ _ _ _ _ _ _ => o
def Stm.tx : Stm → S | .mk _ _ t _ _ _ _ _ => t
def Stm.n : Stm → Int | .mk _ _ _ n _ _ _ _ => n
end Go.Abs

set_option maxRecDepth 100000
namespace Go.Abs
open Go.Proofs
def Exp.o : Exp → S | .mk o _ _ _ => o
end Go.Abs

set_option maxRecDepth 100000
namespace Go.Abs
open Go.Proofs
mutual
def nE : Exp → Int | .mk _ _ _ l => nL l + 1
def nL : List Exp → Int | [] => 0 | x :: r => nE x + nL r
end
mutual
def dpE : Exp → Int | .mk _ _ _ l => dpL l + 1
def dpL : List Exp → Int | [] => 0 | x :: r => max (dpE x) (dpL r)
end
mutual
theorem nE_pos : ∀ x, 1 ≤ nE x | .mk _ _ _ l => by simp only [nE]; have := nL_pos l; omega
theorem nL_pos : ∀ l, 0 ≤ nL l | [] => by simp [nL] | x :: r => by simp only [nL]; have := nE_pos x; have := nL_pos r; omega
end
mutual
theorem dpE_le : ∀ x, 0 ≤ dpE x ∧ dpE x ≤ nE x | .mk _ _ _ l => by simp only [nE, dpE]; have := dpL_le l; omega
theorem dpL_le : ∀ l, 0 ≤ dpL l ∧ dpL l ≤ nL l | [] => by simp [nL, dpL] | x :: r => by simp only [nL, dpL]; have := dpE_le x; have := dpL_le r; have := nE_pos x; have := nL_pos r; omega
end
def pairA (a b : Int) : AV := .agg [.sc (.i .i64 a), .sc (.i .i64 b)]
def F68 : Fn := ⟨.seq (.reg [⟨none, .alloc 2 [.sc (.i .i64 0), .sc (.i .i64 0)]⟩]) (.seq (.reg [⟨none, .alloc 3 [.sc (.i .i64 0), .sc (.i .i64 0)]⟩]) (.seq (.seq (.reg [⟨none, .mv 6 (.t 0)⟩, ⟨none, .len 7 (.t 6)⟩, ⟨none, .mv 8 (.c (.sc (.i .i64 0)))⟩]) (.block 0 (.loop (.seq (.reg [⟨none, .bin 9 .lss (.t 8) (.t 7)⟩]) (.seq (.cond (.t 9) .skip (.exit 0)) (.seq (.block 1 (.seq (.reg [⟨none, .ia 10 4 (.t 6) (.t 8)⟩, ⟨none, .ld 11 4 true (.t 10)⟩, ⟨none, .alloc 5 [.sc (.s []), .sc (.s []), .sc (.i .i64 0), .sl 4 [] .full]⟩, ⟨none, .st (.t 5) 4 (.t 11)⟩]) (.regD [⟨none, .ld 12 2 true (.t 3)⟩, ⟨none, .fa 13 (.t 5) 3⟩, ⟨none, .ld 14 1 false (.t 13)⟩, ⟨none, .call (some 15) (.c (.fn 68 [])) [.t 14]⟩, ⟨none, .call (some 16) (.c (.fn 102 [])) [.t 15]⟩, ⟨none, .call (some 17) (.c (.fn 101 [])) [.t 12, .t 16]⟩, ⟨none, .st (.t 3) 2 (.t 17)⟩] [0, 0, 2, 6, 14, 31, 63]))) (.reg [⟨none, .bin 18 .add (.t 8) (.c (.sc (.i .i64 1)))⟩, ⟨none, .mv 8 (.t 18)⟩]))))))) (.seq (.reg [⟨none, .ld 19 2 true (.t 3)⟩, ⟨none, .st (.t 2) 2 (.t 19)⟩]) .ret))), [(2, 2)], 20⟩
def F101 : Fn := ⟨.seq (.reg [⟨none, .box 2 (.t 0)⟩, ⟨none, .box 3 (.t 1)⟩, ⟨none, .alloc 4 [.sc (.i .i64 0), .sc (.i .i64 0)]⟩]) (.seq (.reg [⟨none, .fa 5 (.t 2) 0⟩, ⟨none, .ld 6 1 false (.t 5)⟩, ⟨none, .fa 7 (.t 3) 0⟩, ⟨none, .ld 8 1 false (.t 7)⟩, ⟨none, .bin 9 .add (.t 6) (.t 8)⟩, ⟨none, .fa 10 (.t 2) 1⟩, ⟨none, .ld 11 1 false (.t 10)⟩, ⟨none, .fa 12 (.t 3) 1⟩, ⟨none, .ld 13 1 false (.t 12)⟩, ⟨none, .mx 14 (.t 11) (.t 13)⟩, ⟨none, .build 15 [.sc (.i .i64 0), .sc (.i .i64 0)] [(0, (1, .t 9)), (1, (1, .t 14))]⟩, ⟨none, .st (.t 4) 2 (.t 15)⟩]) .ret), [(4, 2)], 16⟩
def F102 : Fn := ⟨.seq (.reg [⟨none, .box 1 (.t 0)⟩, ⟨none, .alloc 2 [.sc (.i .i64 0), .sc (.i .i64 0)]⟩]) (.seq (.reg [⟨none, .fa 3 (.t 1) 0⟩, ⟨none, .ld 4 1 false (.t 3)⟩, ⟨none, .bin 5 .add (.t 4) (.c (.sc (.i .i64 1)))⟩, ⟨none, .fa 6 (.t 1) 1⟩, ⟨none, .ld 7 1 false (.t 6)⟩, ⟨none, .bin 8 .add (.t 7) (.c (.sc (.i .i64 1)))⟩, ⟨none, .build 9 [.sc (.i .i64 0), .sc (.i .i64 0)] [(0, (1, .t 5)), (1, (1, .t 8))]⟩, ⟨none, .st (.t 2) 2 (.t 9)⟩]) .ret), [(2, 2)], 10⟩
def F51 : Fn := ⟨.seq (.reg [⟨none, .box 1 (.t 0)⟩, ⟨none, .mv 2 (.c (.sc (.b false)))⟩]) (.seq (.reg [⟨none, .fa 3 (.t 1) 0⟩, ⟨none, .ld 4 1 false (.t 3)⟩, ⟨none, .bin 5 .leq (.t 4) (.c (.sc (.i .i64 1500)))⟩, ⟨none, .mv 6 (.t 5)⟩, ⟨some (6, true), .fa 7 (.t 1) 1⟩, ⟨some (6, true), .ld 8 1 false (.t 7)⟩, ⟨some (6, true), .bin 9 .leq (.t 8) (.c (.sc (.i .i64 60)))⟩, ⟨none, .pick 10 (.t 6) (.t 9) (.c (.sc (.b false)))⟩, ⟨none, .mv 2 (.t 10)⟩]) .ret), [(2, 0)], 11⟩
theorem F68_ok : compT Tryz.prog (fun _ => an0) 68 = some F68 := by kernel_rfl
theorem F101_ok : compT Tryz.prog (fun _ => an0) 101 = some F101 := by kernel_rfl
theorem F102_ok : compT Tryz.prog (fun _ => an0) 102 = some F102 := by kernel_rfl
theorem F51_ok : compT Tryz.prog (fun _ => an0) 51 = some F51 := by kernel_rfl
set_option maxHeartbeats 2000000 in
theorem b101 (W0 : Go.World) (a b c d : Int) (h : Fits .i64 (a + c)) : Body (Ctr Tryz.prog W0) F101.ac F101.rs [pairA a b, pairA c d] [] (pairA (a + c) (max b d)) [] := by
  repeat' ((conv => whnf); (first | with_reducible refine brec (fun _ => ?_) (fun _ => ?_) | (refine And.intro (by first | assumption | (constructor <;> omega)) ?_) | fail))
  all_goals ((conv => whnf); (refine fin0 rfl ?_ rfl; repeat' (first | exact rfl | exact trivial | refine ⟨?_, ?_⟩)))
theorem c101 (W0 : Go.World) (a b c d : Int) (h : Fits .i64 (a + c)) : Ctr Tryz.prog W0 101 [pairA a b, pairA c d] [] (pairA (a + c) (max b d)) [] :=
  ctr_body follows F101_ok rfl (fun _ _ h => by cases h) rfl (by rfl) (b101 W0 a b c d h)
set_option maxHeartbeats 2000000 in
theorem b102 (W0 : Go.World) (a b : Int) (h1 : Fits .i64 (a + 1)) (h2 : Fits .i64 (b + 1)) : Body (Ctr Tryz.prog W0) F102.ac F102.rs [pairA a b] [] (pairA (a + 1) (b + 1)) [] := by
  repeat' ((conv => whnf); (first | with_reducible refine brec (fun _ => ?_) (fun _ => ?_) | (refine And.intro (by first | assumption | (constructor <;> omega)) ?_) | fail))
  all_goals ((conv => whnf); (refine fin0 rfl ?_ rfl; repeat' (first | exact rfl | exact trivial | refine ⟨?_, ?_⟩)))
theorem c102 (W0 : Go.World) (a b : Int) (h1 : Fits .i64 (a + 1)) (h2 : Fits .i64 (b + 1)) : Ctr Tryz.prog W0 102 [pairA a b] [] (pairA (a + 1) (b + 1)) [] :=
  ctr_body follows F102_ok rfl (fun _ _ h => by cases h) rfl (by rfl) (b102 W0 a b h1 h2)
set_option maxHeartbeats 2000000 in
theorem b51 (W0 : Go.World) (a b : Int) : Body (Ctr Tryz.prog W0) F51.ac F51.rs [pairA a b] [] (.sc (.b (decide (a ≤ 1500) && decide (b ≤ 60)))) [] := by
  repeat' ((conv => whnf); (first | with_reducible refine brec (fun _ => ?_) (fun _ => ?_) | fail))
  all_goals ((conv => whnf); (refine fin_b ?_; simp_all; try (intros; omega)))
theorem c51 (W0 : Go.World) (a b : Int) : Ctr Tryz.prog W0 51 [pairA a b] [] (.sc (.b (decide (a ≤ 1500) && decide (b ≤ 60)))) [] :=
  ctr_body follows F51_ok rfl (fun _ _ h => by cases h) rfl (by rfl) (b51 W0 a b)
set_option maxHeartbeats 4000000 in
theorem b68 (W0 : Go.World) (l : List Exp) (hl : l.length ≤ 140737488355328) (hn : nL l ≤ 1152921504606846976) (hc : ∀ x ∈ l, ∀ a b n args, x = .mk a b n args → Ctr Tryz.prog W0 68 [eL args] [] (pairA (nL args) (dpL args)) []) : Body (Ctr Tryz.prog W0) F68.ac F68.rs [eL l] [] (pairA (nL l) (dpL l)) [] := by
  conv => whnf
  refine .st (α := Nat × Int × Int) 2000 (fun s => l.length - s.1) (fun s => [(.s 2, .av (.ptr 1000 0)), (.s 3, .av (.ptr 1100 0)), (.b 1000, .bx [.sc (.i .i64 0), .sc (.i .i64 0)]), (.b 1100, .bx [.sc (.i .i64 s.2.1), .sc (.i .i64 s.2.2)]), (.s 6, .av (eL l)), (.s 7, .av (.sc (.i .i64 ((expsD l).length : Nat)))), (.s 8, .av (.sc (.i .i64 (s.1 : Nat))))])
    (fun s => s.1 ≤ l.length ∧ nL l = s.2.1 + nL (l.drop s.1) ∧ dpL l = max s.2.2 (dpL (l.drop s.1)) ∧ 0 ≤ s.2.1 ∧ 0 ≤ s.2.2 ∧ s.2.2 ≤ s.2.1) (0, 0, 0) ?_ ⟨Nat.zero_le _, by simp, by simp; have := (dpL_le l).1; omega, by simp, by simp, by simp⟩ ?_
  · (refine le_of rfl rfl ?_; repeat' (first | exact rfl | exact trivial | refine ⟨?_, ?_⟩))
  · rintro ⟨k, a, d⟩ ⟨hk, he, hd, ha0, hd0, hda⟩
    simp only at hk he hd ha0 hd0 hda
    conv => whnf
    refine brec (fun h2 => ?_) (fun h2 => ?_)
    · simp only [expsD_length, decide_eq_false_iff_not] at h2
      have e1 : l.drop k = [] := by simp; omega
      rw [e1] at he hd
      simp only [nL, dpL] at he hd
      conv => whnf
      have e2 : a = nL l := by omega
      have e3 : d = dpL l := by omega
      subst e2; subst e3
      (refine fin0 rfl ?_ rfl; repeat' (first | exact rfl | exact trivial | refine ⟨?_, ?_⟩))
    · simp only [expsD_length, decide_eq_true_eq] at h2
      obtain ⟨x, hx⟩ := get_of_lt (l := l) (k := k) (by omega)
      have dx := expsD_get hx
      have hmem := List.mem_of_getElem? hx
      rw [drop_get hx] at he hd
      simp only [nL, dpL] at he hd
      cases x with | mk o b n args =>
      simp only [nE, dpE] at he hd
      have p1 := nL_pos args
      have p2 := dpL_le args
      have p3 := nL_pos (l.drop (k + 1))
      conv => whnf
      refine ⟨_, ⟨Int.natCast_nonneg _, dx⟩, ?_⟩
      conv => whnf
      refine callP.pure _ (hc _ hmem o b n args rfl) ⟨rfl, rfl⟩ ?_
      conv => whnf
      refine callP.pure _ (c102 W0 (nL args) (dpL args) (by constructor <;> omega) (by constructor <;> omega)) ⟨rfl, rfl⟩ ?_
      conv => whnf
      refine callP.pure _ (c101 W0 a d (nL args + 1) (dpL args + 1) (by constructor <;> omega)) ⟨rfl, rfl⟩ ?_
      conv => whnf
      refine And.intro (by constructor <;> omega) ?_
      conv => whnf
      refine nxt (k + 1, a + (nL args + 1), max d (dpL args + 1)) ⟨by simp only; omega, by simp only; omega, by simp only; omega, by simp only; omega, by simp only; omega, by simp only; omega, by simp only; omega⟩ ?_
      (refine le_of rfl rfl ?_; repeat' (first | exact rfl | exact trivial | refine ⟨?_, ?_⟩))
theorem oksE_mem : ∀ {l : List Exp} {x : Exp}, oksE l → x ∈ l → x.ok
  | y :: r, x, h, hx => by
    rcases List.mem_cons.1 hx with rfl | hx
    · exact h.1
    · exact oksE_mem h.2 hx
theorem nE_mem : ∀ {l : List Exp} {x : Exp}, x ∈ l → nE x ≤ nL l
  | y :: r, x, hx => by
    have p1 := nE_pos y
    have p2 := nL_pos r
    simp only [nL]
    rcases List.mem_cons.1 hx with rfl | hx
    · omega
    · have := nE_mem hx; omega
theorem c68s (W0 : Go.World) : ∀ (n : Nat) (l : List Exp), SizeOf.sizeOf l < n → l.length ≤ 140737488355328 → oksE l → nL l ≤ 1152921504606846976 → Ctr Tryz.prog W0 68 [eL l] [] (pairA (nL l) (dpL l)) []
  | 0, _, h, _, _, _ => absurd h (Nat.not_lt_zero _)
  | n + 1, l, h, hl, ol, hn => ctr_body follows F68_ok rfl (fun _ _ h => by cases h) rfl (by rfl) (b68 W0 l hl hn (by
      rintro x hx a b m args rfl
      have h1 := List.sizeOf_lt_of_mem hx
      have h2 := oksE_mem ol hx
      have h3 := nE_mem hx
      simp only [nE] at h3
      exact c68s W0 n args (by simp at h1; omega) h2.2.1 h2.2.2 (by omega)))
theorem c68 (W0 : Go.World) (l : List Exp) (hl : l.length ≤ 140737488355328) (ol : oksE l) (hn : nL l ≤ 1152921504606846976) : Ctr Tryz.prog W0 68 [eL l] [] (pairA (nL l) (dpL l)) [] := c68s W0 _ l (Nat.lt_succ_self _) hl ol hn
end Go.Abs

set_option maxRecDepth 100000
namespace Go.Abs
open Go.Proofs
def F26 : Fn := ⟨.seq (.reg [⟨none, .box 1 (.t 0)⟩, ⟨none, .mv 2 (.c (.sc (.b false)))⟩]) (.seq (.reg [⟨none, .ld 4 4 true (.t 1)⟩, ⟨none, .bsl 5 4 [.t 4]⟩, ⟨none, .mv 3 (.t 5)⟩]) (.seq (.reg [⟨none, .mv 6 (.t 3)⟩, ⟨none, .call (some 7) (.c (.fn 68 [])) [.t 6]⟩, ⟨none, .call (some 8) (.c (.fn 51 [])) [.t 7]⟩, ⟨none, .mv 9 (.t 8)⟩, ⟨some (9, true), .mv 10 (.t 3)⟩, ⟨some (9, true), .call (some 11) (.c (.fn 69 [])) [.t 10]⟩, ⟨none, .pick 12 (.t 9) (.t 11) (.c (.sc (.b false)))⟩, ⟨none, .mv 2 (.t 12)⟩]) .ret)), [(2, 0)], 13⟩
theorem F26_ok : compT Tryz.prog (fun _ => an0) 26 = some F26 := by kernel_rfl
def validE (x : Exp) : Bool := (decide (nE x ≤ 1500) && decide (dpE x ≤ 60)) && wellE x
end Go.Abs
