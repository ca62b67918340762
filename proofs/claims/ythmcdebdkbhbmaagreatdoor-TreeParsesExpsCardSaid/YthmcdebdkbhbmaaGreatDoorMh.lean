/- Names: the reference's token package. -/
import Derived.Test.YthmcdebdkbhbmaaGreatDoorMe
import Derived.Test.YthmcdebdkbhbmaaGreatDoorC4
import Derived.Test.YthmcdebdkbhbmaaGreatDoorC3
import Derived.Test.YthmcdebdkbhbmaaGreatDoorMf
import Derived.Test.YthmcdebdkbhbmaaGreatDoorMg
set_option maxRecDepth 100000
namespace Go.Abs
open Go.Proofs
def wordR (s : S) : Bool := match s with | [] => false | c :: r => smallI c.toNat && decide (innN (c :: r) = (c :: r).length)
def wordsGo : S → S → List S
  | _, [] => []
  | w, c :: r => match decide (c = 32) with | false => wordsGo (w ++ [c]) r | true => (match beqL w [] with | true => wordsGo [] r | false => w :: wordsGo [] r)
theorem beqL_comm (a b : S) : beqL a b = beqL b a := by simp [beqL, eq_comm]
def betwB (a n b : Int) : Bool := decide (a ≤ n) && decide (n ≤ b)
def F127 : Fn := ⟨.seq (.reg [⟨none, .mv 2 (.c (.sc (.b false)))⟩]) (.seq (.reg [⟨none, .mv 3 (.t 0)⟩, ⟨none, .bin 4 .geq (.t 3) (.c (.sc (.i .u8 97)))⟩, ⟨none, .mv 5 (.t 4)⟩, ⟨some (5, true), .mv 6 (.t 0)⟩, ⟨some (5, true), .bin 7 .leq (.t 6) (.c (.sc (.i .u8 122)))⟩, ⟨none, .pick 8 (.t 5) (.t 7) (.c (.sc (.b false)))⟩, ⟨none, .mv 2 (.t 8)⟩]) .ret), [(2, 0)], 9⟩
def F128 : Fn := ⟨.seq (.reg [⟨none, .mv 2 (.c (.sc (.b false)))⟩]) (.seq (.reg [⟨none, .mv 3 (.t 0)⟩, ⟨none, .call (some 4) (.c (.fn 127 [])) [.t 3]⟩, ⟨none, .mv 5 (.t 4)⟩, ⟨some (5, false), .mv 6 (.t 0)⟩, ⟨some (5, false), .bin 7 .geq (.t 6) (.c (.sc (.i .u8 65)))⟩, ⟨some (5, false), .mv 8 (.t 7)⟩, ⟨some (8, true), .mv 9 (.t 0)⟩, ⟨some (8, true), .bin 10 .leq (.t 9) (.c (.sc (.i .u8 90)))⟩, ⟨some (5, false), .pick 11 (.t 8) (.t 10) (.c (.sc (.b false)))⟩, ⟨none, .pick 12 (.t 5) (.c (.sc (.b true))) (.t 11)⟩, ⟨none, .mv 13 (.t 12)⟩, ⟨some (13, false), .mv 14 (.t 0)⟩, ⟨some (13, false), .call (some 15) (.c (.fn 130 [])) [.t 14]⟩, ⟨none, .pick 16 (.t 13) (.c (.sc (.b true))) (.t 15)⟩, ⟨none, .mv 17 (.t 16)⟩, ⟨some (17, false), .mv 18 (.t 0)⟩, ⟨some (17, false), .bin 19 .eql (.t 18) (.c (.sc (.i .u8 95)))⟩, ⟨none, .pick 20 (.t 17) (.c (.sc (.b true))) (.t 19)⟩, ⟨none, .mv 2 (.t 20)⟩]) .ret), [(2, 0)], 21⟩
def F130 : Fn := ⟨.seq (.reg [⟨none, .mv 2 (.c (.sc (.b false)))⟩]) (.seq (.reg [⟨none, .mv 3 (.t 0)⟩, ⟨none, .bin 4 .geq (.t 3) (.c (.sc (.i .u8 48)))⟩, ⟨none, .mv 5 (.t 4)⟩, ⟨some (5, true), .mv 6 (.t 0)⟩, ⟨some (5, true), .bin 7 .leq (.t 6) (.c (.sc (.i .u8 57)))⟩, ⟨none, .pick 8 (.t 5) (.t 7) (.c (.sc (.b false)))⟩, ⟨none, .mv 2 (.t 8)⟩]) .ret), [(2, 0)], 9⟩
def F184 : Fn := ⟨.seq (.reg [⟨none, .mv 2 (.c (.sc (.b false)))⟩]) (.seq (.seq (.reg [⟨none, .mv 4 (.t 0)⟩, ⟨none, .bin 5 .eql (.t 4) (.c (.sc (.s [])))⟩, ⟨none, .mv 6 (.t 5)⟩, ⟨some (6, false), .mv 7 (.t 0)⟩, ⟨some (6, false), .ix 8 (.t 7) (.c (.sc (.i .i64 0)))⟩, ⟨some (6, false), .call (some 9) (.c (.fn 127 [])) [.t 8]⟩, ⟨some (6, false), .no 10 (.t 9)⟩, ⟨none, .pick 11 (.t 6) (.c (.sc (.b true))) (.t 10)⟩]) (.cond (.t 11) (.seq (.reg [⟨none, .mv 2 (.c (.sc (.b false)))⟩]) .ret) .skip)) (.seq (.seq (.reg [⟨none, .mv 3 (.c (.sc (.i .i64 0)))⟩]) (.block 0 (.loop (.seq (.seq (.reg [⟨none, .mv 12 (.t 3)⟩, ⟨none, .mv 13 (.t 0)⟩, ⟨none, .lenS 14 (.t 13)⟩, ⟨none, .bin 15 .lss (.t 12) (.t 14)⟩]) (.cond (.t 15) .skip (.exit 0))) (.seq (.block 1 (.seq (.reg [⟨none, .mv 18 (.t 0)⟩, ⟨none, .mv 19 (.t 3)⟩, ⟨none, .ix 20 (.t 18) (.t 19)⟩, ⟨none, .call (some 21) (.c (.fn 128 [])) [.t 20]⟩, ⟨none, .no 22 (.t 21)⟩]) (.cond (.t 22) (.seq (.reg [⟨none, .mv 2 (.c (.sc (.b false)))⟩]) .ret) .skip))) (.reg [⟨none, .mv 16 (.t 3)⟩, ⟨none, .bin 17 .add (.t 16) (.c (.sc (.i .i64 1)))⟩, ⟨none, .mv 3 (.t 17)⟩])))))) (.seq (.reg [⟨none, .mv 2 (.c (.sc (.b true)))⟩]) .ret))), [(2, 0)], 23⟩
def F132 : Fn := ⟨.seq (.reg [⟨none, .mv 4 (.c (.sc (.b false)))⟩]) (.seq (.seq (.reg [⟨none, .mv 5 (.c (.sc (.i .i64 0)))⟩]) (.block 0 (.loop (.seq (.seq (.reg [⟨none, .mv 6 (.t 5)⟩, ⟨none, .mv 7 (.t 0)⟩, ⟨none, .len 8 (.t 7)⟩, ⟨none, .bin 9 .lss (.t 6) (.t 8)⟩]) (.cond (.t 9) .skip (.exit 0))) (.seq (.block 1 (.seq (.reg [⟨none, .mv 12 (.t 0)⟩, ⟨none, .mv 13 (.t 5)⟩, ⟨none, .ia 14 1 (.t 12) (.t 13)⟩, ⟨none, .ld 15 1 false (.t 14)⟩, ⟨none, .mv 16 (.t 1)⟩, ⟨none, .bin 17 .eql (.t 15) (.t 16)⟩]) (.cond (.t 17) (.seq (.reg [⟨none, .mv 4 (.c (.sc (.b true)))⟩]) .ret) .skip))) (.reg [⟨none, .mv 10 (.t 5)⟩, ⟨none, .bin 11 .add (.t 10) (.c (.sc (.i .i64 1)))⟩, ⟨none, .mv 5 (.t 11)⟩])))))) (.seq (.reg [⟨none, .mv 4 (.c (.sc (.b false)))⟩]) .ret)), [(4, 0)], 18⟩
def F138 : Fn := ⟨.seq (.reg [⟨none, .mv 6 (.c (.sc (.b false)))⟩]) (.seq (.reg [⟨none, .mv 7 (.t 0)⟩, ⟨none, .mv 8 (.t 1)⟩, ⟨none, .bin 9 .leq (.t 7) (.t 8)⟩, ⟨none, .mv 10 (.t 9)⟩, ⟨some (10, true), .mv 11 (.t 1)⟩, ⟨some (10, true), .mv 12 (.t 2)⟩, ⟨some (10, true), .bin 13 .leq (.t 11) (.t 12)⟩, ⟨none, .pick 14 (.t 10) (.t 13) (.c (.sc (.b false)))⟩, ⟨none, .mv 6 (.t 14)⟩]) .ret), [(6, 0)], 15⟩
theorem F127_ok : compT Tryz.prog (fun _ => an0) 127 = some F127 := by kernel_rfl
theorem F128_ok : compT Tryz.prog (fun _ => an0) 128 = some F128 := by kernel_rfl
theorem F130_ok : compT Tryz.prog (fun _ => an0) 130 = some F130 := by kernel_rfl
theorem F184_ok : compT Tryz.prog (fun _ => an0) 184 = some F184 := by kernel_rfl
theorem F132_ok : compT Tryz.prog (fun _ => an0) 132 = some F132 := by kernel_rfl
theorem F138_ok : compT Tryz.prog (fun _ => an0) 138 = some F138 := by kernel_rfl
set_option maxHeartbeats 2000000 in
theorem b127 (W0 : Go.World) (n : Int) : Body (Ctr Tryz.prog W0) F127.ac F127.rs [.sc (.i .u8 n)] [] (.sc (.b (smallI n))) [] := by
  repeat' ((conv => whnf); (first | with_reducible refine brec (fun _ => ?_) (fun _ => ?_) | fail))
  all_goals ((conv => whnf); refine fin_b ?_; simp_all [smallI]; try (intros; omega))
theorem c127 (W0 : Go.World) (n : Int) : Ctr Tryz.prog W0 127 [.sc (.i .u8 n)] [] (.sc (.b (smallI n))) [] :=
  ctr_body follows F127_ok rfl (fun _ _ h => by cases h) rfl (by rfl) (b127 W0 n)
set_option maxHeartbeats 2000000 in
theorem b130 (W0 : Go.World) (n : Int) : Body (Ctr Tryz.prog W0) F130.ac F130.rs [.sc (.i .u8 n)] [] (.sc (.b (digI n))) [] := by
  repeat' ((conv => whnf); (first | with_reducible refine brec (fun _ => ?_) (fun _ => ?_) | fail))
  all_goals ((conv => whnf); refine fin_b ?_; simp_all [digI]; try (intros; omega))
theorem c130 (W0 : Go.World) (n : Int) : Ctr Tryz.prog W0 130 [.sc (.i .u8 n)] [] (.sc (.b (digI n))) [] :=
  ctr_body follows F130_ok rfl (fun _ _ h => by cases h) rfl (by rfl) (b130 W0 n)
set_option maxHeartbeats 2000000 in
theorem b128 (W0 : Go.World) (n : Int) : Body (Ctr Tryz.prog W0) F128.ac F128.rs [.sc (.i .u8 n)] [] (.sc (.b (innerI n))) [] := by
  repeat' ((conv => whnf); (first | with_reducible refine brec (fun _ => ?_) (fun _ => ?_) | (refine callP.pure _ (c127 W0 n) ⟨rfl, rfl⟩ ?_) | (refine callP.pure _ (c130 W0 n) ⟨rfl, rfl⟩ ?_) | fail))
  all_goals ((conv => whnf); refine fin_b ?_; simp_all [innerI]; try (intros; omega))
theorem c128 (W0 : Go.World) (n : Int) : Ctr Tryz.prog W0 128 [.sc (.i .u8 n)] [] (.sc (.b (innerI n))) [] :=
  ctr_body follows F128_ok rfl (fun _ _ h => by cases h) rfl (by rfl) (b128 W0 n)
set_option maxHeartbeats 2000000 in
theorem b138 (W0 : Go.World) (a n b : Int) : Body (Ctr Tryz.prog W0) F138.ac F138.rs [.sc (.i .i64 a), .sc (.i .i64 n), .sc (.i .i64 b)] [] (.sc (.b (betwB a n b))) [] := by
  repeat' ((conv => whnf); (first | with_reducible refine brec (fun _ => ?_) (fun _ => ?_) | fail))
  all_goals ((conv => whnf); refine fin_b ?_; simp_all [betwB]; try (intros; omega))
theorem c138 (W0 : Go.World) (a n b : Int) : Ctr Tryz.prog W0 138 [.sc (.i .i64 a), .sc (.i .i64 n), .sc (.i .i64 b)] [] (.sc (.b (betwB a n b))) [] :=
  ctr_body follows F138_ok rfl (fun _ _ h => by cases h) rfl (by rfl) (b138 W0 a n b)
theorem b132 (W0 : Go.World) (l : List S) (s : S) (hl : l.length ≤ 140737488355328) : Body (Ctr Tryz.prog W0) F132.ac F132.rs [strL l, .sc (.s s)] [] (.sc (.b (hasB s l))) [] := by
  conv => whnf
  refine .st 1000 (fun k => l.length - k) (fun k => [(.s 0, .av (strL l)), (.s 1, .av (.sc (.s s))), (.s 5, .av (.sc (.i .i64 (k : Nat))))])
    (fun k => k ≤ l.length ∧ hasB s l = hasB s (l.drop k)) 0 ?_ ⟨Nat.zero_le _, rfl⟩ ?_
  · (refine le_of rfl rfl ?_; repeat' (first | exact rfl | exact trivial | refine ⟨?_, ?_⟩))
  · rintro k ⟨hk, he⟩
    conv => whnf
    refine brec (fun h2 => ?_) (fun h2 => ?_)
    · simp only [strsD_length, decide_eq_false_iff_not] at h2
      have e1 : l.drop k = [] := by simp; omega
      rw [e1] at he
      conv => whnf
      exact fin_b (by rw [he]; rfl)
    · simp only [strsD_length, decide_eq_true_eq] at h2
      obtain ⟨x, hx⟩ := get_of_lt (l := l) (k := k) (by omega)
      have dx := strsD_get hx
      rw [drop_get hx, hasB] at he
      conv => whnf
      refine ⟨_, ⟨Int.natCast_nonneg _, dx⟩, ?_⟩
      conv => whnf
      refine brec (fun h3 => ?_) (fun h3 => ?_)
      · rw [beqL_comm] at h3
        rw [h3, Bool.false_or] at he
        conv => whnf
        refine And.intro (by constructor <;> omega) ?_
        conv => whnf
        refine nxt (k + 1) ⟨by omega, by omega, he⟩ ?_
        (refine le_of rfl rfl ?_; repeat' (first | exact rfl | exact trivial | refine ⟨?_, ?_⟩))
      · rw [beqL_comm] at h3
        rw [h3, Bool.true_or] at he
        conv => whnf
        exact fin_b he.symm
theorem c132 (W0 : Go.World) (l : List S) (s : S) (hl : l.length ≤ 140737488355328) : Ctr Tryz.prog W0 132 [strL l, .sc (.s s)] [] (.sc (.b (hasB s l))) [] :=
  ctr_body follows F132_ok rfl (fun _ _ h => by cases h) rfl (by rfl) (b132 W0 l s hl)
theorem innN_eq : ∀ (s : S), decide (innN s = s.length) = s.all fun c => innerI c.toNat
  | [] => rfl
  | c :: r => by
    have ih := innN_eq r
    have hle := innN_le r
    cases h : innerI c.toNat with
    | true => simp [innN, h, ← ih]
    | false => simp [innN, h]
theorem b184 (W0 : Go.World) (s : S) (hl : s.length ≤ 140737488355328) : Body (Ctr Tryz.prog W0) F184.ac F184.rs [.sc (.s s)] [] (.sc (.b (wordR s))) [] := by
  conv => whnf
  refine brec (fun h1 => ?_) (fun h1 => ?_)
  · have hs : s ≠ [] := by intro e; subst e; simp [beqL] at h1
    obtain ⟨c, r, rfl⟩ := List.exists_cons_of_ne_nil hs
    conv => whnf
    refine ⟨c, ⟨Int.le_refl _, rfl⟩, ?_⟩
    conv => whnf
    refine callP.pure _ (c127 W0 c.toNat) ⟨rfl, rfl⟩ ?_
    conv => whnf
    refine brec (fun h2 => ?_) (fun h2 => ?_)
    · conv => whnf
      rw [Bool.not_eq_false'] at h2
      have e0 : wordR (c :: r) = (c :: r).all fun c => innerI c.toNat := by rw [wordR, h2, Bool.true_and]; exact innN_eq _
      refine .st 1000 (fun k => (c :: r).length - k) (fun k => [(.s 0, .av (.sc (.s (c :: r)))), (.s 3, .av (.sc (.i .i64 (k : Nat))))])
        (fun k => k ≤ (c :: r).length ∧ wordR (c :: r) = ((c :: r).drop k).all fun c => innerI c.toNat) 0 ?_ ⟨by simp, by rw [e0]; rfl⟩ ?_
      · (refine le_of rfl rfl ?_; repeat' (first | exact rfl | exact trivial | refine ⟨?_, ?_⟩))
      · rintro k ⟨hk, he⟩
        conv => whnf
        refine brec (fun h3 => ?_) (fun h3 => ?_)
        · conv => whnf
          simp only [decide_eq_false_iff_not] at h3
          have e1 : (c :: r).drop k = [] := by rw [List.drop_eq_nil_iff]; omega
          rw [e1] at he
          exact fin_b (by rw [he]; rfl)
        · simp only [decide_eq_true_eq] at h3
          obtain ⟨x, hx⟩ := get_of_lt (l := c :: r) (k := k) (by omega)
          rw [drop_get hx, List.all_cons] at he
          conv => whnf
          refine ⟨x, ⟨Int.natCast_nonneg _, hx⟩, ?_⟩
          conv => whnf
          refine callP.pure _ (c128 W0 x.toNat) ⟨rfl, rfl⟩ ?_
          conv => whnf
          refine brec (fun h4 => ?_) (fun h4 => ?_)
          · rw [Bool.not_eq_false'] at h4
            rw [h4, Bool.true_and] at he
            conv => whnf
            refine And.intro (by constructor <;> omega) ?_
            conv => whnf
            refine nxt (k + 1) ⟨by omega, by omega, he⟩ ?_
            (refine le_of rfl rfl ?_; repeat' (first | exact rfl | exact trivial | refine ⟨?_, ?_⟩))
          · rw [Bool.not_eq_true'] at h4
            rw [h4, Bool.false_and] at he
            conv => whnf
            exact fin_b he.symm
    · conv => whnf
      rw [Bool.not_eq_true'] at h2
      refine fin_b ?_
      simp [wordR, h2]
  · conv => whnf
    have hs : s = [] := by simpa [beqL] using h1
    subst hs
    exact fin_b rfl
theorem c184 (W0 : Go.World) (s : S) (hl : s.length ≤ 140737488355328) : Ctr Tryz.prog W0 184 [.sc (.s s)] [] (.sc (.b (wordR s))) [] :=
  ctr_body follows F184_ok rfl (fun _ _ h => by cases h) rfl (by rfl) (b184 W0 s hl)
end Go.Abs

set_option maxRecDepth 100000
namespace Go.Abs
open Go.Proofs
def keysR : S := [32, 97, 110, 100, 32, 97, 114, 114, 97, 121, 32, 97, 116, 32, 97, 116, 111, 109, 105, 99, 32, 98, 101, 103, 105, 110, 32, 98, 108, 111, 99, 107, 32, 98, 108, 111, 99, 107, 115, 32, 98, 111, 111, 108, 32, 98, 121, 32, 99, 111, 98, 101, 103, 105, 110, 32, 99, 111, 102, 111, 114, 97, 108, 108, 32, 99, 111, 117, 110, 116, 32, 99, 121, 99, 108, 105, 99, 32, 100, 111, 32, 100, 111, 109, 97, 105, 110, 32, 101, 108, 115, 101, 32, 102, 97, 108, 115, 101, 32, 102, 105, 108, 108, 32, 102, 111, 108, 100, 32, 102, 111, 114, 32, 102, 111, 114, 97, 108, 108, 32, 103, 101, 116, 32, 103, 105, 118, 101, 32, 104, 97, 108, 116, 32, 104, 97, 115, 32, 104, 105, 103, 104, 32, 105, 102, 32, 105, 110, 32, 105, 110, 116, 32, 105, 115, 32, 108, 111, 119, 32, 109, 97, 120, 32, 109, 105, 110, 32, 110, 111, 110, 101, 32, 110, 116, 104, 32, 111, 110, 32, 111, 114, 100, 32, 111, 118, 101, 114, 32, 112, 114, 111, 99, 32, 114, 101, 97, 100, 32, 114, 101, 100, 117, 99, 101, 32, 114, 101, 115, 105, 122, 101, 32, 114, 101, 116, 117, 114, 110, 32, 115, 99, 97, 110, 32, 115, 101, 116, 32, 115, 105, 110, 103, 108, 101, 32, 115, 121, 110, 99, 32, 116, 111, 32, 116, 114, 117, 101, 32, 118, 97, 114, 32, 119, 104, 101, 114, 101, 32, 119, 104, 105, 108, 101, 32, 119, 104, 111, 108, 101, 32, 119, 105, 116, 104, 32, 119, 114, 105, 116, 101, 32, 122, 105, 112, 32, 97, 100, 100, 32]
def F131 : Fn := ⟨.seq (.reg [⟨none, .mv 2 (.c (.sl 1 [] .full))⟩]) (.seq (.reg [⟨none, .mv 3 (.c (.sl 1 [] .full))⟩]) (.seq (.reg [⟨none, .mv 4 (.c (.sc (.s [])))⟩]) (.seq (.seq (.reg [⟨none, .mv 5 (.c (.sc (.i .i64 0)))⟩]) (.block 0 (.loop (.seq (.seq (.reg [⟨none, .mv 6 (.t 5)⟩, ⟨none, .mv 7 (.t 0)⟩, ⟨none, .lenS 8 (.t 7)⟩, ⟨none, .bin 9 .lss (.t 6) (.t 8)⟩]) (.cond (.t 9) .skip (.exit 0))) (.seq (.block 1 (.seq (.seq (.reg [⟨none, .mv 12 (.t 0)⟩, ⟨none, .mv 13 (.t 5)⟩, ⟨none, .ix 14 (.t 12) (.t 13)⟩, ⟨none, .bin 15 .neq (.t 14) (.c (.sc (.i .u8 32)))⟩]) (.cond (.t 15) (.seq (.reg [⟨none, .mv 16 (.t 4)⟩, ⟨none, .mv 17 (.t 0)⟩, ⟨none, .mv 18 (.t 5)⟩, ⟨none, .mv 19 (.t 5)⟩, ⟨none, .bin 20 .add (.t 19) (.c (.sc (.i .i64 1)))⟩, ⟨none, .slS 21 (.t 17) (some (.t 18)) (some (.t 20))⟩, ⟨none, .bin 22 .add (.t 16) (.t 21)⟩, ⟨none, .mv 4 (.t 22)⟩]) (.exit 1)) .skip)) (.seq (.seq (.reg [⟨none, .mv 23 (.t 4)⟩, ⟨none, .bin 24 .neq (.t 23) (.c (.sc (.s [])))⟩]) (.cond (.t 24) (.reg [⟨none, .mv 25 (.t 3)⟩, ⟨none, .mv 26 (.t 4)⟩, ⟨none, .bsl 27 1 [.t 26]⟩, ⟨none, .app 28 1 16 (.t 25) (.t 27)⟩, ⟨none, .mv 3 (.t 28)⟩]) .skip)) (.reg [⟨none, .mv 4 (.c (.sc (.s [])))⟩])))) (.reg [⟨none, .mv 10 (.t 5)⟩, ⟨none, .bin 11 .add (.t 10) (.c (.sc (.i .i64 1)))⟩, ⟨none, .mv 5 (.t 11)⟩])))))) (.seq (.reg [⟨none, .mv 29 (.t 3)⟩, ⟨none, .mv 2 (.t 29)⟩]) .ret)))), [(2, 0)], 30⟩
def F129 : Fn := ⟨.seq (.reg [⟨none, .mv 2 (.c (.sc (.b false)))⟩]) (.seq (.reg [⟨none, .mv 3 (.t 0)⟩, ⟨none, .call (some 4) (.c (.fn 184 [])) [.t 3]⟩, ⟨none, .mv 5 (.t 4)⟩, ⟨some (5, true), .call (some 6) (.c (.fn 131 [])) [.c (.sc (.s [32, 97, 110, 100, 32, 97, 114, 114, 97, 121, 32, 97, 116, 32, 97, 116, 111, 109, 105, 99, 32, 98, 101, 103, 105, 110, 32, 98, 108, 111, 99, 107, 32, 98, 108, 111, 99, 107, 115, 32, 98, 111, 111, 108, 32, 98, 121, 32, 99, 111, 98, 101, 103, 105, 110, 32, 99, 111, 102, 111, 114, 97, 108, 108, 32, 99, 111, 117, 110, 116, 32, 99, 121, 99, 108, 105, 99, 32, 100, 111, 32, 100, 111, 109, 97, 105, 110, 32, 101, 108, 115, 101, 32, 102, 97, 108, 115, 101, 32, 102, 105, 108, 108, 32, 102, 111, 108, 100, 32, 102, 111, 114, 32, 102, 111, 114, 97, 108, 108, 32, 103, 101, 116, 32, 103, 105, 118, 101, 32, 104, 97, 108, 116, 32, 104, 97, 115, 32, 104, 105, 103, 104, 32, 105, 102, 32, 105, 110, 32, 105, 110, 116, 32, 105, 115, 32, 108, 111, 119, 32, 109, 97, 120, 32, 109, 105, 110, 32, 110, 111, 110, 101, 32, 110, 116, 104, 32, 111, 110, 32, 111, 114, 100, 32, 111, 118, 101, 114, 32, 112, 114, 111, 99, 32, 114, 101, 97, 100, 32, 114, 101, 100, 117, 99, 101, 32, 114, 101, 115, 105, 122, 101, 32, 114, 101, 116, 117, 114, 110, 32, 115, 99, 97, 110, 32, 115, 101, 116, 32, 115, 105, 110, 103, 108, 101, 32, 115, 121, 110, 99, 32, 116, 111, 32, 116, 114, 117, 101, 32, 118, 97, 114, 32, 119, 104, 101, 114, 101, 32, 119, 104, 105, 108, 101, 32, 119, 104, 111, 108, 101, 32, 119, 105, 116, 104, 32, 119, 114, 105, 116, 101, 32, 122, 105, 112, 32, 97, 100, 100, 32]))]⟩, ⟨some (5, true), .mv 7 (.t 0)⟩, ⟨some (5, true), .call (some 8) (.c (.fn 132 [])) [.t 6, .t 7]⟩, ⟨some (5, true), .no 9 (.t 8)⟩, ⟨none, .pick 10 (.t 5) (.t 9) (.c (.sc (.b false)))⟩, ⟨none, .mv 2 (.t 10)⟩]) .ret), [(2, 0)], 11⟩
theorem F131_ok : compT Tryz.prog (fun _ => an0) 131 = some F131 := by kernel_rfl
theorem F129_ok : compT Tryz.prog (fun _ => an0) 129 = some F129 := by kernel_rfl
def R131 : Go.FuncId → Option Fn | 131 => some F131 | _ => none
theorem wk : wordsGo [] keysR = keyList := by kernel_rfl
theorem aw131 : runX R131 (fun _ _ => none) 2 131 [.sc (.s keysR)] [] = some (.sl 1 (strsD (wordsGo [] keysR)) (.t 0), []) := by kernel_rfl
theorem R131_tab (W0 : Go.World) : TabOK Tryz.prog W0 R131 := by
  intro f F h
  unfold R131 at h
  split at h
  · cases h
    exact compT_ok (fun _ _ _ h => by cases h) 131 F131 F131_ok
  · cases h
theorem c131 (W0 : Go.World) : Ctr Tryz.prog W0 131 [.sc (.s keysR)] [] (.sl 1 (strsD keyList) (.t 0)) [] :=
  wk ▸ runX_s follows (R131_tab W0) (fun _ _ _ h => by cases h) 2 131 [.sc (.s keysR)] [] _ _ aw131
def nameR (s : S) : Bool := wordR s && !hasB s keyList
set_option maxHeartbeats 2000000 in
theorem b129 (W0 : Go.World) (s : S) (hl : s.length ≤ 140737488355328) : Body (Ctr Tryz.prog W0) F129.ac F129.rs [.sc (.s s)] [] (.sc (.b (nameR s))) [] := by
  repeat' ((conv => whnf); (first | with_reducible refine brec (fun _ => ?_) (fun _ => ?_) | (refine callP.pure _ (c184 W0 s hl) ⟨rfl, rfl⟩ ?_) | (refine callP.pure _ (c131 W0) ⟨rfl, rfl⟩ ?_) | (refine callP.pure _ (c132 W0 keyList s (by decide)) ⟨rfl, rfl⟩ ?_) | fail))
  all_goals ((conv => whnf); refine fin_b ?_; simp_all [nameR])
theorem c129 (W0 : Go.World) (s : S) (hl : s.length ≤ 140737488355328) : Ctr Tryz.prog W0 129 [.sc (.s s)] [] (.sc (.b (nameR s))) [] :=
  ctr_body follows F129_ok rfl (fun _ _ h => by cases h) rfl (by rfl) (b129 W0 s hl)
end Go.Abs

set_option maxRecDepth 100000
namespace Go.Abs
open Go.Proofs
def F121 : Fn := ⟨.seq (.reg [⟨none, .mv 4 (.c (.sc (.b false)))⟩]) (.seq (.reg [⟨none, .mv 7 (.t 1)⟩, ⟨none, .call (some 8) (.c (.fn 179 [])) [.t 7, .c (.sc (.s [32]))]⟩, ⟨none, .mv 5 (.t 8)⟩]) (.seq (.seq (.reg [⟨none, .mv 6 (.c (.sc (.i .i64 0)))⟩]) (.block 0 (.loop (.seq (.seq (.reg [⟨none, .mv 9 (.t 6)⟩, ⟨none, .mv 10 (.t 5)⟩, ⟨none, .len 11 (.t 10)⟩, ⟨none, .bin 12 .lss (.t 9) (.t 11)⟩]) (.cond (.t 12) .skip (.exit 0))) (.seq (.block 1 (.seq (.reg [⟨none, .mv 15 (.t 0)⟩, ⟨none, .mv 16 (.t 5)⟩, ⟨none, .mv 17 (.t 6)⟩, ⟨none, .ia 18 1 (.t 16) (.t 17)⟩, ⟨none, .ld 19 1 false (.t 18)⟩, ⟨none, .bin 20 .eql (.t 15) (.t 19)⟩]) (.cond (.t 20) (.seq (.reg [⟨none, .mv 4 (.c (.sc (.b true)))⟩]) .ret) .skip))) (.reg [⟨none, .mv 13 (.t 6)⟩, ⟨none, .bin 14 .add (.t 13) (.c (.sc (.i .i64 1)))⟩, ⟨none, .mv 6 (.t 14)⟩])))))) (.seq (.reg [⟨none, .mv 4 (.c (.sc (.b false)))⟩]) .ret))), [(4, 0)], 21⟩
def F140 : Fn := ⟨.seq (.reg [⟨none, .mv 2 (.c (.sc (.b false)))⟩]) (.seq (.reg [⟨none, .mv 3 (.t 0)⟩, ⟨none, .call (some 4) (.c (.fn 121 [])) [.t 3, .c (.sc (.s [43, 32, 42, 32, 109, 105, 110, 32, 109, 97, 120, 32, 38, 32, 124]))]⟩, ⟨none, .mv 2 (.t 4)⟩]) .ret), [(2, 0)], 5⟩
def F139 : Fn := ⟨.seq (.reg [⟨none, .mv 2 (.c (.sc (.i .i64 0)))⟩]) (.seq (.block 0 (.seq (.reg [⟨none, .mv 4 (.t 0)⟩, ⟨none, .call (some 5) (.c (.fn 121 [])) [.t 4, .c (.sc (.s [43, 32, 45, 32, 42, 32, 47, 32, 37, 32, 60, 32, 60, 61, 32, 61, 61, 32, 38, 32, 124, 32, 109, 105, 110, 32, 109, 97, 120]))]⟩, ⟨none, .mv 3 (.t 5)⟩]) (.cond (.t 3) (.seq (.reg [⟨none, .mv 2 (.c (.sc (.i .i64 2)))⟩]) .ret) (.seq (.reg [⟨none, .mv 7 (.t 0)⟩, ⟨none, .call (some 8) (.c (.fn 121 [])) [.t 7, .c (.sc (.s [33, 32, 105, 110, 116]))]⟩, ⟨none, .mv 6 (.t 8)⟩]) (.cond (.t 6) (.seq (.reg [⟨none, .mv 2 (.c (.sc (.i .i64 1)))⟩]) .ret) .skip))))) (.seq (.reg [⟨none, .mv 2 (.c (.sc (.i .i64 (-1))))⟩]) .ret)), [(2, 0)], 9⟩
theorem F121_ok : compT Tryz.prog (fun _ => an0) 121 = some F121 := by kernel_rfl
theorem F140_ok : compT Tryz.prog (fun _ => an0) 140 = some F140 := by kernel_rfl
theorem F139_ok : compT Tryz.prog (fun _ => an0) 139 = some F139 := by kernel_rfl
theorem b121 (W0 : Go.World) (hk : Wk W0) (s t : S) (l : List S) (ht : t.length < 4294967281) (he : (Go.Lib.splitB ⟨[32].toArray⟩ 0 (Go.Lib.countB ⟨t.toArray⟩ ⟨[32].toArray⟩) ⟨t.toArray⟩).map (·.data.toList) = l) (hn : l.length = Go.Lib.countB ⟨t.toArray⟩ ⟨[32].toArray⟩ + 1) (hl : l.length ≤ 140737488355328) : Body (Ctr Tryz.prog W0) F121.ac F121.rs [.sc (.s s), .sc (.s t)] [] (.sc (.b (hasB s l))) [] := by
  conv => whnf
  refine callP.pure _ (split_ctr W0 hk.ml t [32] ht (by decide) l he hn) ⟨rfl, rfl⟩ ?_
  conv => whnf
  refine .st 1000 (fun k => l.length - k) (fun k => [(.s 0, .av (.sc (.s s))), (.s 5, .av (.sl 1 (strsD l) .full)), (.s 6, .av (.sc (.i .i64 (k : Nat))))])
    (fun k => k ≤ l.length ∧ hasB s l = hasB s (l.drop k)) 0 ?_ ⟨Nat.zero_le _, rfl⟩ ?_
  · (refine le_of rfl rfl ?_; repeat' (first | exact rfl | exact trivial | refine ⟨?_, ?_⟩))
  · rintro k ⟨hk', he'⟩
    conv => whnf
    refine brec (fun h2 => ?_) (fun h2 => ?_)
    · simp only [strsD_length, decide_eq_false_iff_not] at h2
      have e1 : l.drop k = [] := by simp; omega
      rw [e1] at he'
      conv => whnf
      exact fin_b (by rw [he']; rfl)
    · simp only [strsD_length, decide_eq_true_eq] at h2
      obtain ⟨x, hx⟩ := get_of_lt (l := l) (k := k) (by omega)
      have dx := strsD_get hx
      rw [drop_get hx, hasB] at he'
      conv => whnf
      refine ⟨_, ⟨Int.natCast_nonneg _, dx⟩, ?_⟩
      conv => whnf
      refine brec (fun h3 => ?_) (fun h3 => ?_)
      · rw [h3, Bool.false_or] at he'
        conv => whnf
        refine And.intro (by constructor <;> omega) ?_
        conv => whnf
        refine nxt (k + 1) ⟨by omega, by omega, he'⟩ ?_
        (refine le_of rfl rfl ?_; repeat' (first | exact rfl | exact trivial | refine ⟨?_, ?_⟩))
      · rw [h3, Bool.true_or] at he'
        conv => whnf
        exact fin_b he'.symm
theorem c121 (W0 : Go.World) (hk : Wk W0) (s t : S) (l : List S) (ht : t.length < 4294967281) (he : (Go.Lib.splitB ⟨[32].toArray⟩ 0 (Go.Lib.countB ⟨t.toArray⟩ ⟨[32].toArray⟩) ⟨t.toArray⟩).map (·.data.toList) = l) (hn : l.length = Go.Lib.countB ⟨t.toArray⟩ ⟨[32].toArray⟩ + 1) (hl : l.length ≤ 140737488355328) : Ctr Tryz.prog W0 121 [.sc (.s s), .sc (.s t)] [] (.sc (.b (hasB s l))) [] :=
  ctr_body follows F121_ok rfl (fun _ _ h => by cases h) rfl (by rfl) (b121 W0 hk s t l ht he hn hl)
def ws0 : List S := [[43], [42], [109, 105, 110], [109, 97, 120], [38], [124]]
theorem c121_0 (W0 : Go.World) (hk : Wk W0) (s : S) : Ctr Tryz.prog W0 121 [.sc (.s s), .sc (.s [43, 32, 42, 32, 109, 105, 110, 32, 109, 97, 120, 32, 38, 32, 124])] [] (.sc (.b (hasB s ws0))) [] :=
  c121 W0 hk s [43, 32, 42, 32, 109, 105, 110, 32, 109, 97, 120, 32, 38, 32, 124] ws0 (by decide) (by kernel_rfl) (by kernel_rfl) (by decide)
def ws1 : List S := [[43], [45], [42], [47], [37], [60], [60, 61], [61, 61], [38], [124], [109, 105, 110], [109, 97, 120]]
theorem c121_1 (W0 : Go.World) (hk : Wk W0) (s : S) : Ctr Tryz.prog W0 121 [.sc (.s s), .sc (.s [43, 32, 45, 32, 42, 32, 47, 32, 37, 32, 60, 32, 60, 61, 32, 61, 61, 32, 38, 32, 124, 32, 109, 105, 110, 32, 109, 97, 120])] [] (.sc (.b (hasB s ws1))) [] :=
  c121 W0 hk s [43, 32, 45, 32, 42, 32, 47, 32, 37, 32, 60, 32, 60, 61, 32, 61, 61, 32, 38, 32, 124, 32, 109, 105, 110, 32, 109, 97, 120] ws1 (by decide) (by kernel_rfl) (by kernel_rfl) (by decide)
def ws2 : List S := [[33], [105, 110, 116]]
theorem c121_2 (W0 : Go.World) (hk : Wk W0) (s : S) : Ctr Tryz.prog W0 121 [.sc (.s s), .sc (.s [33, 32, 105, 110, 116])] [] (.sc (.b (hasB s ws2))) [] :=
  c121 W0 hk s [33, 32, 105, 110, 116] ws2 (by decide) (by kernel_rfl) (by kernel_rfl) (by decide)
def isFoldR (s : S) : Bool := hasB s ws0
def arityR (s : S) : Int := match hasB s ws1 with | true => 2 | false => (match hasB s ws2 with | true => 1 | false => -1)
set_option maxHeartbeats 2000000 in
theorem b140 (W0 : Go.World) (hk : Wk W0) (s : S) : Body (Ctr Tryz.prog W0) F140.ac F140.rs [.sc (.s s)] [] (.sc (.b (isFoldR s))) [] := by
  repeat' ((conv => whnf); (first | with_reducible refine brec (fun _ => ?_) (fun _ => ?_) | (refine callP.pure _ (c121_0 W0 hk s) ⟨rfl, rfl⟩ ?_) | fail))
  all_goals ((conv => whnf); exact fin_b rfl)
theorem c140 (W0 : Go.World) (hk : Wk W0) (s : S) : Ctr Tryz.prog W0 140 [.sc (.s s)] [] (.sc (.b (isFoldR s))) [] :=
  ctr_body follows F140_ok rfl (fun _ _ h => by cases h) rfl (by rfl) (b140 W0 hk s)
set_option maxHeartbeats 2000000 in
theorem b139 (W0 : Go.World) (hk : Wk W0) (s : S) : Body (Ctr Tryz.prog W0) F139.ac F139.rs [.sc (.s s)] [] (.sc (.i .i64 (arityR s))) [] := by
  repeat' ((conv => whnf); (first | with_reducible refine brec (fun _ => ?_) (fun _ => ?_) | (refine callP.pure _ (c121_1 W0 hk s) ⟨rfl, rfl⟩ ?_) | (refine callP.pure _ (c121_2 W0 hk s) ⟨rfl, rfl⟩ ?_) | fail))
  all_goals ((conv => whnf); refine fin_i ?_; simp_all [arityR])
theorem c139 (W0 : Go.World) (hk : Wk W0) (s : S) : Ctr Tryz.prog W0 139 [.sc (.s s)] [] (.sc (.i .i64 (arityR s))) [] :=
  ctr_body follows F139_ok rfl (fun _ _ h => by cases h) rfl (by rfl) (b139 W0 hk s)
end Go.Abs

set_option maxRecDepth 100000
namespace Go.Abs
open Go.Proofs
def headR (d nm : S) (n : Int) (k : Nat) : Bool :=
  bif hasB d [[105, 110, 116]] then betwB 0 n 999999999 && (beqL nm [] && decide (k = 0)) else
  bif hasB d [[98, 111, 111, 108]] then betwB 0 n 1 && (beqL nm [] && decide (k = 0)) else
  bif hasB d [[118, 97, 114], [114, 101, 97, 100], [103, 101, 116], [99, 111, 117, 110, 116]] then nameR nm && (decide (n = 0) && decide (k = 0)) else
  bif hasB d [[111, 112]] then decide (n = 0) && decide ((k : Int) = arityR nm) else
  bif hasB d [[110, 111, 110, 101]] then isFoldR nm && (decide (n = 0) && decide (k = 0)) else
  bif hasB d [[97, 116], [111, 114, 100], [104, 97, 115]] then nameR nm && (decide (n = 0) && betwB 1 k 3) else
  bif hasB d [[99, 97, 108, 108]] then nameR nm && decide (n = 0) else
  bif hasB d [[108, 111, 119], [104, 105, 103, 104]] then nameR nm && (betwB 0 n 2 && decide (k = 0)) else
  bif hasB d [[110, 116, 104]] then nameR nm && (betwB 0 n 2 && decide (k = 1)) else false
mutual
def shE : Exp → Bool | .mk a b n l => headR a b n l.length && shL l
def shL : List Exp → Bool | [] => true | x :: r => shE x && shL r
end
def F70 : Fn := ⟨.seq (.reg [⟨none, .box 1 (.t 0)⟩, ⟨none, .mv 2 (.c (.sc (.b false)))⟩]) (.seq (.reg [⟨none, .fa 6 (.t 1) 3⟩, ⟨none, .ld 7 1 false (.t 6)⟩, ⟨none, .len 8 (.t 7)⟩, ⟨none, .mv 3 (.t 8)⟩]) (.seq (.reg [⟨none, .mv 4 (.c (.sc (.b false)))⟩]) (.seq (.seq (.reg [⟨none, .fa 9 (.t 1) 0⟩, ⟨none, .ld 10 1 false (.t 9)⟩]) (.block 0 (.seq (.reg [⟨none, .bin 12 .eql (.t 10) (.c (.sc (.s [105, 110, 116])))⟩, ⟨none, .mv 11 (.t 12)⟩]) (.cond (.t 11) (.reg [⟨none, .fa 13 (.t 1) 2⟩, ⟨none, .ld 14 1 false (.t 13)⟩, ⟨none, .call (some 15) (.c (.fn 138 [])) [.c (.sc (.i .i64 0)), .t 14, .c (.sc (.i .i64 999999999))]⟩, ⟨none, .mv 16 (.t 15)⟩, ⟨some (16, true), .fa 17 (.t 1) 1⟩, ⟨some (16, true), .ld 18 1 false (.t 17)⟩, ⟨some (16, true), .bin 19 .eql (.t 18) (.c (.sc (.s [])))⟩, ⟨none, .pick 20 (.t 16) (.t 19) (.c (.sc (.b false)))⟩, ⟨none, .mv 21 (.t 20)⟩, ⟨some (21, true), .mv 22 (.t 3)⟩, ⟨some (21, true), .bin 23 .eql (.t 22) (.c (.sc (.i .i64 0)))⟩, ⟨none, .pick 24 (.t 21) (.t 23) (.c (.sc (.b false)))⟩, ⟨none, .mv 4 (.t 24)⟩]) (.seq (.reg [⟨none, .bin 26 .eql (.t 10) (.c (.sc (.s [98, 111, 111, 108])))⟩, ⟨none, .mv 25 (.t 26)⟩]) (.cond (.t 25) (.reg [⟨none, .fa 27 (.t 1) 2⟩, ⟨none, .ld 28 1 false (.t 27)⟩, ⟨none, .call (some 29) (.c (.fn 138 [])) [.c (.sc (.i .i64 0)), .t 28, .c (.sc (.i .i64 1))]⟩, ⟨none, .mv 30 (.t 29)⟩, ⟨some (30, true), .fa 31 (.t 1) 1⟩, ⟨some (30, true), .ld 32 1 false (.t 31)⟩, ⟨some (30, true), .bin 33 .eql (.t 32) (.c (.sc (.s [])))⟩, ⟨none, .pick 34 (.t 30) (.t 33) (.c (.sc (.b false)))⟩, ⟨none, .mv 35 (.t 34)⟩, ⟨some (35, true), .mv 36 (.t 3)⟩, ⟨some (35, true), .bin 37 .eql (.t 36) (.c (.sc (.i .i64 0)))⟩, ⟨none, .pick 38 (.t 35) (.t 37) (.c (.sc (.b false)))⟩, ⟨none, .mv 4 (.t 38)⟩]) (.seq (.seq (.reg [⟨none, .bin 40 .eql (.t 10) (.c (.sc (.s [118, 97, 114])))⟩, ⟨none, .mv 39 (.t 40)⟩]) (.cond (.t 39) .skip (.seq (.reg [⟨none, .bin 41 .eql (.t 10) (.c (.sc (.s [114, 101, 97, 100])))⟩, ⟨none, .mv 39 (.t 41)⟩]) (.cond (.t 39) .skip (.seq (.reg [⟨none, .bin 42 .eql (.t 10) (.c (.sc (.s [103, 101, 116])))⟩, ⟨none, .mv 39 (.t 42)⟩]) (.cond (.t 39) .skip (.reg [⟨none, .bin 43 .eql (.t 10) (.c (.sc (.s [99, 111, 117, 110, 116])))⟩, ⟨none, .mv 39 (.t 43)⟩]))))))) (.cond (.t 39) (.reg [⟨none, .fa 44 (.t 1) 1⟩, ⟨none, .ld 45 1 false (.t 44)⟩, ⟨none, .call (some 46) (.c (.fn 129 [])) [.t 45]⟩, ⟨none, .mv 47 (.t 46)⟩, ⟨some (47, true), .fa 48 (.t 1) 2⟩, ⟨some (47, true), .ld 49 1 false (.t 48)⟩, ⟨some (47, true), .bin 50 .eql (.t 49) (.c (.sc (.i .i64 0)))⟩, ⟨none, .pick 51 (.t 47) (.t 50) (.c (.sc (.b false)))⟩, ⟨none, .mv 52 (.t 51)⟩, ⟨some (52, true), .mv 53 (.t 3)⟩, ⟨some (52, true), .bin 54 .eql (.t 53) (.c (.sc (.i .i64 0)))⟩, ⟨none, .pick 55 (.t 52) (.t 54) (.c (.sc (.b false)))⟩, ⟨none, .mv 4 (.t 55)⟩]) (.seq (.reg [⟨none, .bin 57 .eql (.t 10) (.c (.sc (.s [111, 112])))⟩, ⟨none, .mv 56 (.t 57)⟩]) (.cond (.t 56) (.reg [⟨none, .fa 58 (.t 1) 2⟩, ⟨none, .ld 59 1 false (.t 58)⟩, ⟨none, .bin 60 .eql (.t 59) (.c (.sc (.i .i64 0)))⟩, ⟨none, .mv 61 (.t 60)⟩, ⟨some (61, true), .mv 62 (.t 3)⟩, ⟨some (61, true), .fa 63 (.t 1) 1⟩, ⟨some (61, true), .ld 64 1 false (.t 63)⟩, ⟨some (61, true), .call (some 65) (.c (.fn 139 [])) [.t 64]⟩, ⟨some (61, true), .bin 66 .eql (.t 62) (.t 65)⟩, ⟨none, .pick 67 (.t 61) (.t 66) (.c (.sc (.b false)))⟩, ⟨none, .mv 4 (.t 67)⟩]) (.seq (.reg [⟨none, .bin 69 .eql (.t 10) (.c (.sc (.s [110, 111, 110, 101])))⟩, ⟨none, .mv 68 (.t 69)⟩]) (.cond (.t 68) (.reg [⟨none, .fa 70 (.t 1) 1⟩, ⟨none, .ld 71 1 false (.t 70)⟩, ⟨none, .call (some 72) (.c (.fn 140 [])) [.t 71]⟩, ⟨none, .mv 73 (.t 72)⟩, ⟨some (73, true), .fa 74 (.t 1) 2⟩, ⟨some (73, true), .ld 75 1 false (.t 74)⟩, ⟨some (73, true), .bin 76 .eql (.t 75) (.c (.sc (.i .i64 0)))⟩, ⟨none, .pick 77 (.t 73) (.t 76) (.c (.sc (.b false)))⟩, ⟨none, .mv 78 (.t 77)⟩, ⟨some (78, true), .mv 79 (.t 3)⟩, ⟨some (78, true), .bin 80 .eql (.t 79) (.c (.sc (.i .i64 0)))⟩, ⟨none, .pick 81 (.t 78) (.t 80) (.c (.sc (.b false)))⟩, ⟨none, .mv 4 (.t 81)⟩]) (.seq (.seq (.reg [⟨none, .bin 83 .eql (.t 10) (.c (.sc (.s [97, 116])))⟩, ⟨none, .mv 82 (.t 83)⟩]) (.cond (.t 82) .skip (.seq (.reg [⟨none, .bin 84 .eql (.t 10) (.c (.sc (.s [111, 114, 100])))⟩, ⟨none, .mv 82 (.t 84)⟩]) (.cond (.t 82) .skip (.reg [⟨none, .bin 85 .eql (.t 10) (.c (.sc (.s [104, 97, 115])))⟩, ⟨none, .mv 82 (.t 85)⟩]))))) (.cond (.t 82) (.reg [⟨none, .fa 86 (.t 1) 1⟩, ⟨none, .ld 87 1 false (.t 86)⟩, ⟨none, .call (some 88) (.c (.fn 129 [])) [.t 87]⟩, ⟨none, .mv 89 (.t 88)⟩, ⟨some (89, true), .fa 90 (.t 1) 2⟩, ⟨some (89, true), .ld 91 1 false (.t 90)⟩, ⟨some (89, true), .bin 92 .eql (.t 91) (.c (.sc (.i .i64 0)))⟩, ⟨none, .pick 93 (.t 89) (.t 92) (.c (.sc (.b false)))⟩, ⟨none, .mv 94 (.t 93)⟩, ⟨some (94, true), .mv 95 (.t 3)⟩, ⟨some (94, true), .call (some 96) (.c (.fn 138 [])) [.c (.sc (.i .i64 1)), .t 95, .c (.sc (.i .i64 3))]⟩, ⟨none, .pick 97 (.t 94) (.t 96) (.c (.sc (.b false)))⟩, ⟨none, .mv 4 (.t 97)⟩]) (.seq (.reg [⟨none, .bin 99 .eql (.t 10) (.c (.sc (.s [99, 97, 108, 108])))⟩, ⟨none, .mv 98 (.t 99)⟩]) (.cond (.t 98) (.reg [⟨none, .fa 100 (.t 1) 1⟩, ⟨none, .ld 101 1 false (.t 100)⟩, ⟨none, .call (some 102) (.c (.fn 129 [])) [.t 101]⟩, ⟨none, .mv 103 (.t 102)⟩, ⟨some (103, true), .fa 104 (.t 1) 2⟩, ⟨some (103, true), .ld 105 1 false (.t 104)⟩, ⟨some (103, true), .bin 106 .eql (.t 105) (.c (.sc (.i .i64 0)))⟩, ⟨none, .pick 107 (.t 103) (.t 106) (.c (.sc (.b false)))⟩, ⟨none, .mv 4 (.t 107)⟩]) (.seq (.seq (.reg [⟨none, .bin 109 .eql (.t 10) (.c (.sc (.s [108, 111, 119])))⟩, ⟨none, .mv 108 (.t 109)⟩]) (.cond (.t 108) .skip (.reg [⟨none, .bin 110 .eql (.t 10) (.c (.sc (.s [104, 105, 103, 104])))⟩, ⟨none, .mv 108 (.t 110)⟩]))) (.cond (.t 108) (.reg [⟨none, .fa 111 (.t 1) 1⟩, ⟨none, .ld 112 1 false (.t 111)⟩, ⟨none, .call (some 113) (.c (.fn 129 [])) [.t 112]⟩, ⟨none, .mv 114 (.t 113)⟩, ⟨some (114, true), .fa 115 (.t 1) 2⟩, ⟨some (114, true), .ld 116 1 false (.t 115)⟩, ⟨some (114, true), .call (some 117) (.c (.fn 138 [])) [.c (.sc (.i .i64 0)), .t 116, .c (.sc (.i .i64 2))]⟩, ⟨none, .pick 118 (.t 114) (.t 117) (.c (.sc (.b false)))⟩, ⟨none, .mv 119 (.t 118)⟩, ⟨some (119, true), .mv 120 (.t 3)⟩, ⟨some (119, true), .bin 121 .eql (.t 120) (.c (.sc (.i .i64 0)))⟩, ⟨none, .pick 122 (.t 119) (.t 121) (.c (.sc (.b false)))⟩, ⟨none, .mv 4 (.t 122)⟩]) (.seq (.reg [⟨none, .bin 124 .eql (.t 10) (.c (.sc (.s [110, 116, 104])))⟩, ⟨none, .mv 123 (.t 124)⟩]) (.cond (.t 123) (.reg [⟨none, .fa 125 (.t 1) 1⟩, ⟨none, .ld 126 1 false (.t 125)⟩, ⟨none, .call (some 127) (.c (.fn 129 [])) [.t 126]⟩, ⟨none, .mv 128 (.t 127)⟩, ⟨some (128, true), .fa 129 (.t 1) 2⟩, ⟨some (128, true), .ld 130 1 false (.t 129)⟩, ⟨some (128, true), .call (some 131) (.c (.fn 138 [])) [.c (.sc (.i .i64 0)), .t 130, .c (.sc (.i .i64 2))]⟩, ⟨none, .pick 132 (.t 128) (.t 131) (.c (.sc (.b false)))⟩, ⟨none, .mv 133 (.t 132)⟩, ⟨some (133, true), .mv 134 (.t 3)⟩, ⟨some (133, true), .bin 135 .eql (.t 134) (.c (.sc (.i .i64 1)))⟩, ⟨none, .pick 136 (.t 133) (.t 135) (.c (.sc (.b false)))⟩, ⟨none, .mv 4 (.t 136)⟩]) .skip)))))))))))))))))))) (.seq (.seq (.reg [⟨none, .mv 5 (.c (.sc (.i .i64 0)))⟩]) (.block 1 (.loop (.seq (.seq (.reg [⟨none, .mv 137 (.t 5)⟩, ⟨none, .mv 138 (.t 3)⟩, ⟨none, .bin 139 .lss (.t 137) (.t 138)⟩]) (.cond (.t 139) .skip (.exit 1))) (.seq (.block 2 (.reg [⟨none, .mv 142 (.t 4)⟩, ⟨none, .mv 143 (.t 142)⟩, ⟨some (143, true), .fa 144 (.t 1) 3⟩, ⟨some (143, true), .ld 145 1 false (.t 144)⟩, ⟨some (143, true), .mv 146 (.t 5)⟩, ⟨some (143, true), .ia 147 4 (.t 145) (.t 146)⟩, ⟨some (143, true), .ld 148 4 true (.t 147)⟩, ⟨some (143, true), .call (some 149) (.c (.fn 70 [])) [.t 148]⟩, ⟨none, .pick 150 (.t 143) (.t 149) (.c (.sc (.b false)))⟩, ⟨none, .mv 4 (.t 150)⟩])) (.reg [⟨none, .mv 140 (.t 5)⟩, ⟨none, .bin 141 .add (.t 140) (.c (.sc (.i .i64 1)))⟩, ⟨none, .mv 5 (.t 141)⟩])))))) (.seq (.reg [⟨none, .mv 151 (.t 4)⟩, ⟨none, .mv 2 (.t 151)⟩]) .ret))))), [(2, 0)], 152⟩
theorem F70_ok : compT Tryz.prog (fun _ => an0) 70 = some F70 := by kernel_rfl
set_option maxHeartbeats 16000000 in
theorem b70 (W0 : Go.World) (hk : Wk W0) (a b : S) (n : Int) (l : List Exp) (hx : (Exp.mk a b n l).ok) (h70 : ∀ y, y ∈ l → y.ok → Ctr Tryz.prog W0 70 [eE y] [] (.sc (.b (shE y))) []) : Body (Ctr Tryz.prog W0) F70.ac F70.rs [eE (.mk a b n l)] [] (.sc (.b (shE (.mk a b n l)))) [] := by
  have hlen := expsD_length l
  have hln := hx.2.1
  repeat' ((conv => whnf); (first | with_reducible refine brec (fun _ => ?_) (fun _ => ?_) | (refine callP.pure _ (c129 W0 b hx.1.2.1) ⟨rfl, rfl⟩ ?_) | (refine callP.pure _ (c138 W0 0 n 999999999) ⟨rfl, rfl⟩ ?_) | (refine callP.pure _ (c138 W0 0 n 1) ⟨rfl, rfl⟩ ?_) | (refine callP.pure _ (c138 W0 0 n 2) ⟨rfl, rfl⟩ ?_) | (refine callP.pure _ (c138 W0 1 ((expsD l).length : Nat) 3) ⟨rfl, rfl⟩ ?_) | (refine callP.pure _ (c139 W0 hk b) ⟨rfl, rfl⟩ ?_) | (refine callP.pure _ (c140 W0 hk b) ⟨rfl, rfl⟩ ?_) | fail))
  all_goals
    refine LoopP.st (α := Nat × Bool) 2000 (fun s => l.length - s.1) (fun s => [(.s 1, .av (.ptr 1000 0)), (.b 1000, .bx ((Exp.mk a b n l).d.map dcell)), (.s 3, .av (.sc (.i .i64 ((expsD l).length : Nat)))), (.s 4, .av (.sc (.b s.2))), (.s 5, .av (.sc (.i .i64 (s.1 : Nat))))]) (fun s => s.1 ≤ l.length ∧ shE (.mk a b n l) = (s.2 && shL (l.drop s.1))) (0, headR a b n l.length) ?le ⟨Nat.zero_le _, by simp only [shE, List.drop_zero]⟩ ?rd
    case le => (refine le_of rfl rfl ?_; repeat' (first | exact rfl | exact trivial | refine ⟨?_, ?_⟩ | (refine congrArg (fun c => AV.sc (Sc.b c)) ?_; (simp_all [headR, hasB]; done)) | (refine congrArg (fun c => AV.sc (Sc.b c)) ?_; simp_all [headR, hasB]; omega)))
    case rd =>
      rintro ⟨k, o⟩ ⟨hk', he⟩
      conv => whnf
      refine brec (fun h2 => ?_) (fun h2 => ?_)
      · simp only [hlen, decide_eq_false_iff_not] at h2
        have e1 : l.drop k = [] := by simp only [List.drop_eq_nil_iff]; omega
        simp only [e1, shL, Bool.and_true] at he
        conv => whnf
        exact fin_b he.symm
      · simp only [hlen, decide_eq_true_eq] at h2
        obtain ⟨⟨xa, xb, xn, xl⟩, hg⟩ := get_of_lt (l := l) (k := k) (by omega)
        have dx := expsD_get hg
        simp only [drop_get hg, shL] at he
        conv => whnf
        refine brec (fun h3 => ?_) (fun h3 => ?_)
        · simp only [show o = false from h3, Bool.false_and] at he
          conv => whnf
          refine And.intro (by constructor <;> omega) ?_
          conv => whnf
          refine nxt (k + 1, false) ⟨by simp only; omega, by simp only; omega, by simpa using he⟩ ?_
          (refine le_of rfl rfl ?_; repeat' (first | exact rfl | exact trivial | refine ⟨?_, ?_⟩))
        · simp only [show o = true from h3, Bool.true_and] at he
          conv => whnf
          refine ⟨_, ⟨Int.natCast_nonneg _, dx⟩, ?_⟩
          conv => whnf
          refine callP.pure _ (h70 (.mk xa xb xn xl) (List.mem_of_getElem? hg) (oksE_get hx.2.2 hg)) ⟨rfl, rfl⟩ ?_
          conv => whnf
          refine And.intro (by constructor <;> omega) ?_
          conv => whnf
          refine nxt (k + 1, shE (.mk xa xb xn xl)) ⟨by simp only; omega, by simp only; omega, by simpa using he⟩ ?_
          (refine le_of rfl rfl ?_; repeat' (first | exact rfl | exact trivial | refine ⟨?_, ?_⟩))
theorem c70 (W0 : Go.World) (hk : Wk W0) : ∀ (x : Exp), x.ok → Ctr Tryz.prog W0 70 [eE x] [] (.sc (.b (shE x))) []
  | .mk a b n l, hx => ctr_body follows F70_ok rfl (fun _ _ h => by cases h) rfl (by rfl) (b70 W0 hk a b n l hx fun y hy ho => c70 W0 hk y ho)
termination_by x => SizeOf.sizeOf x
decreasing_by
  have := List.sizeOf_lt_of_mem hy
  simp; omega
end Go.Abs

set_option maxRecDepth 100000
namespace Go.Abs
open Go.Proofs
def pairT (a b : Int) : AV := .tup [.sc (.i .i64 a), .sc (.i .i64 b)]
def fitsR (a b : Int) : Bool := decide (a ≤ 1500) && decide (b ≤ 60)
def F71 : Fn := ⟨.seq (.reg [⟨none, .box 1 (.t 0)⟩, ⟨none, .mv 2 (.c (.sc (.i .i64 0)))⟩, ⟨none, .mv 3 (.c (.sc (.i .i64 0)))⟩]) (.seq (.reg [⟨none, .mv 4 (.c (.sc (.i .i64 1)))⟩, ⟨none, .mv 5 (.c (.sc (.i .i64 1)))⟩]) (.seq (.seq (.reg [⟨none, .mv 6 (.c (.sc (.i .i64 0)))⟩]) (.block 0 (.loop (.seq (.seq (.reg [⟨none, .mv 9 (.t 6)⟩, ⟨none, .fa 10 (.t 1) 3⟩, ⟨none, .ld 11 1 false (.t 10)⟩, ⟨none, .len 12 (.t 11)⟩, ⟨none, .bin 13 .lss (.t 9) (.t 12)⟩]) (.cond (.t 13) .skip (.exit 0))) (.seq (.block 1 (.seq (.reg [⟨none, .fa 17 (.t 1) 3⟩, ⟨none, .ld 18 1 false (.t 17)⟩, ⟨none, .mv 19 (.t 6)⟩, ⟨none, .ia 20 4 (.t 18) (.t 19)⟩, ⟨none, .ld 21 4 true (.t 20)⟩, ⟨none, .call (some 22) (.c (.fn 71 [])) [.t 21]⟩, ⟨none, .mv 16 (.t 22)⟩, ⟨none, .ext 23 (.t 16) 0⟩, ⟨none, .ext 24 (.t 16) 1⟩, ⟨none, .mv 7 (.t 23)⟩, ⟨none, .mv 8 (.t 24)⟩]) (.seq (.reg [⟨none, .mv 25 (.t 4)⟩, ⟨none, .mv 26 (.t 7)⟩, ⟨none, .bin 27 .add (.t 25) (.t 26)⟩, ⟨none, .mv 4 (.t 27)⟩]) (.reg [⟨none, .mv 28 (.t 5)⟩, ⟨none, .mv 29 (.t 8)⟩, ⟨none, .bin 30 .add (.t 29) (.c (.sc (.i .i64 1)))⟩, ⟨none, .mx 31 (.t 28) (.t 30)⟩, ⟨none, .mv 5 (.t 31)⟩])))) (.reg [⟨none, .mv 14 (.t 6)⟩, ⟨none, .bin 15 .add (.t 14) (.c (.sc (.i .i64 1)))⟩, ⟨none, .mv 6 (.t 15)⟩])))))) (.seq (.reg [⟨none, .mv 32 (.t 4)⟩, ⟨none, .mv 33 (.t 5)⟩, ⟨none, .mv 2 (.t 32)⟩, ⟨none, .mv 3 (.t 33)⟩]) .ret))), [(2, 0), (3, 0)], 34⟩
def F72 : Fn := ⟨.seq (.reg [⟨none, .mv 4 (.c (.sc (.b false)))⟩]) (.seq (.reg [⟨none, .mv 5 (.t 0)⟩, ⟨none, .bin 6 .leq (.t 5) (.c (.sc (.i .i64 1500)))⟩, ⟨none, .mv 7 (.t 6)⟩, ⟨some (7, true), .mv 8 (.t 1)⟩, ⟨some (7, true), .bin 9 .leq (.t 8) (.c (.sc (.i .i64 60)))⟩, ⟨none, .pick 10 (.t 7) (.t 9) (.c (.sc (.b false)))⟩, ⟨none, .mv 4 (.t 10)⟩]) .ret), [(4, 0)], 11⟩
theorem F71_ok : compT Tryz.prog (fun _ => an0) 71 = some F71 := by kernel_rfl
theorem F72_ok : compT Tryz.prog (fun _ => an0) 72 = some F72 := by kernel_rfl
set_option maxHeartbeats 4000000 in
theorem b71 (W0 : Go.World) (oa ob : S) (on : Int) (l : List Exp) (hx : (Exp.mk oa ob on l).ok) (hn : nL l ≤ 1152921504606846975) (hc : ∀ x ∈ l, x.ok → Ctr Tryz.prog W0 71 [eE x] [] (pairT (nE x) (dpE x)) []) : Body (Ctr Tryz.prog W0) F71.ac F71.rs [eE (.mk oa ob on l)] [] (pairT (nL l + 1) (dpL l + 1)) [] := by
  have hlen := expsD_length l
  have hl := hx.2.1
  conv => whnf
  refine .st (α := Nat × Int × Int) 2000 (fun s => l.length - s.1) (fun s => [(.s 1, .av (.ptr 1000 0)), (.b 1000, .bx ((Exp.mk oa ob on l).d.map dcell)), (.s 4, .av (.sc (.i .i64 s.2.1))), (.s 5, .av (.sc (.i .i64 s.2.2))), (.s 6, .av (.sc (.i .i64 (s.1 : Nat))))])
    (fun s => s.1 ≤ l.length ∧ nL l + 1 = s.2.1 + nL (l.drop s.1) ∧ dpL l + 1 = max s.2.2 (dpL (l.drop s.1) + 1) ∧ 0 ≤ s.2.1 ∧ 1 ≤ s.2.2 ∧ s.2.2 ≤ s.2.1) (0, 1, 1) ?_ ⟨Nat.zero_le _, by simp; omega, by simp; have := (dpL_le l).1; omega, by simp, by simp, by simp⟩ ?_
  · (refine le_of rfl rfl ?_; repeat' (first | exact rfl | exact trivial | refine ⟨?_, ?_⟩))
  · rintro ⟨k, a, d⟩ ⟨hk, he, hd, ha0, hd0, hda⟩
    simp only at hk he hd ha0 hd0 hda
    conv => whnf
    refine brec (fun h2 => ?_) (fun h2 => ?_)
    · simp only [expsD_length, decide_eq_false_iff_not] at h2
      have e1 : l.drop k = [] := by simp; omega
      rw [e1] at he hd
      simp only [nL, dpL] at he hd
      conv => whnf
      have e2 : a = nL l + 1 := by omega
      have e3 : d = dpL l + 1 := by omega
      subst e2; subst e3
      (refine fin0 rfl ?_ rfl; repeat' (first | exact rfl | exact trivial | refine ⟨?_, ?_⟩))
    · simp only [expsD_length, decide_eq_true_eq] at h2
      obtain ⟨x, hx'⟩ := get_of_lt (l := l) (k := k) (by omega)
      have dx := expsD_get hx'
      have hmem := List.mem_of_getElem? hx'
      have hxo := oksE_get hx.2.2 hx'
      rw [drop_get hx'] at he hd
      simp only [nL, dpL] at he hd
      cases x with | mk o b n args =>
      have q1 := nE_pos (.mk o b n args)
      have q2 := dpE_le (.mk o b n args)
      have p2 := dpL_le (l.drop (k + 1))
      have p3 := nL_pos (l.drop (k + 1))
      conv => whnf
      refine ⟨_, ⟨Int.natCast_nonneg _, dx⟩, ?_⟩
      conv => whnf
      refine callP.pure _ (hc (.mk o b n args) hmem hxo) ⟨rfl, rfl⟩ ?_
      conv => whnf
      refine And.intro (by constructor <;> ((try simp only); omega)) ?_
      conv => whnf
      refine And.intro (by constructor <;> ((try simp only); omega)) ?_
      conv => whnf
      refine And.intro (by constructor <;> ((try simp only); omega)) ?_
      conv => whnf
      refine nxt (k + 1, a + nE (.mk o b n args), max d (dpE (.mk o b n args) + 1)) ⟨by simp only; omega, by simp only; omega, by simp only; omega, by simp only; omega, by simp only; omega, by simp only; omega, by simp only; omega⟩ ?_
      (refine le_of rfl rfl ?_; repeat' (first | exact rfl | exact trivial | refine ⟨?_, ?_⟩))
theorem c71 (W0 : Go.World) : ∀ (x : Exp), x.ok → nE x ≤ 1152921504606846976 → Ctr Tryz.prog W0 71 [eE x] [] (pairT (nE x) (dpE x)) []
  | .mk a b n l, hx, hn => ctr_body follows F71_ok rfl (fun _ _ h => by cases h) rfl (by rfl) (b71 W0 a b n l hx (by simp only [nE] at hn; omega) fun y hy ho => c71 W0 y ho (by have := nE_mem hy; simp only [nE] at hn; omega))
termination_by x => SizeOf.sizeOf x
decreasing_by
  have := List.sizeOf_lt_of_mem hy
  simp; omega
set_option maxHeartbeats 2000000 in
theorem b72 (W0 : Go.World) (a b : Int) : Body (Ctr Tryz.prog W0) F72.ac F72.rs [.sc (.i .i64 a), .sc (.i .i64 b)] [] (.sc (.b (fitsR a b))) [] := by
  repeat' ((conv => whnf); (first | with_reducible refine brec (fun _ => ?_) (fun _ => ?_) | fail))
  all_goals ((conv => whnf); refine fin_b ?_; simp_all [fitsR]; try (intros; omega))
theorem c72 (W0 : Go.World) (a b : Int) : Ctr Tryz.prog W0 72 [.sc (.i .i64 a), .sc (.i .i64 b)] [] (.sc (.b (fitsR a b))) [] :=
  ctr_body follows F72_ok rfl (fun _ _ h => by cases h) rfl (by rfl) (b72 W0 a b)
theorem fits26 (x : Exp) : (decide (nL [x] ≤ 1500) && decide (dpL [x] ≤ 60)) = (decide (nE x ≤ 1500) && decide (dpE x ≤ 60)) := by
  have := (dpE_le x).1
  have e : max (dpE x) 0 = dpE x := by omega
  simp only [nL, dpL, Int.add_zero, e]
set_option maxHeartbeats 2000000 in
theorem b26 (W0 : Go.World) (hk : Wk W0) (x : Exp) (hx : x.ok) (hn : nE x ≤ 1152921504606846976) : Body (Ctr Tryz.prog W0) F26.ac F26.rs [eE x] [] (.sc (.b (validE x))) [] := by
  cases x with | mk a b n l =>
  repeat' ((conv => whnf); (first | with_reducible refine brec (fun _ => ?_) (fun _ => ?_) | (refine callP.pure _ (c68 W0 [.mk a b n l] (by simp) ⟨hx, trivial⟩ (by simpa [nL] using hn)) ⟨rfl, rfl⟩ ?_) | (refine callP.pure _ (c51 W0 (nL [.mk a b n l]) (dpL [.mk a b n l])) ⟨rfl, rfl⟩ ?_) | (refine callP.pure _ (c69 W0 hk [.mk a b n l] (by simp) ⟨hx, trivial⟩) ⟨rfl, rfl⟩ ?_) | fail))
  all_goals ((conv => whnf); refine fin_b ?_; have f26 := fits26 (.mk a b n l); simp_all [validE, wellL]; try (intros; omega))
theorem c26 (W0 : Go.World) (hk : Wk W0) (x : Exp) (hx : x.ok) (hn : nE x ≤ 1152921504606846976) : Ctr Tryz.prog W0 26 [eE x] [] (.sc (.b (validE x))) [] :=
  ctr_body follows F26_ok rfl (fun _ _ h => by cases h) rfl (by cases x; rfl) (b26 W0 hk x hx hn)
end Go.Abs
