/- What the texts on lines share: the program follows its orders; the library's contracts. -/
import Derived.Test.YthhfalbeafocoaaGreatDoorS6
import Derived.Test.YthhfalbeafocoaaGreatDoorMc
namespace Go.Abs
open Go.Proofs
theorem follows : Tryz.prog.follows .mixedOrders = true := by kernel_rfl
end Go.Abs

set_option maxRecDepth 100000
namespace Go.Abs
open Go.Proofs
def smallI (n : Int) : Bool := decide (97 ≤ n) && decide (n ≤ 122)
def digI (n : Int) : Bool := decide (48 ≤ n) && decide (n ≤ 57)
def innerI (n : Int) : Bool := smallI n || ((decide (65 ≤ n) && decide (n ≤ 90)) || (digI n || decide (n = 95)))
def innN : S → Nat
  | [] => 0
  | c :: r => match innerI c.toNat with | true => innN r + 1 | false => 0
def wordN : S → Nat
  | [] => 0
  | c :: r => match smallI c.toNat with | true => innN r + 1 | false => 0
def digsN : S → Nat
  | [] => 0
  | c :: r => match digI c.toNat with | true => digsN r + 1 | false => 0
theorem innN_le : ∀ s, innN s ≤ s.length
  | [] => Nat.le_refl _
  | c :: r => by simp only [innN]; split <;> simp [innN_le r]
theorem digsN_le : ∀ s, digsN s ≤ s.length
  | [] => Nat.le_refl _
  | c :: r => by simp only [digsN]; split <;> simp [digsN_le r]
theorem wordN_le : ∀ s, wordN s ≤ s.length
  | [] => Nat.le_refl _
  | c :: r => by simp only [wordN]; split <;> simp [innN_le r]
def preB (s p : S) : Bool := decide (p.length ≤ s.length) && beqL (s.take p.length) p
def F242 : Fn := ⟨.seq (.reg [⟨none, .mv 2 (.c (.sc (.b false)))⟩]) (.seq (.reg [⟨none, .mv 3 (.t 0)⟩, ⟨none, .bin 4 .geq (.t 3) (.c (.sc (.i .u8 97)))⟩, ⟨none, .mv 5 (.t 4)⟩, ⟨some (5, true), .mv 6 (.t 0)⟩, ⟨some (5, true), .bin 7 .leq (.t 6) (.c (.sc (.i .u8 122)))⟩, ⟨none, .pick 8 (.t 5) (.t 7) (.c (.sc (.b false)))⟩, ⟨none, .mv 2 (.t 8)⟩]) .ret), [(2, 0)], 9, []⟩
def F245 : Fn := ⟨.seq (.reg [⟨none, .mv 2 (.c (.sc (.b false)))⟩]) (.seq (.reg [⟨none, .mv 3 (.t 0)⟩, ⟨none, .bin 4 .geq (.t 3) (.c (.sc (.i .u8 48)))⟩, ⟨none, .mv 5 (.t 4)⟩, ⟨some (5, true), .mv 6 (.t 0)⟩, ⟨some (5, true), .bin 7 .leq (.t 6) (.c (.sc (.i .u8 57)))⟩, ⟨none, .pick 8 (.t 5) (.t 7) (.c (.sc (.b false)))⟩, ⟨none, .mv 2 (.t 8)⟩]) .ret), [(2, 0)], 9, []⟩
def F243 : Fn := ⟨.seq (.reg [⟨none, .mv 2 (.c (.sc (.b false)))⟩]) (.seq (.reg [⟨none, .mv 3 (.t 0)⟩, ⟨none, .call (some 4) (.c (.fn 119 [])) [.t 3]⟩, ⟨none, .mv 5 (.t 4)⟩, ⟨some (5, false), .mv 6 (.t 0)⟩, ⟨some (5, false), .bin 7 .geq (.t 6) (.c (.sc (.i .u8 65)))⟩, ⟨some (5, false), .mv 8 (.t 7)⟩, ⟨some (8, true), .mv 9 (.t 0)⟩, ⟨some (8, true), .bin 10 .leq (.t 9) (.c (.sc (.i .u8 90)))⟩, ⟨some (5, false), .pick 11 (.t 8) (.t 10) (.c (.sc (.b false)))⟩, ⟨none, .pick 12 (.t 5) (.c (.sc (.b true))) (.t 11)⟩, ⟨none, .mv 13 (.t 12)⟩, ⟨some (13, false), .mv 14 (.t 0)⟩, ⟨some (13, false), .call (some 15) (.c (.fn 122 [])) [.t 14]⟩, ⟨none, .pick 16 (.t 13) (.c (.sc (.b true))) (.t 15)⟩, ⟨none, .mv 17 (.t 16)⟩, ⟨some (17, false), .mv 18 (.t 0)⟩, ⟨some (17, false), .bin 19 .eql (.t 18) (.c (.sc (.i .u8 95)))⟩, ⟨none, .pick 20 (.t 17) (.c (.sc (.b true))) (.t 19)⟩, ⟨none, .mv 2 (.t 20)⟩]) .ret), [(2, 0)], 21, []⟩
def F240 : Fn := ⟨.seq (.reg [⟨none, .mv 4 (.c (.sc (.b false)))⟩]) (.seq (.reg [⟨none, .mv 5 (.t 0)⟩, ⟨none, .lenS 6 (.t 5)⟩, ⟨none, .mv 7 (.t 1)⟩, ⟨none, .lenS 8 (.t 7)⟩, ⟨none, .bin 9 .geq (.t 6) (.t 8)⟩, ⟨none, .mv 10 (.t 9)⟩, ⟨some (10, true), .mv 11 (.t 0)⟩, ⟨some (10, true), .mv 12 (.t 1)⟩, ⟨some (10, true), .lenS 13 (.t 12)⟩, ⟨some (10, true), .slS 14 (.t 11) none (some (.t 13))⟩, ⟨some (10, true), .mv 15 (.t 1)⟩, ⟨some (10, true), .bin 16 .eql (.t 14) (.t 15)⟩, ⟨none, .pick 17 (.t 10) (.t 16) (.c (.sc (.b false)))⟩, ⟨none, .mv 4 (.t 17)⟩]) .ret), [(4, 0)], 18, []⟩
def F214 : Fn := ⟨.seq (.reg [⟨none, .mv 4 (.c (.sc (.b false)))⟩]) (.seq (.reg [⟨none, .mv 5 (.t 0)⟩, ⟨none, .mv 6 (.t 1)⟩, ⟨none, .call (some 7) (.c (.fn 117 [])) [.t 5, .t 6]⟩, ⟨none, .mv 4 (.t 7)⟩]) .ret), [(4, 0)], 8, []⟩
def F216 : Fn := ⟨.seq (.reg [⟨none, .mv 2 (.c (.sc (.i .i64 0)))⟩]) (.seq (.seq (.reg [⟨none, .mv 4 (.t 0)⟩, ⟨none, .bin 5 .eql (.t 4) (.c (.sc (.s [])))⟩, ⟨none, .mv 6 (.t 5)⟩, ⟨some (6, false), .mv 7 (.t 0)⟩, ⟨some (6, false), .ix 8 (.t 7) (.c (.sc (.i .i64 0)))⟩, ⟨some (6, false), .call (some 9) (.c (.fn 119 [])) [.t 8]⟩, ⟨some (6, false), .no 10 (.t 9)⟩, ⟨none, .pick 11 (.t 6) (.c (.sc (.b true))) (.t 10)⟩]) (.cond (.t 11) (.seq (.reg [⟨none, .mv 2 (.c (.sc (.i .i64 0)))⟩]) .ret) .skip)) (.seq (.reg [⟨none, .mv 3 (.c (.sc (.i .i64 1)))⟩]) (.seq (.block 0 (.loop (.seq (.seq (.reg [⟨none, .mv 12 (.t 3)⟩, ⟨none, .mv 13 (.t 0)⟩, ⟨none, .lenS 14 (.t 13)⟩, ⟨none, .bin 15 .lss (.t 12) (.t 14)⟩, ⟨none, .mv 16 (.t 15)⟩, ⟨some (16, true), .mv 17 (.t 0)⟩, ⟨some (16, true), .mv 18 (.t 3)⟩, ⟨some (16, true), .ix 19 (.t 17) (.t 18)⟩, ⟨some (16, true), .call (some 20) (.c (.fn 120 [])) [.t 19]⟩, ⟨none, .pick 21 (.t 16) (.t 20) (.c (.sc (.b false)))⟩]) (.cond (.t 21) .skip (.exit 0))) (.block 1 (.reg [⟨none, .mv 22 (.t 3)⟩, ⟨none, .bin 23 .add (.t 22) (.c (.sc (.i .i64 1)))⟩, ⟨none, .mv 3 (.t 23)⟩]))))) (.seq (.reg [⟨none, .mv 24 (.t 3)⟩, ⟨none, .mv 2 (.t 24)⟩]) .ret)))), [(2, 0)], 25, []⟩
def F218 : Fn := ⟨.seq (.reg [⟨none, .mv 2 (.c (.sc (.i .i64 0)))⟩]) (.seq (.seq (.reg [⟨none, .mv 4 (.t 0)⟩, ⟨none, .call (some 5) (.c (.fn 57 [])) [.t 4, .c (.sc (.s [48]))]⟩]) (.cond (.t 5) (.seq (.reg [⟨none, .mv 2 (.c (.sc (.i .i64 1)))⟩]) .ret) .skip)) (.seq (.reg [⟨none, .mv 3 (.c (.sc (.i .i64 0)))⟩]) (.seq (.block 0 (.loop (.seq (.seq (.reg [⟨none, .mv 6 (.t 3)⟩, ⟨none, .mv 7 (.t 0)⟩, ⟨none, .lenS 8 (.t 7)⟩, ⟨none, .bin 9 .lss (.t 6) (.t 8)⟩, ⟨none, .mv 10 (.t 9)⟩, ⟨some (10, true), .mv 11 (.t 0)⟩, ⟨some (10, true), .mv 12 (.t 3)⟩, ⟨some (10, true), .ix 13 (.t 11) (.t 12)⟩, ⟨some (10, true), .call (some 14) (.c (.fn 122 [])) [.t 13]⟩, ⟨none, .pick 15 (.t 10) (.t 14) (.c (.sc (.b false)))⟩]) (.cond (.t 15) .skip (.exit 0))) (.block 1 (.reg [⟨none, .mv 16 (.t 3)⟩, ⟨none, .bin 17 .add (.t 16) (.c (.sc (.i .i64 1)))⟩, ⟨none, .mv 3 (.t 17)⟩]))))) (.seq (.reg [⟨none, .mv 18 (.t 3)⟩, ⟨none, .mv 2 (.t 18)⟩]) .ret)))), [(2, 0)], 19, []⟩
theorem F242_ok : compT Tryz.prog (fun _ => an0) 119 = some F242 := by kernel_rfl
theorem F245_ok : compT Tryz.prog (fun _ => an0) 122 = some F245 := by kernel_rfl
theorem F243_ok : compT Tryz.prog (fun _ => an0) 120 = some F243 := by kernel_rfl
theorem F240_ok : compT Tryz.prog (fun _ => an0) 117 = some F240 := by kernel_rfl
theorem F214_ok : compT Tryz.prog (fun _ => an0) 57 = some F214 := by kernel_rfl
theorem F216_ok : compT Tryz.prog (fun _ => an0) 59 = some F216 := by kernel_rfl
theorem F218_ok : compT Tryz.prog (fun _ => an0) 61 = some F218 := by kernel_rfl
set_option maxHeartbeats 2000000 in
theorem b242 (W0 : Go.World) (n : Int) : Body (Ctr Tryz.prog W0) F242.ac F242.rs [.sc (.i .u8 n)] [] (.sc (.b (smallI n))) [] := by
  repeat' ((conv => whnf); (first | with_reducible refine brec (fun _ => ?_) (fun _ => ?_) | fail))
  all_goals ((conv => whnf); refine fin_b ?_; simp_all [smallI]; try (intros; omega))
theorem c242 (W0 : Go.World) (n : Int) : Ctr Tryz.prog W0 119 [.sc (.i .u8 n)] [] (.sc (.b (smallI n))) [] :=
  ctr_body follows F242_ok rfl (fun _ _ h => by cases h) rfl (by rfl) (b242 W0 n)
set_option maxHeartbeats 2000000 in
theorem b245 (W0 : Go.World) (n : Int) : Body (Ctr Tryz.prog W0) F245.ac F245.rs [.sc (.i .u8 n)] [] (.sc (.b (digI n))) [] := by
  repeat' ((conv => whnf); (first | with_reducible refine brec (fun _ => ?_) (fun _ => ?_) | fail))
  all_goals ((conv => whnf); refine fin_b ?_; simp_all [digI]; try (intros; omega))
theorem c245 (W0 : Go.World) (n : Int) : Ctr Tryz.prog W0 122 [.sc (.i .u8 n)] [] (.sc (.b (digI n))) [] :=
  ctr_body follows F245_ok rfl (fun _ _ h => by cases h) rfl (by rfl) (b245 W0 n)
set_option maxHeartbeats 2000000 in
theorem b243 (W0 : Go.World) (n : Int) : Body (Ctr Tryz.prog W0) F243.ac F243.rs [.sc (.i .u8 n)] [] (.sc (.b (innerI n))) [] := by
  repeat' ((conv => whnf); (first | with_reducible refine brec (fun _ => ?_) (fun _ => ?_) | (refine callP.pure _ (c242 W0 n) ⟨rfl, rfl⟩ ?_) | (refine callP.pure _ (c245 W0 n) ⟨rfl, rfl⟩ ?_) | fail))
  all_goals ((conv => whnf); refine fin_b ?_; simp_all [innerI]; try (intros; omega))
theorem c243 (W0 : Go.World) (n : Int) : Ctr Tryz.prog W0 120 [.sc (.i .u8 n)] [] (.sc (.b (innerI n))) [] :=
  ctr_body follows F243_ok rfl (fun _ _ h => by cases h) rfl (by rfl) (b243 W0 n)
set_option maxHeartbeats 2000000 in
theorem b240 (W0 : Go.World) (s p : S) : Body (Ctr Tryz.prog W0) F240.ac F240.rs [.sc (.s s), .sc (.s p)] [] (.sc (.b (preB s p))) [] := by
  repeat' ((conv => whnf); (first | with_reducible refine brec (fun _ => ?_) (fun _ => ?_) | (refine ⟨⟨Int.le_refl _, Int.natCast_nonneg _, by simp_all⟩, ?_⟩) | fail))
  all_goals ((conv => whnf); refine fin_b ?_; simp_all [preB]; try (intros; omega))
theorem c240 (W0 : Go.World) (s p : S) : Ctr Tryz.prog W0 117 [.sc (.s s), .sc (.s p)] [] (.sc (.b (preB s p))) [] :=
  ctr_body follows F240_ok rfl (fun _ _ h => by cases h) rfl (by rfl) (b240 W0 s p)
set_option maxHeartbeats 2000000 in
theorem b214 (W0 : Go.World) (s p : S) : Body (Ctr Tryz.prog W0) F214.ac F214.rs [.sc (.s s), .sc (.s p)] [] (.sc (.b (preB s p))) [] := by
  repeat' ((conv => whnf); (first | with_reducible refine brec (fun _ => ?_) (fun _ => ?_) | (refine callP.pure _ (c240 W0 s p) ⟨rfl, rfl⟩ ?_) | fail))
  all_goals ((conv => whnf); refine fin_b ?_; rfl)
theorem c214 (W0 : Go.World) (s p : S) : Ctr Tryz.prog W0 57 [.sc (.s s), .sc (.s p)] [] (.sc (.b (preB s p))) [] :=
  ctr_body follows F214_ok rfl (fun _ _ h => by cases h) rfl (by rfl) (b214 W0 s p)
theorem b216 (W0 : Go.World) (s : S) (hl : s.length ≤ 140737488355328) : Body (Ctr Tryz.prog W0) F216.ac F216.rs [.sc (.s s)] [] (.sc (.i .i64 (wordN s))) [] := by
  conv => whnf
  refine brec (fun h1 => ?_) (fun h1 => ?_)
  · have hs : s ≠ [] := by intro e; subst e; simp [beqL] at h1
    obtain ⟨c, r, rfl⟩ := List.exists_cons_of_ne_nil hs
    conv => whnf
    refine ⟨c, ⟨Int.le_refl _, rfl⟩, ?_⟩
    conv => whnf
    refine callP.pure _ (c242 W0 c.toNat) ⟨rfl, rfl⟩ ?_
    conv => whnf
    refine brec (fun h2 => ?_) (fun h2 => ?_)
    · conv => whnf
      rw [Bool.not_eq_false'] at h2
      refine .st 1000 (fun k => (c :: r).length - k) (fun k => [(.s 0, .av (.sc (.s (c :: r)))), (.s 3, .av (.sc (.i .i64 (k : Nat))))])
        (fun k => k ≤ (c :: r).length ∧ wordN (c :: r) = k + innN ((c :: r).drop k)) 1 ?_ ⟨by simp, by simp [wordN, h2]; omega⟩ ?_
      · (refine le_of rfl rfl ?_; repeat' (first | exact rfl | exact trivial | refine ⟨?_, ?_⟩))
      · rintro k ⟨hk, he⟩
        conv => whnf
        refine brec (fun h3 => ?_) (fun h3 => ?_)
        · conv => whnf
          simp only [decide_eq_false_iff_not] at h3
          have e1 : (c :: r).drop k = [] := by rw [List.drop_eq_nil_iff]; omega
          rw [e1] at he
          refine fin_i ?_
          simp only [innN] at he; omega
        · simp only [decide_eq_true_eq] at h3
          obtain ⟨x, hx⟩ := get_of_lt (l := c :: r) (k := k) (by omega)
          rw [drop_get hx] at he
          conv => whnf
          refine ⟨x, ⟨Int.natCast_nonneg _, hx⟩, ?_⟩
          conv => whnf
          refine callP.pure _ (c243 W0 x.toNat) ⟨rfl, rfl⟩ ?_
          conv => whnf
          refine brec (fun h4 => ?_) (fun h4 => ?_)
          · conv => whnf
            simp only [innN, h4] at he
            refine fin_i ?_
            omega
          · conv => whnf
            simp only [innN, h4] at he
            refine ⟨?_, ?_⟩
            · constructor <;> omega
            · conv => whnf
              refine nxt (k + 1) ⟨by omega, by omega, by omega⟩ ?_
              (refine le_of rfl rfl ?_; repeat' (first | exact rfl | exact trivial | refine ⟨?_, ?_⟩))
    · conv => whnf
      rw [Bool.not_eq_true'] at h2
      refine fin_i ?_
      simp [wordN, h2]
  · conv => whnf
    have hs : s = [] := by simpa [beqL] using h1
    subst hs
    exact fin_i rfl
theorem c216 (W0 : Go.World) (s : S) (hl : s.length ≤ 140737488355328) : Ctr Tryz.prog W0 59 [.sc (.s s)] [] (.sc (.i .i64 (wordN s))) [] :=
  ctr_body follows F216_ok rfl (fun _ _ h => by cases h) rfl (by rfl) (b216 W0 s hl)
def digN (s : S) : Nat := match preB s [48] with | true => 1 | false => digsN s
theorem b218 (W0 : Go.World) (s : S) (hl : s.length ≤ 140737488355328) : Body (Ctr Tryz.prog W0) F218.ac F218.rs [.sc (.s s)] [] (.sc (.i .i64 (digN s))) [] := by
  conv => whnf
  refine callP.pure _ (c214 W0 s [48]) ⟨rfl, rfl⟩ ?_
  conv => whnf
  refine brec (fun h2 => ?_) (fun h2 => ?_)
  · conv => whnf
    refine .st 1000 (fun k => s.length - k) (fun k => [(.s 0, .av (.sc (.s s))), (.s 3, .av (.sc (.i .i64 (k : Nat))))])
      (fun k => k ≤ s.length ∧ digN s = k + digsN (s.drop k)) 0 ?_ ⟨by simp, by simp [digN, h2]⟩ ?_
    · (refine le_of rfl rfl ?_; repeat' (first | exact rfl | exact trivial | refine ⟨?_, ?_⟩))
    · rintro k ⟨hk, he⟩
      conv => whnf
      refine brec (fun h3 => ?_) (fun h3 => ?_)
      · conv => whnf
        simp only [decide_eq_false_iff_not] at h3
        have e1 : s.drop k = [] := by rw [List.drop_eq_nil_iff]; omega
        rw [e1] at he
        refine fin_i ?_
        simp only [digsN] at he; omega
      · simp only [decide_eq_true_eq] at h3
        obtain ⟨x, hx⟩ := get_of_lt (l := s) (k := k) (by omega)
        rw [drop_get hx] at he
        conv => whnf
        refine ⟨x, ⟨Int.natCast_nonneg _, hx⟩, ?_⟩
        conv => whnf
        refine callP.pure _ (c245 W0 x.toNat) ⟨rfl, rfl⟩ ?_
        conv => whnf
        refine brec (fun h4 => ?_) (fun h4 => ?_)
        · conv => whnf
          simp only [digsN, h4] at he
          refine fin_i ?_
          omega
        · conv => whnf
          simp only [digsN, h4] at he
          refine ⟨?_, ?_⟩
          · constructor <;> omega
          · conv => whnf
            refine nxt (k + 1) ⟨by omega, by omega, by omega⟩ ?_
            (refine le_of rfl rfl ?_; repeat' (first | exact rfl | exact trivial | refine ⟨?_, ?_⟩))
  · conv => whnf
    refine fin_i ?_
    simp [digN, h2]
theorem c218 (W0 : Go.World) (s : S) (hl : s.length ≤ 140737488355328) : Ctr Tryz.prog W0 61 [.sc (.s s)] [] (.sc (.i .i64 (digN s))) [] :=
  ctr_body follows F218_ok rfl (fun _ _ h => by cases h) rfl (by rfl) (b218 W0 s hl)
end Go.Abs

set_option maxRecDepth 100000
namespace Go.Abs
open Go.Proofs
theorem fin0 {σ : Log} {v res : AV} (h1 : inR 0 0 res = true) (h2 : wk3 v (ren [] [] 0 res)) (h3 : toks res = []) : FinOK σ v 0 0 res [] :=
  ⟨⟨[], [], ⟨rfl, rfl, h1, rfl⟩, h2, trivial, by rw [h3]; exact trivial⟩⟩
def keysT : S := [97, 110, 100, 32, 97, 114, 114, 97, 121, 32, 97, 116, 32, 97, 116, 111, 109, 105, 99, 32, 98, 101, 103, 105, 110, 32, 98, 108, 111, 99, 107, 32, 98, 108, 111, 99, 107, 115, 32, 98, 111, 111, 108, 32, 98, 121, 32, 99, 111, 98, 101, 103, 105, 110, 32, 99, 111, 102, 111, 114, 97, 108, 108, 32, 99, 111, 117, 110, 116, 32, 99, 121, 99, 108, 105, 99, 32, 100, 111, 32, 100, 111, 109, 97, 105, 110, 32, 101, 108, 115, 101, 32, 102, 97, 108, 115, 101, 32, 102, 105, 108, 108, 32, 102, 111, 108, 100, 32, 102, 111, 114, 32, 102, 111, 114, 97, 108, 108, 32, 103, 101, 116, 32, 103, 105, 118, 101, 32, 104, 97, 108, 116, 32, 104, 97, 115, 32, 104, 105, 103, 104, 32, 105, 102, 32, 105, 110, 32, 105, 110, 116, 32, 105, 115, 32, 108, 111, 119, 32, 109, 97, 120, 32, 109, 105, 110, 32, 110, 111, 110, 101, 32, 110, 116, 104, 32, 111, 110, 32, 111, 114, 100, 32, 111, 118, 101, 114, 32, 112, 114, 111, 99, 32, 114, 101, 97, 100, 32, 114, 101, 100, 117, 99, 101, 32, 114, 101, 115, 105, 122, 101, 32, 114, 101, 116, 117, 114, 110, 32, 115, 99, 97, 110, 32, 115, 101, 116, 32, 115, 105, 110, 103, 108, 101, 32, 115, 121, 110, 99, 32, 116, 111, 32, 116, 114, 117, 101, 32, 118, 97, 114, 32, 119, 104, 101, 114, 101, 32, 119, 104, 105, 108, 101, 32, 119, 104, 111, 108, 101, 32, 119, 105, 116, 104, 32, 119, 114, 105, 116, 101, 32, 122, 105, 112, 32, 97, 100, 100]
def keyList : List S := Go.Lib.fields keysT
def signList : List S := [[60, 61], [61, 61], [46, 46], [60, 45], [40], [41], [91], [93], [123], [125], [44], [59], [58], [61], [43], [45], [42], [47], [37], [60], [38], [124], [33]]
def hasB (s : S) : List S → Bool
  | [] => false
  | e :: r => beqL s e || hasB s r
def findN (s : S) : List S → Nat → Int
  | [], _ => -1
  | e :: r, k => match beqL s e with | true => k | false => findN s r (k + 1)
theorem findN_has (s : S) : ∀ (l : List S) (k : Nat), decide (0 ≤ findN s l k) = hasB s l
  | [], k => rfl
  | e :: r, k => by
    have ih := findN_has s r (k + 1)
    cases h : beqL s e with
    | true => simp [findN, hasB, h]
    | false => simpa [findN, hasB, h] using ih
theorem keysT_ascii : ∀ b, b ∈ keysT → b.toNat < 128 := asciiB_spec (by decide +kernel)
theorem keyList_len : keyList.length ≤ 200 := of_decide_eq_true (by kernel_rfl)
def kindS (s : S) : S := match hasB s keyList with | true => [107, 101, 121] | false => [110, 97, 109, 101]
def signOf (s : S) : List S → Option S
  | [] => none
  | x :: r => match preB s x with | true => some x | false => signOf s r
def firstT (s : S) : S × S × Bool := match wordN s with
  | n + 1 => (kindS (s.take (n + 1)), s.take (n + 1), true)
  | 0 => match digN s with
    | n + 1 => ([105, 110, 116], s.take (n + 1), decide (((n + 1 : Nat) : Int) ≤ 9))
    | 0 => match signOf s signList with
      | some x => ([115, 105, 103, 110], x, true)
      | none => ([], [], false)
def tokA (k t : S) (at_ : Int) (ok : Bool) : AV := .tup [.agg [.sc (.s k), .sc (.s t), .sc (.i .i64 at_)], .sc (.b ok)]
def validT (k t : S) : Bool := (firstT t).2.2 && (beqL (firstT t).1 k && beqL (firstT t).2.1 t)
def isNameB (s : S) : Bool := validT [110, 97, 109, 101] s
structure Wk (W0 : Go.World) : Prop where
  sp : Go.Lib.TabIs Tryz.prog W0 "strings.asciiSpace" .u8 Go.Lib.asciiSpaceTab
  pow : Go.Lib.TabIs Tryz.prog W0 "internal/strconv.uint64pow10" .u64 Go.Lib.pow10Tab
  ml : ∃ m, W0.cell? ⟨0, 0, none⟩ = some (.int .i64 m)
def F271 : Fn := ⟨.seq (.reg [⟨none, .mv 4 (.c (.sc (.i .i64 0)))⟩]) (.seq (.seq (.reg [⟨none, .mv 6 (.t 0)⟩, ⟨none, .len 7 (.t 6)⟩, ⟨none, .mv 8 (.c (.sc (.i .i64 0)))⟩]) (.block 0 (.loop (.seq (.reg [⟨none, .bin 9 .lss (.t 8) (.t 7)⟩]) (.seq (.cond (.t 9) .skip (.exit 0)) (.seq (.block 1 (.seq (.reg [⟨none, .mv 10 (.t 8)⟩, ⟨none, .mv 5 (.t 10)⟩]) (.seq (.reg [⟨none, .mv 11 (.t 1)⟩, ⟨none, .mv 12 (.t 0)⟩, ⟨none, .mv 13 (.t 5)⟩, ⟨none, .ia 14 1 (.t 12) (.t 13)⟩, ⟨none, .ld 15 1 false (.t 14)⟩, ⟨none, .bin 16 .eql (.t 11) (.t 15)⟩]) (.cond (.t 16) (.seq (.reg [⟨none, .mv 17 (.t 5)⟩, ⟨none, .mv 4 (.t 17)⟩]) .ret) .skip)))) (.reg [⟨none, .bin 18 .add (.t 8) (.c (.sc (.i .i64 1)))⟩, ⟨none, .mv 8 (.t 18)⟩]))))))) (.seq (.reg [⟨none, .mv 4 (.c (.sc (.i .i64 (-1))))⟩]) .ret)), [(4, 0)], 19, []⟩
def F260 : Fn := ⟨.seq (.reg [⟨none, .mv 4 (.c (.sc (.b false)))⟩]) (.seq (.reg [⟨none, .mv 5 (.t 0)⟩, ⟨none, .mv 6 (.t 1)⟩, ⟨none, .call (some 7) (.c (.fn 279 [])) [.t 5, .t 6]⟩, ⟨none, .bin 8 .geq (.t 7) (.c (.sc (.i .i64 0)))⟩, ⟨none, .mv 4 (.t 8)⟩]) .ret), [(4, 0)], 9, []⟩
def F244 : Fn := ⟨.seq (.reg [⟨none, .mv 2 (.c (.sc (.b false)))⟩]) (.seq (.reg [⟨none, .call (some 3) (.c (.fn 201 [])) [.c (.sc (.s [97, 110, 100, 32, 97, 114, 114, 97, 121, 32, 97, 116, 32, 97, 116, 111, 109, 105, 99, 32, 98, 101, 103, 105, 110, 32, 98, 108, 111, 99, 107, 32, 98, 108, 111, 99, 107, 115, 32, 98, 111, 111, 108, 32, 98, 121, 32, 99, 111, 98, 101, 103, 105, 110, 32, 99, 111, 102, 111, 114, 97, 108, 108, 32, 99, 111, 117, 110, 116, 32, 99, 121, 99, 108, 105, 99, 32, 100, 111, 32, 100, 111, 109, 97, 105, 110, 32, 101, 108, 115, 101, 32, 102, 97, 108, 115, 101, 32, 102, 105, 108, 108, 32, 102, 111, 108, 100, 32, 102, 111, 114, 32, 102, 111, 114, 97, 108, 108, 32, 103, 101, 116, 32, 103, 105, 118, 101, 32, 104, 97, 108, 116, 32, 104, 97, 115, 32, 104, 105, 103, 104, 32, 105, 102, 32, 105, 110, 32, 105, 110, 116, 32, 105, 115, 32, 108, 111, 119, 32, 109, 97, 120, 32, 109, 105, 110, 32, 110, 111, 110, 101, 32, 110, 116, 104, 32, 111, 110, 32, 111, 114, 100, 32, 111, 118, 101, 114, 32, 112, 114, 111, 99, 32, 114, 101, 97, 100, 32, 114, 101, 100, 117, 99, 101, 32, 114, 101, 115, 105, 122, 101, 32, 114, 101, 116, 117, 114, 110, 32, 115, 99, 97, 110, 32, 115, 101, 116, 32, 115, 105, 110, 103, 108, 101, 32, 115, 121, 110, 99, 32, 116, 111, 32, 116, 114, 117, 101, 32, 118, 97, 114, 32, 119, 104, 101, 114, 101, 32, 119, 104, 105, 108, 101, 32, 119, 104, 111, 108, 101, 32, 119, 105, 116, 104, 32, 119, 114, 105, 116, 101, 32, 122, 105, 112, 32, 97, 100, 100]))]⟩, ⟨none, .mv 4 (.t 0)⟩, ⟨none, .call (some 5) (.c (.fn 200 [])) [.t 3, .t 4]⟩, ⟨none, .mv 2 (.t 5)⟩]) .ret), [(2, 0)], 6, []⟩
def F217 : Fn := ⟨.seq (.reg [⟨none, .mv 2 (.c (.sc (.s [])))⟩]) (.seq (.seq (.reg [⟨none, .mv 3 (.t 0)⟩, ⟨none, .call (some 4) (.c (.fn 121 [])) [.t 3]⟩]) (.cond (.t 4) (.seq (.reg [⟨none, .mv 2 (.c (.sc (.s [107, 101, 121])))⟩]) .ret) .skip)) (.seq (.reg [⟨none, .mv 2 (.c (.sc (.s [110, 97, 109, 101])))⟩]) .ret)), [(2, 0)], 5, []⟩
def F219 : Fn := ⟨.seq (.reg [⟨none, .mv 0 (.c (.sl 1 [] .full))⟩]) (.seq (.reg [⟨none, .bsl 1 1 [.c (.sc (.s [60, 61])), .c (.sc (.s [61, 61])), .c (.sc (.s [46, 46])), .c (.sc (.s [60, 45])), .c (.sc (.s [40])), .c (.sc (.s [41])), .c (.sc (.s [91])), .c (.sc (.s [93])), .c (.sc (.s [123])), .c (.sc (.s [125])), .c (.sc (.s [44])), .c (.sc (.s [59])), .c (.sc (.s [58])), .c (.sc (.s [61])), .c (.sc (.s [43])), .c (.sc (.s [45])), .c (.sc (.s [42])), .c (.sc (.s [47])), .c (.sc (.s [37])), .c (.sc (.s [60])), .c (.sc (.s [38])), .c (.sc (.s [124])), .c (.sc (.s [33]))]⟩, ⟨none, .mv 0 (.t 1)⟩]) .ret), [(0, 0)], 2, []⟩
def F172 : Fn := ⟨.seq (.reg [⟨none, .alloc 2 [.sc (.s []), .sc (.s []), .sc (.i .i64 0)]⟩, ⟨none, .mv 3 (.c (.sc (.b false)))⟩]) (.seq (.seq (.reg [⟨none, .mv 8 (.t 0)⟩, ⟨none, .call (some 9) (.c (.fn 59 [])) [.t 8]⟩, ⟨none, .mv 4 (.t 9)⟩]) (.seq (.reg [⟨none, .mv 10 (.t 4)⟩, ⟨none, .bin 11 .gtr (.t 10) (.c (.sc (.i .i64 0)))⟩]) (.cond (.t 11) (.seq (.regD [⟨none, .mv 12 (.t 0)⟩, ⟨none, .mv 13 (.t 4)⟩, ⟨none, .slS 14 (.t 12) none (some (.t 13))⟩, ⟨none, .call (some 15) (.c (.fn 60 [])) [.t 14]⟩, ⟨none, .mv 16 (.t 0)⟩, ⟨none, .mv 17 (.t 4)⟩, ⟨none, .slS 18 (.t 16) none (some (.t 17))⟩, ⟨none, .build 19 [.sc (.s []), .sc (.s []), .sc (.i .i64 0)] [(0, (1, .t 15)), (1, (1, .t 18))]⟩, ⟨none, .st (.t 2) 3 (.t 19)⟩, ⟨none, .mv 3 (.c (.sc (.b true)))⟩] [0, 0, 3, 7, 0, 0, 48, 127, 255, 511]) .ret) .skip))) (.seq (.seq (.reg [⟨none, .mv 20 (.t 0)⟩, ⟨none, .call (some 21) (.c (.fn 61 [])) [.t 20]⟩, ⟨none, .mv 5 (.t 21)⟩]) (.seq (.reg [⟨none, .mv 22 (.t 5)⟩, ⟨none, .bin 23 .gtr (.t 22) (.c (.sc (.i .i64 0)))⟩]) (.cond (.t 23) (.seq (.reg [⟨none, .mv 24 (.t 0)⟩, ⟨none, .mv 25 (.t 5)⟩, ⟨none, .slS 26 (.t 24) none (some (.t 25))⟩, ⟨none, .build 27 [.sc (.s []), .sc (.s []), .sc (.i .i64 0)] [(0, (1, .c (.sc (.s [105, 110, 116])))), (1, (1, .t 26))]⟩, ⟨none, .mv 28 (.t 5)⟩, ⟨none, .bin 29 .leq (.t 28) (.c (.sc (.i .i64 9)))⟩, ⟨none, .st (.t 2) 3 (.t 27)⟩, ⟨none, .mv 3 (.t 29)⟩]) .ret) .skip))) (.seq (.seq (.reg [⟨none, .call (some 30) (.c (.fn 62 [])) []⟩, ⟨none, .len 31 (.t 30)⟩, ⟨none, .mv 32 (.c (.sc (.i .i64 0)))⟩]) (.block 0 (.loop (.seq (.reg [⟨none, .bin 33 .lss (.t 32) (.t 31)⟩]) (.seq (.cond (.t 33) .skip (.exit 0)) (.seq (.block 1 (.seq (.reg [⟨none, .ia 34 1 (.t 30) (.t 32)⟩, ⟨none, .ld 35 1 false (.t 34)⟩, ⟨none, .mv 7 (.t 35)⟩]) (.seq (.reg [⟨none, .mv 36 (.t 0)⟩, ⟨none, .mv 37 (.t 7)⟩, ⟨none, .call (some 38) (.c (.fn 57 [])) [.t 36, .t 37]⟩]) (.cond (.t 38) (.seq (.reg [⟨none, .mv 39 (.t 7)⟩, ⟨none, .build 40 [.sc (.s []), .sc (.s []), .sc (.i .i64 0)] [(0, (1, .c (.sc (.s [115, 105, 103, 110])))), (1, (1, .t 39))]⟩, ⟨none, .st (.t 2) 3 (.t 40)⟩, ⟨none, .mv 3 (.c (.sc (.b true)))⟩]) .ret) .skip)))) (.reg [⟨none, .bin 41 .add (.t 32) (.c (.sc (.i .i64 1)))⟩, ⟨none, .mv 32 (.t 41)⟩]))))))) (.seq (.reg [⟨none, .build 42 [.sc (.s []), .sc (.s []), .sc (.i .i64 0)] []⟩, ⟨none, .st (.t 2) 3 (.t 42)⟩, ⟨none, .mv 3 (.c (.sc (.b false)))⟩]) .ret)))), [(2, 3), (3, 0)], 43, []⟩
def F187 : Fn := ⟨.seq (.reg [⟨none, .box 1 (.t 0)⟩, ⟨none, .mv 2 (.c (.sc (.b false)))⟩]) (.seq (.reg [⟨none, .fa 6 (.t 1) 1⟩, ⟨none, .ld 7 1 false (.t 6)⟩, ⟨none, .call (some 8) (.c (.fn 26 [])) [.t 7]⟩, ⟨none, .mv 5 (.t 8)⟩, ⟨none, .ext 9 (.t 5) 0⟩, ⟨none, .ext 10 (.t 5) 1⟩, ⟨none, .alloc 3 [.sc (.s []), .sc (.s []), .sc (.i .i64 0)]⟩, ⟨none, .st (.t 3) 3 (.t 9)⟩, ⟨none, .mv 4 (.t 10)⟩]) (.seq (.reg [⟨none, .mv 11 (.t 4)⟩, ⟨none, .mv 12 (.t 11)⟩, ⟨some (12, true), .fa 13 (.t 3) 0⟩, ⟨some (12, true), .ld 14 1 false (.t 13)⟩, ⟨some (12, true), .fa 15 (.t 1) 0⟩, ⟨some (12, true), .ld 16 1 false (.t 15)⟩, ⟨some (12, true), .bin 17 .eql (.t 14) (.t 16)⟩, ⟨none, .pick 18 (.t 12) (.t 17) (.c (.sc (.b false)))⟩, ⟨none, .mv 19 (.t 18)⟩, ⟨some (19, true), .fa 20 (.t 3) 1⟩, ⟨some (19, true), .ld 21 1 false (.t 20)⟩, ⟨some (19, true), .fa 22 (.t 1) 1⟩, ⟨some (19, true), .ld 23 1 false (.t 22)⟩, ⟨some (19, true), .bin 24 .eql (.t 21) (.t 23)⟩, ⟨none, .pick 25 (.t 19) (.t 24) (.c (.sc (.b false)))⟩, ⟨none, .mv 2 (.t 25)⟩]) .ret)), [(2, 0)], 26, []⟩
def F168 : Fn := ⟨.seq (.reg [⟨none, .mv 2 (.c (.sc (.b false)))⟩]) (.seq (.reg [⟨none, .mv 3 (.t 0)⟩, ⟨none, .build 4 [.sc (.s []), .sc (.s []), .sc (.i .i64 0)] [(0, (1, .c (.sc (.s [110, 97, 109, 101])))), (1, (1, .t 3))]⟩, ⟨none, .call (some 5) (.c (.fn 56 [])) [.t 4]⟩, ⟨none, .mv 2 (.t 5)⟩]) .ret), [(2, 0)], 6, []⟩
theorem F271_ok : compT Tryz.prog (fun _ => an0) 279 = some F271 := by kernel_rfl
theorem F260_ok : compT Tryz.prog (fun _ => an0) 200 = some F260 := by kernel_rfl
theorem F244_ok : compT Tryz.prog (fun _ => an0) 121 = some F244 := by kernel_rfl
theorem F217_ok : compT Tryz.prog (fun _ => an0) 60 = some F217 := by kernel_rfl
theorem F219_ok : compT Tryz.prog (fun _ => an0) 62 = some F219 := by kernel_rfl
theorem F172_ok : compT Tryz.prog (fun _ => an0) 26 = some F172 := by kernel_rfl
theorem F187_ok : compT Tryz.prog (fun _ => an0) 56 = some F187 := by kernel_rfl
theorem F168_ok : compT Tryz.prog (fun _ => an0) 23 = some F168 := by kernel_rfl
theorem b271 (W0 : Go.World) (l : List S) (s : S) (hl : l.length ≤ 140737488355328) : Body (Ctr Tryz.prog W0) F271.ac F271.rs [strL l, .sc (.s s)] [] (.sc (.i .i64 (findN s l 0))) [] := by
  conv => whnf
  refine .st 1000 (fun k => l.length - k) (fun k => [(.s 0, .av (strL l)), (.s 1, .av (.sc (.s s))), (.s 7, .av (.sc (.i .i64 ((strsD l).length : Nat)))), (.s 8, .av (.sc (.i .i64 (k : Nat))))])
    (fun k => k ≤ l.length ∧ findN s l 0 = findN s (l.drop k) k) 0 ?_ ⟨Nat.zero_le _, rfl⟩ ?_
  · (refine le_of rfl rfl ?_; repeat' (first | exact rfl | exact trivial | refine ⟨?_, ?_⟩))
  · rintro k ⟨hk, he⟩
    conv => whnf
    refine brec (fun h2 => ?_) (fun h2 => ?_)
    · simp only [strsD_length, decide_eq_false_iff_not] at h2
      have e1 : l.drop k = [] := by simp; omega
      rw [e1] at he
      conv => whnf
      exact fin_i (by rw [he]; rfl)
    · simp only [strsD_length, decide_eq_true_eq] at h2
      obtain ⟨x, hx⟩ := get_of_lt (l := l) (k := k) (by omega)
      have dx := strsD_get hx
      rw [drop_get hx, findN] at he
      conv => whnf
      refine ⟨_, ⟨Int.natCast_nonneg _, dx⟩, ?_⟩
      conv => whnf
      refine brec (fun h3 => ?_) (fun h3 => ?_)
      · simp only [h3] at he
        conv => whnf
        refine ⟨?_, ?_⟩
        · constructor <;> omega
        · conv => whnf
          refine nxt (k + 1) ⟨by omega, by omega, he⟩ ?_
          (refine le_of rfl rfl ?_; repeat' (first | exact rfl | exact trivial | refine ⟨?_, ?_⟩))
      · simp only [h3] at he
        conv => whnf
        exact fin_i he.symm
theorem c271 (W0 : Go.World) (l : List S) (s : S) (hl : l.length ≤ 140737488355328) : Ctr Tryz.prog W0 279 [strL l, .sc (.s s)] [] (.sc (.i .i64 (findN s l 0))) [] :=
  ctr_body follows F271_ok rfl (fun _ _ h => by cases h) rfl (by rfl) (b271 W0 l s hl)
set_option maxHeartbeats 2000000 in
theorem b260 (W0 : Go.World) (l : List S) (s : S) (hl : l.length ≤ 140737488355328) : Body (Ctr Tryz.prog W0) F260.ac F260.rs [strL l, .sc (.s s)] [] (.sc (.b (hasB s l))) [] := by
  repeat' ((conv => whnf); (first | with_reducible refine brec (fun _ => ?_) (fun _ => ?_) | (refine callP.pure _ (c271 W0 l s hl) ⟨rfl, rfl⟩ ?_) | fail))
  all_goals ((conv => whnf); exact fin_b (findN_has s l 0))
theorem c260 (W0 : Go.World) (l : List S) (s : S) (hl : l.length ≤ 140737488355328) : Ctr Tryz.prog W0 200 [strL l, .sc (.s s)] [] (.sc (.b (hasB s l))) [] :=
  ctr_body follows F260_ok rfl (fun _ _ h => by cases h) rfl (by rfl) (b260 W0 l s hl)
set_option maxHeartbeats 2000000 in
theorem b244 (W0 : Go.World) (hk : Wk W0) (s : S) : Body (Ctr Tryz.prog W0) F244.ac F244.rs [.sc (.s s)] [] (.sc (.b (hasB s keyList))) [] := by
  repeat' ((conv => whnf); (first | with_reducible refine brec (fun _ => ?_) (fun _ => ?_) | (refine callP.pure _ (fields_ctr W0 hk.sp keysT (of_decide_eq_true (by decide +kernel)) keysT_ascii) ⟨rfl, rfl⟩ ?_) | (refine callP.pure _ (c260 W0 keyList s (by have := keyList_len; omega)) ⟨rfl, rfl⟩ ?_) | fail))
  all_goals ((conv => whnf); exact fin_b rfl)
theorem c244 (W0 : Go.World) (hk : Wk W0) (s : S) : Ctr Tryz.prog W0 121 [.sc (.s s)] [] (.sc (.b (hasB s keyList))) [] :=
  ctr_body follows F244_ok rfl (fun _ _ h => by cases h) rfl (by rfl) (b244 W0 hk s)
set_option maxHeartbeats 2000000 in
theorem b217 (W0 : Go.World) (hk : Wk W0) (s : S) : Body (Ctr Tryz.prog W0) F217.ac F217.rs [.sc (.s s)] [] (.sc (.s (kindS s))) [] := by
  repeat' ((conv => whnf); (first | with_reducible refine brec (fun _ => ?_) (fun _ => ?_) | (refine callP.pure _ (c244 W0 hk s) ⟨rfl, rfl⟩ ?_) | fail))
  all_goals ((conv => whnf); refine fin_s ?_; simp_all [kindS])
theorem c217 (W0 : Go.World) (hk : Wk W0) (s : S) : Ctr Tryz.prog W0 60 [.sc (.s s)] [] (.sc (.s (kindS s))) [] :=
  ctr_body follows F217_ok rfl (fun _ _ h => by cases h) rfl (by rfl) (b217 W0 hk s)
theorem b219 (W0 : Go.World) : Body (Ctr Tryz.prog W0) F219.ac F219.rs [] [] (strL signList) [] := by
  conv => whnf
  exact ⟨⟨[], [], ⟨rfl, rfl, rfl, rfl⟩, ⟨rfl, rfl, .inl rfl⟩, trivial, trivial⟩⟩
theorem c219 (W0 : Go.World) : Ctr Tryz.prog W0 62 [] [] (strL signList) [] :=
  ctr_body follows F219_ok rfl (fun _ _ h => by cases h) rfl (by rfl) (b219 W0)
set_option maxHeartbeats 4000000 in
theorem b172 (W0 : Go.World) (hk : Wk W0) (s : S) (hl : s.length ≤ 140737488355328) : Body (Ctr Tryz.prog W0) F172.ac F172.rs [.sc (.s s)] [] (tokA (firstT s).1 (firstT s).2.1 0 (firstT s).2.2) [] := by
  have hw := wordN_le s
  have hd : digN s ≤ s.length := by
    unfold digN
    split
    · rename_i h; simp [preB] at h; omega
    · exact digsN_le s
  conv => whnf
  refine callP.pure _ (c216 W0 s hl) ⟨rfl, rfl⟩ ?_
  conv => whnf
  refine brec (fun h1 => ?_) (fun h1 => ?_)
  · simp only [decide_eq_false_iff_not] at h1
    have e0 : wordN s = 0 := by omega
    conv => whnf
    refine callP.pure _ (c218 W0 s hl) ⟨rfl, rfl⟩ ?_
    conv => whnf
    refine brec (fun h2 => ?_) (fun h2 => ?_)
    · simp only [decide_eq_false_iff_not] at h2
      have e1 : digN s = 0 := by omega
      conv => whnf
      refine callP.pure _ (c219 W0) ⟨rfl, rfl⟩ ?_
      conv => whnf
      refine .st 2000 (fun k => signList.length - k) (fun k => [(.s 0, .av (.sc (.s s))), (.s 2, .av (.ptr 1000 0)), (.b 1000, .bx [.sc (.s []), .sc (.s []), .sc (.i .i64 0)]), (.s 30, .av (strL signList)), (.s 31, .av (.sc (.i .i64 ((strsD signList).length : Nat)))), (.s 32, .av (.sc (.i .i64 (k : Nat))))])
        (fun k => k ≤ signList.length ∧ signOf s signList = signOf s (signList.drop k)) 0 ?_ ⟨Nat.zero_le _, rfl⟩ ?_
      · (refine le_of rfl rfl ?_; repeat' (first | exact rfl | exact trivial | refine ⟨?_, ?_⟩))
      · rintro k ⟨hk', he⟩
        have hlen : signList.length = 23 := rfl
        conv => whnf
        refine brec (fun h3 => ?_) (fun h3 => ?_)
        · simp only [strsD_length, decide_eq_false_iff_not] at h3
          have e2 : signList.drop k = [] := by rw [List.drop_eq_nil_iff]; omega
          rw [e2] at he
          conv => whnf
          have er : firstT s = ([], [], false) := by simp [firstT, e0, e1, he, signOf]
          rw [er]
          (refine fin0 rfl ?_ rfl; repeat' (first | exact rfl | exact trivial | refine ⟨?_, ?_⟩))
        · simp only [strsD_length, decide_eq_true_eq] at h3
          obtain ⟨x, hx⟩ := get_of_lt (l := signList) (k := k) (by omega)
          have dx := strsD_get hx
          rw [drop_get hx, signOf] at he
          conv => whnf
          refine ⟨_, ⟨Int.natCast_nonneg _, dx⟩, ?_⟩
          conv => whnf
          refine callP.pure _ (c214 W0 s x) ⟨rfl, rfl⟩ ?_
          conv => whnf
          refine brec (fun h4 => ?_) (fun h4 => ?_)
          · simp only [h4] at he
            conv => whnf
            refine ⟨?_, ?_⟩
            · constructor <;> omega
            · conv => whnf
              refine nxt (k + 1) ⟨by omega, by omega, he⟩ ?_
              (refine le_of rfl rfl ?_; repeat' (first | exact rfl | exact trivial | refine ⟨?_, ?_⟩))
          · simp only [h4] at he
            conv => whnf
            have er : firstT s = ([115, 105, 103, 110], x, true) := by simp [firstT, e0, e1, he]
            rw [er]
            (refine fin0 rfl ?_ rfl; repeat' (first | exact rfl | exact trivial | refine ⟨?_, ?_⟩))
    · simp only [decide_eq_true_eq] at h2
      conv => whnf
      refine ⟨⟨Int.le_refl _, Int.natCast_nonneg _, by omega⟩, ?_⟩
      conv => whnf
      obtain ⟨m, hm⟩ : ∃ m, digN s = m + 1 := ⟨digN s - 1, by omega⟩
      have er : firstT s = ([105, 110, 116], s.take (m + 1), decide (((m + 1 : Nat) : Int) ≤ 9)) := by simp [firstT, e0, hm]
      rw [er, hm]
      (refine fin0 rfl ?_ rfl; repeat' (first | exact rfl | exact trivial | refine ⟨?_, ?_⟩))
  · simp only [decide_eq_true_eq] at h1
    conv => whnf
    refine ⟨⟨Int.le_refl _, Int.natCast_nonneg _, by omega⟩, ?_⟩
    conv => whnf
    refine callP.pure _ (c217 W0 hk _) ⟨rfl, rfl⟩ ?_
    conv => whnf
    refine ⟨⟨Int.le_refl _, Int.natCast_nonneg _, by omega⟩, ?_⟩
    conv => whnf
    obtain ⟨m, hm⟩ : ∃ m, wordN s = m + 1 := ⟨wordN s - 1, by omega⟩
    have er : firstT s = (kindS (s.take (m + 1)), s.take (m + 1), true) := by simp [firstT, hm]
    rw [er, hm]
    (refine fin0 rfl ?_ rfl; repeat' (first | exact rfl | exact trivial | refine ⟨?_, ?_⟩))
theorem c172 (W0 : Go.World) (hk : Wk W0) (s : S) (hl : s.length ≤ 140737488355328) : Ctr Tryz.prog W0 26 [.sc (.s s)] [] (tokA (firstT s).1 (firstT s).2.1 0 (firstT s).2.2) [] :=
  ctr_body follows F172_ok rfl (fun _ _ h => by cases h) rfl (by rfl) (b172 W0 hk s hl)
set_option maxHeartbeats 2000000 in
theorem b187 (W0 : Go.World) (hk : Wk W0) (k t : S) (a : Int) (hl : t.length ≤ 140737488355328) : Body (Ctr Tryz.prog W0) F187.ac F187.rs [.agg [.sc (.s k), .sc (.s t), .sc (.i .i64 a)]] [] (.sc (.b (validT k t))) [] := by
  repeat' ((conv => whnf); (first | with_reducible refine brec (fun _ => ?_) (fun _ => ?_) | (refine callP.pure _ (c172 W0 hk t hl) ⟨rfl, rfl⟩ ?_) | fail))
  all_goals ((conv => whnf); refine fin_b ?_; simp_all [validT])
theorem c187 (W0 : Go.World) (hk : Wk W0) (k t : S) (a : Int) (hl : t.length ≤ 140737488355328) : Ctr Tryz.prog W0 56 [.agg [.sc (.s k), .sc (.s t), .sc (.i .i64 a)]] [] (.sc (.b (validT k t))) [] :=
  ctr_body follows F187_ok rfl (fun _ _ h => by cases h) rfl (by rfl) (b187 W0 hk k t a hl)
set_option maxHeartbeats 2000000 in
theorem b168 (W0 : Go.World) (hk : Wk W0) (s : S) (hl : s.length ≤ 140737488355328) : Body (Ctr Tryz.prog W0) F168.ac F168.rs [.sc (.s s)] [] (.sc (.b (isNameB s))) [] := by
  repeat' ((conv => whnf); (first | with_reducible refine brec (fun _ => ?_) (fun _ => ?_) | (refine callP.pure _ (c187 W0 hk [110, 97, 109, 101] s 0 hl) ⟨rfl, rfl⟩ ?_) | fail))
  all_goals ((conv => whnf); exact fin_b rfl)
theorem c168 (W0 : Go.World) (hk : Wk W0) (s : S) (hl : s.length ≤ 140737488355328) : Ctr Tryz.prog W0 23 [.sc (.s s)] [] (.sc (.b (isNameB s))) [] :=
  ctr_body follows F168_ok rfl (fun _ _ h => by cases h) rfl (by rfl) (b168 W0 hk s hl)
end Go.Abs

set_option maxRecDepth 100000
namespace Go.Abs
open Go.Proofs
def wordR (s : S) : Bool := match s with | [] => false | c :: r => smallI c.toNat && decide (innN (c :: r) = (c :: r).length)
def wordsGo : S → S → List S
  | _, [] => []
  | w, c :: r => match decide (c = 32) with | false => wordsGo (w ++ [c]) r | true => (match beqL w [] with | true => wordsGo [] r | false => w :: wordsGo [] r)
theorem beqL_comm (a b : S) : beqL a b = beqL b a := by simp [beqL, eq_comm]
def F127 : Fn := ⟨.seq (.reg [⟨none, .mv 2 (.c (.sc (.b false)))⟩]) (.seq (.reg [⟨none, .mv 3 (.t 0)⟩, ⟨none, .bin 4 .geq (.t 3) (.c (.sc (.i .u8 97)))⟩, ⟨none, .mv 5 (.t 4)⟩, ⟨some (5, true), .mv 6 (.t 0)⟩, ⟨some (5, true), .bin 7 .leq (.t 6) (.c (.sc (.i .u8 122)))⟩, ⟨none, .pick 8 (.t 5) (.t 7) (.c (.sc (.b false)))⟩, ⟨none, .mv 2 (.t 8)⟩]) .ret), [(2, 0)], 9, []⟩
def F128 : Fn := ⟨.seq (.reg [⟨none, .mv 2 (.c (.sc (.b false)))⟩]) (.seq (.reg [⟨none, .mv 3 (.t 0)⟩, ⟨none, .call (some 4) (.c (.fn 110 [])) [.t 3]⟩, ⟨none, .mv 5 (.t 4)⟩, ⟨some (5, false), .mv 6 (.t 0)⟩, ⟨some (5, false), .bin 7 .geq (.t 6) (.c (.sc (.i .u8 65)))⟩, ⟨some (5, false), .mv 8 (.t 7)⟩, ⟨some (8, true), .mv 9 (.t 0)⟩, ⟨some (8, true), .bin 10 .leq (.t 9) (.c (.sc (.i .u8 90)))⟩, ⟨some (5, false), .pick 11 (.t 8) (.t 10) (.c (.sc (.b false)))⟩, ⟨none, .pick 12 (.t 5) (.c (.sc (.b true))) (.t 11)⟩, ⟨none, .mv 13 (.t 12)⟩, ⟨some (13, false), .mv 14 (.t 0)⟩, ⟨some (13, false), .call (some 15) (.c (.fn 190 [])) [.t 14]⟩, ⟨none, .pick 16 (.t 13) (.c (.sc (.b true))) (.t 15)⟩, ⟨none, .mv 17 (.t 16)⟩, ⟨some (17, false), .mv 18 (.t 0)⟩, ⟨some (17, false), .bin 19 .eql (.t 18) (.c (.sc (.i .u8 95)))⟩, ⟨none, .pick 20 (.t 17) (.c (.sc (.b true))) (.t 19)⟩, ⟨none, .mv 2 (.t 20)⟩]) .ret), [(2, 0)], 21, []⟩
def F130 : Fn := ⟨.seq (.reg [⟨none, .mv 2 (.c (.sc (.b false)))⟩]) (.seq (.reg [⟨none, .mv 3 (.t 0)⟩, ⟨none, .bin 4 .geq (.t 3) (.c (.sc (.i .u8 48)))⟩, ⟨none, .mv 5 (.t 4)⟩, ⟨some (5, true), .mv 6 (.t 0)⟩, ⟨some (5, true), .bin 7 .leq (.t 6) (.c (.sc (.i .u8 57)))⟩, ⟨none, .pick 8 (.t 5) (.t 7) (.c (.sc (.b false)))⟩, ⟨none, .mv 2 (.t 8)⟩]) .ret), [(2, 0)], 9, []⟩
def F184 : Fn := ⟨.seq (.reg [⟨none, .mv 2 (.c (.sc (.b false)))⟩]) (.seq (.seq (.reg [⟨none, .mv 4 (.t 0)⟩, ⟨none, .bin 5 .eql (.t 4) (.c (.sc (.s [])))⟩, ⟨none, .mv 6 (.t 5)⟩, ⟨some (6, false), .mv 7 (.t 0)⟩, ⟨some (6, false), .ix 8 (.t 7) (.c (.sc (.i .i64 0)))⟩, ⟨some (6, false), .call (some 9) (.c (.fn 110 [])) [.t 8]⟩, ⟨some (6, false), .no 10 (.t 9)⟩, ⟨none, .pick 11 (.t 6) (.c (.sc (.b true))) (.t 10)⟩]) (.cond (.t 11) (.seq (.reg [⟨none, .mv 2 (.c (.sc (.b false)))⟩]) .ret) .skip)) (.seq (.seq (.reg [⟨none, .mv 3 (.c (.sc (.i .i64 0)))⟩]) (.block 0 (.loop (.seq (.seq (.reg [⟨none, .mv 12 (.t 3)⟩, ⟨none, .mv 13 (.t 0)⟩, ⟨none, .lenS 14 (.t 13)⟩, ⟨none, .bin 15 .lss (.t 12) (.t 14)⟩]) (.cond (.t 15) .skip (.exit 0))) (.seq (.block 1 (.seq (.reg [⟨none, .mv 18 (.t 0)⟩, ⟨none, .mv 19 (.t 3)⟩, ⟨none, .ix 20 (.t 18) (.t 19)⟩, ⟨none, .call (some 21) (.c (.fn 111 [])) [.t 20]⟩, ⟨none, .no 22 (.t 21)⟩]) (.cond (.t 22) (.seq (.reg [⟨none, .mv 2 (.c (.sc (.b false)))⟩]) .ret) .skip))) (.reg [⟨none, .mv 16 (.t 3)⟩, ⟨none, .bin 17 .add (.t 16) (.c (.sc (.i .i64 1)))⟩, ⟨none, .mv 3 (.t 17)⟩])))))) (.seq (.reg [⟨none, .mv 2 (.c (.sc (.b true)))⟩]) .ret))), [(2, 0)], 23, []⟩
def F132 : Fn := ⟨.seq (.reg [⟨none, .mv 4 (.c (.sc (.b false)))⟩]) (.seq (.seq (.reg [⟨none, .mv 5 (.c (.sc (.i .i64 0)))⟩]) (.block 0 (.loop (.seq (.seq (.reg [⟨none, .mv 6 (.t 5)⟩, ⟨none, .mv 7 (.t 0)⟩, ⟨none, .len 8 (.t 7)⟩, ⟨none, .bin 9 .lss (.t 6) (.t 8)⟩]) (.cond (.t 9) .skip (.exit 0))) (.seq (.block 1 (.seq (.reg [⟨none, .mv 12 (.t 0)⟩, ⟨none, .mv 13 (.t 5)⟩, ⟨none, .ia 14 1 (.t 12) (.t 13)⟩, ⟨none, .ld 15 1 false (.t 14)⟩, ⟨none, .mv 16 (.t 1)⟩, ⟨none, .bin 17 .eql (.t 15) (.t 16)⟩]) (.cond (.t 17) (.seq (.reg [⟨none, .mv 4 (.c (.sc (.b true)))⟩]) .ret) .skip))) (.reg [⟨none, .mv 10 (.t 5)⟩, ⟨none, .bin 11 .add (.t 10) (.c (.sc (.i .i64 1)))⟩, ⟨none, .mv 5 (.t 11)⟩])))))) (.seq (.reg [⟨none, .mv 4 (.c (.sc (.b false)))⟩]) .ret)), [(4, 0)], 18, []⟩
theorem F127_ok : compT Tryz.prog (fun _ => an0) 110 = some F127 := by kernel_rfl
theorem F128_ok : compT Tryz.prog (fun _ => an0) 111 = some F128 := by kernel_rfl
theorem F130_ok : compT Tryz.prog (fun _ => an0) 190 = some F130 := by kernel_rfl
theorem F184_ok : compT Tryz.prog (fun _ => an0) 51 = some F184 := by kernel_rfl
theorem F132_ok : compT Tryz.prog (fun _ => an0) 52 = some F132 := by kernel_rfl
set_option maxHeartbeats 2000000 in
theorem b127 (W0 : Go.World) (n : Int) : Body (Ctr Tryz.prog W0) F127.ac F127.rs [.sc (.i .u8 n)] [] (.sc (.b (smallI n))) [] := by
  repeat' ((conv => whnf); (first | with_reducible refine brec (fun _ => ?_) (fun _ => ?_) | fail))
  all_goals ((conv => whnf); refine fin_b ?_; simp_all [smallI]; try (intros; omega))
theorem c127 (W0 : Go.World) (n : Int) : Ctr Tryz.prog W0 110 [.sc (.i .u8 n)] [] (.sc (.b (smallI n))) [] :=
  ctr_body follows F127_ok rfl (fun _ _ h => by cases h) rfl (by rfl) (b127 W0 n)
set_option maxHeartbeats 2000000 in
theorem b130 (W0 : Go.World) (n : Int) : Body (Ctr Tryz.prog W0) F130.ac F130.rs [.sc (.i .u8 n)] [] (.sc (.b (digI n))) [] := by
  repeat' ((conv => whnf); (first | with_reducible refine brec (fun _ => ?_) (fun _ => ?_) | fail))
  all_goals ((conv => whnf); refine fin_b ?_; simp_all [digI]; try (intros; omega))
theorem c130 (W0 : Go.World) (n : Int) : Ctr Tryz.prog W0 190 [.sc (.i .u8 n)] [] (.sc (.b (digI n))) [] :=
  ctr_body follows F130_ok rfl (fun _ _ h => by cases h) rfl (by rfl) (b130 W0 n)
set_option maxHeartbeats 2000000 in
theorem b128 (W0 : Go.World) (n : Int) : Body (Ctr Tryz.prog W0) F128.ac F128.rs [.sc (.i .u8 n)] [] (.sc (.b (innerI n))) [] := by
  repeat' ((conv => whnf); (first | with_reducible refine brec (fun _ => ?_) (fun _ => ?_) | (refine callP.pure _ (c127 W0 n) ⟨rfl, rfl⟩ ?_) | (refine callP.pure _ (c130 W0 n) ⟨rfl, rfl⟩ ?_) | fail))
  all_goals ((conv => whnf); refine fin_b ?_; simp_all [innerI]; try (intros; omega))
theorem c128 (W0 : Go.World) (n : Int) : Ctr Tryz.prog W0 111 [.sc (.i .u8 n)] [] (.sc (.b (innerI n))) [] :=
  ctr_body follows F128_ok rfl (fun _ _ h => by cases h) rfl (by rfl) (b128 W0 n)
theorem b132 (W0 : Go.World) (l : List S) (s : S) (hl : l.length ≤ 140737488355328) : Body (Ctr Tryz.prog W0) F132.ac F132.rs [strL l, .sc (.s s)] [] (.sc (.b (hasB s l))) [] := by
  conv => whnf
  refine .st 1000 (fun k => l.length - k) (fun k => [(.s 0, .av (strL l)), (.s 1, .av (.sc (.s s))), (.s 5, .av (.sc (.i .i64 (k : Nat))))])
    (fun k => k ≤ l.length ∧ hasB s l = hasB s (l.drop k)) 0 ?_ ⟨Nat.zero_le _, rfl⟩ ?_
  · (refine le_of rfl rfl ?_; repeat' (first | exact rfl | exact trivial | refine ⟨?_, ?_⟩))
  · rintro k ⟨hk, he⟩
    conv => whnf
    refine brec (fun h2 => ?_) (fun h2 => ?_)
    · simp only [strsD_length, decide_eq_false_iff_not] at h2
      have e1 : l.drop k = [] := by simp; omega
      rw [e1] at he
      conv => whnf
      exact fin_b (by rw [he]; rfl)
    · simp only [strsD_length, decide_eq_true_eq] at h2
      obtain ⟨x, hx⟩ := get_of_lt (l := l) (k := k) (by omega)
      have dx := strsD_get hx
      rw [drop_get hx, hasB] at he
      conv => whnf
      refine ⟨_, ⟨Int.natCast_nonneg _, dx⟩, ?_⟩
      conv => whnf
      refine brec (fun h3 => ?_) (fun h3 => ?_)
      · rw [beqL_comm] at h3
        rw [h3, Bool.false_or] at he
        conv => whnf
        refine And.intro (by constructor <;> omega) ?_
        conv => whnf
        refine nxt (k + 1) ⟨by omega, by omega, he⟩ ?_
        (refine le_of rfl rfl ?_; repeat' (first | exact rfl | exact trivial | refine ⟨?_, ?_⟩))
      · rw [beqL_comm] at h3
        rw [h3, Bool.true_or] at he
        conv => whnf
        exact fin_b he.symm
theorem c132 (W0 : Go.World) (l : List S) (s : S) (hl : l.length ≤ 140737488355328) : Ctr Tryz.prog W0 52 [strL l, .sc (.s s)] [] (.sc (.b (hasB s l))) [] :=
  ctr_body follows F132_ok rfl (fun _ _ h => by cases h) rfl (by rfl) (b132 W0 l s hl)
theorem innN_eq : ∀ (s : S), decide (innN s = s.length) = s.all fun c => innerI c.toNat
  | [] => rfl
  | c :: r => by
    have ih := innN_eq r
    have hle := innN_le r
    cases h : innerI c.toNat with
    | true => simp [innN, h, ← ih]
    | false => simp [innN, h]
theorem b184 (W0 : Go.World) (s : S) (hl : s.length ≤ 140737488355328) : Body (Ctr Tryz.prog W0) F184.ac F184.rs [.sc (.s s)] [] (.sc (.b (wordR s))) [] := by
  conv => whnf
  refine brec (fun h1 => ?_) (fun h1 => ?_)
  · have hs : s ≠ [] := by intro e; subst e; simp [beqL] at h1
    obtain ⟨c, r, rfl⟩ := List.exists_cons_of_ne_nil hs
    conv => whnf
    refine ⟨c, ⟨Int.le_refl _, rfl⟩, ?_⟩
    conv => whnf
    refine callP.pure _ (c127 W0 c.toNat) ⟨rfl, rfl⟩ ?_
    conv => whnf
    refine brec (fun h2 => ?_) (fun h2 => ?_)
    · conv => whnf
      rw [Bool.not_eq_false'] at h2
      have e0 : wordR (c :: r) = (c :: r).all fun c => innerI c.toNat := by rw [wordR, h2, Bool.true_and]; exact innN_eq _
      refine .st 1000 (fun k => (c :: r).length - k) (fun k => [(.s 0, .av (.sc (.s (c :: r)))), (.s 3, .av (.sc (.i .i64 (k : Nat))))])
        (fun k => k ≤ (c :: r).length ∧ wordR (c :: r) = ((c :: r).drop k).all fun c => innerI c.toNat) 0 ?_ ⟨by simp, by rw [e0]; rfl⟩ ?_
      · (refine le_of rfl rfl ?_; repeat' (first | exact rfl | exact trivial | refine ⟨?_, ?_⟩))
      · rintro k ⟨hk, he⟩
        conv => whnf
        refine brec (fun h3 => ?_) (fun h3 => ?_)
        · conv => whnf
          simp only [decide_eq_false_iff_not] at h3
          have e1 : (c :: r).drop k = [] := by rw [List.drop_eq_nil_iff]; omega
          rw [e1] at he
          exact fin_b (by rw [he]; rfl)
        · simp only [decide_eq_true_eq] at h3
          obtain ⟨x, hx⟩ := get_of_lt (l := c :: r) (k := k) (by omega)
          rw [drop_get hx, List.all_cons] at he
          conv => whnf
          refine ⟨x, ⟨Int.natCast_nonneg _, hx⟩, ?_⟩
          conv => whnf
          refine callP.pure _ (c128 W0 x.toNat) ⟨rfl, rfl⟩ ?_
          conv => whnf
          refine brec (fun h4 => ?_) (fun h4 => ?_)
          · rw [Bool.not_eq_false'] at h4
            rw [h4, Bool.true_and] at he
            conv => whnf
            refine And.intro (by constructor <;> omega) ?_
            conv => whnf
            refine nxt (k + 1) ⟨by omega, by omega, he⟩ ?_
            (refine le_of rfl rfl ?_; repeat' (first | exact rfl | exact trivial | refine ⟨?_, ?_⟩))
          · rw [Bool.not_eq_true'] at h4
            rw [h4, Bool.false_and] at he
            conv => whnf
            exact fin_b he.symm
    · conv => whnf
      rw [Bool.not_eq_true'] at h2
      refine fin_b ?_
      simp [wordR, h2]
  · conv => whnf
    have hs : s = [] := by simpa [beqL] using h1
    subst hs
    exact fin_b rfl
theorem c184 (W0 : Go.World) (s : S) (hl : s.length ≤ 140737488355328) : Ctr Tryz.prog W0 51 [.sc (.s s)] [] (.sc (.b (wordR s))) [] :=
  ctr_body follows F184_ok rfl (fun _ _ h => by cases h) rfl (by rfl) (b184 W0 s hl)
end Go.Abs

set_option maxRecDepth 100000
namespace Go.Abs
open Go.Proofs
def keysR : S := [32, 97, 110, 100, 32, 97, 114, 114, 97, 121, 32, 97, 116, 32, 97, 116, 111, 109, 105, 99, 32, 98, 101, 103, 105, 110, 32, 98, 108, 111, 99, 107, 32, 98, 108, 111, 99, 107, 115, 32, 98, 111, 111, 108, 32, 98, 121, 32, 99, 111, 98, 101, 103, 105, 110, 32, 99, 111, 102, 111, 114, 97, 108, 108, 32, 99, 111, 117, 110, 116, 32, 99, 121, 99, 108, 105, 99, 32, 100, 111, 32, 100, 111, 109, 97, 105, 110, 32, 101, 108, 115, 101, 32, 102, 97, 108, 115, 101, 32, 102, 105, 108, 108, 32, 102, 111, 108, 100, 32, 102, 111, 114, 32, 102, 111, 114, 97, 108, 108, 32, 103, 101, 116, 32, 103, 105, 118, 101, 32, 104, 97, 108, 116, 32, 104, 97, 115, 32, 104, 105, 103, 104, 32, 105, 102, 32, 105, 110, 32, 105, 110, 116, 32, 105, 115, 32, 108, 111, 119, 32, 109, 97, 120, 32, 109, 105, 110, 32, 110, 111, 110, 101, 32, 110, 116, 104, 32, 111, 110, 32, 111, 114, 100, 32, 111, 118, 101, 114, 32, 112, 114, 111, 99, 32, 114, 101, 97, 100, 32, 114, 101, 100, 117, 99, 101, 32, 114, 101, 115, 105, 122, 101, 32, 114, 101, 116, 117, 114, 110, 32, 115, 99, 97, 110, 32, 115, 101, 116, 32, 115, 105, 110, 103, 108, 101, 32, 115, 121, 110, 99, 32, 116, 111, 32, 116, 114, 117, 101, 32, 118, 97, 114, 32, 119, 104, 101, 114, 101, 32, 119, 104, 105, 108, 101, 32, 119, 104, 111, 108, 101, 32, 119, 105, 116, 104, 32, 119, 114, 105, 116, 101, 32, 122, 105, 112, 32, 97, 100, 100, 32]
def F131 : Fn := ⟨.seq (.reg [⟨none, .mv 2 (.c (.sl 1 [] .full))⟩]) (.seq (.reg [⟨none, .mv 3 (.c (.sl 1 [] .full))⟩]) (.seq (.reg [⟨none, .mv 4 (.c (.sc (.s [])))⟩]) (.seq (.seq (.reg [⟨none, .mv 5 (.c (.sc (.i .i64 0)))⟩]) (.block 0 (.loop (.seq (.seq (.reg [⟨none, .mv 6 (.t 5)⟩, ⟨none, .mv 7 (.t 0)⟩, ⟨none, .lenS 8 (.t 7)⟩, ⟨none, .bin 9 .lss (.t 6) (.t 8)⟩]) (.cond (.t 9) .skip (.exit 0))) (.seq (.block 1 (.seq (.seq (.reg [⟨none, .mv 12 (.t 0)⟩, ⟨none, .mv 13 (.t 5)⟩, ⟨none, .ix 14 (.t 12) (.t 13)⟩, ⟨none, .bin 15 .neq (.t 14) (.c (.sc (.i .u8 32)))⟩]) (.cond (.t 15) (.seq (.reg [⟨none, .mv 16 (.t 4)⟩, ⟨none, .mv 17 (.t 0)⟩, ⟨none, .mv 18 (.t 5)⟩, ⟨none, .mv 19 (.t 5)⟩, ⟨none, .bin 20 .add (.t 19) (.c (.sc (.i .i64 1)))⟩, ⟨none, .slS 21 (.t 17) (some (.t 18)) (some (.t 20))⟩, ⟨none, .bin 22 .add (.t 16) (.t 21)⟩, ⟨none, .mv 4 (.t 22)⟩]) (.exit 1)) .skip)) (.seq (.seq (.reg [⟨none, .mv 23 (.t 4)⟩, ⟨none, .bin 24 .neq (.t 23) (.c (.sc (.s [])))⟩]) (.cond (.t 24) (.reg [⟨none, .mv 25 (.t 3)⟩, ⟨none, .mv 26 (.t 4)⟩, ⟨none, .bsl 27 1 [.t 26]⟩, ⟨none, .app 28 1 16 (.t 25) (.t 27)⟩, ⟨none, .mv 3 (.t 28)⟩]) .skip)) (.reg [⟨none, .mv 4 (.c (.sc (.s [])))⟩])))) (.reg [⟨none, .mv 10 (.t 5)⟩, ⟨none, .bin 11 .add (.t 10) (.c (.sc (.i .i64 1)))⟩, ⟨none, .mv 5 (.t 11)⟩])))))) (.seq (.reg [⟨none, .mv 29 (.t 3)⟩, ⟨none, .mv 2 (.t 29)⟩]) .ret)))), [(2, 0)], 30, []⟩
def F129 : Fn := ⟨.seq (.reg [⟨none, .mv 2 (.c (.sc (.b false)))⟩]) (.seq (.reg [⟨none, .mv 3 (.t 0)⟩, ⟨none, .call (some 4) (.c (.fn 51 [])) [.t 3]⟩, ⟨none, .mv 5 (.t 4)⟩, ⟨some (5, true), .call (some 6) (.c (.fn 53 [])) [.c (.sc (.s [32, 97, 110, 100, 32, 97, 114, 114, 97, 121, 32, 97, 116, 32, 97, 116, 111, 109, 105, 99, 32, 98, 101, 103, 105, 110, 32, 98, 108, 111, 99, 107, 32, 98, 108, 111, 99, 107, 115, 32, 98, 111, 111, 108, 32, 98, 121, 32, 99, 111, 98, 101, 103, 105, 110, 32, 99, 111, 102, 111, 114, 97, 108, 108, 32, 99, 111, 117, 110, 116, 32, 99, 121, 99, 108, 105, 99, 32, 100, 111, 32, 100, 111, 109, 97, 105, 110, 32, 101, 108, 115, 101, 32, 102, 97, 108, 115, 101, 32, 102, 105, 108, 108, 32, 102, 111, 108, 100, 32, 102, 111, 114, 32, 102, 111, 114, 97, 108, 108, 32, 103, 101, 116, 32, 103, 105, 118, 101, 32, 104, 97, 108, 116, 32, 104, 97, 115, 32, 104, 105, 103, 104, 32, 105, 102, 32, 105, 110, 32, 105, 110, 116, 32, 105, 115, 32, 108, 111, 119, 32, 109, 97, 120, 32, 109, 105, 110, 32, 110, 111, 110, 101, 32, 110, 116, 104, 32, 111, 110, 32, 111, 114, 100, 32, 111, 118, 101, 114, 32, 112, 114, 111, 99, 32, 114, 101, 97, 100, 32, 114, 101, 100, 117, 99, 101, 32, 114, 101, 115, 105, 122, 101, 32, 114, 101, 116, 117, 114, 110, 32, 115, 99, 97, 110, 32, 115, 101, 116, 32, 115, 105, 110, 103, 108, 101, 32, 115, 121, 110, 99, 32, 116, 111, 32, 116, 114, 117, 101, 32, 118, 97, 114, 32, 119, 104, 101, 114, 101, 32, 119, 104, 105, 108, 101, 32, 119, 104, 111, 108, 101, 32, 119, 105, 116, 104, 32, 119, 114, 105, 116, 101, 32, 122, 105, 112, 32, 97, 100, 100, 32]))]⟩, ⟨some (5, true), .mv 7 (.t 0)⟩, ⟨some (5, true), .call (some 8) (.c (.fn 52 [])) [.t 6, .t 7]⟩, ⟨some (5, true), .no 9 (.t 8)⟩, ⟨none, .pick 10 (.t 5) (.t 9) (.c (.sc (.b false)))⟩, ⟨none, .mv 2 (.t 10)⟩]) .ret), [(2, 0)], 11, []⟩
theorem F131_ok : compT Tryz.prog (fun _ => an0) 53 = some F131 := by kernel_rfl
theorem F129_ok : compT Tryz.prog (fun _ => an0) 19 = some F129 := by kernel_rfl
def R131 : Go.FuncId → Option Fn | 53 => some F131 | _ => none
theorem wk : wordsGo [] keysR = keyList := by kernel_rfl
theorem aw131 : runX R131 (fun _ _ _ => none) 2 53 [.sc (.s keysR)] [] = some (.sl 1 (strsD (wordsGo [] keysR)) (.t 0), []) := by kernel_rfl
theorem R131_tab (W0 : Go.World) : TabOK Tryz.prog W0 R131 := by
  intro f F h
  unfold R131 at h
  split at h
  · cases h
    exact compT_ok (fun _ _ _ h => by cases h) 53 F131 F131_ok
  · cases h
theorem c131 (W0 : Go.World) : Ctr Tryz.prog W0 53 [.sc (.s keysR)] [] (.sl 1 (strsD keyList) (.t 0)) [] :=
  wk ▸ runX_s follows (R131_tab W0) (fun _ _ _ _ _ h => by cases h) 2 53 [.sc (.s keysR)] [] _ _ aw131
def nameR (s : S) : Bool := wordR s && !hasB s keyList
set_option maxHeartbeats 2000000 in
theorem b129 (W0 : Go.World) (s : S) (hl : s.length ≤ 140737488355328) : Body (Ctr Tryz.prog W0) F129.ac F129.rs [.sc (.s s)] [] (.sc (.b (nameR s))) [] := by
  repeat' ((conv => whnf); (first | with_reducible refine brec (fun _ => ?_) (fun _ => ?_) | (refine callP.pure _ (c184 W0 s hl) ⟨rfl, rfl⟩ ?_) | (refine callP.pure _ (c131 W0) ⟨rfl, rfl⟩ ?_) | (refine callP.pure _ (c132 W0 keyList s (by decide)) ⟨rfl, rfl⟩ ?_) | fail))
  all_goals ((conv => whnf); refine fin_b ?_; simp_all [nameR])
theorem c129 (W0 : Go.World) (s : S) (hl : s.length ≤ 140737488355328) : Ctr Tryz.prog W0 19 [.sc (.s s)] [] (.sc (.b (nameR s))) [] :=
  ctr_body follows F129_ok rfl (fun _ _ h => by cases h) rfl (by rfl) (b129 W0 s hl)
end Go.Abs
