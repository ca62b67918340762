/- Spaces and tokens: the reference. -/
import Derived.Test.YthmcdebdkbhbmaaGreatDoorMk
import Derived.Test.YthmcdebdkbhbmaaGreatDoorMh
import Derived.Test.YthmcdebdkbhbmaaGreatDoorMj
import Derived.Test.YthmcdebdkbhbmaaGreatDoorMp
import Derived.Test.YthmcdebdkbhbmaaGreatDoorMn
set_option maxRecDepth 100000
namespace Go.Abs
open Go.Proofs
def F63 : Fn := ⟨.seq (.reg [⟨none, .mv 4 (.c (.sc (.i .i64 0)))⟩]) (.seq (.block 0 (.loop (.seq (.seq (.reg [⟨none, .mv 5 (.t 1)⟩, ⟨none, .mv 6 (.t 0)⟩, ⟨none, .lenS 7 (.t 6)⟩, ⟨none, .bin 8 .lss (.t 5) (.t 7)⟩]) (.cond (.t 8) .skip (.exit 0))) (.block 1 (.block 2 (.seq (.reg [⟨none, .mv 11 (.t 0)⟩, ⟨none, .mv 12 (.t 1)⟩, ⟨none, .ix 13 (.t 11) (.t 12)⟩, ⟨none, .bin 14 .eql (.t 13) (.c (.sc (.i .u8 32)))⟩, ⟨none, .mv 15 (.t 14)⟩, ⟨some (15, false), .mv 16 (.t 0)⟩, ⟨some (15, false), .mv 17 (.t 1)⟩, ⟨some (15, false), .ix 18 (.t 16) (.t 17)⟩, ⟨some (15, false), .bin 19 .eql (.t 18) (.c (.sc (.i .u8 9)))⟩, ⟨none, .pick 20 (.t 15) (.c (.sc (.b true))) (.t 19)⟩, ⟨none, .mv 21 (.t 20)⟩, ⟨some (21, false), .mv 22 (.t 0)⟩, ⟨some (21, false), .mv 23 (.t 1)⟩, ⟨some (21, false), .ix 24 (.t 22) (.t 23)⟩, ⟨some (21, false), .bin 25 .eql (.t 24) (.c (.sc (.i .u8 10)))⟩, ⟨none, .pick 26 (.t 21) (.c (.sc (.b true))) (.t 25)⟩, ⟨none, .mv 10 (.t 26)⟩]) (.cond (.t 10) (.reg [⟨none, .mv 27 (.t 1)⟩, ⟨none, .bin 28 .add (.t 27) (.c (.sc (.i .i64 1)))⟩, ⟨none, .mv 1 (.t 28)⟩]) (.seq (.reg [⟨none, .mv 30 (.t 0)⟩, ⟨none, .mv 31 (.t 1)⟩, ⟨none, .ix 32 (.t 30) (.t 31)⟩, ⟨none, .bin 33 .eql (.t 32) (.c (.sc (.i .u8 47)))⟩, ⟨none, .mv 34 (.t 33)⟩, ⟨some (34, true), .mv 35 (.t 1)⟩, ⟨some (34, true), .bin 36 .add (.t 35) (.c (.sc (.i .i64 1)))⟩, ⟨some (34, true), .mv 37 (.t 0)⟩, ⟨some (34, true), .lenS 38 (.t 37)⟩, ⟨some (34, true), .bin 39 .lss (.t 36) (.t 38)⟩, ⟨none, .pick 40 (.t 34) (.t 39) (.c (.sc (.b false)))⟩, ⟨none, .mv 41 (.t 40)⟩, ⟨some (41, true), .mv 42 (.t 0)⟩, ⟨some (41, true), .mv 43 (.t 1)⟩, ⟨some (41, true), .bin 44 .add (.t 43) (.c (.sc (.i .i64 1)))⟩, ⟨some (41, true), .ix 45 (.t 42) (.t 44)⟩, ⟨some (41, true), .bin 46 .eql (.t 45) (.c (.sc (.i .u8 47)))⟩, ⟨none, .pick 47 (.t 41) (.t 46) (.c (.sc (.b false)))⟩, ⟨none, .mv 29 (.t 47)⟩]) (.cond (.t 29) (.block 3 (.loop (.seq (.seq (.reg [⟨none, .mv 48 (.t 1)⟩, ⟨none, .mv 49 (.t 0)⟩, ⟨none, .lenS 50 (.t 49)⟩, ⟨none, .bin 51 .lss (.t 48) (.t 50)⟩, ⟨none, .mv 52 (.t 51)⟩, ⟨some (52, true), .mv 53 (.t 0)⟩, ⟨some (52, true), .mv 54 (.t 1)⟩, ⟨some (52, true), .ix 55 (.t 53) (.t 54)⟩, ⟨some (52, true), .bin 56 .neq (.t 55) (.c (.sc (.i .u8 10)))⟩, ⟨none, .pick 57 (.t 52) (.t 56) (.c (.sc (.b false)))⟩]) (.cond (.t 57) .skip (.exit 3))) (.block 4 (.reg [⟨none, .mv 58 (.t 1)⟩, ⟨none, .bin 59 .add (.t 58) (.c (.sc (.i .i64 1)))⟩, ⟨none, .mv 1 (.t 59)⟩]))))) (.seq (.reg [⟨none, .mv 9 (.t 1)⟩, ⟨none, .mv 4 (.t 9)⟩]) .ret)))))))))) (.seq (.reg [⟨none, .mv 60 (.t 1)⟩, ⟨none, .mv 4 (.t 60)⟩]) .ret)), [(4, 0)], 61⟩
theorem F63_ok : compT Tryz.prog (fun _ => an0) 63 = some F63 := by kernel_rfl
set_option maxHeartbeats 8000000 in
theorem b63 (W0 : Go.World) (s : S) (a : Nat) (hl : s.length ≤ 140737488355328) (ha : a ≤ s.length) : Body (Ctr Tryz.prog W0) F63.ac F63.rs [.sc (.s s), .sc (.i .i64 (a : Nat))] [] (.sc (.i .i64 ((a + gapS false (s.drop a) : Nat)))) [] := by
  conv => whnf
  refine .st 2000 (fun k => s.length - k) (fun k => [(.s 0, .av (.sc (.s s))), (.s 1, .av (.sc (.i .i64 (k : Nat))))])
    (fun k => k ≤ s.length ∧ a + gapS false (s.drop a) = k + gapS false (s.drop k)) a ?_ ⟨ha, rfl⟩ ?_
  · (refine le_of rfl rfl ?_; repeat' (first | exact rfl | exact trivial | refine ⟨?_, ?_⟩))
  · rintro k ⟨hk, he⟩
    conv => whnf
    refine brec (fun h2 => ?_) (fun h2 => ?_)
    · simp only [decide_eq_false_iff_not] at h2
      have e1 : s.drop k = [] := by rw [List.drop_eq_nil_iff]; omega
      rw [e1] at he
      conv => whnf
      refine fin_i ?_
      simp only [gapS] at he; omega
    · simp only [decide_eq_true_eq] at h2
      obtain ⟨c, hc⟩ := get_of_lt (l := s) (k := k) (by omega)
      have hd := drop_get hc
      conv => whnf
      refine ⟨c, ⟨Int.natCast_nonneg _, hc⟩, ?_⟩
      cases hw : wsB c with
      | true =>
        rw [hd] at he
        simp only [gapS, hw, cond_true] at he
        repeat' ((conv => whnf); (first | with_reducible refine brec (fun _ => ?_) (fun _ => ?_) | (refine ⟨c, ⟨Int.natCast_nonneg _, hc⟩, ?_⟩) | fail))
        all_goals first
          | (exfalso; simp_all [wsB]; done)
          | (refine And.intro (by constructor <;> omega) ?_
             conv => whnf
             refine nxt (k + 1) ⟨by omega, by omega, by omega⟩ ?_
             (refine le_of rfl rfl ?_; repeat' (first | exact rfl | exact trivial | refine ⟨?_, ?_⟩)))
      | false =>
        cases hp : preB (s.drop k) [47, 47] with
        | false =>
          rw [hd] at he hp
          simp only [gapS, hw, hp, cond_false] at he
          have hne : c = 47 → ∀ b, s[k + 1]? = some b → b ≠ 47 := by
            rintro rfl b hb rfl
            rw [drop_get hb] at hp
            simp [preB, beqL] at hp
          by_cases h47 : c.toNat = 47
          · by_cases hlt : k + 1 < s.length
            · obtain ⟨b, hb⟩ := get_of_lt (l := s) (k := k + 1) hlt
              have hb47 : ¬ ((b.toNat : Nat) : Int) = 47 := by
                intro h
                exact hne (UInt8.toNat_inj.1 h47) b hb (UInt8.toNat_inj.1 (by show b.toNat = 47; omega))
              have hb' : s[((k : Int) + 1).toNat]? = some b := by rw [show ((k : Int) + 1).toNat = k + 1 by omega]; exact hb
              repeat' ((conv => whnf); (first | with_reducible refine brec (fun _ => ?_) (fun _ => ?_) | (refine ⟨c, ⟨Int.natCast_nonneg _, hc⟩, ?_⟩) | (refine ⟨b, ⟨by omega, hb'⟩, ?_⟩) | (refine And.intro (by constructor <;> omega) ?_) | fail))
              all_goals (conv => whnf)
              all_goals first
                | (exfalso; simp_all [wsB]; done)
                | (exfalso; simp_all [wsB]; omega)
                | (refine fin_i ?_; omega)
            · repeat' ((conv => whnf); (first | with_reducible refine brec (fun _ => ?_) (fun _ => ?_) | (refine ⟨c, ⟨Int.natCast_nonneg _, hc⟩, ?_⟩) | (refine And.intro (by constructor <;> omega) ?_) | fail))
              all_goals (try (conv => whnf))
              all_goals first
                | (exfalso; simp_all [wsB]; done)
                | (exfalso; simp_all [wsB]; omega)
                | (refine fin_i ?_; omega)
          · repeat' ((conv => whnf); (first | with_reducible refine brec (fun _ => ?_) (fun _ => ?_) | (refine ⟨c, ⟨Int.natCast_nonneg _, hc⟩, ?_⟩) | (refine And.intro (by constructor <;> omega) ?_) | fail))
            all_goals (try (conv => whnf))
            all_goals first
              | (exfalso; simp_all [wsB]; done)
              | (exfalso; simp_all [wsB]; omega)
              | (refine fin_i ?_; omega)
        | true =>
          have hp0 := hp
          rw [hd] at hp
          have hcom : gapS false (s.drop k) = gapS true (s.drop k) := by rw [hd]; exact gapS_com hw hp
          have hc47 : c = 47 := by
            simp only [preB, Bool.and_eq_true] at hp
            have := beqL_iff.1 hp.2
            simp at this
            exact this.1
          obtain ⟨b, hb, hb47⟩ : ∃ b, s[k + 1]? = some b ∧ b = 47 := by
            simp only [preB, Bool.and_eq_true] at hp
            have h1 := beqL_iff.1 hp.2
            cases hr : s.drop (k + 1) with
            | nil => rw [hr] at h1; simp at h1
            | cons b r =>
              rw [hr] at h1
              simp at h1
              refine ⟨b, ?_, h1.2⟩
              have := congrArg (fun m => m[0]?) hr
              simpa using this
          have hlt : k + 1 < s.length := (List.getElem?_eq_some_iff.1 hb).1
          have hb' : s[((k : Int) + 1).toNat]? = some b := by rw [show ((k : Int) + 1).toNat = k + 1 by omega]; exact hb
          subst hc47
          subst hb47
          repeat' ((conv => whnf); (first | (refine ⟨47, ⟨Int.natCast_nonneg _, hc⟩, ?_⟩) | (refine ⟨47, ⟨by omega, hb'⟩, ?_⟩) | (refine And.intro (by constructor <;> omega) ?_) | with_reducible refine brec (fun h => ?_) (fun h => ?_) | fail))
          all_goals first
            | (exfalso; simp_all [wsB]; done)
            | (exfalso; simp_all [wsB]; omega)
            | skip
          refine .st 6000 (fun j => s.length - j) (fun j => [(.s 0, .av (.sc (.s s))), (.s 1, .av (.sc (.i .i64 (j : Nat))))])
            (fun j => j ≤ s.length ∧ k ≤ j ∧ k + gapS true (s.drop k) = j + gapS true (s.drop j)) k ?_ ⟨by omega, Nat.le_refl _, rfl⟩ ?_
          · (refine le_of rfl rfl ?_; repeat' (first | exact rfl | exact trivial | refine ⟨?_, ?_⟩))
          · rintro j ⟨hj, hkj, hje⟩
            conv => whnf
            refine brec (fun q1 => ?_) (fun q1 => ?_)
            · simp only [decide_eq_false_iff_not] at q1
              have e1 : s.drop j = [] := by rw [List.drop_eq_nil_iff]; omega
              rw [e1] at hje
              conv => whnf
              refine nxt j ⟨by omega, by omega, by rw [he, hcom, hje, e1]; rfl⟩ ?_
              (refine le_of rfl rfl ?_; repeat' (first | exact rfl | exact trivial | refine ⟨?_, ?_⟩))
            · simp only [decide_eq_true_eq] at q1
              obtain ⟨d, hdj⟩ := get_of_lt (l := s) (k := j) (by omega)
              have hdd := drop_get hdj
              conv => whnf
              refine ⟨d, ⟨Int.natCast_nonneg _, hdj⟩, ?_⟩
              conv => whnf
              refine brec (fun q2 => ?_) (fun q2 => ?_)
              · have q2' : ((d.toNat : Nat) : Int) = 10 := by simpa using q2
                have hjk : j ≠ k := by
                  intro e; subst e
                  rw [hc] at hdj
                  simp only [Option.some.injEq] at hdj
                  rw [← hdj] at q2'
                  exact absurd q2' (by decide)
                have hwd : wsB d = true := by simp [wsB]; omega
                have h10 : decide (((d.toNat : Nat) : Int) = 10) = true := decide_eq_true q2'
                have e2 : gapS true (s.drop j) = gapS false (s.drop j) := by rw [hdd]; simp only [gapS, hwd, h10, cond_true]
                conv => whnf
                refine nxt j ⟨by omega, by omega, by rw [he, hcom, hje, e2]⟩ ?_
                (refine le_of rfl rfl ?_; repeat' (first | exact rfl | exact trivial | refine ⟨?_, ?_⟩))
              · have q2' : ¬ ((d.toNat : Nat) : Int) = 10 := by simpa using q2
                have h10 : decide (((d.toNat : Nat) : Int) = 10) = false := decide_eq_false q2'
                have e2 : gapS true (s.drop j) = gapS true (s.drop (j + 1)) + 1 := by rw [hdd]; simp only [gapS, h10, cond_false]
                conv => whnf
                refine And.intro (by constructor <;> omega) ?_
                conv => whnf
                refine nxt (j + 1) ⟨by omega, by omega, by omega, by rw [hje, e2]; omega⟩ ?_
                (refine le_of rfl rfl ?_; repeat' (first | exact rfl | exact trivial | refine ⟨?_, ?_⟩))
theorem c63 (W0 : Go.World) (s : S) (a : Nat) (hl : s.length ≤ 140737488355328) (ha : a ≤ s.length) : Ctr Tryz.prog W0 63 [.sc (.s s), .sc (.i .i64 (a : Nat))] [] (.sc (.i .i64 ((a + gapS false (s.drop a) : Nat)))) [] :=
  ctr_body follows F63_ok rfl (fun _ _ h => by cases h) rfl (by rfl) (b63 W0 s a hl ha)
end Go.Abs

set_option maxRecDepth 100000
namespace Go.Abs
open Go.Proofs
def F64 : Fn := ⟨.seq (.reg [⟨none, .alloc 4 [.sc (.s []), .sc (.s []), .sc (.i .i64 0)]⟩, ⟨none, .mv 5 (.c (.sc (.b false)))⟩]) (.seq (.reg [⟨none, .mv 11 (.t 1)⟩, ⟨none, .mv 6 (.t 11)⟩]) (.seq (.block 0 (.seq (.reg [⟨none, .mv 13 (.t 0)⟩, ⟨none, .mv 14 (.t 1)⟩, ⟨none, .ix 15 (.t 13) (.t 14)⟩, ⟨none, .call (some 16) (.c (.fn 127 [])) [.t 15]⟩, ⟨none, .mv 12 (.t 16)⟩]) (.cond (.t 12) (.seq (.block 1 (.loop (.seq (.seq (.reg [⟨none, .mv 17 (.t 6)⟩, ⟨none, .mv 18 (.t 0)⟩, ⟨none, .lenS 19 (.t 18)⟩, ⟨none, .bin 20 .lss (.t 17) (.t 19)⟩, ⟨none, .mv 21 (.t 20)⟩, ⟨some (21, true), .mv 22 (.t 0)⟩, ⟨some (21, true), .mv 23 (.t 6)⟩, ⟨some (21, true), .ix 24 (.t 22) (.t 23)⟩, ⟨some (21, true), .call (some 25) (.c (.fn 128 [])) [.t 24]⟩, ⟨none, .pick 26 (.t 21) (.t 25) (.c (.sc (.b false)))⟩]) (.cond (.t 26) .skip (.exit 1))) (.block 2 (.reg [⟨none, .mv 27 (.t 6)⟩, ⟨none, .bin 28 .add (.t 27) (.c (.sc (.i .i64 1)))⟩, ⟨none, .mv 6 (.t 28)⟩]))))) (.seq (.reg [⟨none, .mv 7 (.c (.sc (.s [107, 101, 121])))⟩]) (.seq (.seq (.reg [⟨none, .mv 29 (.t 0)⟩, ⟨none, .mv 30 (.t 1)⟩, ⟨none, .mv 31 (.t 6)⟩, ⟨none, .slS 32 (.t 29) (some (.t 30)) (some (.t 31))⟩, ⟨none, .call (some 33) (.c (.fn 129 [])) [.t 32]⟩]) (.cond (.t 33) (.reg [⟨none, .mv 7 (.c (.sc (.s [110, 97, 109, 101])))⟩]) .skip)) (.seq (.reg [⟨none, .mv 34 (.t 7)⟩, ⟨none, .mv 35 (.t 0)⟩, ⟨none, .mv 36 (.t 1)⟩, ⟨none, .mv 37 (.t 6)⟩, ⟨none, .slS 38 (.t 35) (some (.t 36)) (some (.t 37))⟩, ⟨none, .mv 39 (.t 1)⟩, ⟨none, .build 40 [.sc (.s []), .sc (.s []), .sc (.i .i64 0)] [(0, (1, .t 34)), (1, (1, .t 38)), (2, (1, .t 39))]⟩, ⟨none, .st (.t 4) 3 (.t 40)⟩, ⟨none, .mv 5 (.c (.sc (.b true)))⟩]) .ret)))) (.seq (.reg [⟨none, .mv 42 (.t 0)⟩, ⟨none, .mv 43 (.t 1)⟩, ⟨none, .ix 44 (.t 42) (.t 43)⟩, ⟨none, .bin 45 .eql (.t 44) (.c (.sc (.i .u8 48)))⟩, ⟨none, .mv 41 (.t 45)⟩]) (.cond (.t 41) (.seq (.reg [⟨none, .mv 46 (.t 1)⟩, ⟨none, .build 47 [.sc (.s []), .sc (.s []), .sc (.i .i64 0)] [(0, (1, .c (.sc (.s [105, 110, 116])))), (1, (1, .c (.sc (.s [48])))), (2, (1, .t 46))]⟩, ⟨none, .st (.t 4) 3 (.t 47)⟩, ⟨none, .mv 5 (.c (.sc (.b true)))⟩]) .ret) (.seq (.reg [⟨none, .mv 49 (.t 0)⟩, ⟨none, .mv 50 (.t 1)⟩, ⟨none, .ix 51 (.t 49) (.t 50)⟩, ⟨none, .call (some 52) (.c (.fn 130 [])) [.t 51]⟩, ⟨none, .mv 48 (.t 52)⟩]) (.cond (.t 48) (.seq (.block 3 (.loop (.seq (.seq (.reg [⟨none, .mv 53 (.t 6)⟩, ⟨none, .mv 54 (.t 0)⟩, ⟨none, .lenS 55 (.t 54)⟩, ⟨none, .bin 56 .lss (.t 53) (.t 55)⟩, ⟨none, .mv 57 (.t 56)⟩, ⟨some (57, true), .mv 58 (.t 0)⟩, ⟨some (57, true), .mv 59 (.t 6)⟩, ⟨some (57, true), .ix 60 (.t 58) (.t 59)⟩, ⟨some (57, true), .call (some 61) (.c (.fn 130 [])) [.t 60]⟩, ⟨none, .pick 62 (.t 57) (.t 61) (.c (.sc (.b false)))⟩]) (.cond (.t 62) .skip (.exit 3))) (.block 4 (.reg [⟨none, .mv 63 (.t 6)⟩, ⟨none, .bin 64 .add (.t 63) (.c (.sc (.i .i64 1)))⟩, ⟨none, .mv 6 (.t 64)⟩]))))) (.seq (.reg [⟨none, .mv 65 (.t 0)⟩, ⟨none, .mv 66 (.t 1)⟩, ⟨none, .mv 67 (.t 6)⟩, ⟨none, .slS 68 (.t 65) (some (.t 66)) (some (.t 67))⟩, ⟨none, .mv 69 (.t 1)⟩, ⟨none, .build 70 [.sc (.s []), .sc (.s []), .sc (.i .i64 0)] [(0, (1, .c (.sc (.s [105, 110, 116])))), (1, (1, .t 68)), (2, (1, .t 69))]⟩, ⟨none, .mv 71 (.t 6)⟩, ⟨none, .mv 72 (.t 1)⟩, ⟨none, .bin 73 .sub (.t 71) (.t 72)⟩, ⟨none, .bin 74 .leq (.t 73) (.c (.sc (.i .i64 9)))⟩, ⟨none, .st (.t 4) 3 (.t 70)⟩, ⟨none, .mv 5 (.t 74)⟩]) .ret)) .skip))))))) (.seq (.reg [⟨none, .call (some 75) (.c (.fn 131 [])) [.c (.sc (.s [32, 60, 61, 32, 61, 61, 32, 46, 46, 32, 60, 45, 32, 40, 32, 41, 32, 91, 32, 93, 32, 123, 32, 125, 32, 44, 32, 59, 32, 58, 32, 61, 32, 43, 32, 45, 32, 42, 32, 47, 32, 37, 32, 60, 32, 38, 32, 124, 32, 33, 32]))]⟩, ⟨none, .mv 8 (.t 75)⟩]) (.seq (.seq (.reg [⟨none, .mv 9 (.c (.sc (.i .i64 0)))⟩]) (.block 5 (.loop (.seq (.seq (.reg [⟨none, .mv 76 (.t 9)⟩, ⟨none, .mv 77 (.t 8)⟩, ⟨none, .len 78 (.t 77)⟩, ⟨none, .bin 79 .lss (.t 76) (.t 78)⟩]) (.cond (.t 79) .skip (.exit 5))) (.seq (.block 6 (.seq (.reg [⟨none, .mv 82 (.t 8)⟩, ⟨none, .mv 83 (.t 9)⟩, ⟨none, .ia 84 1 (.t 82) (.t 83)⟩, ⟨none, .ld 85 1 false (.t 84)⟩, ⟨none, .lenS 86 (.t 85)⟩, ⟨none, .mv 10 (.t 86)⟩]) (.seq (.regD [⟨none, .mv 87 (.t 10)⟩, ⟨none, .mv 88 (.t 0)⟩, ⟨none, .lenS 89 (.t 88)⟩, ⟨none, .mv 90 (.t 1)⟩, ⟨none, .bin 91 .sub (.t 89) (.t 90)⟩, ⟨none, .bin 92 .leq (.t 87) (.t 91)⟩, ⟨none, .mv 93 (.t 92)⟩, ⟨some (93, true), .mv 94 (.t 0)⟩, ⟨some (93, true), .mv 95 (.t 1)⟩, ⟨some (93, true), .mv 96 (.t 1)⟩, ⟨some (93, true), .mv 97 (.t 10)⟩, ⟨some (93, true), .bin 98 .add (.t 96) (.t 97)⟩, ⟨some (93, true), .slS 99 (.t 94) (some (.t 95)) (some (.t 98))⟩, ⟨some (93, true), .mv 100 (.t 8)⟩, ⟨some (93, true), .mv 101 (.t 9)⟩, ⟨some (93, true), .ia 102 1 (.t 100) (.t 101)⟩, ⟨some (93, true), .ld 103 1 false (.t 102)⟩, ⟨some (93, true), .bin 104 .eql (.t 99) (.t 103)⟩, ⟨none, .pick 105 (.t 93) (.t 104) (.c (.sc (.b false)))⟩] [0, 0, 2, 0, 14, 31, 63, 127, 127, 127, 127, 1663, 4095, 127, 127, 24703, 57471, 131071, 262143]) (.cond (.t 105) (.seq (.reg [⟨none, .mv 106 (.t 8)⟩, ⟨none, .mv 107 (.t 9)⟩, ⟨none, .ia 108 1 (.t 106) (.t 107)⟩, ⟨none, .ld 109 1 false (.t 108)⟩, ⟨none, .mv 110 (.t 1)⟩, ⟨none, .build 111 [.sc (.s []), .sc (.s []), .sc (.i .i64 0)] [(0, (1, .c (.sc (.s [115, 105, 103, 110])))), (1, (1, .t 109)), (2, (1, .t 110))]⟩, ⟨none, .st (.t 4) 3 (.t 111)⟩, ⟨none, .mv 5 (.c (.sc (.b true)))⟩]) .ret) .skip)))) (.reg [⟨none, .mv 80 (.t 9)⟩, ⟨none, .bin 81 .add (.t 80) (.c (.sc (.i .i64 1)))⟩, ⟨none, .mv 9 (.t 81)⟩])))))) (.seq (.reg [⟨none, .build 112 [.sc (.s []), .sc (.s []), .sc (.i .i64 0)] []⟩, ⟨none, .st (.t 4) 3 (.t 112)⟩, ⟨none, .mv 5 (.c (.sc (.b false)))⟩]) .ret))))), [(4, 3), (5, 0)], 113⟩
theorem F64_ok : compT Tryz.prog (fun _ => an0) 64 = some F64 := by kernel_rfl
def signsR : S := [32, 60, 61, 32, 61, 61, 32, 46, 46, 32, 60, 45, 32, 40, 32, 41, 32, 91, 32, 93, 32, 123, 32, 125, 32, 44, 32, 59, 32, 58, 32, 61, 32, 43, 32, 45, 32, 42, 32, 47, 32, 37, 32, 60, 32, 38, 32, 124, 32, 33, 32]
theorem ws_sg : wordsGo [] signsR = signList := by kernel_rfl
theorem aw131s : runX R131 (fun _ _ => none) 2 131 [.sc (.s signsR)] [] = some (.sl 1 (strsD (wordsGo [] signsR)) (.t 0), []) := by kernel_rfl
theorem c131s (W0 : Go.World) : Ctr Tryz.prog W0 131 [.sc (.s signsR)] [] (.sl 1 (strsD signList) (.t 0)) [] :=
  ws_sg ▸ runX_s follows (R131_tab W0) (fun _ _ _ h => by cases h) 2 131 [.sc (.s signsR)] [] _ _ aw131s
/-- where it stands (nowhere, if it is none) -/
def atR (s : S) (a : Nat) : Int := bif beqL (firstT s).1 [] then 0 else a
theorem innN_take : ∀ (s : S), innN (s.take (innN s)) = innN s ∧ (s.take (innN s)).length = innN s
  | [] => ⟨rfl, rfl⟩
  | c :: r => by
    obtain ⟨i1, i2⟩ := innN_take r
    cases h : innerI ((c.toNat : Nat) : Int) with
    | true =>
      have e : innN (c :: r) = innN r + 1 := by simp [innN, h]
      rw [e]
      refine ⟨?_, by simpa using i2⟩
      simp only [List.take_succ_cons, innN, h, i1]
    | false =>
      have e : innN (c :: r) = 0 := by simp [innN, h]
      rw [e]; exact ⟨rfl, rfl⟩
theorem nameR_w {c : UInt8} {r : S} (h : smallI ((c.toNat : Nat) : Int) = true) : nameR ((c :: r).take (innN r + 1)) = !hasB ((c :: r).take (innN r + 1)) keyList := by
  have e : innN (c :: r) = innN r + 1 := by simp [innN, small_inner h]
  obtain ⟨i1, i2⟩ := innN_take (c :: r)
  have : wordR ((c :: r).take (innN r + 1)) = true := by
    rw [e] at i1 i2
    rw [List.take_succ_cons] at i1 i2 ⊢
    simp only [wordR, h, Bool.true_and, decide_eq_true_eq]
    rw [i1, i2]
  rw [nameR, this, Bool.true_and]
theorem fin_tk {σ : Log} {k k' t t' : S} {a a' : Int} {b b' : Bool} (h1 : k = k') (h2 : t = t') (h3 : a = a') (h4 : b = b') : FinOK σ (.tup [.agg [.sc (.s k), .sc (.s t), .sc (.i .i64 a)], .sc (.b b)]) 0 0 (tokA k' t' a' b') [] := by
  subst h1; subst h2; subst h3; subst h4
  exact fin0 rfl ⟨⟨rfl, rfl, rfl, trivial⟩, rfl, trivial⟩ rfl
set_option maxHeartbeats 8000000 in
theorem b64_w (W0 : Go.World) (s : S) (a : Nat) (hl : s.length ≤ 140737488355328) (ha : a < s.length) (c : UInt8) (hc : s[a]? = some c) (h1 : smallI ((c.toNat : Nat) : Int) = true) :
    Body (Ctr Tryz.prog W0) F64.ac F64.rs [.sc (.s s), .sc (.i .i64 (a : Nat))] [] (tokA (firstT (s.drop a)).1 (firstT (s.drop a)).2.1 (atR (s.drop a) a) (firstT (s.drop a)).2.2) [] := by
  have hd := drop_get hc
  have hw : wordN (s.drop a) = innN (s.drop (a + 1)) + 1 := by rw [hd]; simp [wordN, h1]
  have hi : innN (s.drop a) = innN (s.drop (a + 1)) + 1 := by rw [hd]; simp [innN, small_inner h1]
  have hin := innN_le (s.drop a)
  rw [List.length_drop] at hin
  conv => whnf
  refine ⟨c, ⟨Int.natCast_nonneg _, hc⟩, ?_⟩
  conv => whnf
  refine callP.pure _ (c127 W0 _) ⟨rfl, rfl⟩ ?_
  rw [h1]
  conv => whnf
  refine .st 6000 (fun j => s.length - j) (fun j => [(.s 0, .av (.sc (.s s))), (.s 1, .av (.sc (.i .i64 (a : Nat)))), (.s 6, .av (.sc (.i .i64 (j : Nat)))), (.s 4, .av (.ptr 1000 0)), (.b 1000, .bx [.sc (.s []), .sc (.s []), .sc (.i .i64 0)])])
    (fun j => j ≤ s.length ∧ a ≤ j ∧ a + innN (s.drop a) = j + innN (s.drop j)) a ?_ ⟨by omega, Nat.le_refl _, rfl⟩ ?_
  · (refine le_of rfl rfl ?_; repeat' (first | exact rfl | exact trivial | refine ⟨?_, ?_⟩))
  · rintro j ⟨hj, haj, hje⟩
    conv => whnf
    refine brec (fun q1 => ?_) (fun q1 => ?_)
    · simp only [decide_eq_false_iff_not] at q1
      have ez : innN (s.drop j) = 0 := by rw [List.drop_eq_nil_iff.2 (by omega)]; rfl
      conv => whnf
      refine And.intro ⟨Int.natCast_nonneg _, by omega, by omega⟩ ?_
      conv => whnf
      have hsl : (List.drop ((a : Int).toNat) s).take ((j : Int).toNat - (a : Int).toNat) = (s.drop a).take (innN (s.drop (a + 1)) + 1) := by
        simp only [Int.toNat_natCast]
        rw [show j - a = innN (s.drop (a + 1)) + 1 by omega]
      have hn : nameR ((s.drop a).take (innN (s.drop (a + 1)) + 1)) = !hasB ((s.drop a).take (innN (s.drop (a + 1)) + 1)) keyList := by rw [hd]; exact nameR_w h1
      have ic : Ctr Tryz.prog W0 129 [.sc (.s ((List.drop ((a : Int).toNat) s).take ((j : Int).toNat - (a : Int).toNat)))] [] (.sc (.b (!hasB ((s.drop a).take (innN (s.drop (a + 1)) + 1)) keyList))) [] := by
        rw [hsl, ← hn]; exact c129 W0 _ (by simp only [List.length_take, List.length_drop]; omega)
      refine callP.pure _ ic ⟨rfl, rfl⟩ ?_
      have e1 : (firstT (s.drop a)).1 = kindS ((s.drop a).take (innN (s.drop (a + 1)) + 1)) := by unfold firstT; rw [hw]
      have e2 : (firstT (s.drop a)).2.1 = (s.drop a).take (innN (s.drop (a + 1)) + 1) := by unfold firstT; rw [hw]
      have e3 : (firstT (s.drop a)).2.2 = true := by unfold firstT; rw [hw]
      have e4 : atR (s.drop a) a = a := by
        simp only [atR, e1, kindS]
        cases hasB ((s.drop a).take (innN (s.drop (a + 1)) + 1)) keyList <;> rfl
      rw [e1, e2, e3, e4]
      cases hk : hasB ((s.drop a).take (innN (s.drop (a + 1)) + 1)) keyList with
      | true =>
        conv => whnf
        refine And.intro ⟨Int.natCast_nonneg _, by omega, by omega⟩ ?_
        conv => whnf
        exact fin_tk (by simp only [kindS, hk]) hsl rfl rfl
      | false =>
        conv => whnf
        refine And.intro ⟨Int.natCast_nonneg _, by omega, by omega⟩ ?_
        conv => whnf
        exact fin_tk (by simp only [kindS, hk]) hsl rfl rfl
    · simp only [decide_eq_true_eq] at q1
      obtain ⟨d, hdj⟩ := get_of_lt (l := s) (k := j) (by omega)
      have hdd := drop_get hdj
      conv => whnf
      refine ⟨d, ⟨Int.natCast_nonneg _, hdj⟩, ?_⟩
      conv => whnf
      refine callP.pure _ (c128 W0 _) ⟨rfl, rfl⟩ ?_
      cases q2 : innerI ((d.toNat : Nat) : Int) with
      | false =>
        have ez : innN (s.drop j) = 0 := by rw [hdd]; simp [innN, q2]
        conv => whnf
        refine And.intro ⟨Int.natCast_nonneg _, by omega, by omega⟩ ?_
        conv => whnf
        have hsl : (List.drop ((a : Int).toNat) s).take ((j : Int).toNat - (a : Int).toNat) = (s.drop a).take (innN (s.drop (a + 1)) + 1) := by
          simp only [Int.toNat_natCast]
          rw [show j - a = innN (s.drop (a + 1)) + 1 by omega]
        have hn : nameR ((s.drop a).take (innN (s.drop (a + 1)) + 1)) = !hasB ((s.drop a).take (innN (s.drop (a + 1)) + 1)) keyList := by rw [hd]; exact nameR_w h1
        have ic : Ctr Tryz.prog W0 129 [.sc (.s ((List.drop ((a : Int).toNat) s).take ((j : Int).toNat - (a : Int).toNat)))] [] (.sc (.b (!hasB ((s.drop a).take (innN (s.drop (a + 1)) + 1)) keyList))) [] := by
          rw [hsl, ← hn]; exact c129 W0 _ (by simp only [List.length_take, List.length_drop]; omega)
        refine callP.pure _ ic ⟨rfl, rfl⟩ ?_
        have e1 : (firstT (s.drop a)).1 = kindS ((s.drop a).take (innN (s.drop (a + 1)) + 1)) := by unfold firstT; rw [hw]
        have e2 : (firstT (s.drop a)).2.1 = (s.drop a).take (innN (s.drop (a + 1)) + 1) := by unfold firstT; rw [hw]
        have e3 : (firstT (s.drop a)).2.2 = true := by unfold firstT; rw [hw]
        have e4 : atR (s.drop a) a = a := by
          simp only [atR, e1, kindS]
          cases hasB ((s.drop a).take (innN (s.drop (a + 1)) + 1)) keyList <;> rfl
        rw [e1, e2, e3, e4]
        cases hk : hasB ((s.drop a).take (innN (s.drop (a + 1)) + 1)) keyList with
        | true =>
          conv => whnf
          refine And.intro ⟨Int.natCast_nonneg _, by omega, by omega⟩ ?_
          conv => whnf
          exact fin_tk (by simp only [kindS, hk]) hsl rfl rfl
        | false =>
          conv => whnf
          refine And.intro ⟨Int.natCast_nonneg _, by omega, by omega⟩ ?_
          conv => whnf
          exact fin_tk (by simp only [kindS, hk]) hsl rfl rfl
      | true =>
        have e2 : innN (s.drop j) = innN (s.drop (j + 1)) + 1 := by rw [hdd]; simp [innN, q2]
        conv => whnf
        refine And.intro (by constructor <;> omega) ?_
        conv => whnf
        refine nxt (j + 1) ⟨by omega, by omega, by omega, by omega⟩ ?_
        (refine le_of rfl rfl ?_; repeat' (first | exact rfl | exact trivial | refine ⟨?_, ?_⟩))
set_option maxHeartbeats 8000000 in
theorem b64_0 (W0 : Go.World) (s : S) (a : Nat) (hl : s.length ≤ 140737488355328) (ha : a < s.length) (c : UInt8) (hc : s[a]? = some c) (h0 : c = 48) :
    Body (Ctr Tryz.prog W0) F64.ac F64.rs [.sc (.s s), .sc (.i .i64 (a : Nat))] [] (tokA (firstT (s.drop a)).1 (firstT (s.drop a)).2.1 (atR (s.drop a) a) (firstT (s.drop a)).2.2) [] := by
  subst h0
  have hd := drop_get hc
  have hs : smallI (((48 : UInt8).toNat : Nat) : Int) = false := by decide
  have hw : wordN (s.drop a) = 0 := by rw [hd]; simp only [wordN, hs]
  have hp : preB (s.drop a) [48] = true := by rw [hd]; simp [preB, beqL]
  have hg : digN (s.drop a) = 1 := by simp only [digN, hp]
  have e : firstT (s.drop a) = ([105, 110, 116], [48], true) := by
    simp only [firstT, hw, hg]
    rw [hd]; rfl
  have e4 : atR (s.drop a) a = a := by simp [atR, e, beqL]
  rw [e, e4]
  conv => whnf
  refine ⟨48, ⟨Int.natCast_nonneg _, hc⟩, ?_⟩
  conv => whnf
  refine callP.pure _ (c127 W0 _) ⟨rfl, rfl⟩ ?_
  rw [hs]
  conv => whnf
  refine ⟨48, ⟨Int.natCast_nonneg _, hc⟩, ?_⟩
  conv => whnf
  exact fin_tk rfl rfl rfl rfl
set_option maxHeartbeats 8000000 in
theorem b64_d (W0 : Go.World) (s : S) (a : Nat) (hl : s.length ≤ 140737488355328) (ha : a < s.length) (c : UInt8) (hc : s[a]? = some c) (h0 : ¬ c = 48) (h1 : digI ((c.toNat : Nat) : Int) = true) :
    Body (Ctr Tryz.prog W0) F64.ac F64.rs [.sc (.s s), .sc (.i .i64 (a : Nat))] [] (tokA (firstT (s.drop a)).1 (firstT (s.drop a)).2.1 (atR (s.drop a) a) (firstT (s.drop a)).2.2) [] := by
  have hd := drop_get hc
  have hs : smallI ((c.toNat : Nat) : Int) = false := by
    simp only [digI, Bool.and_eq_true, decide_eq_true_eq] at h1
    simp only [smallI, Bool.and_eq_false_iff, decide_eq_false_iff_not]
    left; omega
  have hw : wordN (s.drop a) = 0 := by rw [hd]; simp only [wordN, hs]
  have hp : preB (s.drop a) [48] = false := by rw [hd]; simp [preB, beqL]; exact h0
  have hi : digsN (s.drop a) = digsN (s.drop (a + 1)) + 1 := by rw [hd]; simp [digsN, h1]
  have hg : digN (s.drop a) = digsN (s.drop (a + 1)) + 1 := by simp only [digN, hp]; exact hi
  have hin := digsN_le (s.drop a)
  rw [List.length_drop] at hin
  have e : firstT (s.drop a) = ([105, 110, 116], (s.drop a).take (digsN (s.drop (a + 1)) + 1), decide (((digsN (s.drop (a + 1)) + 1 : Nat) : Int) ≤ 9)) := by simp only [firstT, hw, hg]
  have e4 : atR (s.drop a) a = a := by simp [atR, e, beqL]
  rw [e, e4]
  have h48 : ¬ ((c.toNat : Nat) : Int) = 48 := fun h => h0 (UInt8.toNat_inj.1 (by show c.toNat = 48; omega))
  conv => whnf
  refine ⟨c, ⟨Int.natCast_nonneg _, hc⟩, ?_⟩
  conv => whnf
  refine callP.pure _ (c127 W0 _) ⟨rfl, rfl⟩ ?_
  rw [hs]
  conv => whnf
  refine ⟨c, ⟨Int.natCast_nonneg _, hc⟩, ?_⟩
  conv => whnf
  refine brec (fun _ => ?_) (fun q => absurd (of_decide_eq_true q) h48)
  conv => whnf
  refine ⟨c, ⟨Int.natCast_nonneg _, hc⟩, ?_⟩
  conv => whnf
  refine callP.pure _ (c130 W0 _) ⟨rfl, rfl⟩ ?_
  rw [h1]
  conv => whnf
  refine .st 9000 (fun j => s.length - j) (fun j => [(.s 0, .av (.sc (.s s))), (.s 1, .av (.sc (.i .i64 (a : Nat)))), (.s 6, .av (.sc (.i .i64 (j : Nat)))), (.s 4, .av (.ptr 1000 0)), (.b 1000, .bx [.sc (.s []), .sc (.s []), .sc (.i .i64 0)])])
    (fun j => j ≤ s.length ∧ a ≤ j ∧ a + digsN (s.drop a) = j + digsN (s.drop j)) a ?_ ⟨by omega, Nat.le_refl _, rfl⟩ ?_
  · (refine le_of rfl rfl ?_; repeat' (first | exact rfl | exact trivial | refine ⟨?_, ?_⟩))
  · rintro j ⟨hj, haj, hje⟩
    have fin : digsN (s.drop j) = 0 → (List.drop ((a : Int).toNat) s).take ((j : Int).toNat - (a : Int).toNat) = (s.drop a).take (digsN (s.drop (a + 1)) + 1) ∧ decide ((j : Int) - a ≤ 9) = decide (((digsN (s.drop (a + 1)) + 1 : Nat) : Int) ≤ 9) := by
      intro ez
      refine ⟨?_, ?_⟩
      · simp only [Int.toNat_natCast]
        rw [show j - a = digsN (s.drop (a + 1)) + 1 by omega]
      · rw [decide_eq_decide]; omega
    conv => whnf
    refine brec (fun q1 => ?_) (fun q1 => ?_)
    · simp only [decide_eq_false_iff_not] at q1
      have ez : digsN (s.drop j) = 0 := by rw [List.drop_eq_nil_iff.2 (by omega)]; rfl
      conv => whnf
      refine And.intro ⟨Int.natCast_nonneg _, by omega, by omega⟩ ?_
      conv => whnf
      refine And.intro (by constructor <;> omega) ?_
      conv => whnf
      exact fin_tk rfl (fin ez).1 rfl (fin ez).2
    · simp only [decide_eq_true_eq] at q1
      obtain ⟨d, hdj⟩ := get_of_lt (l := s) (k := j) (by omega)
      have hdd := drop_get hdj
      conv => whnf
      refine ⟨d, ⟨Int.natCast_nonneg _, hdj⟩, ?_⟩
      conv => whnf
      refine callP.pure _ (c130 W0 _) ⟨rfl, rfl⟩ ?_
      cases q2 : digI ((d.toNat : Nat) : Int) with
      | false =>
        have ez : digsN (s.drop j) = 0 := by rw [hdd]; simp [digsN, q2]
        conv => whnf
        refine And.intro ⟨Int.natCast_nonneg _, by omega, by omega⟩ ?_
        conv => whnf
        refine And.intro (by constructor <;> omega) ?_
        conv => whnf
        exact fin_tk rfl (fin ez).1 rfl (fin ez).2
      | true =>
        have e2 : digsN (s.drop j) = digsN (s.drop (j + 1)) + 1 := by rw [hdd]; simp [digsN, q2]
        conv => whnf
        refine And.intro (by constructor <;> omega) ?_
        conv => whnf
        refine nxt (j + 1) ⟨by omega, by omega, by omega, by omega⟩ ?_
        (refine le_of rfl rfl ?_; repeat' (first | exact rfl | exact trivial | refine ⟨?_, ?_⟩))
theorem signOf_drop (r : S) (L : List S) (i : Nat) (x : S) (h : L[i]? = some x) : signOf r (L.drop i) = bif preB r x then some x else signOf r (L.drop (i + 1)) := by
  rw [drop_get h]
  simp only [signOf]
  cases preB r x <;> rfl
set_option maxHeartbeats 16000000 in
theorem b64_s (W0 : Go.World) (s : S) (a : Nat) (hl : s.length ≤ 140737488355328) (ha : a < s.length) (c : UInt8) (hc : s[a]? = some c) (h1 : smallI ((c.toNat : Nat) : Int) = false) (h2 : digI ((c.toNat : Nat) : Int) = false) :
    Body (Ctr Tryz.prog W0) F64.ac F64.rs [.sc (.s s), .sc (.i .i64 (a : Nat))] [] (tokA (firstT (s.drop a)).1 (firstT (s.drop a)).2.1 (atR (s.drop a) a) (firstT (s.drop a)).2.2) [] := by
  have hd := drop_get hc
  have hw : wordN (s.drop a) = 0 := by rw [hd]; simp only [wordN, h1]
  have h48 : ¬ ((c.toNat : Nat) : Int) = 48 := by intro h; rw [h] at h2; exact absurd h2 (by decide)
  have hp : preB (s.drop a) [48] = false := by
    rw [hd]; simp [preB, beqL]; intro e; subst e; exact h48 rfl
  have hg : digN (s.drop a) = 0 := by simp only [digN, hp]; rw [hd]; simp [digsN, h2]
  have e : firstT (s.drop a) = (match signOf (s.drop a) signList with | some x => ([115, 105, 103, 110], x, true) | none => ([], [], false)) := by
    simp only [firstT, hw, hg]
    cases signOf (s.drop a) signList <;> rfl
  conv => whnf
  refine ⟨c, ⟨Int.natCast_nonneg _, hc⟩, ?_⟩
  conv => whnf
  refine callP.pure _ (c127 W0 _) ⟨rfl, rfl⟩ ?_
  rw [h1]
  conv => whnf
  refine ⟨c, ⟨Int.natCast_nonneg _, hc⟩, ?_⟩
  conv => whnf
  refine brec (fun _ => ?_) (fun q => absurd (of_decide_eq_true q) h48)
  conv => whnf
  refine ⟨c, ⟨Int.natCast_nonneg _, hc⟩, ?_⟩
  conv => whnf
  refine callP.pure _ (c130 W0 _) ⟨rfl, rfl⟩ ?_
  rw [h2]
  conv => whnf
  refine callP.pure _ (c131s W0) ⟨rfl, rfl⟩ ?_
  generalize hL : signList = L at e ⊢
  have hLn : L.length = 23 := by rw [← hL]; rfl
  conv => whnf
  refine .st 16000 (fun i => L.length - i) (fun i => [(.s 0, .av (.sc (.s s))), (.s 1, .av (.sc (.i .i64 (a : Nat)))), (.s 8, .av (.sl 1 (strsD L) .none)), (.s 9, .av (.sc (.i .i64 (i : Nat)))), (.s 4, .av (.ptr 1000 0)), (.b 1000, .bx [.sc (.s []), .sc (.s []), .sc (.i .i64 0)])])
    (fun i => i ≤ L.length ∧ signOf (s.drop a) L = signOf (s.drop a) (L.drop i)) 0 ?_ ⟨by omega, rfl⟩ ?_
  · (refine le_of rfl rfl ?_; repeat' (first | exact rfl | exact trivial | refine ⟨?_, ?_⟩))
  · rintro i ⟨hi, he⟩
    conv => whnf
    refine brec (fun q1 => ?_) (fun q1 => ?_)
    · have q1' : L.length ≤ i := by simp [strsD_length] at q1; omega
      rw [List.drop_eq_nil_iff.2 q1'] at he
      have e2 : firstT (s.drop a) = ([], [], false) := by rw [e, he]; rfl
      have e4 : atR (s.drop a) a = 0 := by simp [atR, e2, beqL]
      rw [e2, e4]
      conv => whnf
      exact fin_tk rfl rfl rfl rfl
    · have q1' : i < L.length := by simp [strsD_length] at q1; omega
      obtain ⟨x, hx⟩ := get_of_lt q1'
      have hxd : (strsD L)[i]? = some [Data.sc (Sc.s x)] := strsD_get hx
      rw [signOf_drop _ _ _ _ hx] at he
      conv => whnf
      refine ⟨_, ⟨Int.natCast_nonneg _, hxd⟩, ?_⟩
      have hsl : (List.drop ((a : Int).toNat) s).take (((a : Int) + (x.length : Nat)).toNat - (a : Int).toNat) = (s.drop a).take x.length := by
        simp only [Int.toNat_natCast]
        rw [show ((a : Int) + (x.length : Nat)).toNat - a = x.length by omega]
      have hld : (s.drop a).length = s.length - a := List.length_drop
      conv => whnf
      refine And.intro (by constructor <;> omega) ?_
      conv => whnf
      refine brec (fun q2 => ?_) (fun q2 => ?_)
      · have q2' : ¬ x.length ≤ s.length - a := by simp at q2; omega
        have hpx : preB (s.drop a) x = false := by simp only [preB, hld, q2', decide_false, Bool.false_and]
        rw [hpx] at he
        conv => whnf
        refine And.intro (by constructor <;> omega) ?_
        conv => whnf
        refine nxt (i + 1) ⟨by omega, by omega, he⟩ ?_
        (refine le_of rfl rfl ?_; repeat' (first | exact rfl | exact trivial | refine ⟨?_, ?_⟩))
      · have q2' : x.length ≤ s.length - a := by simp at q2; omega
        conv => whnf
        refine And.intro (by constructor <;> omega) ?_
        conv => whnf
        refine And.intro ⟨Int.natCast_nonneg _, by omega, by omega⟩ ?_
        conv => whnf
        refine ⟨_, ⟨Int.natCast_nonneg _, hxd⟩, ?_⟩
        conv => whnf
        refine brec (fun q3 => ?_) (fun q3 => ?_)
        · rw [hsl] at q3
          have hpx : preB (s.drop a) x = false := by simp only [preB, q3, Bool.and_false]
          rw [hpx] at he
          conv => whnf
          refine And.intro (by constructor <;> omega) ?_
          conv => whnf
          refine nxt (i + 1) ⟨by omega, by omega, he⟩ ?_
          (refine le_of rfl rfl ?_; repeat' (first | exact rfl | exact trivial | refine ⟨?_, ?_⟩))
        · rw [hsl] at q3
          have hpx : preB (s.drop a) x = true := by simp only [preB, q3, hld, q2', decide_true, Bool.true_and]
          rw [hpx] at he
          have e2 : firstT (s.drop a) = ([115, 105, 103, 110], x, true) := by rw [e, he]; rfl
          have e4 : atR (s.drop a) a = a := by simp [atR, e2, beqL]
          rw [e2, e4]
          conv => whnf
          refine ⟨_, ⟨Int.natCast_nonneg _, hxd⟩, ?_⟩
          conv => whnf
          exact fin_tk rfl rfl rfl rfl
theorem c64 (W0 : Go.World) (s : S) (a : Nat) (hl : s.length ≤ 140737488355328) (ha : a < s.length) : Ctr Tryz.prog W0 64 [.sc (.s s), .sc (.i .i64 (a : Nat))] [] (tokA (firstT (s.drop a)).1 (firstT (s.drop a)).2.1 (atR (s.drop a) a) (firstT (s.drop a)).2.2) [] := by
  obtain ⟨c, hc⟩ := get_of_lt ha
  refine ctr_body follows F64_ok rfl (fun _ _ h => by cases h) rfl (by rfl) ?_
  cases h1 : smallI ((c.toNat : Nat) : Int) with
  | true => exact b64_w W0 s a hl ha c hc h1
  | false =>
    by_cases h0 : c = 48
    · exact b64_0 W0 s a hl ha c hc h0
    · cases h2 : digI ((c.toNat : Nat) : Int) with
      | true => exact b64_d W0 s a hl ha c hc h0 h2
      | false => exact b64_s W0 s a hl ha c hc h1 h2
end Go.Abs

set_option maxRecDepth 100000
namespace Go.Abs
open Go.Proofs
def F22 : Fn := ⟨.seq (.reg [⟨none, .mv 2 (.c (.sl 3 [] .full))⟩, ⟨none, .mv 3 (.c (.sc (.i .i64 0)))⟩]) (.seq (.seq (.reg [⟨none, .mv 8 (.t 0)⟩, ⟨none, .lenS 9 (.t 8)⟩, ⟨none, .bin 10 .gtr (.t 9) (.c (.sc (.i .i64 10000)))⟩]) (.cond (.t 10) (.seq (.reg [⟨none, .mv 2 (.c (.sl 3 [] .full))⟩, ⟨none, .mv 3 (.c (.sc (.i .i64 4)))⟩]) .ret) .skip)) (.seq (.reg [⟨none, .mv 4 (.c (.sl 3 [] .full))⟩]) (.seq (.seq (.reg [⟨none, .mv 11 (.t 0)⟩, ⟨none, .call (some 12) (.c (.fn 63 [])) [.t 11, .c (.sc (.i .i64 0))]⟩, ⟨none, .mv 5 (.t 12)⟩]) (.block 0 (.loop (.seq (.seq (.reg [⟨none, .mv 13 (.t 5)⟩, ⟨none, .mv 14 (.t 0)⟩, ⟨none, .lenS 15 (.t 14)⟩, ⟨none, .bin 16 .lss (.t 13) (.t 15)⟩]) (.cond (.t 16) .skip (.exit 0))) (.seq (.block 1 (.seq (.reg [⟨none, .mv 21 (.t 0)⟩, ⟨none, .mv 22 (.t 5)⟩, ⟨none, .call (some 23) (.c (.fn 64 [])) [.t 21, .t 22]⟩, ⟨none, .mv 20 (.t 23)⟩, ⟨none, .ext 24 (.t 20) 0⟩, ⟨none, .ext 25 (.t 20) 1⟩, ⟨none, .alloc 6 [.sc (.s []), .sc (.s []), .sc (.i .i64 0)]⟩, ⟨none, .st (.t 6) 3 (.t 24)⟩, ⟨none, .mv 7 (.t 25)⟩]) (.seq (.seq (.reg [⟨none, .mv 26 (.t 7)⟩, ⟨none, .no 27 (.t 26)⟩]) (.cond (.t 27) (.seq (.reg [⟨none, .mv 2 (.c (.sl 3 [] .full))⟩, ⟨none, .mv 3 (.c (.sc (.i .i64 10)))⟩]) .ret) .skip)) (.seq (.reg [⟨none, .mv 28 (.t 4)⟩, ⟨none, .ld 29 3 true (.t 6)⟩, ⟨none, .bsl 30 3 [.t 29]⟩, ⟨none, .app 31 3 40 (.t 28) (.t 30)⟩, ⟨none, .mv 4 (.t 31)⟩]) (.reg [⟨none, .mv 32 (.t 5)⟩, ⟨none, .fa 33 (.t 6) 1⟩, ⟨none, .ld 34 1 false (.t 33)⟩, ⟨none, .lenS 35 (.t 34)⟩, ⟨none, .bin 36 .add (.t 32) (.t 35)⟩, ⟨none, .mv 5 (.t 36)⟩]))))) (.reg [⟨none, .mv 17 (.t 0)⟩, ⟨none, .mv 18 (.t 5)⟩, ⟨none, .call (some 19) (.c (.fn 63 [])) [.t 17, .t 18]⟩, ⟨none, .mv 5 (.t 19)⟩])))))) (.seq (.reg [⟨none, .mv 37 (.t 4)⟩, ⟨none, .mv 2 (.t 37)⟩, ⟨none, .mv 3 (.c (.sc (.i .i64 0)))⟩]) .ret)))), [(2, 0), (3, 0)], 38⟩
theorem F22_ok : compT Tryz.prog (fun _ => an0) 22 = some F22 := by kernel_rfl
theorem first_kind {r : S} (h : (firstT r).2.2 = true) : beqL (firstT r).1 [] = false := by
  unfold firstT at h ⊢
  split at h
  · simp only [kindS]; split <;> rfl
  · split at h
    · rfl
    · split at h
      · rfl
      · cases h
set_option maxHeartbeats 8000000 in
theorem b22 (W0 : Go.World) (s : S) (hl : s.length ≤ 140737488355328) : Body (Ctr Tryz.prog W0) F22.ac F22.rs [.sc (.s s)] [] (toksA (tokR1 s) (tokR2 s)) [] := by
  conv => whnf
  refine brec (fun h1 => ?_) (fun h1 => ?_)
  · have ic0 : Ctr Tryz.prog W0 63 [.sc (.s s), .sc (.i .i64 0)] [] (.sc (.i .i64 ((gapS false s : Nat)))) [] := by
      have := c63 W0 s 0 hl (Nat.zero_le _)
      rw [List.drop_zero, Nat.zero_add] at this
      exact this
    conv => whnf
    refine callP.pure _ ic0 ⟨rfl, rfl⟩ ?_
    conv => whnf
    have g0 := gapS_le false s
    have hs10 : s.length ≤ 10000 := by simp only [decide_eq_false_iff_not] at h1; omega
    refine .st (α := Nat × Nat × List T) 10000 (fun a => s.length - a.1) (fun a => [(.s 0, .av (.sc (.s s))), (.s 5, .av (.sc (.i .i64 (a.1 : Nat)))), (.s 4, .av (.sl 3 (toksD a.2.2) (.t 9000))), (.t 9000, .tk true)])
      (fun a => a.1 ≤ s.length ∧ s.length - a.1 ≤ a.2.1 ∧ a.2.2.length ≤ a.1 ∧ tokensP s = (match toksF a.2.1 a.1 (s.drop a.1) with | some l => some (a.2.2 ++ l) | none => none)) (gapS false s, s.length, []) ?_ ⟨g0, by simp, by simp, ?_⟩ ?_
    · (refine le_of rfl rfl ?_; repeat' (first | exact rfl | exact trivial | refine ⟨?_, ?_⟩))
    · show toksF s.length (gapS false s) (s.drop (gapS false s)) = _
      cases toksF s.length (gapS false s) (s.drop (gapS false s)) <;> simp
    · rintro ⟨k, f, acc⟩ ⟨hk', hf, ha, he⟩
      simp only at hk' hf ha he
      conv => whnf
      refine brec (fun h2 => ?_) (fun h2 => ?_)
      · simp only [decide_eq_false_iff_not] at h2
        have e1 : s.drop k = [] := by rw [List.drop_eq_nil_iff]; omega
        have e2 : toksF f k [] = some [] := by cases f <;> rfl
        rw [e1, e2] at he
        conv => whnf
        exact fin_ts (by simp [tokR1, h1, he]) (by simp [tokR2, h1, he])
      · simp only [decide_eq_true_eq] at h2
        obtain ⟨c, hc⟩ := get_of_lt (l := s) (k := k) (by omega)
        have hd := drop_get hc
        have hdl : (s.drop k).length = s.length - k := List.length_drop
        obtain ⟨n1, n2⟩ := firstT_len (s.drop k)
        have ic := c64 W0 s k hl (by omega)
        conv => whnf
        refine callP.pure _ ic ⟨rfl, rfl⟩ ?_
        conv => whnf
        refine brec (fun h3 => ?_) (fun h3 => ?_)
        · rw [Bool.not_eq_false'] at h3
          have n3 := n2 h3
          have hat : atR (s.drop k) k = k := by simp only [atR, first_kind h3, cond_false]
          have hkk : k + (firstT (s.drop k)).2.1.length ≤ s.length := by omega
          have gl := gapS_le false ((s.drop k).drop (firstT (s.drop k)).2.1.length)
          rw [List.length_drop, hdl] at gl
          have ic2 : Ctr Tryz.prog W0 63 [.sc (.s s), .sc (.i .i64 ((k : Int) + ((firstT (s.drop k)).2.1.length : Nat)))] [] (.sc (.i .i64 ((k + (firstT (s.drop k)).2.1.length + gapS false ((s.drop k).drop (firstT (s.drop k)).2.1.length) : Nat)))) [] := by
            have := c63 W0 s (k + (firstT (s.drop k)).2.1.length) hl hkk
            rw [← List.drop_drop, Int.natCast_add] at this
            exact this
          rw [hat]
          conv => whnf
          refine And.intro (by rw [toksD_length]; constructor <;> (simp only [List.length_cons, List.length_nil]; omega)) ?_
          conv => whnf
          refine And.intro (by constructor <;> omega) ?_
          conv => whnf
          refine callP.pure _ ic2 ⟨rfl, rfl⟩ ?_
          conv => whnf
          refine nxt (k + (firstT (s.drop k)).2.1.length + gapS false ((s.drop k).drop (firstT (s.drop k)).2.1.length), f - 1, acc ++ [((firstT (s.drop k)).1, (firstT (s.drop k)).2.1, (k : Int))]) ⟨by simp only; omega, by simp only; omega, by simp only; omega, by simp only [List.length_append, List.length_cons, List.length_nil]; omega, ?_⟩ ?_
          · simp only
            rw [he]
            cases f with
            | zero => omega
            | succ f =>
              rw [← List.drop_drop, ← List.drop_drop]
              have : s.drop k = c :: s.drop (k + 1) := hd
              rw [this] at h3 ⊢
              simp only [toksF, h3, cond_true, Nat.succ_sub_one]
              cases toksF f _ _ <;> simp
          · simp only [toksD_append]
            (apply le_tok (h1 := rfl); (case h3 => repeat' (first | exact rfl | exact trivial | refine ⟨?_, ?_⟩)); all_goals exact rfl)
        · rw [Bool.not_eq_true'] at h3
          have e3 : tokensP s = none := by
            rw [he]
            cases f with
            | zero => omega
            | succ f => rw [hd] at h3 ⊢; simp only [toksF, h3, cond_false]
          conv => whnf
          exact fin_ts (by simp [tokR1, h1, e3]; rfl) (by simp [tokR2, h1, e3])
  · conv => whnf
    exact fin_ts (by simp [tokR1, h1]; rfl) (by simp [tokR2, h1])
theorem c22 (W0 : Go.World) (s : S) (hl : s.length ≤ 140737488355328) : Ctr Tryz.prog W0 22 [.sc (.s s)] [] (toksA (tokR1 s) (tokR2 s)) [] :=
  ctr_body follows F22_ok rfl (fun _ _ h => by cases h) rfl (by rfl) (b22 W0 s hl)
end Go.Abs

set_option maxRecDepth 100000
namespace Go.Abs
open Go.Proofs
def F65 : Fn := ⟨.seq (.reg [⟨none, .box 1 (.t 0)⟩, ⟨none, .mv 2 (.c (.sc (.b false)))⟩]) (.seq (.seq (.reg [⟨none, .fa 5 (.t 1) 0⟩, ⟨none, .ld 6 1 false (.t 5)⟩]) (.block 0 (.seq (.reg [⟨none, .bin 8 .eql (.t 6) (.c (.sc (.s [110, 97, 109, 101])))⟩, ⟨none, .mv 7 (.t 8)⟩]) (.cond (.t 7) (.seq (.reg [⟨none, .fa 9 (.t 1) 1⟩, ⟨none, .ld 10 1 false (.t 9)⟩, ⟨none, .call (some 11) (.c (.fn 129 [])) [.t 10]⟩, ⟨none, .mv 2 (.t 11)⟩]) .ret) (.seq (.reg [⟨none, .bin 13 .eql (.t 6) (.c (.sc (.s [107, 101, 121])))⟩, ⟨none, .mv 12 (.t 13)⟩]) (.cond (.t 12) (.seq (.regD [⟨none, .call (some 14) (.c (.fn 131 [])) [.c (.sc (.s [32, 97, 110, 100, 32, 97, 114, 114, 97, 121, 32, 97, 116, 32, 97, 116, 111, 109, 105, 99, 32, 98, 101, 103, 105, 110, 32, 98, 108, 111, 99, 107, 32, 98, 108, 111, 99, 107, 115, 32, 98, 111, 111, 108, 32, 98, 121, 32, 99, 111, 98, 101, 103, 105, 110, 32, 99, 111, 102, 111, 114, 97, 108, 108, 32, 99, 111, 117, 110, 116, 32, 99, 121, 99, 108, 105, 99, 32, 100, 111, 32, 100, 111, 109, 97, 105, 110, 32, 101, 108, 115, 101, 32, 102, 97, 108, 115, 101, 32, 102, 105, 108, 108, 32, 102, 111, 108, 100, 32, 102, 111, 114, 32, 102, 111, 114, 97, 108, 108, 32, 103, 101, 116, 32, 103, 105, 118, 101, 32, 104, 97, 108, 116, 32, 104, 97, 115, 32, 104, 105, 103, 104, 32, 105, 102, 32, 105, 110, 32, 105, 110, 116, 32, 105, 115, 32, 108, 111, 119, 32, 109, 97, 120, 32, 109, 105, 110, 32, 110, 111, 110, 101, 32, 110, 116, 104, 32, 111, 110, 32, 111, 114, 100, 32, 111, 118, 101, 114, 32, 112, 114, 111, 99, 32, 114, 101, 97, 100, 32, 114, 101, 100, 117, 99, 101, 32, 114, 101, 115, 105, 122, 101, 32, 114, 101, 116, 117, 114, 110, 32, 115, 99, 97, 110, 32, 115, 101, 116, 32, 115, 105, 110, 103, 108, 101, 32, 115, 121, 110, 99, 32, 116, 111, 32, 116, 114, 117, 101, 32, 118, 97, 114, 32, 119, 104, 101, 114, 101, 32, 119, 104, 105, 108, 101, 32, 119, 104, 111, 108, 101, 32, 119, 105, 116, 104, 32, 119, 114, 105, 116, 101, 32, 122, 105, 112, 32, 97, 100, 100, 32]))]⟩, ⟨none, .fa 15 (.t 1) 1⟩, ⟨none, .ld 16 1 false (.t 15)⟩, ⟨none, .call (some 17) (.c (.fn 132 [])) [.t 14, .t 16]⟩, ⟨none, .mv 2 (.t 17)⟩] [0, 0, 2, 7, 15]) .ret) (.seq (.reg [⟨none, .bin 19 .eql (.t 6) (.c (.sc (.s [105, 110, 116])))⟩, ⟨none, .mv 18 (.t 19)⟩]) (.cond (.t 18) (.seq (.reg [⟨none, .fa 21 (.t 1) 1⟩, ⟨none, .ld 22 1 false (.t 21)⟩, ⟨none, .call (some 23) (.c (.fn 133 [])) [.t 22]⟩, ⟨none, .mv 20 (.t 23)⟩, ⟨none, .ext 24 (.t 20) 0⟩, ⟨none, .ext 25 (.t 20) 1⟩, ⟨none, .mv 3 (.t 24)⟩, ⟨none, .mv 4 (.t 25)⟩]) (.seq (.reg [⟨none, .mv 26 (.t 4)⟩, ⟨none, .bin 27 .eql (.t 26) (.c (.sc (.i .i64 0)))⟩, ⟨none, .mv 2 (.t 27)⟩]) .ret)) (.seq (.reg [⟨none, .bin 29 .eql (.t 6) (.c (.sc (.s [115, 105, 103, 110])))⟩, ⟨none, .mv 28 (.t 29)⟩]) (.cond (.t 28) (.seq (.regD [⟨none, .call (some 30) (.c (.fn 131 [])) [.c (.sc (.s [32, 60, 61, 32, 61, 61, 32, 46, 46, 32, 60, 45, 32, 40, 32, 41, 32, 91, 32, 93, 32, 123, 32, 125, 32, 44, 32, 59, 32, 58, 32, 61, 32, 43, 32, 45, 32, 42, 32, 47, 32, 37, 32, 60, 32, 38, 32, 124, 32, 33, 32]))]⟩, ⟨none, .fa 31 (.t 1) 1⟩, ⟨none, .ld 32 1 false (.t 31)⟩, ⟨none, .call (some 33) (.c (.fn 132 [])) [.t 30, .t 32]⟩, ⟨none, .mv 2 (.t 33)⟩] [0, 0, 2, 7, 15]) .ret) .skip)))))))))) (.seq (.reg [⟨none, .mv 2 (.c (.sc (.b false)))⟩]) .ret)), [(2, 0)], 34⟩
def F23 : Fn := ⟨.seq (.reg [⟨none, .mv 2 (.c (.sc (.s [])))⟩, ⟨none, .mv 3 (.c (.sc (.i .i64 0)))⟩]) (.seq (.reg [⟨none, .mv 4 (.c (.sc (.s [])))⟩]) (.seq (.seq (.reg [⟨none, .mv 5 (.c (.sc (.i .i64 0)))⟩]) (.block 0 (.loop (.seq (.seq (.reg [⟨none, .mv 6 (.t 5)⟩, ⟨none, .mv 7 (.t 0)⟩, ⟨none, .len 8 (.t 7)⟩, ⟨none, .bin 9 .lss (.t 6) (.t 8)⟩]) (.cond (.t 9) .skip (.exit 0))) (.seq (.block 1 (.seq (.seq (.reg [⟨none, .mv 12 (.t 0)⟩, ⟨none, .mv 13 (.t 5)⟩, ⟨none, .ia 14 3 (.t 12) (.t 13)⟩, ⟨none, .ld 15 3 true (.t 14)⟩, ⟨none, .call (some 16) (.c (.fn 65 [])) [.t 15]⟩, ⟨none, .no 17 (.t 16)⟩]) (.cond (.t 17) (.seq (.reg [⟨none, .mv 2 (.c (.sc (.s [])))⟩, ⟨none, .mv 3 (.c (.sc (.i .i64 3)))⟩]) .ret) .skip)) (.seq (.seq (.reg [⟨none, .mv 18 (.t 5)⟩, ⟨none, .bin 19 .gtr (.t 18) (.c (.sc (.i .i64 0)))⟩]) (.cond (.t 19) (.reg [⟨none, .mv 20 (.t 4)⟩, ⟨none, .bin 21 .add (.t 20) (.c (.sc (.s [32])))⟩, ⟨none, .mv 4 (.t 21)⟩]) .skip)) (.reg [⟨none, .mv 22 (.t 4)⟩, ⟨none, .mv 23 (.t 0)⟩, ⟨none, .mv 24 (.t 5)⟩, ⟨none, .ia 25 3 (.t 23) (.t 24)⟩, ⟨none, .fa 26 (.t 25) 1⟩, ⟨none, .ld 27 1 false (.t 26)⟩, ⟨none, .bin 28 .add (.t 22) (.t 27)⟩, ⟨none, .mv 4 (.t 28)⟩])))) (.reg [⟨none, .mv 10 (.t 5)⟩, ⟨none, .bin 11 .add (.t 10) (.c (.sc (.i .i64 1)))⟩, ⟨none, .mv 5 (.t 11)⟩])))))) (.seq (.reg [⟨none, .mv 29 (.t 4)⟩, ⟨none, .mv 2 (.t 29)⟩, ⟨none, .mv 3 (.c (.sc (.i .i64 0)))⟩]) .ret))), [(2, 0), (3, 0)], 30⟩
theorem F65_ok : compT Tryz.prog (fun _ => an0) 65 = some F65 := by kernel_rfl
theorem F23_ok : compT Tryz.prog (fun _ => an0) 23 = some F23 := by kernel_rfl
def vT (k t : S) : Bool := bif beqL k [110, 97, 109, 101] then nameR t else bif beqL k [107, 101, 121] then hasB t keyList else bif beqL k [105, 110, 116] then decide (numC t = 0) else bif beqL k [115, 105, 103, 110] then hasB t signList else false
set_option maxHeartbeats 4000000 in
theorem b65 (W0 : Go.World) (k t : S) (a : Int) (hl : t.length ≤ 140737488355328) : Body (Ctr Tryz.prog W0) F65.ac F65.rs [.agg [.sc (.s k), .sc (.s t), .sc (.i .i64 a)]] [] (.sc (.b (vT k t))) [] := by
  repeat' ((conv => whnf); (first | with_reducible refine brec (fun _ => ?_) (fun _ => ?_) | (refine callP.pure _ (c129 W0 t hl) ⟨rfl, rfl⟩ ?_) | (refine callP.pure _ (c131 W0) ⟨rfl, rfl⟩ ?_) | (refine callP.pure _ (c131s W0) ⟨rfl, rfl⟩ ?_) | (refine callP.pure _ (c132 W0 keyList t (by decide)) ⟨rfl, rfl⟩ ?_) | (refine callP.pure _ (c132 W0 signList t (by decide)) ⟨rfl, rfl⟩ ?_) | (refine callP.pure _ (c133 W0 t hl) ⟨rfl, rfl⟩ ?_) | fail))
  all_goals ((conv => whnf); refine fin_b ?_)
  all_goals (first | (simp_all [vT]; done))
theorem c65 (W0 : Go.World) (k t : S) (a : Int) (hl : t.length ≤ 140737488355328) : Ctr Tryz.prog W0 65 [.agg [.sc (.s k), .sc (.s t), .sc (.i .i64 a)]] [] (.sc (.b (vT k t))) [] :=
  ctr_body follows F65_ok rfl (fun _ _ h => by cases h) rfl (by rfl) (b65 W0 k t a hl)
theorem join_merge (a w : S) (r : List S) : Go.Lib.join (a :: w :: r) [32] = Go.Lib.join ((a ++ 32 :: w) :: r) [32] := by
  cases r with
  | nil => rw [join_two, join_one, join_one]
  | cons x r => rw [join_two, join_two, join_two]; simp
theorem join_head (a : S) (r : List S) : a.length ≤ (Go.Lib.join (a :: r) [32]).length := by
  cases r with
  | nil => rw [join_one]; exact Nat.le_refl _
  | cons x r => rw [join_two]; simp
def txts (l : List T) : List S := l.map fun t => t.2.1
set_option maxHeartbeats 8000000 in
theorem b23 (W0 : Go.World) (l : List T) (hl : l.length ≤ 549755813888) (hv : ∀ t ∈ l, vT t.1 t.2.1 = true) (hb : (Go.Lib.join (txts l) [32]).length ≤ 140737488355328) : Body (Ctr Tryz.prog W0) F23.ac F23.rs [.sl 3 (toksD l) .none] [] (.tup [.sc (.s (Go.Lib.join (txts l) [32])), .sc (.i .i64 0)]) [] := by
  conv => whnf
  refine .st (α := Nat × S) 9000 (fun a => l.length - a.1) (fun a => [(.s 0, .av (.sl 3 (toksD l) .none)), (.s 4, .av (.sc (.s a.2))), (.s 5, .av (.sc (.i .i64 (a.1 : Nat))))])
    (fun a => a.1 ≤ l.length ∧ ((a.1 = 0 ∧ a.2 = []) ∨ (1 ≤ a.1 ∧ Go.Lib.join (txts l) [32] = Go.Lib.join (a.2 :: (txts l).drop a.1) [32]))) (0, []) ?_ ⟨Nat.zero_le _, .inl ⟨rfl, rfl⟩⟩ ?_
  · (refine le_of rfl rfl ?_; repeat' (first | exact rfl | exact trivial | refine ⟨?_, ?_⟩))
  · rintro ⟨k, acc⟩ ⟨hk, he⟩
    simp only at hk he
    conv => whnf
    refine brec (fun h1 => ?_) (fun h1 => ?_)
    · have h1' : l.length ≤ k := by simp [toksD_length] at h1; omega
      have hr : Go.Lib.join (txts l) [32] = acc := by
        rcases he with ⟨e1, e2⟩ | ⟨_, e⟩
        · have : l = [] := List.eq_nil_of_length_eq_zero (by omega)
          subst this; subst e2; rfl
        · rw [e, List.drop_eq_nil_iff.2 (by simp [txts]; omega), join_one]
      rw [hr]
      conv => whnf
      exact fin0 rfl ⟨rfl, rfl, trivial⟩ rfl
    · have h1' : k < l.length := by simp [toksD_length] at h1; omega
      obtain ⟨⟨kd, tx, p⟩, hx⟩ := get_of_lt h1'
      have hxd := toksD_get hx
      have hm := List.mem_of_getElem? hx
      have hvt := hv _ hm
      simp only at hvt
      have htx : (txts l)[k]? = some tx := by simp [txts, hx]
      have hd := drop_get htx
      have hlen : tx.length ≤ 140737488355328 ∧ (1 ≤ k → acc.length + 1 + tx.length ≤ 140737488355328) := by
        rcases he with ⟨e1, e2⟩ | ⟨e1, e⟩
        · subst e1
          rw [List.drop_zero] at hd
          have := join_head tx ((txts l).drop (0 + 1))
          rw [← hd] at this
          exact ⟨by omega, fun h => absurd h (by omega)⟩
        · rw [hd, join_merge] at e
          have := join_head (acc ++ 32 :: tx) ((txts l).drop (k + 1))
          rw [← e] at this
          simp only [List.length_append, List.length_cons] at this
          exact ⟨by omega, fun _ => by omega⟩
      have ic := c65 W0 kd tx p hlen.1
      rw [hvt] at ic
      conv => whnf
      refine ⟨_, ⟨Int.natCast_nonneg _, hxd⟩, ?_⟩
      conv => whnf
      refine callP.pure _ ic ⟨rfl, rfl⟩ ?_
      conv => whnf
      refine brec (fun h2 => ?_) (fun h2 => ?_)
      · have k0 : k = 0 := by simp at h2; omega
        subst k0
        rcases he with ⟨_, e2⟩ | ⟨e1, _⟩
        · subst e2
          conv => whnf
          refine ⟨_, ⟨Int.natCast_nonneg _, hxd⟩, ?_⟩
          conv => whnf
          refine And.intro (by simp only [List.length_nil]; omega) ?_
          conv => whnf
          refine And.intro (by constructor <;> omega) ?_
          conv => whnf
          refine nxt (0 + 1, tx) ⟨by simp only; omega, by simp only; omega, .inr ⟨Nat.le_refl 1, by rw [← hd, List.drop_zero]⟩⟩ ?_
          (refine le_of rfl rfl ?_; repeat' (first | exact rfl | exact trivial | refine ⟨?_, ?_⟩))
        · omega
      · have k1 : 1 ≤ k := by simp at h2; omega
        rcases he with ⟨e1, _⟩ | ⟨_, e⟩
        · omega
        · have hl2 := hlen.2 k1
          conv => whnf
          refine And.intro (by simp only [List.length_cons, List.length_nil]; omega) ?_
          conv => whnf
          refine ⟨_, ⟨Int.natCast_nonneg _, hxd⟩, ?_⟩
          conv => whnf
          refine And.intro (by simp only [List.length_append, List.length_cons, List.length_nil]; omega) ?_
          conv => whnf
          refine And.intro (by constructor <;> omega) ?_
          conv => whnf
          refine nxt (k + 1, acc ++ [32] ++ tx) ⟨by simp only; omega, by simp only; omega, .inr ⟨by simp only; omega, by rw [e, hd, join_merge]; simp⟩⟩ ?_
          (refine le_of rfl rfl ?_; repeat' (first | exact rfl | exact trivial | refine ⟨?_, ?_⟩))
theorem c23 (W0 : Go.World) (l : List T) (hl : l.length ≤ 549755813888) (hv : ∀ t ∈ l, vT t.1 t.2.1 = true) (hb : (Go.Lib.join (txts l) [32]).length ≤ 140737488355328) : Ctr Tryz.prog W0 23 [.sl 3 (toksD l) .none] [] (.tup [.sc (.s (Go.Lib.join (txts l) [32])), .sc (.i .i64 0)]) [] :=
  ctr_body follows F23_ok rfl (fun _ _ h => by cases h) rfl (by rfl) (b23 W0 l hl hv hb)
end Go.Abs
