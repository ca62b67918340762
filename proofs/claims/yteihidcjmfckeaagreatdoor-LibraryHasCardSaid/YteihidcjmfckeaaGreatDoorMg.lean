/- Lists of words one behind the other: Grow, Concat, around; the reference's w, join. -/
import Derived.Test.YteihidcjmfckeaaGreatDoorMe
import Derived.Test.YteihidcjmfckeaaGreatDoorMf
import Derived.KernelRfl
import Derived.Test.YteihidcjmfckeaaGreatDoorMq
import Derived.Test.YteihidcjmfckeaaGreatDoorProg
set_option linter.all false
set_option maxRecDepth 1000000
set_option maxHeartbeats 16000000
namespace Go.Abs
open Go.Proofs
theorem le_tok {σ σ' : Log} {N : Nat} (k : Nat) (h1 : Nat.ble 1000 N = true) (h2 : bJ N σ' = true) (h4 : (cq σ').all (fun j => !([k] : List Nat).contains j) = true) (h5 : bm [k] = true) (h3 : leP [(9000, k)] σ σ') : Le σ N σ' := ⟨[(9000, k)], ⟨h5, h4, h1, h2⟩, h3⟩
end Go.Abs
namespace Go.Abs
open Go.Proofs
open K in
def F171 : Fn := ⟨.seq (.reg [n (mi 2 0)]) (.seq (.reg [n (mi 3 0)]) (.seq (.block 0 (.loop (.seq (.seq (.reg [m 5 3, m 6 0, n (.lenS 7 (.t 6)), n (b2 8 .lss 5 7)]) (.cond (.t 8) .skip (.exit 0))) (.block 1 (.block 2 (.seq (.reg [m 11 0, m 12 3, n (.ix 13 (.t 11) (.t 12)), n (.bin 14 .eql (.t 13) (.c (.sc (.i .u8 32)))), m 15 14, gm 15 16 0, gm 15 17 3, g 15 (.ix 18 (.t 16) (.t 17)), g 15 (.bin 19 .eql (.t 18) (.c (.sc (.i .u8 9)))), n (pt 20 15 19), m 21 20, gm 21 22 0, gm 21 23 3, g 21 (.ix 24 (.t 22) (.t 23)), g 21 (.bin 25 .eql (.t 24) (.c (.sc (.i .u8 10)))), n (pt 26 21 25), m 10 26]) (.cond (.t 10) (.reg [m 27 3, n (bi 28 .add 27 1), m 3 28]) (.seq (.reg [m 30 0, m 31 3, n (.slS 32 (.t 30) (some (.t 31)) none), n (cf 33 225 [.t 32, .c (.sc (.s [47, 47]))]), m 29 33]) (.cond (.t 29) (.seq (.reg [m 34 0, m 35 3, n (.slS 36 (.t 34) (some (.t 35)) none), n (cf 37 226 [.t 36, .c (.sc (.i .u8 10))]), m 4 37]) (.seq (.seq (.reg [m 38 4, n (bi 39 .lss 38 0)]) (.cond (.t 39) (.seq (.reg [m 40 0, n (.lenS 41 (.t 40)), m 2 41]) .ret) .skip)) (.reg [m 42 3, m 43 4, n (b2 44 .add 42 43), m 3 44]))) (.seq (.reg [m 9 3, m 2 9]) .ret)))))))))) (.seq (.reg [m 45 3, m 2 45]) .ret))), [(2, 0)], 46, []⟩
theorem F171_ok : ab Tryz.prog (fun _ => an0) 167 = some F171 := by kernel_rfl
theorem ixb_ctr (W0 : Go.World) (s : S) (c : UInt8) : Ctr Tryz.prog W0 226 [.sc (.s s), .sc (.i .u8 c.toNat)] [] (.sc (.i .i64 (Go.Lib.indexByte s c))) [] := by
 refine dn (by kernel_rfl) rfl fun κ w vals hsz hs => ?_
 have h0 := (hs.arg (n := 0) rfl).sc_inv
 have h1 := (hs.arg (n := 1) rfl).sc_inv
 rw [jx hsz, h0, h1]
 refine (Tryz.strings_IndexByte ⟨s.toArray⟩ c.toNat w).mono ?_
 rintro e w' ⟨rfl, rfl⟩
 refine ⟨_, rfl, Go.RowKit.Below.refl _ _, ?_⟩
 simp only [Int.toNat_natCast, Nat.toUInt8_eq, UInt8.ofNat_toNat]
 exact .sc (.i .i64 _)
def wsB (c : UInt8) : Bool := decide ((c.toNat : Int) = 32) || (decide ((c.toNat : Int) = 9) || decide ((c.toNat : Int) = 10))
def b8 : Bool → S → Nat
 | _, [] => 0
 | true, c :: r => bif decide ((c.toNat : Int) = 10) then b8 false r + 1 else b8 true r + 1
 | false, c :: r => bif wsB c then b8 false r + 1 else bif dY (c :: r) [47, 47] then b8 true r + 1 else 0
theorem ga : ∀ (b : Bool) (s : S), b8 b s ≤ s.length
 | _, [] => by simp [b8]
 | true, c :: r => by
   have := ga true r; have := ga false r
   simp only [b8, List.length_cons]
   cases decide ((c.toNat : Int) = 10) <;> simp only [cond_true, cond_false] <;> omega
 | false, c :: r => by
   have := ga true r; have := ga false r
   simp only [b8, List.length_cons]
   cases wsB c <;> cases dY (c :: r) [47, 47] <;> simp only [cond_true, cond_false] <;> omega
theorem ten (c : UInt8) : (c == 10) = decide ((c.toNat : Int) = 10) := by
 rw [Bool.eq_iff_iff]; simp only [beq_iff_eq, decide_eq_true_eq]
 constructor
 ·rintro rfl; rfl
 ·intro h; exact UInt8.toNat_inj.1 (by simp; omega)
theorem gapS_ix : ∀ (s : S), (Go.Lib.indexByte s 10 = -1 ∧ b8 true s = s.length) ∨ ∃ k : Nat, Go.Lib.indexByte s 10 = k ∧ k < s.length ∧ b8 true s = k + b8 false (s.drop k)
 | [] => by simp [Go.Lib.indexByte, b8]
 | c :: r => by
   simp only [Go.Lib.indexByte, b8, ten]
   cases hc : decide ((c.toNat : Int) = 10) with
   | true =>
     refine .inr ⟨0, by simp, by simp, ?_⟩
     have : wsB c = true := by simp [wsB] at hc ⊢; omega
     simp [b8, this]
   | false =>
     rcases gapS_ix r with ⟨h1, h2⟩ | ⟨k, h1, h2, h3⟩
     ·exact .inl ⟨by simp [h1], by simp [h2]⟩
     ·refine .inr ⟨k + 1, ?_, by simpa using h2, ?_⟩
      ·have : ¬ ((k : Int) = -1) := by omega
       simp [h1, this]
      ·simp [h3]; omega
theorem ix0 {c : UInt8} {r : S} (h : Go.Lib.indexByte (c :: r) 10 = 0) : decide ((c.toNat : Int) = 10) = true := by
 have g := Go.Lib.indexByte_ge r 10
 simp only [Go.Lib.indexByte, ten] at h
 cases hc : decide ((c.toNat : Int) = 10) with
 | true => rfl
 | false =>
   rw [hc] at h
   simp only [Bool.false_eq_true, if_false] at h
   by_cases h1 : Go.Lib.indexByte r 10 = -1
   ·simp [h1] at h
   ·have : ¬ (Go.Lib.indexByte r 10 == -1) = true := by simpa using h1
    rw [if_neg this] at h; omega
theorem gapS_com {c : UInt8} {r : S} (hw : wsB c = false) (hp : dY (c :: r) [47, 47] = true) : b8 false (c :: r) = b8 true (c :: r) := by
 have h10 : decide ((c.toNat : Int) = 10) = false := by simp [wsB] at hw ⊢; omega
 simp only [b8, hw, hp, h10, cond_true, cond_false]
theorem b171 (W0 : Go.World) (s : S) (hl : s.length ≤ 140737488355328) : be (Ctr Tryz.prog W0) F171.ac F171.rs [.sc (.s s)] [] (.sc (.i .i64 (b8 false s))) [] := by
 conv => whnf
 refine .st 2000 (fun k => s.length - k) (fun k => [(.s 0, .av (.sc (.s s))), (.s 3, .av (.sc (.i .i64 (k : Nat))))])
  (fun k => k ≤ s.length ∧ b8 false s = k + b8 false (s.drop k)) 0 ?_ ⟨by simp, by simp⟩ ?_
 ·(refine aX rfl rfl ?_; repeat' (first | exact rfl | exact trivial | refine ⟨?_, ?_⟩))
 ·rintro k ⟨hk, he⟩
  conv => whnf
  refine aH (fun h2 => ?_) (fun h2 => ?_)
  ·simp only [decide_eq_false_iff_not] at h2
   have e1 : s.drop k = [] := by rw [List.drop_eq_nil_iff]; omega
   rw [e1] at he
   conv => whnf
   refine dF ?_
   simp only [b8] at he; omega
  ·simp only [decide_eq_true_eq] at h2
   obtain ⟨c, hc⟩ := aN (l := s) (k := k) (by omega)
   have hd := bc hc
   have hdl : (s.drop k).length = s.length - k := List.length_drop
   have hsl : (List.drop ((k : Int).toNat) s).take (((s.length : Nat) : Int).toNat - (k : Int).toNat) = s.drop k := by
    simp only [Int.toNat_natCast]; rw [List.take_of_length_le (by omega)]
   conv => whnf
   refine ⟨c, ⟨Int.natCast_nonneg _, hc⟩, ?_⟩
   repeat' ((conv => whnf); (first | with_reducible refine aH (fun _ => ?_) (fun _ => ?_) | (refine callP.pure _ ((by rw [hsl]; exact c214 W0 (s.drop k) [47, 47])) ⟨rfl, rfl⟩ ?_) | (refine ⟨c, ⟨Int.natCast_nonneg _, hc⟩, ?_⟩) | (refine And.intro ⟨Int.natCast_nonneg _, by omega, Int.le_refl _⟩ ?_) | fail))
   all_goals rw [hd] at he hsl
   all_goals first
    | (refine dF ?_
       have hw : wsB c = false := by simp_all [wsB]
       have hp : dY (c :: s.drop (k + 1)) [47, 47] = false := by simpa [hd] using ‹dY (s.drop k) [47, 47] = false›
       simp only [b8, hw, hp, cond_false] at he; omega)
    | (refine And.intro (by constructor <;> omega) ?_
       conv => whnf
       have hw : wsB c = true := by simp_all [wsB]
       simp only [b8, hw, cond_true] at he
       refine nxt (k + 1) ⟨by omega, by omega, by omega⟩ ?_
       (refine aX rfl rfl ?_; repeat' (first | exact rfl | exact trivial | refine ⟨?_, ?_⟩)))
    | skip
   have hw : wsB c = false := by simp_all [wsB]
   have hp : dY (c :: s.drop (k + 1)) [47, 47] = true := by simpa [hd] using ‹dY (s.drop k) [47, 47] = true›
   rw [gapS_com hw hp, ← hd] at he
   rw [← hd] at hsl
   have ic : Ctr Tryz.prog W0 226 [.sc (.s ((List.drop ((k : Int).toNat) s).take (((s.length : Nat) : Int).toNat - (k : Int).toNat))), .sc (.i .u8 10)] [] (.sc (.i .i64 (Go.Lib.indexByte (s.drop k) 10))) [] := by
    rw [hsl]; exact ixb_ctr W0 (s.drop k) 10
   refine callP.pure _ ic ⟨rfl, rfl⟩ ?_
   rcases gapS_ix (s.drop k) with ⟨g1, g2⟩ | ⟨m, g1, g2, g3⟩
   ·rw [g1]
    conv => whnf
    refine dF ?_
    omega
   ·rw [g1]
    conv => whnf
    refine And.intro (by constructor <;> omega) ?_
    conv => whnf
    have hm : 0 < m := by
     rcases Nat.eq_zero_or_pos m with h | h
     ·rw [h, hd] at g1
      have := ix0 g1
      simp [wsB, this] at hw
     ·exact h
    rw [List.drop_drop] at g3
    refine nxt (k + m) ⟨by omega, by omega, by omega⟩ ?_
    (refine aX rfl rfl ?_; repeat' (first | exact rfl | exact trivial | refine ⟨?_, ?_⟩))
theorem c171 (W0 : Go.World) (s : S) (hl : s.length ≤ 140737488355328) : Ctr Tryz.prog W0 167 [.sc (.s s)] [] (.sc (.i .i64 (b8 false s))) [] :=
 ah follows F171_ok rfl (fun _ _ h => by cases h) rfl rfl (b171 W0 s hl)
abbrev T := S × S × Int
def tokD (t : T) : List Data := [.sc (.s t.1), .sc (.s t.2.1), .sc (.i .i64 t.2.2)]
def cm (l : List T) : List (List Data) := l.map tokD
theorem bM (l : List T) : (cm l).length = l.length := by simp [cm]
theorem pw (a b : List T) : cm (a ++ b) = cm a ++ cm b := by simp [cm]
theorem mO {l : List T} {i : Nat} {t : T} (h : l[i]? = some t) : (cm l)[i]? = some (tokD t) := by simp [cm, h]
def hU : Nat → Nat → S → Option (List T)
 | 0, _, _ => some []
 | _ + 1, _, [] => some []
 | f + 1, a, c :: r => bif (aC (c :: r)).2.2 then
     (match hU f (a + (aC (c :: r)).2.1.length + b8 false ((c :: r).drop (aC (c :: r)).2.1.length)) (((c :: r).drop (aC (c :: r)).2.1.length).drop (b8 false ((c :: r).drop (aC (c :: r)).2.1.length))) with
      | some l => some (((aC (c :: r)).1, (aC (c :: r)).2.1, (a : Int)) :: l)
      | none => none)
   else none
def j9 (s : S) : Option (List T) := hU s.length (b8 false s) (s.drop (b8 false s))
theorem preB_len {s p : S} (h : dY s p = true) : p.length ≤ s.length := by
 simp only [dY, Bool.and_eq_true, decide_eq_true_eq] at h; exact h.1
theorem jz : ∀ {l : List S} {s x : S}, eH s l = some x → x ∈ l ∧ dY s x = true
 | [], _, _, h => by simp [eH] at h
 | y :: r, s, x, h => by
   simp only [eH] at h
   split at h
   ·rename_i hp; cases h; exact ⟨by simp, hp⟩
   ·have := jz h; exact ⟨by simp [this.1], this.2⟩
theorem signList_ne : ∀ x ∈ signList, 1 ≤ x.length := by decide
theorem firstT_len (s : S) : (aC s).2.1.length ≤ s.length ∧ ((aC s).2.2 = true → 1 ≤ (aC s).2.1.length) := by
 have hw := wordN_le s
 have hd : gn s ≤ s.length := by
  unfold gn
  split
  ·rename_i h; simp [dY] at h; omega
  ·exact iP s
 unfold aC
 split
 ·rename_i n e; rw [e] at hw; simp [List.length_take]; omega
 ·split
  ·rename_i n e; rw [e] at hd; simp [List.length_take]; omega
  ·split
   ·rename_i x e
    obtain ⟨h1, h2⟩ := jz e
    have := preB_len h2
    have := signList_ne _ h1
    simp; omega
   ·simp
open K in
def F107 : Fn := ⟨.seq (.reg [n (.mv 2 (.c (.sl 3 [] .full))), n (mi 3 0)]) (.seq (.seq (.reg [m 8 0, n (.lenS 9 (.t 8)), n (bi 10 .gtr 9 10000)]) (.cond (.t 10) (.seq (.reg [n (.mv 2 (.c (.sl 3 [] .full))), n (mi 3 4)]) .ret) .skip)) (.seq (.reg [n (.mv 4 (.c (.sl 3 [] .full)))]) (.seq (.seq (.reg [m 11 0, n (cf 12 167 [.t 11]), m 5 12]) (.block 0 (.loop (.seq (.seq (.reg [m 13 5, m 14 0, n (.lenS 15 (.t 14)), n (b2 16 .lss 13 15)]) (.cond (.t 16) .skip (.exit 0))) (.seq (.block 1 (.seq (.reg [m 24 0, m 25 5, n (.slS 26 (.t 24) (some (.t 25)) none), n (cf 27 168 [.t 26]), m 23 27, n (ext 28 23 0), n (ext 29 23 1), n (.alloc 6 [.sc (.s []), .sc (.s []), .sc (.i .i64 0)]), n (.st (.t 6) 3 (.t 28)), m 7 29]) (.seq (.seq (.reg [m 30 7, n (.no 31 (.t 30))]) (.cond (.t 31) (.seq (.reg [n (.mv 2 (.c (.sl 3 [] .full))), n (mi 3 10)]) .ret) .skip)) (.seq (.reg [m 32 5, n (fa 33 6 2), n (.st (.t 33) 1 (.t 32))]) (.seq (.reg [m 34 4, n (.ld 35 3 true (.t 6)), n (.bsl 36 3 [.t 35]), n (.app 37 3 40 (.t 34) (.t 36)), m 4 37]) (.reg [m 38 5, n (fa 39 6 1), n (ld 40 39), n (.lenS 41 (.t 40)), n (b2 42 .add 38 41), m 5 42])))))) (.reg [m 17 5, m 18 0, m 19 5, n (.slS 20 (.t 18) (some (.t 19)) none), n (cf 21 167 [.t 20]), n (b2 22 .add 17 21), m 5 22])))))) (.seq (.reg [m 43 4, m 2 43, n (mi 3 0)]) .ret)))), [(2, 0), (3, 0)], 44, []⟩
theorem F107_ok : ab Tryz.prog (fun _ => an0) 105 = some F107 := by kernel_rfl
def ig (s : S) : List T := bif decide ((s.length : Int) > 10000) then [] else (j9 s).getD []
def ib (s : S) : Int := bif decide ((s.length : Int) > 10000) then 4 else match j9 s with | some _ => 0 | none => 10
def toksA (l : List T) (e : Int) : AV := .tup [.sl 3 (cm l) .none, .sc (.i .i64 e)]
theorem fin_ts {σ : Log} {l l' : List (List Data)} {e e' : Int} {t : Tok} (h1 : l = l') (h2 : e = e') : FinOK σ (.tup [.sl 3 l t, .sc (.i .i64 e)]) 0 0 (.tup [.sl 3 l' .none, .sc (.i .i64 e')]) [] := by
 subst h1; subst h2; exact ⟨⟨[], [], ⟨rfl, rfl, rfl, rfl⟩, ⟨⟨rfl, rfl, .inl rfl⟩, rfl, trivial⟩, trivial, trivial⟩⟩
theorem b107 (W0 : Go.World) (hk : Wk W0) (s : S) (hl : s.length ≤ 140737488355328) : be (Ctr Tryz.prog W0) F107.ac F107.rs [.sc (.s s)] [] (toksA (ig s) (ib s)) [] := by
 conv => whnf
 refine aH (fun h1 => ?_) (fun h1 => ?_)
 ·conv => whnf
  refine callP.pure _ (c171 W0 s hl) ⟨rfl, rfl⟩ ?_
  conv => whnf
  have g0 := ga false s
  have hs10 : s.length ≤ 10000 := by simp only [decide_eq_false_iff_not] at h1; omega
  refine .st (α := Nat × Nat × List T) 10000 (fun a => s.length - a.1) (fun a => [(.s 0, .av (.sc (.s s))), (.s 5, .av (.sc (.i .i64 (a.1 : Nat)))), (.s 4, .av (.sl 3 (cm a.2.2) (.t 9000))), (.t 9000, .tk true)])
   (fun a => a.1 ≤ s.length ∧ s.length - a.1 ≤ a.2.1 ∧ a.2.2.length ≤ a.1 ∧ j9 s = (match hU a.2.1 a.1 (s.drop a.1) with | some l => some (a.2.2 ++ l) | none => none)) (b8 false s, s.length, []) ?_ ⟨g0, by simp, by simp, ?_⟩ ?_
  ·(refine aX rfl rfl ?_; repeat' (first | exact rfl | exact trivial | refine ⟨?_, ?_⟩))
  ·show hU s.length (b8 false s) (s.drop (b8 false s)) = _
   cases hU s.length (b8 false s) (s.drop (b8 false s)) <;> simp
  ·rintro ⟨k, f, acc⟩ ⟨hk', hf, ha, he⟩
   simp only at hk' hf ha he
   conv => whnf
   refine aH (fun h2 => ?_) (fun h2 => ?_)
   ·simp only [decide_eq_false_iff_not] at h2
    have e1 : s.drop k = [] := by rw [List.drop_eq_nil_iff]; omega
    have e2 : hU f k [] = some [] := by cases f <;> rfl
    rw [e1, e2] at he
    conv => whnf
    exact fin_ts (by simp [ig, h1, he]) (by simp [ib, h1, he])
   ·simp only [decide_eq_true_eq] at h2
    obtain ⟨c, hc⟩ := aN (l := s) (k := k) (by omega)
    have hd := bc hc
    have hdl : (s.drop k).length = s.length - k := List.length_drop
    have hsl : (List.drop ((k : Int).toNat) s).take (((s.length : Nat) : Int).toNat - (k : Int).toNat) = s.drop k := by
     simp only [Int.toNat_natCast]; rw [List.take_of_length_le (by omega)]
    obtain ⟨n1, n2⟩ := firstT_len (s.drop k)
    have ic : Ctr Tryz.prog W0 168 [.sc (.s ((List.drop ((k : Int).toNat) s).take (((s.length : Nat) : Int).toNat - (k : Int).toNat)))] [] (tokA (aC (s.drop k)).1 (aC (s.drop k)).2.1 0 (aC (s.drop k)).2.2) [] := by
     rw [hsl]; exact c172 W0 hk (s.drop k) (by omega)
    conv => whnf
    refine And.intro ⟨Int.natCast_nonneg _, by omega, Int.le_refl _⟩ ?_
    conv => whnf
    refine callP.pure _ ic ⟨rfl, rfl⟩ ?_
    conv => whnf
    refine aH (fun h3 => ?_) (fun h3 => ?_)
    ·rw [Bool.not_eq_false'] at h3
     have n3 := n2 h3
     have hkk : k + (aC (s.drop k)).2.1.length ≤ s.length := by omega
     have gl := ga false ((s.drop k).drop (aC (s.drop k)).2.1.length)
     have hsl2 : (List.drop (((k : Int) + ((aC (s.drop k)).2.1.length : Nat)).toNat) s).take (((s.length : Nat) : Int).toNat - ((k : Int) + ((aC (s.drop k)).2.1.length : Nat)).toNat) = (s.drop k).drop (aC (s.drop k)).2.1.length := by
      rw [← Int.natCast_add]
      simp only [Int.toNat_natCast]; rw [List.take_of_length_le (by rw [List.length_drop]; omega), List.drop_drop]
     have ic2 : Ctr Tryz.prog W0 167 [.sc (.s ((List.drop (((k : Int) + ((aC (s.drop k)).2.1.length : Nat)).toNat) s).take (((s.length : Nat) : Int).toNat - ((k : Int) + ((aC (s.drop k)).2.1.length : Nat)).toNat)))] [] (.sc (.i .i64 (b8 false ((s.drop k).drop (aC (s.drop k)).2.1.length)))) [] := by
      rw [hsl2]; exact c171 W0 _ (by simp only [List.length_drop]; omega)
     rw [List.length_drop, hdl] at gl
     conv => whnf
     refine And.intro (by rw [bM]; constructor <;> (simp only [List.length_cons, List.length_nil]; omega)) ?_
     conv => whnf
     refine And.intro (by constructor <;> omega) ?_
     conv => whnf
     refine And.intro ⟨by omega, by omega, Int.le_refl _⟩ ?_
     conv => whnf
     refine callP.pure _ ic2 ⟨rfl, rfl⟩ ?_
     conv => whnf
     refine And.intro (by constructor <;> omega) ?_
     conv => whnf
     refine nxt (k + (aC (s.drop k)).2.1.length + b8 false ((s.drop k).drop (aC (s.drop k)).2.1.length), f - 1, acc ++ [((aC (s.drop k)).1, (aC (s.drop k)).2.1, (k : Int))]) ⟨by simp only; omega, by simp only; omega, by simp only; omega, by simp only [List.length_append, List.length_cons, List.length_nil]; omega, ?_⟩ ?_
     ·simp only
      rw [he]
      cases f with
      | zero => omega
      | succ f =>
        rw [← List.drop_drop, ← List.drop_drop]
        have : s.drop k = c :: s.drop (k + 1) := hd
        rw [this] at h3 ⊢
        simp only [hU, h3, cond_true, Nat.succ_sub_one]
        cases hU f _ _ <;> simp
     ·simp only [pw]
      (apply le_tok (h1 := rfl); (case h3 => repeat' (first | exact rfl | exact trivial | refine ⟨?_, ?_⟩)); all_goals exact rfl)
    ·rw [Bool.not_eq_true'] at h3
     have e3 : j9 s = none := by
      rw [he]
      cases f with
      | zero => omega
      | succ f => rw [hd] at h3 ⊢; simp only [hU, h3, cond_false]
     conv => whnf
     exact fin_ts (by simp [ig, h1, e3]; rfl) (by simp [ib, h1, e3])
 ·conv => whnf
  exact fin_ts (by simp [ig, h1]; rfl) (by simp [ib, h1])
theorem c107 (W0 : Go.World) (hk : Wk W0) (s : S) (hl : s.length ≤ 140737488355328) : Ctr Tryz.prog W0 105 [.sc (.s s)] [] (toksA (ig s) (ib s)) [] :=
 ah follows F107_ok rfl (fun _ _ h => by cases h) rfl rfl (b107 W0 hk s hl)
end Go.Abs
namespace Go.Abs
open Go.Proofs
open K in
def F108 : Fn := ⟨.seq (.reg [n (.alloc 2 [.sc (.s []), .sc (.s []), .sc (.i .i64 0)])]) (.seq (.seq (.regD [m 3 0, n (.nc 4 (.t 3)), n (fa 5 4 2), n (ld 6 5), m 7 6, gm 7 8 0, g 7 (.nc 9 (.t 8)), g 7 (fa 10 9 1), g 7 (ld 11 10), gm 7 12 0, g 7 (.nc 13 (.t 12)), g 7 (fa 14 13 0), g 7 (ld 15 14), g 7 (.len 16 (.t 15)), g 7 (b2 17 .geq 11 16), n (pt 18 7 17)] [0, 1, 3, 7, 15, 31, 63, 127, 255, 31, 543, 1567, 3615, 7711, 16383, 32767]) (.cond (.t 18) (.seq (.reg [n (.build 19 [.sc (.s []), .sc (.s []), .sc (.i .i64 0)] []), n (.st (.t 2) 3 (.t 19))]) .ret) .skip)) (.seq (.regD [m 20 0, n (.nc 21 (.t 20)), n (fa 22 21 0), n (ld 23 22), m 24 0, n (.nc 25 (.t 24)), n (fa 26 25 1), n (ld 27 26), n (ix 28 3 23 27), n (.ld 29 3 true (.t 28)), n (.st (.t 2) 3 (.t 29))] [0, 1, 3, 7, 0, 16, 48, 112, 255, 511, 1023]) .ret)), [(2, 3)], 30, []⟩
open K in
def F113 : Fn := ⟨.seq (.reg [n (.alloc 2 [.sc (.s []), .sc (.s []), .sc (.i .i64 0)])]) (.seq (.reg [m 4 0, n (cf 5 106 [.t 4]), n (.alloc 3 [.sc (.s []), .sc (.s []), .sc (.i .i64 0)]), n (.st (.t 3) 3 (.t 5))]) (.seq (.seq (.reg [n (fa 6 3 0), n (ld 7 6), n (bs 8 .eql 7 [])]) (.cond (.t 8) (.seq (.reg [m 9 0, n (.nc 10 (.t 9)), n (fa 11 10 2), n (.st (.t 11) 1 (.c (.sc (.b true))))]) (.seq (.reg [n (.ld 12 3 true (.t 3)), n (.st (.t 2) 3 (.t 12))]) .ret)) .skip)) (.seq (.reg [m 13 0, n (.nc 14 (.t 13)), n (fa 15 14 1), n (ld 16 15), n (bi 17 .add 16 1), n (.nc 18 (.t 13)), n (fa 19 18 1), n (.st (.t 19) 1 (.t 17))]) (.seq (.reg [n (.ld 20 3 true (.t 3)), n (.st (.t 2) 3 (.t 20))]) .ret)))), [(2, 3)], 21, []⟩
open K in
def F56 : Fn := ⟨.seq (.reg [n (mb 4 false)]) (.seq (.reg [m 6 0, n (cf 7 106 [.t 6]), n (.alloc 5 [.sc (.s []), .sc (.s []), .sc (.i .i64 0)]), n (.st (.t 5) 3 (.t 7))]) (.seq (.reg [n (fa 8 5 0), n (ld 9 8), n (bs 10 .eql 9 [107, 101, 121]), m 11 10, g 11 (fa 12 5 0), g 11 (ld 13 12), g 11 (bs 14 .eql 13 [115, 105, 103, 110]), n (pt 15 11 14), m 16 15, w 16 (fa 17 5 1), w 16 (ld 18 17), wm 16 19 1, w 16 (b2 20 .eql 18 19), n (pf 21 16 20), m 4 21]) .ret)), [(4, 0)], 22, []⟩
open K in
def F142 : Fn := ⟨.seq (.reg [n (mb 4 false)]) (.seq (.seq (.reg [m 5 0, m 6 1, n (cf 7 59 [.t 5, .t 6]), n (.no 8 (.t 7))]) (.cond (.t 8) (.seq (.reg [n (mb 4 false)]) .ret) .skip)) (.seq (.reg [m 9 0, n (.nc 10 (.t 9)), n (fa 11 10 1), n (ld 12 11), n (bi 13 .add 12 1), n (.nc 14 (.t 9)), n (fa 15 14 1), n (.st (.t 15) 1 (.t 13))]) (.seq (.reg [n (mb 4 true)]) .ret))), [(4, 0)], 16, []⟩
open K in
def F109 : Fn := ⟨.seq (.reg [m 4 0, m 5 1, n (cf 6 169 [.t 4, .t 5]), n (.no 7 (.t 6))]) (.cond (.t 7) (.reg [m 8 0, n (.nc 9 (.t 8)), n (fa 10 9 2), n (.st (.t 10) 1 (.c (.sc (.b true))))]) .skip), [], 11, []⟩
open K in
def F110 : Fn := ⟨.seq (.reg [n (.mv 2 (.c (.sc (.s []))))]) (.seq (.reg [m 4 0, n (cf 5 111 [.t 4]), n (.alloc 3 [.sc (.s []), .sc (.s []), .sc (.i .i64 0)]), n (.st (.t 3) 3 (.t 5))]) (.seq (.seq (.reg [n (fa 6 3 0), n (ld 7 6), n (bs 8 .neq 7 [110, 97, 109, 101])]) (.cond (.t 8) (.reg [m 9 0, n (.nc 10 (.t 9)), n (fa 11 10 2), n (.st (.t 11) 1 (.c (.sc (.b true))))]) .skip)) (.seq (.reg [n (fa 12 3 1), n (ld 13 12), m 2 13]) .ret))), [(2, 0)], 14, []⟩
open K in
def F178 : Fn := ⟨.seq (.reg [n (.mv 2 (.c (.sc (.s []))))]) (.seq (.reg [m 4 0, n (cf 5 111 [.t 4]), n (.alloc 3 [.sc (.s []), .sc (.s []), .sc (.i .i64 0)]), n (.st (.t 3) 3 (.t 5))]) (.seq (.seq (.reg [n (fa 6 3 0), n (ld 7 6), n (bs 8 .eql 7 [110, 97, 109, 101]), m 9 8, g 9 (fa 10 3 1), g 9 (ld 11 10), g 9 (cf 12 238 [.t 11]), g 9 (.no 13 (.t 12)), n (pt 14 9 13)]) (.cond (.t 14) (.reg [m 15 0, n (.nc 16 (.t 15)), n (fa 17 16 2), n (.st (.t 17) 1 (.c (.sc (.b true))))]) .skip)) (.seq (.reg [n (fa 18 3 1), n (ld 19 18), m 2 19]) .ret))), [(2, 0)], 20, []⟩
open K in
def F114 : Fn := ⟨.seq (.reg [n (mi 2 0)]) (.seq (.reg [m 6 0, n (cf 7 111 [.t 6]), n (.fld 8 (.t 7) 1 1 false), n (cf 9 170 [.t 8]), m 5 9, n (ext 10 5 0), n (ext 11 5 1), m 3 10, m 4 11]) (.seq (.seq (.reg [m 12 4, n (bi 13 .neq 12 0)]) (.cond (.t 13) (.reg [m 14 0, n (.nc 15 (.t 14)), n (fa 16 15 2), n (.st (.t 16) 1 (.c (.sc (.b true))))]) .skip)) (.seq (.reg [m 17 3, m 2 17]) .ret))), [(2, 0)], 18, []⟩
open K in
def F141 : Fn := ⟨.seq (.reg [n (mi 2 0), n (mi 3 0)]) (.seq (.seq (.reg [m 6 0, n (.build 7 [.sc (.s []), .sc (.s []), .sc (.i .i64 0)] [(0, (1, .c (.sc (.s [105, 110, 116])))), (1, (1, .t 6))]), n (cf 8 160 [.t 7]), n (.no 9 (.t 8))]) (.cond (.t 9) (.seq (.reg [n (mi 2 0), n (mi 3 3)]) .ret) .skip)) (.seq (.reg [m 11 0, n (cf 12 97 [.t 11]), m 10 12, n (ext 13 10 0), n (ext 14 10 1), m 4 13, m 5 14]) (.seq (.reg [m 15 4, m 2 15, n (mi 3 0)]) .ret))), [(2, 0), (3, 0)], 16, []⟩
theorem F108_ok : ab Tryz.prog (fun _ => an0) 106 = some F108 := by kernel_rfl
theorem F113_ok : ab Tryz.prog (fun _ => an0) 111 = some F113 := by kernel_rfl
theorem F56_ok : ab Tryz.prog (fun _ => an0) 59 = some F56 := by kernel_rfl
theorem F142_ok : ab Tryz.prog (fun _ => an0) 169 = some F142 := by kernel_rfl
theorem F109_ok : ab Tryz.prog (fun _ => an0) 107 = some F109 := by kernel_rfl
theorem F110_ok : ab Tryz.prog (fun _ => an0) 108 = some F110 := by kernel_rfl
theorem F178_ok : ab Tryz.prog (fun _ => an0) 179 = some F178 := by kernel_rfl
theorem F114_ok : ab Tryz.prog (fun _ => an0) 112 = some F114 := by kernel_rfl
theorem F141_ok : ab Tryz.prog (fun _ => an0) 170 = some F141 := by kernel_rfl
structure PS where
 a : Nat
 bad : Bool
def pbx (l : List T) (s : PS) : List AV := [.sl 3 (cm l) .none, .sc (.i .i64 (s.a : Nat)), .sc (.b s.bad)]
def tkA (t : T) : AV := .agg [.sc (.s t.1), .sc (.s t.2.1), .sc (.i .i64 t.2.2)]
def t0 : T := ([], [], 0)
def cl (l : List T) (s : PS) : T := bif s.bad then t0 else l.getD s.a t0
def bz (l : List T) (s : PS) : T × PS := bif aD (cl l s).1 [] then (cl l s, ⟨s.a, true⟩) else (cl l s, ⟨s.a + 1, s.bad⟩)
def pIs (l : List T) (s : PS) (x : S) : Bool := (aD (cl l s).1 [107, 101, 121] || aD (cl l s).1 [115, 105, 103, 110]) && aD (cl l s).2.1 x
def ir (l : List T) (s : PS) (x : S) : Bool × PS := bif pIs l s x then (true, ⟨s.a + 1, s.bad⟩) else (false, s)
def ln (l : List T) (s : PS) (x : S) : PS := bif (ir l s x).1 then (ir l s x).2 else ⟨(ir l s x).2.a, true⟩
def gt (l : List T) (s : PS) : S × PS := ((bz l s).1.2.1, bif aD (bz l s).1.1 [110, 97, 109, 101] then (bz l s).2 else ⟨(bz l s).2.a, true⟩)
def pOp (l : List T) (s : PS) : S × PS := ((bz l s).1.2.1, bif aD (bz l s).1.1 [110, 97, 109, 101] || !jI (bz l s).1.2.1 then ⟨(bz l s).2.a, true⟩ else (bz l s).2)
theorem cE {σ : Log} {v res : AV} {l : List T} {s' : PS} {e : List (List Data)} {t : Tok} {x : Int} {y : Bool} (hb : look σ (.b 0) = some (.bx [.sl 3 e t, .sc (.i .i64 x), .sc (.b y)])) (hv : v = res) (he : e = cm l) (hx : x = (s'.a : Nat)) (hy : y = s'.bad)
  (h1 : inR 1 0 res = true) (h2 : wk3 res (ren [0] [] 0 res)) (h3 : toks res = []) : FinOK σ v 1 0 res [pbx l s'] := by
 subst hv; subst he; subst hx; subst hy
 refine ⟨⟨[], [], ⟨rfl, rfl, h1, rfl⟩, h2, ?_, ?_⟩⟩
 ·refine ⟨?_, trivial⟩
  show (match look σ (.b 0) with | some (.bx l') => dW l' _ | _ => False)
  rw [hb]
  exact ⟨⟨rfl, rfl, .inl rfl⟩, rfl, rfl, trivial⟩
 ·rw [h3]; exact trivial
theorem b108 (W0 : Go.World) (l : List T) (s : PS) (hl : l.length ≤ 140737488355328) (hs : s.a ≤ l.length) : be (Ctr Tryz.prog W0) F108.ac F108.rs [.ptr 0 0] [pbx l s] (tkA (cl l s)) [pbx l (s)] := by
 obtain ⟨a, bad⟩ := s
 simp only at hs
 conv => whnf
 refine aH (fun h1 => ?_) (fun h1 => ?_)
 ·conv => whnf
  refine aH (fun h2 => ?_) (fun h2 => ?_)
  ·have h1' : bad = false := h1
   have h2' : ¬ ((cm l).length : Int) ≤ (a : Int) := by simpa using h2
   rw [bM] at h2'
   obtain ⟨t, ht⟩ := aN (l := l) (k := a) (by omega)
   conv => whnf
   refine ⟨_, ⟨Int.natCast_nonneg _, mO ht⟩, ?_⟩
   conv => whnf
   have e : cl l ⟨a, bad⟩ = t := by simp [cl, h1', ht]
   rw [e]
   obtain ⟨k, x, p⟩ := t
   refine cE rfl (rfl) rfl (rfl) (rfl) rfl (⟨rfl, rfl, rfl, trivial⟩) rfl
  ·have h2' : ((cm l).length : Int) ≤ (a : Int) := by simpa using h2
   rw [bM] at h2'
   have e : cl l ⟨a, bad⟩ = t0 := by simp only [cl]; rw [List.getD_eq_getElem?_getD, List.getElem?_eq_none (by omega)]; cases bad <;> rfl
   rw [e]
   conv => whnf
   refine cE rfl (rfl) rfl (rfl) (rfl) rfl (⟨rfl, rfl, rfl, trivial⟩) rfl
 ·have h1' : bad = true := h1
  have e : cl l ⟨a, bad⟩ = t0 := by simp [cl, h1']
  rw [e]
  conv => whnf
  refine cE rfl (rfl) rfl (rfl) (rfl) rfl (⟨rfl, rfl, rfl, trivial⟩) rfl
theorem c108 (W0 : Go.World) (l : List T) (s : PS) (hl : l.length ≤ 140737488355328) (hs : s.a ≤ l.length) : Ctr Tryz.prog W0 106 [.ptr 0 0] [pbx l s] (tkA (cl l s)) [pbx l (s)] :=
 ah follows F108_ok rfl (fun _ _ h => by cases h) rfl rfl (b108 W0 l s hl hs)
theorem b113 (W0 : Go.World) (l : List T) (s : PS) (hl : l.length ≤ 140737488355328) (hs : s.a ≤ l.length) : be (Ctr Tryz.prog W0) F113.ac F113.rs [.ptr 0 0] [pbx l s] (tkA (bz l s).1) [pbx l ((bz l s).2)] := by
 obtain ⟨a, bad⟩ := s
 simp only at hs
 repeat' ((conv => whnf); (first | with_reducible refine aH (fun _ => ?_) (fun _ => ?_) | (refine callP.full [0] [] [.ptr 0 0] [pbx l _] [pbx l _] _ (c108 W0 l ⟨a, bad⟩ hl hs) ⟨rfl, rfl, rfl, rfl, rfl, rfl, rfl, rfl, rfl, rfl, ⟨rfl, trivial⟩, ⟨⟨⟨rfl, rfl, .inr rfl⟩, rfl, rfl, trivial⟩, trivial⟩, trivial⟩ ?_) | (refine And.intro (by constructor <;> ((try simp only); omega)) ?_) | fail))
 all_goals (conv => whnf)
 all_goals (rename_i h1; simp only [bz, h1, cond_true, cond_false])
 all_goals (first | refine cE rfl (rfl) rfl (rfl) (rfl) rfl (⟨rfl, rfl, rfl, trivial⟩) rfl)
theorem c113 (W0 : Go.World) (l : List T) (s : PS) (hl : l.length ≤ 140737488355328) (hs : s.a ≤ l.length) : Ctr Tryz.prog W0 111 [.ptr 0 0] [pbx l s] (tkA (bz l s).1) [pbx l ((bz l s).2)] :=
 ah follows F113_ok rfl (fun _ _ h => by cases h) rfl rfl (b113 W0 l s hl hs)
theorem b56 (W0 : Go.World) (l : List T) (s : PS) (x : S) (hl : l.length ≤ 140737488355328) (hs : s.a ≤ l.length) : be (Ctr Tryz.prog W0) F56.ac F56.rs [.ptr 0 0, .sc (.s x)] [pbx l s] (.sc (.b (pIs l s x))) [pbx l (s)] := by
 obtain ⟨a, bad⟩ := s
 simp only at hs
 repeat' ((conv => whnf); (first | with_reducible refine aH (fun _ => ?_) (fun _ => ?_) | (refine callP.full [0] [] [.ptr 0 0] [pbx l _] [pbx l _] _ (c108 W0 l ⟨a, bad⟩ hl hs) ⟨rfl, rfl, rfl, rfl, rfl, rfl, rfl, rfl, rfl, rfl, ⟨rfl, trivial⟩, ⟨⟨⟨rfl, rfl, .inr rfl⟩, rfl, rfl, trivial⟩, trivial⟩, trivial⟩ ?_) | fail))
 all_goals (conv => whnf)
 all_goals (first | refine cE rfl (congrArg (fun b => AV.sc (Sc.b b)) (by simp_all [pIs])) rfl (rfl) (rfl) rfl (rfl) rfl)
theorem c56 (W0 : Go.World) (l : List T) (s : PS) (x : S) (hl : l.length ≤ 140737488355328) (hs : s.a ≤ l.length) : Ctr Tryz.prog W0 59 [.ptr 0 0, .sc (.s x)] [pbx l s] (.sc (.b (pIs l s x))) [pbx l (s)] :=
 ah follows F56_ok rfl (fun _ _ h => by cases h) rfl rfl (b56 W0 l s x hl hs)
theorem b142 (W0 : Go.World) (l : List T) (s : PS) (x : S) (hl : l.length ≤ 140737488355328) (hs : s.a ≤ l.length) : be (Ctr Tryz.prog W0) F142.ac F142.rs [.ptr 0 0, .sc (.s x)] [pbx l s] (.sc (.b ((ir l s x).1))) [pbx l ((ir l s x).2)] := by
 obtain ⟨a, bad⟩ := s
 simp only at hs
 repeat' ((conv => whnf); (first | with_reducible refine aH (fun _ => ?_) (fun _ => ?_) | (refine callP.full [0] [] [.ptr 0 0, .sc (.s x)] [pbx l _] [pbx l _] _ (c56 W0 l ⟨a, bad⟩ x hl hs) ⟨rfl, rfl, rfl, rfl, rfl, rfl, rfl, rfl, rfl, rfl, ⟨rfl, rfl, trivial⟩, ⟨⟨⟨rfl, rfl, .inr rfl⟩, rfl, rfl, trivial⟩, trivial⟩, trivial⟩ ?_) | (refine And.intro (by constructor <;> ((try simp only); omega)) ?_) | fail))
 all_goals (conv => whnf)
 all_goals (rename_i h1; simp only [Bool.not_eq_true', Bool.not_eq_false'] at h1; simp only [ir, h1, cond_true, cond_false])
 all_goals (first | refine cE rfl (rfl) rfl (rfl) (rfl) rfl (rfl) rfl)
theorem c142 (W0 : Go.World) (l : List T) (s : PS) (x : S) (hl : l.length ≤ 140737488355328) (hs : s.a ≤ l.length) : Ctr Tryz.prog W0 169 [.ptr 0 0, .sc (.s x)] [pbx l s] (.sc (.b ((ir l s x).1))) [pbx l ((ir l s x).2)] :=
 ah follows F142_ok rfl (fun _ _ h => by cases h) rfl rfl (b142 W0 l s x hl hs)
theorem oO {l : List T} {s : PS} (h : l.length ≤ s.a) : cl l s = t0 := by
 simp only [cl]; rw [List.getD_eq_getElem?_getD, List.getElem?_eq_none h]; cases s.bad <;> rfl
theorem pIs_lt {l : List T} {s : PS} {x : S} (h : pIs l s x = true) : s.a < l.length ∧ s.bad = false := by
 obtain ⟨a, bad⟩ := s
 cases bad with
 | true => simp [pIs, cl, t0, aD] at h
 | false =>
   refine ⟨?_, rfl⟩
   by_cases hlt : a < l.length
   ·exact hlt
   ·simp [pIs, oO (l := l) (s := ⟨a, false⟩) (by simp only; omega), t0, aD] at h
theorem pHas_le {l : List T} {s : PS} {x : S} (hs : s.a ≤ l.length) : s.a ≤ (ir l s x).2.a ∧ (ir l s x).2.a ≤ l.length := by
 simp only [ir]
 cases h : pIs l s x with
 | true => have := (pIs_lt h).1; simp; omega
 | false => simpa using hs
theorem lm {l : List T} {s : PS} (hs : s.a ≤ l.length) : s.a ≤ (bz l s).2.a ∧ (bz l s).2.a ≤ l.length ∧ ((bz l s).2.bad = false → s.a < (bz l s).2.a) := by
 simp only [bz]
 cases h : aD (cl l s).1 [] with
 | true => simpa using hs
 | false =>
   have : s.a < l.length := by
    by_cases hlt : s.a < l.length
    ·exact hlt
    ·rw [oO (by omega)] at h; simp [t0, aD] at h
   simp; omega
theorem pMust_le {l : List T} {s : PS} {x : S} (hs : s.a ≤ l.length) : s.a ≤ (ln l s x).a ∧ (ln l s x).a ≤ l.length := by
 have := pHas_le (x := x) hs
 simp only [ln]
 cases (ir l s x).1 <;> simpa using this
theorem pName_le {l : List T} {s : PS} (hs : s.a ≤ l.length) : s.a ≤ (gt l s).2.a ∧ (gt l s).2.a ≤ l.length := by
 have := lm hs
 simp only [gt]
 cases aD (bz l s).1.1 [110, 97, 109, 101] <;> simp <;> omega
theorem pOp_le {l : List T} {s : PS} (hs : s.a ≤ l.length) : s.a ≤ (pOp l s).2.a ∧ (pOp l s).2.a ≤ l.length := by
 have := lm hs
 simp only [pOp]
 cases (aD (bz l s).1.1 [110, 97, 109, 101] || !jI (bz l s).1.2.1) <;> simp <;> omega
theorem b109 (W0 : Go.World) (l : List T) (s : PS) (x : S) (hl : l.length ≤ 140737488355328) (hs : s.a ≤ l.length) : be (Ctr Tryz.prog W0) F109.ac F109.rs [.ptr 0 0, .sc (.s x)] [pbx l s] (.tup []) [pbx l (ln l s x)] := by
 obtain ⟨a, bad⟩ := s
 simp only at hs
 repeat' ((conv => whnf); (first | with_reducible refine aH (fun _ => ?_) (fun _ => ?_) | (refine callP.full [0] [] [.ptr 0 0, .sc (.s x)] [pbx l _] [pbx l _] _ (c142 W0 l ⟨a, bad⟩ x hl hs) ⟨rfl, rfl, rfl, rfl, rfl, rfl, rfl, rfl, rfl, rfl, ⟨rfl, rfl, trivial⟩, ⟨⟨⟨rfl, rfl, .inr rfl⟩, rfl, rfl, trivial⟩, trivial⟩, trivial⟩ ?_) | fail))
 all_goals (conv => whnf)
 all_goals (rename_i h1; simp only [Bool.not_eq_true', Bool.not_eq_false'] at h1; simp only [ln, h1, cond_true, cond_false])
 all_goals (first | refine cE rfl (rfl) rfl (rfl) (rfl) rfl (trivial) rfl)
theorem c109 (W0 : Go.World) (l : List T) (s : PS) (x : S) (hl : l.length ≤ 140737488355328) (hs : s.a ≤ l.length) : Ctr Tryz.prog W0 107 [.ptr 0 0, .sc (.s x)] [pbx l s] (.tup []) [pbx l (ln l s x)] :=
 ah follows F109_ok rfl (fun _ _ h => by cases h) rfl rfl (b109 W0 l s x hl hs)
theorem b110 (W0 : Go.World) (l : List T) (s : PS) (hl : l.length ≤ 140737488355328) (hs : s.a ≤ l.length) : be (Ctr Tryz.prog W0) F110.ac F110.rs [.ptr 0 0] [pbx l s] (.sc (.s ((gt l s).1))) [pbx l ((gt l s).2)] := by
 obtain ⟨a, bad⟩ := s
 simp only at hs
 repeat' ((conv => whnf); (first | with_reducible refine aH (fun _ => ?_) (fun _ => ?_) | (refine callP.full [0] [] [.ptr 0 0] [pbx l _] [pbx l _] _ (c113 W0 l ⟨a, bad⟩ hl hs) ⟨rfl, rfl, rfl, rfl, rfl, rfl, rfl, rfl, rfl, rfl, ⟨rfl, trivial⟩, ⟨⟨⟨rfl, rfl, .inr rfl⟩, rfl, rfl, trivial⟩, trivial⟩, trivial⟩ ?_) | fail))
 all_goals (conv => whnf)
 all_goals (rename_i h1; simp only [Bool.not_eq_true', Bool.not_eq_false'] at h1; simp only [gt, h1, cond_true, cond_false])
 all_goals (first | refine cE rfl (rfl) rfl (rfl) (rfl) rfl (rfl) rfl)
theorem c110 (W0 : Go.World) (l : List T) (s : PS) (hl : l.length ≤ 140737488355328) (hs : s.a ≤ l.length) : Ctr Tryz.prog W0 108 [.ptr 0 0] [pbx l s] (.sc (.s ((gt l s).1))) [pbx l ((gt l s).2)] :=
 ah follows F110_ok rfl (fun _ _ h => by cases h) rfl rfl (b110 W0 l s hl hs)
theorem b178 (W0 : Go.World) (l : List T) (s : PS) (hl : l.length ≤ 140737488355328) (hs : s.a ≤ l.length) : be (Ctr Tryz.prog W0) F178.ac F178.rs [.ptr 0 0] [pbx l s] (.sc (.s ((pOp l s).1))) [pbx l ((pOp l s).2)] := by
 obtain ⟨a, bad⟩ := s
 simp only at hs
 repeat' ((conv => whnf); (first | with_reducible refine aH (fun _ => ?_) (fun _ => ?_) | (refine callP.full [0] [] [.ptr 0 0] [pbx l _] [pbx l _] _ (c113 W0 l ⟨a, bad⟩ hl hs) ⟨rfl, rfl, rfl, rfl, rfl, rfl, rfl, rfl, rfl, rfl, ⟨rfl, trivial⟩, ⟨⟨⟨rfl, rfl, .inr rfl⟩, rfl, rfl, trivial⟩, trivial⟩, trivial⟩ ?_) | (refine callP.pure _ (c186 W0 (bz l ⟨a, bad⟩).1.2.1) ⟨rfl, rfl⟩ ?_) | fail))
 all_goals (conv => whnf)
 all_goals (simp only [pOp]; simp_all only [Bool.not_eq_true', Bool.not_eq_false', Bool.true_or, Bool.false_or, Bool.not_true, Bool.not_false, cond_true, cond_false])
 all_goals (first | refine cE rfl (rfl) rfl (rfl) (rfl) rfl (rfl) rfl)
theorem c178 (W0 : Go.World) (l : List T) (s : PS) (hl : l.length ≤ 140737488355328) (hs : s.a ≤ l.length) : Ctr Tryz.prog W0 179 [.ptr 0 0] [pbx l s] (.sc (.s ((pOp l s).1))) [pbx l ((pOp l s).2)] :=
 ah follows F178_ok rfl (fun _ _ h => by cases h) rfl rfl (b178 W0 l s hl hs)
end Go.Abs
namespace Go.Abs
def kK : S := [107, 101, 121]
def kN : S := [110, 97, 109, 101]
def kS : S := [115, 105, 103, 110]
def kI : S := [105, 110, 116]
def voc : List (S × S) := [(kK, [112, 114, 111, 99]), (kN, [116, 111, 116, 97, 108]), (kS, [40]), (kN, [97]), (kS, [58]), (kK, [97, 114, 114, 97, 121]), (kI, [48]), (kS, [41]), (kK, [105, 110, 116]), (kS, [123]), (kK, [118, 97, 114]), (kN, [120]), (kS, [61]), (kS, [59]), (kK, [114, 101, 100, 117, 99, 101]), (kS, [43]), (kK, [114, 101, 116, 117, 114, 110]), (kS, [125]), (kN, [103, 114, 101, 97, 116, 101, 115, 116]), (kK, [109, 97, 120]), (kN, [100, 111, 116]), (kI, [49]), (kS, [44]), (kN, [98]), (kK, [105, 102]), (kK, [99, 111, 117, 110, 116]), (kS, [61, 61]), (kK, [101, 108, 115, 101]), (kK, [104, 97, 108, 116]), (kN, [115, 105, 122, 101]), (kN, [115]), (kK, [102, 111, 114, 97, 108, 108]), (kN, [105]), (kK, [105, 110]), (kK, [119, 105, 116, 104]), (kK, [115, 101, 116]), (kS, [91]), (kS, [93]), (kS, [42]), (kK, [110, 116, 104]), (kK, [111, 114, 100]), (kN, [115, 97, 109, 101]), (kK, [98, 111, 111, 108]), (kN, [111, 107]), (kS, [38]), (kN, [115, 104, 105, 102, 116]), (kN, [107]), (kK, [110, 111, 110, 101]), (kN, [112]), (kS, [45]), (kS, [60, 61]), (kS, [60]), (kN, [114, 101, 118]), (kN, [113]), (kN, [106]), (kN, [112, 114, 101, 102, 105, 120]), (kK, [102, 111, 114]), (kN, [115, 111, 114, 116]), (kN, [110]), (kK, [119, 104, 105, 108, 101]), (kS, [37]), (kI, [50]), (kN, [121]), (kN, [104, 105, 115, 116]), (kN, [104]), (kN, [118]), (kN, [99, 111, 108, 117, 109, 110, 115]), (kN, [102, 105, 114, 115, 116]), (kN, [114, 111, 119, 115]), (kN, [114]), (kS, [47]), (kN, [109, 97, 116, 109, 117, 108]), (kN, [99]), (kN, [109]), (kN, [116, 117, 114, 110]), (kN, [112, 111, 119, 101, 114]), (kN, [102, 111, 117, 114, 105, 101, 114]), (kN, [119]), (kI, [57, 55]), (kN, [114, 101, 97, 99, 104]), (kN, [100]), (kN, [103]), (kN, [108]), (kS, [33]), (kK, [100, 111, 109, 97, 105, 110]), (kS, [46, 46]), (kK, [98, 121]), (kK, [99, 121, 99, 108, 105, 99]), (kK, [111, 118, 101, 114]), (kI, [53]), (kK, [119, 114, 105, 116, 101])]
def exT : List Nat → Nat → List T → List T
 | [], _, z => z
 | i :: r, p, z => match voc.getD i ([], []) with | (k, t) => (k, t, (p : Int)) :: exT r (p + t.length + 1) z
def txB : List T → S
 | [] => []
 | [t] => t.2.1
 | t :: r => t.2.1 ++ 32 :: txB r
def awZ : List T := (exT [84, 80, 12, 9, 6, 85, 61, 86, 21, 17, 87, 13, 5, 3, 88, 80, 12, 89, 13, 90, 1, 2, 3, 7, 13] 4266 [])
def srcZ (z : List T) : List T := (exT [0, 1, 2, 3, 4, 5, 6, 7, 4, 8, 9, 10, 11, 12, 6, 13, 14, 11, 12, 15, 3, 13, 16, 11, 13, 17] 0 (exT [0, 18, 2, 3, 4, 5, 6, 7, 4, 8, 9, 10, 11, 12, 6, 13, 14, 11, 12, 19, 3, 13, 16, 11, 13, 17] 77 (exT [0, 20, 2, 3, 4, 5, 21, 22, 23, 4, 5, 21, 7, 4, 8, 9, 24, 2, 2, 25, 3, 7, 26, 2, 25, 23, 7, 7, 9, 17, 27, 9, 28, 29, 13, 17, 10, 30, 12, 6, 13, 31, 2, 32, 7, 33, 3, 34, 2, 15, 30, 7, 9, 35, 30, 12, 2, 3, 36, 32, 37, 38, 23, 36, 2, 39, 23, 6, 2, 40, 3, 36, 32, 37, 7, 7, 37, 7, 13, 17, 16, 30, 13, 17] 159 (exT [0, 41, 2, 3, 4, 5, 21, 22, 23, 4, 5, 21, 7, 4, 42, 9, 10, 43, 12, 2, 2, 25, 3, 7, 26, 2, 25, 23, 7, 7, 13, 24, 43, 9, 31, 2, 32, 7, 33, 3, 34, 2, 44, 43, 7, 9, 35, 43, 12, 2, 3, 36, 32, 37, 26, 23, 36, 2, 39, 23, 6, 2, 40, 3, 36, 32, 37, 7, 7, 37, 7, 13, 17, 17, 27, 9, 17, 16, 43, 13, 17] 383 (exT [0, 45, 2, 3, 4, 5, 21, 22, 23, 4, 5, 21, 22, 46, 4, 8, 7, 4, 47, 9, 31, 2, 32, 7, 33, 3, 34, 2, 7, 9, 10, 48, 12, 2, 2, 40, 3, 36, 32, 37, 7, 49, 46, 7, 13, 24, 2, 2, 6, 50, 48, 7, 44, 2, 48, 51, 2, 25, 23, 7, 7, 7, 9, 35, 3, 36, 32, 37, 12, 23, 36, 2, 39, 23, 6, 48, 7, 37, 13, 17, 27, 9, 35, 3, 36, 32, 37, 12, 6, 13, 17, 17, 17] 603 (exT [0, 52, 2, 3, 4, 5, 21, 7, 4, 47, 9, 31, 2, 32, 7, 33, 3, 34, 2, 7, 9, 10, 48, 12, 2, 40, 3, 36, 32, 37, 7, 13, 10, 53, 12, 2, 2, 2, 25, 3, 7, 49, 21, 7, 49, 48, 7, 13, 24, 2, 48, 51, 53, 7, 9, 10, 54, 12, 2, 39, 3, 6, 53, 7, 13, 10, 11, 12, 3, 36, 32, 37, 13, 35, 3, 36, 32, 37, 12, 3, 36, 54, 37, 13, 35, 3, 36, 54, 37, 12, 11, 13, 17, 27, 9, 17, 17, 17] 837 (exT [0, 55, 2, 3, 4, 5, 21, 7, 4, 47, 9, 10, 30, 12, 6, 13, 56, 2, 32, 7, 33, 3, 9, 35, 30, 12, 2, 30, 15, 3, 36, 32, 37, 7, 13, 35, 3, 36, 32, 37, 12, 30, 13, 17, 17] 1078 (exT [0, 57, 2, 3, 4, 5, 21, 7, 4, 47, 9, 10, 58, 12, 2, 25, 3, 7, 13, 10, 46, 12, 6, 13, 59, 2, 46, 51, 58, 7, 9, 31, 2, 32, 7, 33, 3, 34, 2, 7, 9, 10, 48, 12, 2, 40, 3, 36, 32, 37, 7, 13, 24, 2, 2, 2, 2, 48, 15, 46, 7, 60, 61, 7, 26, 6, 7, 44, 2, 2, 48, 15, 21, 7, 51, 58, 7, 7, 9, 10, 54, 12, 2, 39, 3, 6, 2, 48, 15, 21, 7, 7, 13, 10, 11, 12, 3, 36, 32, 37, 13, 10, 62, 12, 3, 36, 54, 37, 13, 24, 2, 62, 51, 11, 7, 9, 35, 3, 36, 32, 37, 12, 62, 13, 35, 3, 36, 54, 37, 12, 11, 13, 17, 27, 9, 17, 17, 27, 9, 17, 17, 35, 46, 12, 2, 46, 15, 21, 7, 13, 17, 17] 1192 (exT [0, 63, 2, 64, 4, 5, 21, 22, 3, 4, 5, 21, 7, 4, 47, 9, 31, 2, 32, 7, 33, 64, 34, 2, 7, 9, 35, 64, 36, 32, 37, 12, 6, 13, 17, 56, 2, 32, 7, 33, 3, 9, 10, 65, 12, 3, 36, 32, 37, 13, 24, 2, 2, 6, 50, 65, 7, 44, 2, 65, 51, 2, 25, 64, 7, 7, 7, 9, 10, 54, 12, 2, 39, 64, 6, 65, 7, 13, 35, 64, 36, 54, 37, 12, 2, 64, 36, 54, 37, 15, 21, 7, 13, 17, 27, 9, 17, 17, 17] 1557 (exT [0, 66, 2, 3, 4, 5, 61, 7, 4, 8, 9, 10, 58, 12, 6, 13, 24, 2, 6, 51, 2, 25, 3, 7, 7, 9, 10, 67, 12, 2, 39, 3, 6, 6, 7, 13, 56, 2, 32, 22, 54, 7, 33, 3, 9, 24, 2, 32, 26, 67, 7, 9, 35, 58, 12, 2, 58, 15, 21, 7, 13, 17, 27, 9, 17, 17, 17, 27, 9, 17, 16, 58, 13, 17] 1803 (exT [0, 68, 2, 3, 4, 5, 61, 7, 4, 8, 9, 10, 58, 12, 66, 2, 3, 7, 13, 10, 69, 12, 6, 13, 24, 2, 6, 51, 58, 7, 9, 35, 69, 12, 2, 2, 25, 3, 7, 70, 58, 7, 13, 17, 27, 9, 17, 16, 69, 13, 17] 2003 (exT [0, 71, 2, 72, 4, 5, 61, 22, 3, 4, 5, 61, 22, 23, 4, 5, 61, 7, 4, 47, 9, 10, 58, 12, 66, 2, 3, 7, 13, 10, 73, 12, 66, 2, 23, 7, 13, 24, 2, 2, 2, 68, 2, 72, 7, 26, 68, 2, 3, 7, 7, 44, 2, 58, 26, 68, 2, 23, 7, 7, 7, 44, 2, 73, 26, 66, 2, 72, 7, 7, 7, 9, 17, 27, 9, 28, 29, 13, 17, 31, 2, 32, 22, 54, 7, 33, 72, 34, 2, 7, 9, 10, 48, 12, 2, 40, 72, 36, 32, 22, 54, 37, 7, 13, 10, 30, 12, 6, 13, 10, 46, 12, 6, 13, 59, 2, 46, 51, 58, 7, 9, 10, 11, 12, 2, 2, 2, 48, 70, 73, 7, 38, 58, 7, 15, 46, 7, 13, 10, 62, 12, 2, 2, 46, 38, 73, 7, 15, 2, 48, 60, 73, 7, 7, 13, 35, 30, 12, 2, 30, 15, 2, 3, 36, 2, 39, 3, 6, 11, 7, 22, 2, 39, 3, 21, 11, 7, 37, 38, 23, 36, 2, 39, 23, 6, 62, 7, 22, 2, 39, 23, 21, 62, 7, 37, 7, 7, 13, 35, 46, 12, 2, 46, 15, 21, 7, 13, 17, 35, 72, 36, 32, 22, 54, 37, 12, 30, 13, 17, 17] 2142 (exT [0, 74, 2, 23, 4, 5, 61, 22, 3, 4, 5, 61, 7, 4, 47, 9, 10, 58, 12, 66, 2, 3, 7, 13, 10, 73, 12, 66, 2, 23, 7, 13, 24, 2, 2, 68, 2, 23, 7, 26, 58, 7, 44, 2, 68, 2, 3, 7, 26, 73, 7, 7, 9, 17, 27, 9, 28, 29, 13, 17, 31, 2, 32, 22, 54, 7, 33, 23, 34, 2, 7, 9, 10, 48, 12, 2, 40, 23, 36, 32, 22, 54, 37, 7, 13, 10, 11, 12, 2, 2, 2, 48, 60, 73, 7, 38, 58, 7, 15, 2, 48, 70, 73, 7, 7, 13, 35, 23, 36, 32, 22, 54, 37, 12, 3, 36, 2, 39, 3, 6, 11, 7, 22, 2, 39, 3, 21, 11, 7, 37, 13, 17, 17] 2688 (exT [0, 75, 2, 11, 4, 8, 22, 58, 4, 8, 22, 73, 4, 8, 7, 4, 8, 9, 10, 69, 12, 2, 21, 60, 73, 7, 13, 10, 23, 12, 2, 2, 2, 11, 60, 73, 7, 15, 73, 7, 60, 73, 7, 13, 10, 46, 12, 58, 13, 59, 2, 6, 51, 46, 7, 9, 24, 2, 2, 46, 60, 61, 7, 26, 21, 7, 9, 35, 69, 12, 2, 2, 69, 38, 23, 7, 60, 73, 7, 13, 17, 27, 9, 17, 35, 23, 12, 2, 2, 23, 38, 23, 7, 60, 73, 7, 13, 35, 46, 12, 2, 46, 70, 61, 7, 13, 17, 16, 69, 13, 17] 3026 (exT [0, 76, 2, 23, 4, 5, 21, 22, 3, 4, 5, 21, 22, 77, 4, 8, 7, 4, 47, 9, 10, 58, 12, 2, 25, 3, 7, 13, 24, 2, 58, 26, 2, 25, 23, 7, 7, 9, 17, 27, 9, 28, 29, 13, 17, 31, 2, 32, 7, 33, 23, 34, 2, 7, 9, 10, 46, 12, 2, 40, 23, 36, 32, 37, 7, 13, 10, 30, 12, 6, 13, 10, 54, 12, 6, 13, 59, 2, 54, 51, 58, 7, 9, 35, 30, 12, 2, 2, 30, 15, 2, 2, 3, 36, 2, 39, 3, 6, 54, 7, 37, 60, 78, 7, 38, 75, 2, 77, 22, 2, 54, 38, 46, 7, 22, 78, 7, 7, 7, 60, 78, 7, 13, 35, 54, 12, 2, 54, 15, 21, 7, 13, 17, 35, 23, 36, 32, 37, 12, 2, 2, 30, 15, 78, 7, 60, 78, 7, 13, 17, 17] 3289 (exT [0, 79, 2, 80, 4, 5, 21, 22, 81, 4, 5, 61, 22, 30, 4, 8, 7, 4, 47, 9, 10, 58, 12, 2, 25, 80, 7, 13, 24, 2, 2, 68, 2, 81, 7, 26, 58, 7, 44, 2, 66, 2, 81, 7, 26, 58, 7, 7, 9, 17, 27, 9, 28, 29, 13, 17, 31, 2, 32, 7, 33, 80, 34, 2, 7, 9, 35, 80, 36, 32, 37, 12, 2, 6, 49, 21, 7, 13, 17, 35, 80, 36, 2, 39, 80, 6, 30, 7, 37, 12, 6, 13, 10, 82, 12, 6, 13, 59, 2, 82, 51, 58, 7, 9, 56, 2, 32, 7, 33, 80, 9, 24, 2, 80, 36, 32, 37, 26, 82, 7, 9, 10, 53, 12, 6, 13, 59, 2, 53, 51, 58, 7, 9, 10, 11, 12, 2, 2, 2, 40, 80, 36, 32, 37, 7, 38, 58, 7, 15, 53, 7, 13, 10, 54, 12, 2, 39, 80, 6, 53, 7, 13, 24, 2, 2, 83, 2, 81, 36, 2, 39, 81, 6, 11, 7, 22, 2, 39, 81, 21, 11, 7, 37, 26, 6, 7, 7, 44, 2, 80, 36, 54, 37, 26, 2, 6, 49, 21, 7, 7, 7, 9, 35, 80, 36, 54, 37, 12, 2, 82, 15, 21, 7, 13, 17, 27, 9, 17, 35, 53, 12, 2, 53, 15, 21, 7, 13, 17, 17, 27, 9, 17, 17, 35, 82, 12, 2, 82, 15, 21, 7, 13, 17, 17] 3672 z))))))))))))))))
def srcT : List T := srcZ []
def awT : List T := srcZ awZ
def srcB : S := txB srcT
def awB : S := txB awZ
end Go.Abs
namespace Go.Abs
theorem src_tok : ig srcB = srcT := by kernel_rfl
theorem src_ok : ib srcB = 0 := by kernel_rfl
end Go.Abs
namespace Go.Abs
theorem aw_tok : ig (srcB ++ [32] ++ awB) = awT := by kernel_rfl
theorem aw_ok : ib (srcB ++ [32] ++ awB) = 0 := by kernel_rfl
end Go.Abs
namespace Go.Abs
def pr0 : Prc := ⟨[116, 111, 116, 97, 108], [105, 110, 116], [⟨[97], [97, 114, 114, 97, 121], 0⟩], [⟨[118, 97, 114], [120], [], 0, [], [⟨[105, 110, 116], [], 0, []⟩], [], []⟩, ⟨[114, 101, 100, 117, 99, 101], [120], [43], 0, [[97]], [], [], []⟩, ⟨[114, 101, 116, 117, 114, 110], [], [], 0, [], [⟨[118, 97, 114], [120], 0, []⟩], [], []⟩]⟩
def pr1 : Prc := ⟨[103, 114, 101, 97, 116, 101, 115, 116], [105, 110, 116], [⟨[97], [97, 114, 114, 97, 121], 0⟩], [⟨[118, 97, 114], [120], [], 0, [], [⟨[105, 110, 116], [], 0, []⟩], [], []⟩, ⟨[114, 101, 100, 117, 99, 101], [120], [109, 97, 120], 0, [[97]], [], [], []⟩, ⟨[114, 101, 116, 117, 114, 110], [], [], 0, [], [⟨[118, 97, 114], [120], 0, []⟩], [], []⟩]⟩
def pr2 : Prc := ⟨[100, 111, 116], [105, 110, 116], [⟨[97], [97, 114, 114, 97, 121], 1⟩, ⟨[98], [97, 114, 114, 97, 121], 1⟩], [⟨[105, 102], [], [], 0, [], [⟨[111, 112], [61, 61], 0, [⟨[99, 111, 117, 110, 116], [97], 0, []⟩, ⟨[99, 111, 117, 110, 116], [98], 0, []⟩]⟩], [], [[], [⟨[104, 97, 108, 116], [], [115, 105, 122, 101], 0, [], [], [], []⟩]]⟩, ⟨[118, 97, 114], [115], [], 0, [], [⟨[105, 110, 116], [], 0, []⟩], [], []⟩, ⟨[102, 111, 114, 97, 108, 108], [], [97], 0, [[105]], [], [⟨[43], [115]⟩], [[⟨[115, 101, 116], [115], [], 0, [], [⟨[111, 112], [42], 0, [⟨[97, 116], [97], 0, [⟨[118, 97, 114], [105], 0, []⟩]⟩, ⟨[97, 116], [98], 0, [⟨[110, 116, 104], [98], 0, [⟨[111, 114, 100], [97], 0, [⟨[118, 97, 114], [105], 0, []⟩]⟩]⟩]⟩]⟩], [], []⟩]]⟩, ⟨[114, 101, 116, 117, 114, 110], [], [], 0, [], [⟨[118, 97, 114], [115], 0, []⟩], [], []⟩]⟩
def pr3 : Prc := ⟨[115, 97, 109, 101], [98, 111, 111, 108], [⟨[97], [97, 114, 114, 97, 121], 1⟩, ⟨[98], [97, 114, 114, 97, 121], 1⟩], [⟨[118, 97, 114], [111, 107], [], 0, [], [⟨[111, 112], [61, 61], 0, [⟨[99, 111, 117, 110, 116], [97], 0, []⟩, ⟨[99, 111, 117, 110, 116], [98], 0, []⟩]⟩], [], []⟩, ⟨[105, 102], [], [], 0, [], [⟨[118, 97, 114], [111, 107], 0, []⟩], [], [[⟨[102, 111, 114, 97, 108, 108], [], [97], 0, [[105]], [], [⟨[38], [111, 107]⟩], [[⟨[115, 101, 116], [111, 107], [], 0, [], [⟨[111, 112], [61, 61], 0, [⟨[97, 116], [97], 0, [⟨[118, 97, 114], [105], 0, []⟩]⟩, ⟨[97, 116], [98], 0, [⟨[110, 116, 104], [98], 0, [⟨[111, 114, 100], [97], 0, [⟨[118, 97, 114], [105], 0, []⟩]⟩]⟩]⟩]⟩], [], []⟩]]⟩], []]⟩, ⟨[114, 101, 116, 117, 114, 110], [], [], 0, [], [⟨[118, 97, 114], [111, 107], 0, []⟩], [], []⟩]⟩
def pr4 : Prc := ⟨[115, 104, 105, 102, 116], [110, 111, 110, 101], [⟨[97], [97, 114, 114, 97, 121], 1⟩, ⟨[98], [97, 114, 114, 97, 121], 1⟩, ⟨[107], [105, 110, 116], 0⟩], [⟨[102, 111, 114, 97, 108, 108], [], [97], 0, [[105]], [], [], [[⟨[118, 97, 114], [112], [], 0, [], [⟨[111, 112], [45], 0, [⟨[111, 114, 100], [97], 0, [⟨[118, 97, 114], [105], 0, []⟩]⟩, ⟨[118, 97, 114], [107], 0, []⟩]⟩], [], []⟩, ⟨[105, 102], [], [], 0, [], [⟨[111, 112], [38], 0, [⟨[111, 112], [60, 61], 0, [⟨[105, 110, 116], [], 0, []⟩, ⟨[118, 97, 114], [112], 0, []⟩]⟩, ⟨[111, 112], [60], 0, [⟨[118, 97, 114], [112], 0, []⟩, ⟨[99, 111, 117, 110, 116], [98], 0, []⟩]⟩]⟩], [], [[⟨[112, 117, 116], [97], [], 0, [], [⟨[118, 97, 114], [105], 0, []⟩, ⟨[97, 116], [98], 0, [⟨[110, 116, 104], [98], 0, [⟨[118, 97, 114], [112], 0, []⟩]⟩]⟩], [], []⟩], [⟨[112, 117, 116], [97], [], 0, [], [⟨[118, 97, 114], [105], 0, []⟩, ⟨[105, 110, 116], [], 0, []⟩], [], []⟩]]⟩]]⟩]⟩
def pr5 : Prc := ⟨[114, 101, 118], [110, 111, 110, 101], [⟨[97], [97, 114, 114, 97, 121], 1⟩], [⟨[102, 111, 114, 97, 108, 108], [], [97], 0, [[105]], [], [], [[⟨[118, 97, 114], [112], [], 0, [], [⟨[111, 114, 100], [97], 0, [⟨[118, 97, 114], [105], 0, []⟩]⟩], [], []⟩, ⟨[118, 97, 114], [113], [], 0, [], [⟨[111, 112], [45], 0, [⟨[111, 112], [45], 0, [⟨[99, 111, 117, 110, 116], [97], 0, []⟩, ⟨[105, 110, 116], [], 1, []⟩]⟩, ⟨[118, 97, 114], [112], 0, []⟩]⟩], [], []⟩, ⟨[105, 102], [], [], 0, [], [⟨[111, 112], [60], 0, [⟨[118, 97, 114], [112], 0, []⟩, ⟨[118, 97, 114], [113], 0, []⟩]⟩], [], [[⟨[118, 97, 114], [106], [], 0, [], [⟨[110, 116, 104], [97], 0, [⟨[118, 97, 114], [113], 0, []⟩]⟩], [], []⟩, ⟨[118, 97, 114], [120], [], 0, [], [⟨[97, 116], [97], 0, [⟨[118, 97, 114], [105], 0, []⟩]⟩], [], []⟩, ⟨[112, 117, 116], [97], [], 0, [], [⟨[118, 97, 114], [105], 0, []⟩, ⟨[97, 116], [97], 0, [⟨[118, 97, 114], [106], 0, []⟩]⟩], [], []⟩, ⟨[112, 117, 116], [97], [], 0, [], [⟨[118, 97, 114], [106], 0, []⟩, ⟨[118, 97, 114], [120], 0, []⟩], [], []⟩], []]⟩]]⟩]⟩
def pr6 : Prc := ⟨[112, 114, 101, 102, 105, 120], [110, 111, 110, 101], [⟨[97], [97, 114, 114, 97, 121], 1⟩], [⟨[118, 97, 114], [115], [], 0, [], [⟨[105, 110, 116], [], 0, []⟩], [], []⟩, ⟨[102, 111, 114], [], [97], 0, [[105]], [], [], [[⟨[115, 101, 116], [115], [], 0, [], [⟨[111, 112], [43], 0, [⟨[118, 97, 114], [115], 0, []⟩, ⟨[97, 116], [97], 0, [⟨[118, 97, 114], [105], 0, []⟩]⟩]⟩], [], []⟩, ⟨[112, 117, 116], [97], [], 0, [], [⟨[118, 97, 114], [105], 0, []⟩, ⟨[118, 97, 114], [115], 0, []⟩], [], []⟩]]⟩]⟩
def pr7 : Prc := ⟨[115, 111, 114, 116], [110, 111, 110, 101], [⟨[97], [97, 114, 114, 97, 121], 1⟩], [⟨[118, 97, 114], [110], [], 0, [], [⟨[99, 111, 117, 110, 116], [97], 0, []⟩], [], []⟩, ⟨[118, 97, 114], [107], [], 0, [], [⟨[105, 110, 116], [], 0, []⟩], [], []⟩, ⟨[119, 104, 105, 108, 101], [], [], 0, [], [⟨[111, 112], [60], 0, [⟨[118, 97, 114], [107], 0, []⟩, ⟨[118, 97, 114], [110], 0, []⟩]⟩], [], [[⟨[102, 111, 114, 97, 108, 108], [], [97], 0, [[105]], [], [], [[⟨[118, 97, 114], [112], [], 0, [], [⟨[111, 114, 100], [97], 0, [⟨[118, 97, 114], [105], 0, []⟩]⟩], [], []⟩, ⟨[105, 102], [], [], 0, [], [⟨[111, 112], [38], 0, [⟨[111, 112], [61, 61], 0, [⟨[111, 112], [37], 0, [⟨[111, 112], [43], 0, [⟨[118, 97, 114], [112], 0, []⟩, ⟨[118, 97, 114], [107], 0, []⟩]⟩, ⟨[105, 110, 116], [], 2, []⟩]⟩, ⟨[105, 110, 116], [], 0, []⟩]⟩, ⟨[111, 112], [60], 0, [⟨[111, 112], [43], 0, [⟨[118, 97, 114], [112], 0, []⟩, ⟨[105, 110, 116], [], 1, []⟩]⟩, ⟨[118, 97, 114], [110], 0, []⟩]⟩]⟩], [], [[⟨[118, 97, 114], [106], [], 0, [], [⟨[110, 116, 104], [97], 0, [⟨[111, 112], [43], 0, [⟨[118, 97, 114], [112], 0, []⟩, ⟨[105, 110, 116], [], 1, []⟩]⟩]⟩], [], []⟩, ⟨[118, 97, 114], [120], [], 0, [], [⟨[97, 116], [97], 0, [⟨[118, 97, 114], [105], 0, []⟩]⟩], [], []⟩, ⟨[118, 97, 114], [121], [], 0, [], [⟨[97, 116], [97], 0, [⟨[118, 97, 114], [106], 0, []⟩]⟩], [], []⟩, ⟨[105, 102], [], [], 0, [], [⟨[111, 112], [60], 0, [⟨[118, 97, 114], [121], 0, []⟩, ⟨[118, 97, 114], [120], 0, []⟩]⟩], [], [[⟨[112, 117, 116], [97], [], 0, [], [⟨[118, 97, 114], [105], 0, []⟩, ⟨[118, 97, 114], [121], 0, []⟩], [], []⟩, ⟨[112, 117, 116], [97], [], 0, [], [⟨[118, 97, 114], [106], 0, []⟩, ⟨[118, 97, 114], [120], 0, []⟩], [], []⟩], []]⟩], []]⟩]]⟩, ⟨[115, 101, 116], [107], [], 0, [], [⟨[111, 112], [43], 0, [⟨[118, 97, 114], [107], 0, []⟩, ⟨[105, 110, 116], [], 1, []⟩]⟩], [], []⟩]]⟩]⟩
def pr8 : Prc := ⟨[104, 105, 115, 116], [110, 111, 110, 101], [⟨[104], [97, 114, 114, 97, 121], 1⟩, ⟨[97], [97, 114, 114, 97, 121], 1⟩], [⟨[102, 111, 114, 97, 108, 108], [], [104], 0, [[105]], [], [], [[⟨[112, 117, 116], [104], [], 0, [], [⟨[118, 97, 114], [105], 0, []⟩, ⟨[105, 110, 116], [], 0, []⟩], [], []⟩]]⟩, ⟨[102, 111, 114], [], [97], 0, [[105]], [], [], [[⟨[118, 97, 114], [118], [], 0, [], [⟨[97, 116], [97], 0, [⟨[118, 97, 114], [105], 0, []⟩]⟩], [], []⟩, ⟨[105, 102], [], [], 0, [], [⟨[111, 112], [38], 0, [⟨[111, 112], [60, 61], 0, [⟨[105, 110, 116], [], 0, []⟩, ⟨[118, 97, 114], [118], 0, []⟩]⟩, ⟨[111, 112], [60], 0, [⟨[118, 97, 114], [118], 0, []⟩, ⟨[99, 111, 117, 110, 116], [104], 0, []⟩]⟩]⟩], [], [[⟨[118, 97, 114], [106], [], 0, [], [⟨[110, 116, 104], [104], 0, [⟨[118, 97, 114], [118], 0, []⟩]⟩], [], []⟩, ⟨[112, 117, 116], [104], [], 0, [], [⟨[118, 97, 114], [106], 0, []⟩, ⟨[111, 112], [43], 0, [⟨[97, 116], [104], 0, [⟨[118, 97, 114], [106], 0, []⟩]⟩, ⟨[105, 110, 116], [], 1, []⟩]⟩], [], []⟩], []]⟩]]⟩]⟩
def pr9 : Prc := ⟨[99, 111, 108, 117, 109, 110, 115], [105, 110, 116], [⟨[97], [97, 114, 114, 97, 121], 2⟩], [⟨[118, 97, 114], [110], [], 0, [], [⟨[105, 110, 116], [], 0, []⟩], [], []⟩, ⟨[105, 102], [], [], 0, [], [⟨[111, 112], [60], 0, [⟨[105, 110, 116], [], 0, []⟩, ⟨[99, 111, 117, 110, 116], [97], 0, []⟩]⟩], [], [[⟨[118, 97, 114], [102, 105, 114, 115, 116], [], 0, [], [⟨[110, 116, 104], [97], 0, [⟨[105, 110, 116], [], 0, []⟩]⟩], [], []⟩, ⟨[102, 111, 114], [], [97], 0, [[105], [106]], [], [], [[⟨[105, 102], [], [], 0, [], [⟨[111, 112], [61, 61], 0, [⟨[118, 97, 114], [105], 0, []⟩, ⟨[118, 97, 114], [102, 105, 114, 115, 116], 0, []⟩]⟩], [], [[⟨[115, 101, 116], [110], [], 0, [], [⟨[111, 112], [43], 0, [⟨[118, 97, 114], [110], 0, []⟩, ⟨[105, 110, 116], [], 1, []⟩]⟩], [], []⟩], []]⟩]]⟩], []]⟩, ⟨[114, 101, 116, 117, 114, 110], [], [], 0, [], [⟨[118, 97, 114], [110], 0, []⟩], [], []⟩]⟩
def pr10 : Prc := ⟨[114, 111, 119, 115], [105, 110, 116], [⟨[97], [97, 114, 114, 97, 121], 2⟩], [⟨[118, 97, 114], [110], [], 0, [], [⟨[99, 97, 108, 108], [99, 111, 108, 117, 109, 110, 115], 0, [⟨[118, 97, 114], [97], 0, []⟩]⟩], [], []⟩, ⟨[118, 97, 114], [114], [], 0, [], [⟨[105, 110, 116], [], 0, []⟩], [], []⟩, ⟨[105, 102], [], [], 0, [], [⟨[111, 112], [60], 0, [⟨[105, 110, 116], [], 0, []⟩, ⟨[118, 97, 114], [110], 0, []⟩]⟩], [], [[⟨[115, 101, 116], [114], [], 0, [], [⟨[111, 112], [47], 0, [⟨[99, 111, 117, 110, 116], [97], 0, []⟩, ⟨[118, 97, 114], [110], 0, []⟩]⟩], [], []⟩], []]⟩, ⟨[114, 101, 116, 117, 114, 110], [], [], 0, [], [⟨[118, 97, 114], [114], 0, []⟩], [], []⟩]⟩
def pr11 : Prc := ⟨[109, 97, 116, 109, 117, 108], [110, 111, 110, 101], [⟨[99], [97, 114, 114, 97, 121], 2⟩, ⟨[97], [97, 114, 114, 97, 121], 2⟩, ⟨[98], [97, 114, 114, 97, 121], 2⟩], [⟨[118, 97, 114], [110], [], 0, [], [⟨[99, 97, 108, 108], [99, 111, 108, 117, 109, 110, 115], 0, [⟨[118, 97, 114], [97], 0, []⟩]⟩], [], []⟩, ⟨[118, 97, 114], [109], [], 0, [], [⟨[99, 97, 108, 108], [99, 111, 108, 117, 109, 110, 115], 0, [⟨[118, 97, 114], [98], 0, []⟩]⟩], [], []⟩, ⟨[105, 102], [], [], 0, [], [⟨[111, 112], [38], 0, [⟨[111, 112], [38], 0, [⟨[111, 112], [61, 61], 0, [⟨[99, 97, 108, 108], [114, 111, 119, 115], 0, [⟨[118, 97, 114], [99], 0, []⟩]⟩, ⟨[99, 97, 108, 108], [114, 111, 119, 115], 0, [⟨[118, 97, 114], [97], 0, []⟩]⟩]⟩, ⟨[111, 112], [61, 61], 0, [⟨[118, 97, 114], [110], 0, []⟩, ⟨[99, 97, 108, 108], [114, 111, 119, 115], 0, [⟨[118, 97, 114], [98], 0, []⟩]⟩]⟩]⟩, ⟨[111, 112], [61, 61], 0, [⟨[118, 97, 114], [109], 0, []⟩, ⟨[99, 97, 108, 108], [99, 111, 108, 117, 109, 110, 115], 0, [⟨[118, 97, 114], [99], 0, []⟩]⟩]⟩]⟩], [], [[], [⟨[104, 97, 108, 116], [], [115, 105, 122, 101], 0, [], [], [], []⟩]]⟩, ⟨[102, 111, 114, 97, 108, 108], [], [99], 0, [[105], [106]], [], [], [[⟨[118, 97, 114], [112], [], 0, [], [⟨[111, 114, 100], [99], 0, [⟨[118, 97, 114], [105], 0, []⟩, ⟨[118, 97, 114], [106], 0, []⟩]⟩], [], []⟩, ⟨[118, 97, 114], [115], [], 0, [], [⟨[105, 110, 116], [], 0, []⟩], [], []⟩, ⟨[118, 97, 114], [107], [], 0, [], [⟨[105, 110, 116], [], 0, []⟩], [], []⟩, ⟨[119, 104, 105, 108, 101], [], [], 0, [], [⟨[111, 112], [60], 0, [⟨[118, 97, 114], [107], 0, []⟩, ⟨[118, 97, 114], [110], 0, []⟩]⟩], [], [[⟨[118, 97, 114], [120], [], 0, [], [⟨[111, 112], [43], 0, [⟨[111, 112], [42], 0, [⟨[111, 112], [47], 0, [⟨[118, 97, 114], [112], 0, []⟩, ⟨[118, 97, 114], [109], 0, []⟩]⟩, ⟨[118, 97, 114], [110], 0, []⟩]⟩, ⟨[118, 97, 114], [107], 0, []⟩]⟩], [], []⟩, ⟨[118, 97, 114], [121], [], 0, [], [⟨[111, 112], [43], 0, [⟨[111, 112], [42], 0, [⟨[118, 97, 114], [107], 0, []⟩, ⟨[118, 97, 114], [109], 0, []⟩]⟩, ⟨[111, 112], [37], 0, [⟨[118, 97, 114], [112], 0, []⟩, ⟨[118, 97, 114], [109], 0, []⟩]⟩]⟩], [], []⟩, ⟨[115, 101, 116], [115], [], 0, [], [⟨[111, 112], [43], 0, [⟨[118, 97, 114], [115], 0, []⟩, ⟨[111, 112], [42], 0, [⟨[97, 116], [97], 0, [⟨[110, 116, 104], [97], 0, [⟨[118, 97, 114], [120], 0, []⟩]⟩, ⟨[110, 116, 104], [97], 1, [⟨[118, 97, 114], [120], 0, []⟩]⟩]⟩, ⟨[97, 116], [98], 0, [⟨[110, 116, 104], [98], 0, [⟨[118, 97, 114], [121], 0, []⟩]⟩, ⟨[110, 116, 104], [98], 1, [⟨[118, 97, 114], [121], 0, []⟩]⟩]⟩]⟩]⟩], [], []⟩, ⟨[115, 101, 116], [107], [], 0, [], [⟨[111, 112], [43], 0, [⟨[118, 97, 114], [107], 0, []⟩, ⟨[105, 110, 116], [], 1, []⟩]⟩], [], []⟩]]⟩, ⟨[112, 117, 116], [99], [], 0, [], [⟨[118, 97, 114], [105], 0, []⟩, ⟨[118, 97, 114], [106], 0, []⟩, ⟨[118, 97, 114], [115], 0, []⟩], [], []⟩]]⟩]⟩
def pr12 : Prc := ⟨[116, 117, 114, 110], [110, 111, 110, 101], [⟨[98], [97, 114, 114, 97, 121], 2⟩, ⟨[97], [97, 114, 114, 97, 121], 2⟩], [⟨[118, 97, 114], [110], [], 0, [], [⟨[99, 97, 108, 108], [99, 111, 108, 117, 109, 110, 115], 0, [⟨[118, 97, 114], [97], 0, []⟩]⟩], [], []⟩, ⟨[118, 97, 114], [109], [], 0, [], [⟨[99, 97, 108, 108], [99, 111, 108, 117, 109, 110, 115], 0, [⟨[118, 97, 114], [98], 0, []⟩]⟩], [], []⟩, ⟨[105, 102], [], [], 0, [], [⟨[111, 112], [38], 0, [⟨[111, 112], [61, 61], 0, [⟨[99, 97, 108, 108], [114, 111, 119, 115], 0, [⟨[118, 97, 114], [98], 0, []⟩]⟩, ⟨[118, 97, 114], [110], 0, []⟩]⟩, ⟨[111, 112], [61, 61], 0, [⟨[99, 97, 108, 108], [114, 111, 119, 115], 0, [⟨[118, 97, 114], [97], 0, []⟩]⟩, ⟨[118, 97, 114], [109], 0, []⟩]⟩]⟩], [], [[], [⟨[104, 97, 108, 116], [], [115, 105, 122, 101], 0, [], [], [], []⟩]]⟩, ⟨[102, 111, 114, 97, 108, 108], [], [98], 0, [[105], [106]], [], [], [[⟨[118, 97, 114], [112], [], 0, [], [⟨[111, 114, 100], [98], 0, [⟨[118, 97, 114], [105], 0, []⟩, ⟨[118, 97, 114], [106], 0, []⟩]⟩], [], []⟩, ⟨[118, 97, 114], [120], [], 0, [], [⟨[111, 112], [43], 0, [⟨[111, 112], [42], 0, [⟨[111, 112], [37], 0, [⟨[118, 97, 114], [112], 0, []⟩, ⟨[118, 97, 114], [109], 0, []⟩]⟩, ⟨[118, 97, 114], [110], 0, []⟩]⟩, ⟨[111, 112], [47], 0, [⟨[118, 97, 114], [112], 0, []⟩, ⟨[118, 97, 114], [109], 0, []⟩]⟩]⟩], [], []⟩, ⟨[112, 117, 116], [98], [], 0, [], [⟨[118, 97, 114], [105], 0, []⟩, ⟨[118, 97, 114], [106], 0, []⟩, ⟨[97, 116], [97], 0, [⟨[110, 116, 104], [97], 0, [⟨[118, 97, 114], [120], 0, []⟩]⟩, ⟨[110, 116, 104], [97], 1, [⟨[118, 97, 114], [120], 0, []⟩]⟩]⟩], [], []⟩]]⟩]⟩
def pr13 : Prc := ⟨[112, 111, 119, 101, 114], [105, 110, 116], [⟨[120], [105, 110, 116], 0⟩, ⟨[110], [105, 110, 116], 0⟩, ⟨[109], [105, 110, 116], 0⟩], [⟨[118, 97, 114], [114], [], 0, [], [⟨[111, 112], [37], 0, [⟨[105, 110, 116], [], 1, []⟩, ⟨[118, 97, 114], [109], 0, []⟩]⟩], [], []⟩, ⟨[118, 97, 114], [98], [], 0, [], [⟨[111, 112], [37], 0, [⟨[111, 112], [43], 0, [⟨[111, 112], [37], 0, [⟨[118, 97, 114], [120], 0, []⟩, ⟨[118, 97, 114], [109], 0, []⟩]⟩, ⟨[118, 97, 114], [109], 0, []⟩]⟩, ⟨[118, 97, 114], [109], 0, []⟩]⟩], [], []⟩, ⟨[118, 97, 114], [107], [], 0, [], [⟨[118, 97, 114], [110], 0, []⟩], [], []⟩, ⟨[119, 104, 105, 108, 101], [], [], 0, [], [⟨[111, 112], [60], 0, [⟨[105, 110, 116], [], 0, []⟩, ⟨[118, 97, 114], [107], 0, []⟩]⟩], [], [[⟨[105, 102], [], [], 0, [], [⟨[111, 112], [61, 61], 0, [⟨[111, 112], [37], 0, [⟨[118, 97, 114], [107], 0, []⟩, ⟨[105, 110, 116], [], 2, []⟩]⟩, ⟨[105, 110, 116], [], 1, []⟩]⟩], [], [[⟨[115, 101, 116], [114], [], 0, [], [⟨[111, 112], [37], 0, [⟨[111, 112], [42], 0, [⟨[118, 97, 114], [114], 0, []⟩, ⟨[118, 97, 114], [98], 0, []⟩]⟩, ⟨[118, 97, 114], [109], 0, []⟩]⟩], [], []⟩], []]⟩, ⟨[115, 101, 116], [98], [], 0, [], [⟨[111, 112], [37], 0, [⟨[111, 112], [42], 0, [⟨[118, 97, 114], [98], 0, []⟩, ⟨[118, 97, 114], [98], 0, []⟩]⟩, ⟨[118, 97, 114], [109], 0, []⟩]⟩], [], []⟩, ⟨[115, 101, 116], [107], [], 0, [], [⟨[111, 112], [47], 0, [⟨[118, 97, 114], [107], 0, []⟩, ⟨[105, 110, 116], [], 2, []⟩]⟩], [], []⟩]]⟩, ⟨[114, 101, 116, 117, 114, 110], [], [], 0, [], [⟨[118, 97, 114], [114], 0, []⟩], [], []⟩]⟩
def pr14 : Prc := ⟨[102, 111, 117, 114, 105, 101, 114], [110, 111, 110, 101], [⟨[98], [97, 114, 114, 97, 121], 1⟩, ⟨[97], [97, 114, 114, 97, 121], 1⟩, ⟨[119], [105, 110, 116], 0⟩], [⟨[118, 97, 114], [110], [], 0, [], [⟨[99, 111, 117, 110, 116], [97], 0, []⟩], [], []⟩, ⟨[105, 102], [], [], 0, [], [⟨[111, 112], [61, 61], 0, [⟨[118, 97, 114], [110], 0, []⟩, ⟨[99, 111, 117, 110, 116], [98], 0, []⟩]⟩], [], [[], [⟨[104, 97, 108, 116], [], [115, 105, 122, 101], 0, [], [], [], []⟩]]⟩, ⟨[102, 111, 114, 97, 108, 108], [], [98], 0, [[105]], [], [], [[⟨[118, 97, 114], [107], [], 0, [], [⟨[111, 114, 100], [98], 0, [⟨[118, 97, 114], [105], 0, []⟩]⟩], [], []⟩, ⟨[118, 97, 114], [115], [], 0, [], [⟨[105, 110, 116], [], 0, []⟩], [], []⟩, ⟨[118, 97, 114], [106], [], 0, [], [⟨[105, 110, 116], [], 0, []⟩], [], []⟩, ⟨[119, 104, 105, 108, 101], [], [], 0, [], [⟨[111, 112], [60], 0, [⟨[118, 97, 114], [106], 0, []⟩, ⟨[118, 97, 114], [110], 0, []⟩]⟩], [], [[⟨[115, 101, 116], [115], [], 0, [], [⟨[111, 112], [37], 0, [⟨[111, 112], [43], 0, [⟨[118, 97, 114], [115], 0, []⟩, ⟨[111, 112], [42], 0, [⟨[111, 112], [37], 0, [⟨[97, 116], [97], 0, [⟨[110, 116, 104], [97], 0, [⟨[118, 97, 114], [106], 0, []⟩]⟩]⟩, ⟨[105, 110, 116], [], 97, []⟩]⟩, ⟨[99, 97, 108, 108], [112, 111, 119, 101, 114], 0, [⟨[118, 97, 114], [119], 0, []⟩, ⟨[111, 112], [42], 0, [⟨[118, 97, 114], [106], 0, []⟩, ⟨[118, 97, 114], [107], 0, []⟩]⟩, ⟨[105, 110, 116], [], 97, []⟩]⟩]⟩]⟩, ⟨[105, 110, 116], [], 97, []⟩]⟩], [], []⟩, ⟨[115, 101, 116], [106], [], 0, [], [⟨[111, 112], [43], 0, [⟨[118, 97, 114], [106], 0, []⟩, ⟨[105, 110, 116], [], 1, []⟩]⟩], [], []⟩]]⟩, ⟨[112, 117, 116], [98], [], 0, [], [⟨[118, 97, 114], [105], 0, []⟩, ⟨[111, 112], [37], 0, [⟨[111, 112], [43], 0, [⟨[118, 97, 114], [115], 0, []⟩, ⟨[105, 110, 116], [], 97, []⟩]⟩, ⟨[105, 110, 116], [], 97, []⟩]⟩], [], []⟩]]⟩]⟩
def pr15 : Prc := ⟨[114, 101, 97, 99, 104], [110, 111, 110, 101], [⟨[100], [97, 114, 114, 97, 121], 1⟩, ⟨[103], [97, 114, 114, 97, 121], 2⟩, ⟨[115], [105, 110, 116], 0⟩], [⟨[118, 97, 114], [110], [], 0, [], [⟨[99, 111, 117, 110, 116], [100], 0, []⟩], [], []⟩, ⟨[105, 102], [], [], 0, [], [⟨[111, 112], [38], 0, [⟨[111, 112], [61, 61], 0, [⟨[99, 97, 108, 108], [114, 111, 119, 115], 0, [⟨[118, 97, 114], [103], 0, []⟩]⟩, ⟨[118, 97, 114], [110], 0, []⟩]⟩, ⟨[111, 112], [61, 61], 0, [⟨[99, 97, 108, 108], [99, 111, 108, 117, 109, 110, 115], 0, [⟨[118, 97, 114], [103], 0, []⟩]⟩, ⟨[118, 97, 114], [110], 0, []⟩]⟩]⟩], [], [[], [⟨[104, 97, 108, 116], [], [115, 105, 122, 101], 0, [], [], [], []⟩]]⟩, ⟨[102, 111, 114, 97, 108, 108], [], [100], 0, [[105]], [], [], [[⟨[112, 117, 116], [100], [], 0, [], [⟨[118, 97, 114], [105], 0, []⟩, ⟨[111, 112], [45], 0, [⟨[105, 110, 116], [], 0, []⟩, ⟨[105, 110, 116], [], 1, []⟩]⟩], [], []⟩]]⟩, ⟨[112, 117, 116], [100], [], 0, [], [⟨[110, 116, 104], [100], 0, [⟨[118, 97, 114], [115], 0, []⟩]⟩, ⟨[105, 110, 116], [], 0, []⟩], [], []⟩, ⟨[118, 97, 114], [108], [], 0, [], [⟨[105, 110, 116], [], 0, []⟩], [], []⟩, ⟨[119, 104, 105, 108, 101], [], [], 0, [], [⟨[111, 112], [60], 0, [⟨[118, 97, 114], [108], 0, []⟩, ⟨[118, 97, 114], [110], 0, []⟩]⟩], [], [[⟨[102, 111, 114], [], [100], 0, [[105]], [], [], [[⟨[105, 102], [], [], 0, [], [⟨[111, 112], [61, 61], 0, [⟨[97, 116], [100], 0, [⟨[118, 97, 114], [105], 0, []⟩]⟩, ⟨[118, 97, 114], [108], 0, []⟩]⟩], [], [[⟨[118, 97, 114], [113], [], 0, [], [⟨[105, 110, 116], [], 0, []⟩], [], []⟩, ⟨[119, 104, 105, 108, 101], [], [], 0, [], [⟨[111, 112], [60], 0, [⟨[118, 97, 114], [113], 0, []⟩, ⟨[118, 97, 114], [110], 0, []⟩]⟩], [], [[⟨[118, 97, 114], [120], [], 0, [], [⟨[111, 112], [43], 0, [⟨[111, 112], [42], 0, [⟨[111, 114, 100], [100], 0, [⟨[118, 97, 114], [105], 0, []⟩]⟩, ⟨[118, 97, 114], [110], 0, []⟩]⟩, ⟨[118, 97, 114], [113], 0, []⟩]⟩], [], []⟩, ⟨[118, 97, 114], [106], [], 0, [], [⟨[110, 116, 104], [100], 0, [⟨[118, 97, 114], [113], 0, []⟩]⟩], [], []⟩, ⟨[105, 102], [], [], 0, [], [⟨[111, 112], [38], 0, [⟨[111, 112], [33], 0, [⟨[111, 112], [61, 61], 0, [⟨[97, 116], [103], 0, [⟨[110, 116, 104], [103], 0, [⟨[118, 97, 114], [120], 0, []⟩]⟩, ⟨[110, 116, 104], [103], 1, [⟨[118, 97, 114], [120], 0, []⟩]⟩]⟩, ⟨[105, 110, 116], [], 0, []⟩]⟩]⟩, ⟨[111, 112], [61, 61], 0, [⟨[97, 116], [100], 0, [⟨[118, 97, 114], [106], 0, []⟩]⟩, ⟨[111, 112], [45], 0, [⟨[105, 110, 116], [], 0, []⟩, ⟨[105, 110, 116], [], 1, []⟩]⟩]⟩]⟩], [], [[⟨[112, 117, 116], [100], [], 0, [], [⟨[118, 97, 114], [106], 0, []⟩, ⟨[111, 112], [43], 0, [⟨[118, 97, 114], [108], 0, []⟩, ⟨[105, 110, 116], [], 1, []⟩]⟩], [], []⟩], []]⟩, ⟨[115, 101, 116], [113], [], 0, [], [⟨[111, 112], [43], 0, [⟨[118, 97, 114], [113], 0, []⟩, ⟨[105, 110, 116], [], 1, []⟩]⟩], [], []⟩]]⟩], []]⟩]]⟩, ⟨[115, 101, 116], [108], [], 0, [], [⟨[111, 112], [43], 0, [⟨[118, 97, 114], [108], 0, []⟩, ⟨[105, 110, 116], [], 1, []⟩]⟩], [], []⟩]]⟩]⟩
def cG : List Prc := [pr0, pr1, pr2, pr3, pr4, pr5, pr6, pr7, pr8, pr9, pr10, pr11, pr12, pr13, pr14, pr15]
def awS : List Stm := [⟨[100, 111, 109], [100], [99, 121, 99, 108, 105, 99], 0, [], [⟨[105, 110, 116], [], 0, []⟩, ⟨[105, 110, 116], [], 2, []⟩, ⟨[105, 110, 116], [], 1, []⟩], [], []⟩, ⟨[97, 114, 114], [97], [100], 0, [], [⟨[105, 110, 116], [], 5, []⟩], [], []⟩, ⟨[119, 114, 105, 116, 101], [], [], 0, [], [⟨[99, 97, 108, 108], [116, 111, 116, 97, 108], 0, [⟨[118, 97, 114], [97], 0, []⟩]⟩], [], []⟩]
end Go.Abs
namespace Go.Abs
open Go.Proofs
def j8 : S → S → List S
 | _, [] => []
 | w, c :: r => match decide (c = 32) with | false => j8 (w ++ [c]) r | true => (match aD w [] with | true => j8 [] r | false => w :: j8 [] r)
end Go.Abs
namespace Go.Abs
open Go.Proofs
def keysR : S := [32, 97, 110, 100, 32, 97, 114, 114, 97, 121, 32, 97, 116, 32, 97, 116, 111, 109, 105, 99, 32, 98, 101, 103, 105, 110, 32, 98, 108, 111, 99, 107, 32, 98, 108, 111, 99, 107, 115, 32, 98, 111, 111, 108, 32, 98, 121, 32, 99, 111, 98, 101, 103, 105, 110, 32, 99, 111, 102, 111, 114, 97, 108, 108, 32, 99, 111, 117, 110, 116, 32, 99, 121, 99, 108, 105, 99, 32, 100, 111, 32, 100, 111, 109, 97, 105, 110, 32, 101, 108, 115, 101, 32, 102, 97, 108, 115, 101, 32, 102, 105, 108, 108, 32, 102, 111, 108, 100, 32, 102, 111, 114, 32, 102, 111, 114, 97, 108, 108, 32, 103, 101, 116, 32, 103, 105, 118, 101, 32, 104, 97, 108, 116, 32, 104, 97, 115, 32, 104, 105, 103, 104, 32, 105, 102, 32, 105, 110, 32, 105, 110, 116, 32, 105, 115, 32, 108, 111, 119, 32, 109, 97, 120, 32, 109, 105, 110, 32, 110, 111, 110, 101, 32, 110, 116, 104, 32, 111, 110, 32, 111, 114, 100, 32, 111, 118, 101, 114, 32, 112, 114, 111, 99, 32, 114, 101, 97, 100, 32, 114, 101, 100, 117, 99, 101, 32, 114, 101, 115, 105, 122, 101, 32, 114, 101, 116, 117, 114, 110, 32, 115, 99, 97, 110, 32, 115, 101, 116, 32, 115, 105, 110, 103, 108, 101, 32, 115, 121, 110, 99, 32, 116, 111, 32, 116, 114, 117, 101, 32, 118, 97, 114, 32, 119, 104, 101, 114, 101, 32, 119, 104, 105, 108, 101, 32, 119, 104, 111, 108, 101, 32, 119, 105, 116, 104, 32, 119, 114, 105, 116, 101, 32, 122, 105, 112, 32, 97, 100, 100, 32]
theorem wk : j8 [] keysR = keyList := by kernel_rfl
end Go.Abs
namespace Go.Abs
open Go.Proofs
def tx3 : S := [98, 108, 111, 99, 107, 32, 119, 104, 111, 108, 101, 32, 99, 121, 99, 108, 105, 99]
end Go.Abs
namespace Go.Abs
theorem iS {a b : S} : aD a b = true ↔ a = b := by simp [aD]
end Go.Abs
namespace Go.Abs
open Go.Proofs
theorem digs_all : ∀ (s : S), gC s = s.length → ∀ c ∈ s, j4 c.toNat = true
 | [], _, c, hc => by simp at hc
 | b :: r, h, c, hc => by
   simp only [gC] at h
   split at h
   ·rename_i hb
    rcases List.mem_cons.1 hc with rfl | hc
    ·exact hb
    ·exact digs_all r (by simpa using h) c hc
   ·simp at h
theorem dec_some : ∀ (s : S) (acc : Nat), (∀ c ∈ s, j4 c.toNat = true) → ∃ n, Go.Lib.decFrom acc s = some n
 | [], acc, _ => ⟨acc, rfl⟩
 | b :: r, acc, h => by
   have hb := h b (by simp)
   simp only [j4, Bool.and_eq_true, decide_eq_true_eq] at hb
   have : Go.Lib.digitVal b = some (b.toNat - 48) := by simp only [Go.Lib.digitVal]; rw [if_pos (by omega)]
   simp only [Go.Lib.decFrom, this]
   exact dec_some r _ fun c hc => h c (by simp [hc])
theorem atoi_digs {s : S} (h0 : s ≠ []) (h : ∀ c ∈ s, j4 c.toNat = true) : ∃ n, Go.Lib.atoi s = some n := by
 cases s with
 | nil => exact absurd rfl h0
 | cons b r =>
   obtain ⟨n, hn⟩ := dec_some (b :: r) 0 h
   have hb := h b (by simp)
   simp only [j4, Bool.and_eq_true, decide_eq_true_eq] at hb
   have h1 : (b == 45) = false := by
    cases hc : b == 45 with
    | false => rfl
    | true => simp only [beq_iff_eq] at hc; subst hc; simp at hb
   have h2 : (b == 43) = false := by
    cases hc : b == 43 with
    | false => rfl
    | true => simp only [beq_iff_eq] at hc; subst hc; simp at hb
   refine ⟨(n : Int), ?_⟩
   simp only [Go.Lib.atoi, h1, h2, Bool.false_eq_true, if_false, Go.Lib.decNat, List.isEmpty_cons]
   rw [hn]; rfl
theorem digN_le (s : S) : gn s ≤ s.length := by
 unfold gn
 split
 ·rename_i h; simp [dY] at h; omega
 ·exact iP s
theorem kindS_int (s : S) : aD (lK s) [105, 110, 116] = false := by
 unfold lK
 cases aY s keyList <;> decide
theorem int_spec {s : S} (h : fp [105, 110, 116] s = true) : s.length ≤ 9 ∧ s ≠ [] ∧ ∀ c ∈ s, j4 c.toNat = true := by
 simp only [fp, Bool.and_eq_true] at h
 obtain ⟨h1, h2, h3⟩ := h
 unfold aC at h1 h2 h3
 split at h1
 ·rename_i n e
  simp only [e] at h2
  rw [kindS_int] at h2; cases h2
 ·rename_i e
  simp only [e] at h1 h2 h3
  split at h1
  ·rename_i n e2
   simp only [e2] at h3
   have ht := iS.1 h3
   have hl : (s.take (n + 1)).length = s.length := by rw [ht]
   have hd := digN_le s
   rw [e2] at hd
   rw [List.length_take] at hl
   have hn : n + 1 = s.length := by omega
   have h9 : (n : Int) + 1 ≤ 9 := by simpa using h1
   refine ⟨by omega, by intro h; subst h; simp at hn, ?_⟩
   unfold gn at e2
   split at e2
   ·rename_i hp
    have : s = [48] := by
     simp only [dY, Bool.and_eq_true] at hp
     have := iS.1 hp.2
     have hl1 : s.length = 1 := by omega
     rw [← this, List.take_of_length_le (by simp; omega)]
    subst this
    simp [j4]
   ·exact digs_all s (by omega)
  ·rename_i e2
   simp only [e2] at h2
   split at h2
   ·exact absurd (iS.1 h2) (show ¬ ([115, 105, 103, 110] : S) = [105, 110, 116] by decide)
   ·exact absurd (iS.1 h2) (show ¬ ([] : S) = [105, 110, 116] by decide)
def numV (s : S) : Int := bif fp [105, 110, 116] s then (Go.Lib.atoi s).getD 0 else 0
def pE (s : S) : Int := bif fp [105, 110, 116] s then 0 else 3
theorem b141 (W0 : Go.World) (hk : Wk W0) (s : S) (hl : s.length ≤ 140737488355328) : be (Ctr Tryz.prog W0) F141.ac F141.rs [.sc (.s s)] [] (.tup [.sc (.i .i64 (numV s)), .sc (.i .i64 (pE s))]) [] := by
 conv => whnf
 refine callP.pure _ (c187 W0 hk [105, 110, 116] s 0 hl) ⟨rfl, rfl⟩ ?_
 conv => whnf
 refine aH (fun h => ?_) (fun h => ?_)
 ·rw [Bool.not_eq_false'] at h
  obtain ⟨i1, i2, i3⟩ := int_spec h
  obtain ⟨n, hn⟩ := atoi_digs i2 i3
  have e1 : numV s = n := by simp [numV, h, hn]
  have e2 : pE s = 0 := by simp [pE, h]
  rw [e1, e2]
  conv => whnf
  refine callP.pure _ (atoi_ctr W0 s n (by omega) hn) ⟨rfl, rfl⟩ ?_
  conv => whnf
  exact j1 rfl ⟨rfl, rfl, trivial⟩ rfl
 ·rw [Bool.not_eq_true'] at h
  have e1 : numV s = 0 := by simp [numV, h]
  have e2 : pE s = 3 := by simp [pE, h]
  rw [e1, e2]
  conv => whnf
  exact j1 rfl ⟨rfl, rfl, trivial⟩ rfl
theorem c141 (W0 : Go.World) (hk : Wk W0) (s : S) (hl : s.length ≤ 140737488355328) : Ctr Tryz.prog W0 170 [.sc (.s s)] [] (.tup [.sc (.i .i64 (numV s)), .sc (.i .i64 (pE s))]) [] :=
 ah follows F141_ok rfl (fun _ _ h => by cases h) rfl rfl (b141 W0 hk s hl)
def tOK (l : List T) : Prop := ∀ t ∈ l, t.2.1.length ≤ 10000
theorem pPeek_ok {l : List T} {s : PS} (h : tOK l) : (cl l s).2.1.length ≤ 10000 := by
 simp only [cl]
 cases s.bad with
 | true => simp [t0]
 | false =>
   simp only [cond_false]
   rw [List.getD_eq_getElem?_getD]
   cases hg : l[s.a]? with
   | none => simp [t0]
   | some t => exact h t (List.mem_of_getElem? hg)
theorem pNext_ok {l : List T} {s : PS} (h : tOK l) : (bz l s).1.2.1.length ≤ 10000 := by
 have := pPeek_ok (s := s) h
 simp only [bz]
 cases aD (cl l s).1 [] <;> simpa using this
def mF (l : List T) (s : PS) : Int × PS := (numV (bz l s).1.2.1, bif decide (pE (bz l s).1.2.1 = 0) then (bz l s).2 else ⟨(bz l s).2.a, true⟩)
theorem pNum_le {l : List T} {s : PS} (hs : s.a ≤ l.length) : s.a ≤ (mF l s).2.a ∧ (mF l s).2.a ≤ l.length := by
 have := lm hs
 simp only [mF]
 cases decide (pE (bz l s).1.2.1 = 0) <;> simp <;> omega
theorem b114 (W0 : Go.World) (hk : Wk W0) (l : List T) (s : PS) (ht : tOK l) (hl : l.length ≤ 140737488355328) (hs : s.a ≤ l.length) : be (Ctr Tryz.prog W0) F114.ac F114.rs [.ptr 0 0] [pbx l s] (.sc (.i .i64 ((mF l s).1))) [pbx l ((mF l s).2)] := by
 obtain ⟨a, bad⟩ := s
 simp only at hs
 repeat' ((conv => whnf); (first | with_reducible refine aH (fun _ => ?_) (fun _ => ?_) | (refine callP.full [0] [] [.ptr 0 0] [pbx l _] [pbx l _] _ (c113 W0 l ⟨a, bad⟩ hl hs) ⟨rfl, rfl, rfl, rfl, rfl, rfl, rfl, rfl, rfl, rfl, ⟨rfl, trivial⟩, ⟨⟨⟨rfl, rfl, .inr rfl⟩, rfl, rfl, trivial⟩, trivial⟩, trivial⟩ ?_) | (refine callP.pure _ (c141 W0 hk (bz l ⟨a, bad⟩).1.2.1 (Nat.le_trans (pNext_ok ht) (by decide))) ⟨rfl, rfl⟩ ?_) | fail))
 all_goals (conv => whnf)
 all_goals (simp only [mF]; simp_all only [Bool.not_eq_true', Bool.not_eq_false', decide_eq_false_iff_not, decide_eq_true_eq, decide_true, decide_false, cond_true, cond_false, Decidable.not_not])
 all_goals (first | refine cE rfl (rfl) rfl (rfl) (rfl) rfl (rfl) rfl)
theorem c114 (W0 : Go.World) (hk : Wk W0) (l : List T) (s : PS) (ht : tOK l) (hl : l.length ≤ 140737488355328) (hs : s.a ≤ l.length) : Ctr Tryz.prog W0 112 [.ptr 0 0] [pbx l s] (.sc (.i .i64 ((mF l s).1))) [pbx l ((mF l s).2)] :=
 ah follows F114_ok rfl (fun _ _ h => by cases h) rfl rfl (b114 W0 hk l s ht hl hs)
end Go.Abs
namespace Go.Abs
open Go.Proofs
def okN (s : S) : Bool := Nat.ble s.length 140737488355328
def okI (n : Int) : Bool := decide (-9223372036854775808 ≤ n) && decide (n ≤ 9223372036854775807)
mutual
def okEb : Exp → Bool | .mk o n k l => (okN o && okN n && okI k) && (Nat.ble l.length 140737488355328 && okLb l)
def okLb : List Exp → Bool | [] => true | x :: r => okEb x && okLb r
end
def okFb (f : Fold) : Bool := okN f.op && okN f.nm
mutual
def okSb : Stm → Bool | .mk o nm tx n ns es fs bs => (okN o && (okN nm && (okN tx && okI n))) && ((Nat.ble ns.length 140737488355328 && ns.all okN) && ((Nat.ble es.length 140737488355328 && okLb es) && ((Nat.ble fs.length 140737488355328 && fs.all okFb) && (Nat.ble bs.length 140737488355328 && okBsb bs))))
def okBb : List Stm → Bool | [] => true | x :: r => okSb x && okBb r
def okBsb : List (List Stm) → Bool | [] => true | x :: r => (Nat.ble x.length 140737488355328 && okBb x) && okBsb r
end
def okPmb (p : Prm) : Bool := okN p.nm && (okN p.ty && okI p.rk)
def okPb (p : Prc) : Bool := (okN p.nm && okN p.res) && ((Nat.ble p.ps.length 140737488355328 && p.ps.all okPmb) && (Nat.ble p.body.length 140737488355328 && okBb p.body))
def okGb (p : Prg) : Bool := (Nat.ble p.procs.length 140737488355328 && p.procs.all okPb) && (Nat.ble p.body.length 140737488355328 && okBb p.body)
theorem okI_s {n : Int} (h : okI n = true) : dM .i64 n := by
 simp only [okI, Bool.and_eq_true, decide_eq_true_eq] at h
 show _ ∧ _
 constructor <;> omega
theorem fc {s : S} (h : okN s = true) : s.length ≤ 140737488355328 := Nat.le_of_ble_eq_true h
mutual
theorem okEb_s : ∀ x : Exp, okEb x = true → x.ok
 | .mk o n k l, h => by
   simp only [okEb, Bool.and_eq_true] at h
   exact ⟨⟨fc h.1.1.1, fc h.1.1.2, okI_s h.1.2⟩, Nat.le_of_ble_eq_true h.2.1, okLb_s l h.2.2⟩
theorem okLb_s : ∀ l : List Exp, okLb l = true → jY l
 | [], _ => trivial
 | x :: r, h => by
   simp only [okLb, Bool.and_eq_true] at h
   exact ⟨okEb_s x h.1, okLb_s r h.2⟩
end
theorem okFb_s {f : Fold} (h : okFb f = true) : f.ok := by
 simp only [okFb, Bool.and_eq_true] at h
 exact ⟨fc h.1, fc h.2⟩
mutual
theorem okSb_s : ∀ x : Stm, okSb x = true → x.ok
 | .mk o nm tx n ns es fs bs, h => by
   simp only [okSb, Bool.and_eq_true] at h
   obtain ⟨⟨h1, h2, h3, h4⟩, ⟨h5, h6⟩, ⟨h7, h8⟩, ⟨h9, h10⟩, h11, h12⟩ := h
   exact ⟨⟨fc h1, fc h2, fc h3, okI_s h4⟩, ⟨Nat.le_of_ble_eq_true h5, fun s hs => fc (List.all_eq_true.1 h6 s hs)⟩, ⟨Nat.le_of_ble_eq_true h7, okLb_s es h8⟩, ⟨Nat.le_of_ble_eq_true h9, fun f hf => okFb_s (List.all_eq_true.1 h10 f hf)⟩, Nat.le_of_ble_eq_true h11, okBsb_s bs h12⟩
theorem pD : ∀ l : List Stm, okBb l = true → gL l
 | [], _ => trivial
 | x :: r, h => by
   simp only [okBb, Bool.and_eq_true] at h
   exact ⟨okSb_s x h.1, pD r h.2⟩
theorem okBsb_s : ∀ l : List (List Stm), okBsb l = true → oksBs l
 | [], _ => trivial
 | x :: r, h => by
   simp only [okBsb, Bool.and_eq_true] at h
   exact ⟨⟨Nat.le_of_ble_eq_true h.1.1, pD x h.1.2⟩, okBsb_s r h.2⟩
end
theorem okPmb_s {p : Prm} (h : okPmb p = true) : p.ok := by
 simp only [okPmb, Bool.and_eq_true] at h
 exact ⟨fc h.1, fc h.2.1, okI_s h.2.2⟩
theorem okPb_s {p : Prc} (h : okPb p = true) : p.ok := by
 simp only [okPb, Bool.and_eq_true] at h
 obtain ⟨⟨h1, h2⟩, ⟨h3, h4⟩, h5, h6⟩ := h
 exact ⟨⟨fc h1, fc h2⟩, ⟨Nat.le_of_ble_eq_true h3, fun x hx => okPmb_s (List.all_eq_true.1 h4 x hx)⟩, Nat.le_of_ble_eq_true h5, pD _ h6⟩
theorem je {p : Prg} (h : okGb p = true) : p.ok := by
 simp only [okGb, Bool.and_eq_true] at h
 obtain ⟨⟨h3, h4⟩, h5, h6⟩ := h
 exact ⟨⟨Nat.le_of_ble_eq_true h3, fun x hx => okPb_s (List.all_eq_true.1 h4 x hx)⟩, Nat.le_of_ble_eq_true h5, pD _ h6⟩
def tOKb (l : List T) : Bool := l.all fun t => Nat.ble t.2.1.length 10000
theorem px {l : List T} (h : tOKb l = true) : tOK l := fun t ht => Nat.le_of_ble_eq_true (List.all_eq_true.1 h t ht)
theorem srcT_len : srcT.length = 1688 := by kernel_rfl
theorem awT_len : awT.length = 1713 := by kernel_rfl
theorem src_good : okGb ⟨cG, []⟩ = true := by kernel_rfl
theorem p8 : okGb ⟨cG, awS⟩ = true := by kernel_rfl
theorem src_tOK : tOKb srcT = true := by kernel_rfl
theorem aw_tOK : tOKb awT = true := by kernel_rfl
theorem src_n : decide (nG ⟨cG, []⟩ ≤ 1152921504606846976) = true := by kernel_rfl
theorem aw_n : decide (nG ⟨cG, awS⟩ ≤ 1152921504606846976) = true := by kernel_rfl
end Go.Abs
namespace Go.Abs
open Go.Proofs
open K in
def F144 : Fn := ⟨.seq (.reg [n (mb 2 false)]) (.seq (.seq (.reg [m 6 0, n (cf 7 59 [.t 6, .c (.sc (.s [40]))]), n (.no 8 (.t 7))]) (.cond (.t 8) (.seq (.reg [n (mb 2 false)]) .ret) .skip)) (.seq (.reg [n (mi 3 0)]) (.seq (.seq (.regD [m 9 0, n (.nc 10 (.t 9)), n (fa 11 10 0), n (ld 12 11), m 13 0, n (.nc 14 (.t 13)), n (fa 15 14 1), n (ld 16 15), n (.slL 17 3 (.t 12) (some (.t 16)) none none), n (.len 18 (.t 17)), n (mi 19 0)] [0, 1, 3, 7, 0, 16, 48, 112, 255, 511, 0]) (.block 0 (.loop (.seq (.reg [n (b2 20 .lss 19 18)]) (.seq (.cond (.t 20) .skip (.exit 0)) (.seq (.block 1 (.seq (.reg [m 21 19, n (ix 22 3 17 19), n (.ld 23 3 true (.t 22)), n (.alloc 5 [.sc (.s []), .sc (.s []), .sc (.i .i64 0)]), m 4 21, n (.st (.t 5) 3 (.t 23))]) (.block 2 (.seq (.reg [n (fa 25 5 0), n (ld 26 25), n (bs 27 .eql 26 [115, 105, 103, 110]), m 28 27, w 28 (fa 29 5 1), w 28 (ld 30 29), w 28 (bs 31 .eql 30 [40]), wm 28 32 31, g 32 (fa 33 5 1), g 32 (ld 34 33), g 32 (bs 35 .eql 34 [91]), w 28 (pt 36 32 35), n (pf 37 28 36), m 24 37]) (.cond (.t 24) (.reg [m 38 3, n (bi 39 .add 38 1), m 3 39]) (.seq (.reg [n (fa 41 5 0), n (ld 42 41), n (bs 43 .eql 42 [115, 105, 103, 110]), m 44 43, w 44 (fa 45 5 1), w 44 (ld 46 45), w 44 (bs 47 .eql 46 [41]), wm 44 48 47, g 48 (fa 49 5 1), g 48 (ld 50 49), g 48 (bs 51 .eql 50 [93]), w 44 (pt 52 48 51), n (pf 53 44 52), m 40 53]) (.cond (.t 40) (.seq (.reg [m 54 3, n (bi 55 .sub 54 1), m 3 55]) (.seq (.reg [m 56 3, n (bi 57 .eql 56 0)]) (.cond (.t 57) (.seq (.reg [n (mb 2 true)]) .ret) .skip))) (.seq (.reg [m 59 3, n (bi 60 .eql 59 1), m 61 60, w 61 (fa 62 5 0), w 61 (ld 63 62), w 61 (bs 64 .eql 63 [115, 105, 103, 110]), n (pf 65 61 64), m 66 65, w 66 (fa 67 5 1), w 66 (ld 68 67), w 66 (bs 69 .eql 68 [44]), n (pf 70 66 69), m 58 70]) (.cond (.t 58) (.seq (.reg [n (mb 2 true)]) .ret) (.seq (.seq (.reg [m 72 3, n (bi 73 .eql 72 1), m 74 73, w 74 (fa 75 5 0), w 74 (ld 76 75), w 74 (bs 77 .eql 76 [115, 105, 103, 110]), n (pf 78 74 77), m 71 78]) (.cond (.t 71) .skip (.reg [m 79 3, n (bi 80 .eql 79 1), m 81 80, wm 81 82 4, w 81 (bi 83 .eql 82 1), n (pf 84 81 83), m 85 84, w 85 (fa 86 5 0), w 85 (ld 87 86), w 85 (bs 88 .eql 87 [107, 101, 121]), n (pf 89 85 88), m 90 89, w 90 (fa 91 5 1), w 90 (ld 92 91), w 90 (bs 93 .neq 92 [116, 114, 117, 101]), n (pf 94 90 93), m 95 94, w 95 (fa 96 5 1), w 95 (ld 97 96), w 95 (bs 98 .neq 97 [102, 97, 108, 115, 101]), n (pf 99 95 98), m 71 99]))) (.cond (.t 71) (.seq (.reg [n (mb 2 false)]) .ret) .skip))))))))))) (.reg [n (bi 100 .add 19 1), m 19 100]))))))) (.seq (.reg [n (mb 2 true)]) .ret)))), [(2, 0)], 101, []⟩
theorem F144_ok : ab Tryz.prog (fun _ => an0) 231 = some F144 := by kernel_rfl
def cp : Nat → Int → List T → Bool
 | _, _, [] => true
 | i, dp, t :: r =>
   bif aD t.1 [115, 105, 103, 110] && (aD t.2.1 [40] || aD t.2.1 [91]) then cp (i + 1) (dp + 1) r else
   bif aD t.1 [115, 105, 103, 110] && (aD t.2.1 [41] || aD t.2.1 [93]) then (bif decide (dp - 1 = 0) then true else cp (i + 1) (dp - 1) r) else
   bif decide (dp = 1) && (aD t.1 [115, 105, 103, 110] && aD t.2.1 [44]) then true else
   bif (decide (dp = 1) && aD t.1 [115, 105, 103, 110]) || (decide (dp = 1) && (decide ((i : Int) = 1) && (aD t.1 [107, 101, 121] && (!aD t.2.1 [116, 114, 117, 101] && !aD t.2.1 [102, 97, 108, 115, 101])))) then false else
   cp (i + 1) dp r
def eM (l : List T) (s : PS) : Bool := bif pIs l s [40] then cp 0 0 (l.drop s.a) else false
theorem b144 (W0 : Go.World) (l : List T) (s : PS) (hl : l.length ≤ 140737488355328) (hs : s.a ≤ l.length) : be (Ctr Tryz.prog W0) F144.ac F144.rs [.ptr 0 0] [pbx l s] (.sc (.b (eM l s))) [pbx l (s)] := by
 obtain ⟨a, bad⟩ := s
 simp only at hs
 conv => whnf
 (refine callP.full [0] [] [.ptr 0 0, .sc (.s [40])] [pbx l _] [pbx l _] _ (c56 W0 l ⟨a, bad⟩ [40] hl hs) ⟨rfl, rfl, rfl, rfl, rfl, rfl, rfl, rfl, rfl, rfl, ⟨rfl, rfl, trivial⟩, ⟨⟨⟨rfl, rfl, .inr rfl⟩, rfl, rfl, trivial⟩, trivial⟩, trivial⟩ ?_)
 conv => whnf
 refine aH (fun h0 => ?_) (fun h0 => ?_)
 ·rw [Bool.not_eq_false'] at h0
  have hlt := (pIs_lt h0).1
  simp only at hlt
  have hsl : ((cm l).drop ((a : Int).toNat)).take ((((cm l).length : Nat) : Int).toNat - (a : Int).toNat) = cm (l.drop a) := by
   simp only [Int.toNat_natCast, bM]
   rw [List.take_of_length_le (by simp [bM])]
   simp [cm, List.map_drop]
  have hL : (l.drop a).length = l.length - a := List.length_drop
  generalize hLe : l.drop a = L at hsl hL
  conv => whnf
  refine ⟨.none, ⟨⟨Int.natCast_nonneg _, by simp only [bM]; omega, Int.le_refl _⟩, .inl rfl⟩, ?_⟩
  rw [hsl]
  conv => whnf
  refine .st (α := Nat × Int) 2000 (fun x => L.length - x.1) (fun x => [(.b 0, .bx (pbx l ⟨a, bad⟩)), (.s 17, .av (.sl 3 (cm L) .none)), (.s 18, .av (.sc (.i .i64 ((cm L).length : Nat)))), (.s 19, .av (.sc (.i .i64 (x.1 : Nat)))), (.s 3, .av (.sc (.i .i64 x.2)))])
   (fun x => x.1 ≤ L.length ∧ cp 0 0 L = cp x.1 x.2 (L.drop x.1) ∧ -(x.1 : Int) ≤ x.2 ∧ x.2 ≤ x.1) (0, 0) ?_ ⟨Nat.zero_le _, rfl, by simp, by simp⟩ ?_
  ·(refine aX rfl rfl ?_; repeat' (first | exact rfl | exact trivial | refine ⟨?_, ?_⟩))
  ·rintro ⟨k, dp⟩ ⟨hk, he, hd1, hd2⟩
   simp only at hk he hd1 hd2
   conv => whnf
   refine aH (fun h2 => ?_) (fun h2 => ?_)
   ·simp only [bM, decide_eq_false_iff_not] at h2
    have e1 : L.drop k = [] := by rw [List.drop_eq_nil_iff]; omega
    rw [e1] at he
    conv => whnf
    refine cE rfl (congrArg (fun b => AV.sc (Sc.b b)) (by simp [eM, h0, hLe, he, cp])) rfl (rfl) (rfl) rfl (rfl) rfl
   ·simp only [bM, decide_eq_true_eq] at h2
    obtain ⟨⟨kd, tx, ps⟩, hx⟩ := aN (l := L) (k := k) (by omega)
    have dx := mO hx
    rw [bc hx] at he
    simp only [cp] at he
    conv => whnf
    refine ⟨_, ⟨Int.natCast_nonneg _, dx⟩, ?_⟩
    repeat' ((conv => whnf); (first | with_reducible refine aH (fun _ => ?_) (fun _ => ?_) | (refine And.intro (by constructor <;> omega) ?_) | fail))
    all_goals (conv => whnf)
    all_goals (try simp only at *)
    all_goals (try (exfalso; clear hx dx he; simp_all; done))
    all_goals first
     | (have hee : cp 0 0 L = true := by (clear hx dx; simp_all; done)
        refine cE rfl (congrArg (fun b => AV.sc (Sc.b b)) (by simp [eM, h0, hLe, hee])) rfl (rfl) (rfl) rfl (rfl) rfl)
     | (have hee : cp 0 0 L = false := by (clear hx dx; simp_all; done)
        refine cE rfl (congrArg (fun b => AV.sc (Sc.b b)) (by simp [eM, h0, hLe, hee])) rfl (rfl) (rfl) rfl (rfl) rfl)
     | skip
    all_goals first
     | (refine nxt (k + 1, dp + 1) ⟨by simp only; omega, by simp only; omega, by clear hx dx; simp_all, by simp only; omega, by simp only; omega⟩ ?_; (refine aX rfl rfl ?_; repeat' (first | exact rfl | exact trivial | refine ⟨?_, ?_⟩)); done)
     | (refine nxt (k + 1, dp - 1) ⟨by simp only; omega, by simp only; omega, by clear hx dx; simp_all, by simp only; omega, by simp only; omega⟩ ?_; (refine aX rfl rfl ?_; repeat' (first | exact rfl | exact trivial | refine ⟨?_, ?_⟩)); done)
     | (refine nxt (k + 1, dp) ⟨by simp only; omega, by simp only; omega, by clear hx dx; simp_all, by simp only; omega, by simp only; omega⟩ ?_; (refine aX rfl rfl ?_; repeat' (first | exact rfl | exact trivial | refine ⟨?_, ?_⟩)); done)
     | skip
 ·rw [Bool.not_eq_true'] at h0
  conv => whnf
  refine cE rfl (congrArg (fun b => AV.sc (Sc.b b)) (by simp [eM, h0])) rfl (rfl) (rfl) rfl (rfl) rfl
theorem c144 (W0 : Go.World) (l : List T) (s : PS) (hl : l.length ≤ 140737488355328) (hs : s.a ≤ l.length) : Ctr Tryz.prog W0 231 [.ptr 0 0] [pbx l s] (.sc (.b (eM l s))) [pbx l (s)] :=
 ah follows F144_ok rfl (fun _ _ h => by cases h) rfl rfl (b144 W0 l s hl hs)
end Go.Abs
namespace Go.Abs
open Go Go.Proofs
def plc (l : List T) (args : List AV) (H : List (List AV)) : Option (PS × List AV) := match args, H with
 | .ptr 0 0 :: r, [[y, .sc (.i .i64 (.ofNat a)), .sc (.b bad)]] => (match fi 4 y (.sl 3 (cm l) .none) with
   | true => (match Nat.ble a l.length with
     | true => some (⟨a, bad⟩, r)
     | false => none)
   | false => none)
 | _, _ => none
theorem iq {l : List T} {args : List AV} {H : List (List AV)} {s : PS} {r : List AV} (h : plc l args H = some (s, r)) : args = .ptr 0 0 :: r ∧ H = [pbx l s] ∧ s.a ≤ l.length := by
 unfold plc at h
 split at h
 ·split at h
  ·rename_i hy
   split at h
   ·rename_i ha
    cases h
    rw [dH _ _ _ hy]
    exact ⟨rfl, rfl, Nat.le_of_ble_eq_true ha⟩
   ·cases h
  ·cases h
 ·cases h
def bj (l : List T) (f : FuncId) (args : List AV) (H : List (List AV)) : Option (AV × List (List AV)) :=
 match Nat.beq f 231 with
 | true => (match plc l args H with | some (s, []) => some (.sc (.b (eM l s)), [pbx l s]) | _ => none)
 | false => match Nat.beq f 170 with
 | true => (match args, H with | [.sc (.s s)], [] => (match Nat.ble s.length 100000 with | true => some (.tup [.sc (.i .i64 (numV s)), .sc (.i .i64 (pE s))], []) | false => none) | _, _ => none)
 | false => match Nat.beq f 111 with
 | true => (match plc l args H with | some (s, []) => some (tkA (bz l s).1, [pbx l (bz l s).2]) | _ => none)
 | false => match Nat.beq f 106 with
 | true => (match plc l args H with | some (s, []) => some (tkA (cl l s), [pbx l s]) | _ => none)
 | false => match Nat.beq f 108 with
 | true => (match plc l args H with | some (s, []) => some (.sc (.s (gt l s).1), [pbx l (gt l s).2]) | _ => none)
 | false => match Nat.beq f 179 with
 | true => (match plc l args H with | some (s, []) => some (.sc (.s (pOp l s).1), [pbx l (pOp l s).2]) | _ => none)
 | false => match Nat.beq f 112 with
 | true => (match plc l args H with | some (s, []) => some (.sc (.i .i64 (mF l s).1), [pbx l (mF l s).2]) | _ => none)
 | false => match Nat.beq f 59 with
 | true => (match plc l args H with | some (s, [.sc (.s x)]) => some (.sc (.b (pIs l s x)), [pbx l s]) | _ => none)
 | false => match Nat.beq f 169 with
 | true => (match plc l args H with | some (s, [.sc (.s x)]) => some (.sc (.b (ir l s x).1), [pbx l (ir l s x).2]) | _ => none)
 | false => match Nat.beq f 107 with
 | true => (match plc l args H with | some (s, [.sc (.s x)]) => some (.tup [], [pbx l (ln l s x)]) | _ => none)
 | false => none
theorem libTk_ok {W0 : Go.World} (hk : Wk W0) {l : List T} (ht : tOK l) (hl : l.length ≤ 549755813888)  : ∀ f args H res H', bj l f args H = some (res, H') → Ctr Tryz.prog W0 f args H res H' := by
 intro f args H res H' h
 have hl' : l.length ≤ 140737488355328 := by omega
 unfold bj at h
 split at h
 ·rename_i e
  have := Nat.eq_of_beq_eq_true e
  subst this
  split at h
  ·rename_i s hs
   obtain ⟨rfl, rfl, h3⟩ := iq hs
   cases h
   exact c144 W0 l s hl' h3
  ·cases h
 split at h
 ·rename_i e
  have := Nat.eq_of_beq_eq_true e
  subst this
  split at h
  ·split at h
   ·rename_i hn
    cases h
    exact c141 W0 hk _ (Nat.le_trans (Nat.le_of_ble_eq_true hn) (by omega))
   ·cases h
  ·cases h
 split at h
 ·rename_i e
  have := Nat.eq_of_beq_eq_true e
  subst this
  split at h
  ·rename_i s hs
   obtain ⟨rfl, rfl, h3⟩ := iq hs
   cases h
   exact c113 W0 l s hl' h3
  ·cases h
 split at h
 ·rename_i e
  have := Nat.eq_of_beq_eq_true e
  subst this
  split at h
  ·rename_i s hs
   obtain ⟨rfl, rfl, h3⟩ := iq hs
   cases h
   exact c108 W0 l s hl' h3
  ·cases h
 split at h
 ·rename_i e
  have := Nat.eq_of_beq_eq_true e
  subst this
  split at h
  ·rename_i s hs
   obtain ⟨rfl, rfl, h3⟩ := iq hs
   cases h
   exact c110 W0 l s hl' h3
  ·cases h
 split at h
 ·rename_i e
  have := Nat.eq_of_beq_eq_true e
  subst this
  split at h
  ·rename_i s hs
   obtain ⟨rfl, rfl, h3⟩ := iq hs
   cases h
   exact c178 W0 l s hl' h3
  ·cases h
 split at h
 ·rename_i e
  have := Nat.eq_of_beq_eq_true e
  subst this
  split at h
  ·rename_i s hs
   obtain ⟨rfl, rfl, h3⟩ := iq hs
   cases h
   exact c114 W0 hk l s ht hl' h3
  ·cases h
 split at h
 ·rename_i e
  have := Nat.eq_of_beq_eq_true e
  subst this
  split at h
  ·rename_i s x hs
   obtain ⟨rfl, rfl, h3⟩ := iq hs
   cases h
   exact c56 W0 l s x hl' h3
  ·cases h
 split at h
 ·rename_i e
  have := Nat.eq_of_beq_eq_true e
  subst this
  split at h
  ·rename_i s x hs
   obtain ⟨rfl, rfl, h3⟩ := iq hs
   cases h
   exact c142 W0 l s x hl' h3
  ·cases h
 split at h
 ·rename_i e
  have := Nat.eq_of_beq_eq_true e
  subst this
  split at h
  ·rename_i s x hs
   obtain ⟨rfl, rfl, h3⟩ := iq hs
   cases h
   exact c109 W0 l s x hl' h3
  ·cases h
 cases h
end Go.Abs
namespace Go.Abs
open Go Go.Proofs
def slmL : List Nat := [190, 273, 280, 349, 370, 415]
def annL0 : FuncId → Ann
 | 36 => { an0 with cs := [48], opn := List.range 100 }
 | 81 => { an0 with cs := List.range 100 }
 | 83 => { an0 with cs := List.range 100 }
 | 138 => { an0 with cs := [95, 96] }
 | 190 => { an0 with cs := [53, 54] }
 | 191 => { an0 with cs := [12] }
 | 195 => { an0 with cs := List.range 400 }
 | 200 => { an0 with cs := List.range 400 }
 | 203 => { an0 with cs := List.range 400 }
 | 236 => { an0 with opn := [7], frz := fun _ => [7] }
 | 237 => { an0 with opn := [15], frz := fun r => match r with | 3 => [15] | _ => [] }
 | 246 => { an0 with cs := List.range 200 }
 | 255 => { an0 with cs := List.range 400 }
 | 256 => { an0 with cs := List.range 400 }
 | 264 => { an0 with cs := List.range 400 }
 | 269 => { an0 with cs := List.range 100, frz := fun r => match r with | 10 => [4] | _ => [] }
 | 273 => { an0 with cs := List.range 200, opn := List.range 200 }
 | 276 => { an0 with cs := List.range 400 }
 | 277 => { an0 with cs := List.range 400 }
 | 278 => { an0 with cs := List.range 400 }
 | 279 => { an0 with cs := List.range 400 }
 | 280 => { an0 with cs := List.range 400 }
 | 315 => { an0 with tk := [1], cs := List.range 200 }
 | 316 => { an0 with cs := List.range 100, frz := fun r => match r with | 3 => [2] | _ => [] }
 | 327 => { an0 with cs := List.range 100, frz := fun r => match r with | 7 => [6] | _ => [] }
 | 329 => { an0 with cs := List.range 100, frz := fun r => match r with | 3 => [2] | _ => [] }
 | 341 => { an0 with cs := List.range 100 }
 | 348 => { an0 with cs := List.range 100, frz := fun r => match r with | 8 => [2] | _ => [] }
 | 349 => { an0 with cs := List.range 400 }
 | 351 => { an0 with cs := List.range 400 }
 | 354 => { an0 with cs := List.range 400 }
 | 367 => { an0 with cs := [31, 32] }
 | 368 => { an0 with cs := List.range 100, frz := fun r => match r with | 3 => [2] | _ => [] }
 | 369 => { an0 with tk := [1], cs := List.range 200 }
 | 370 => { an0 with cs := [70, 71] }
 | 393 => { an0 with cs := List.range 100 }
 | 400 => { an0 with cs := List.range 400 }
 | 403 => { an0 with cs := List.range 400 }
 | 406 => { an0 with cs := List.range 400 }
 | 408 => { an0 with cs := List.range 400 }
 | 415 => { an0 with cs := [56, 70, 71] }
 | 447 => { an0 with cs := [31, 32] }
 | 511 => { an0 with cs := [125, 126] }
 | _ => an0
def ax (f : FuncId) : Ann := { annL0 f with slm := fun _ => slmL.contains f }
theorem cS {W0 : Go.World} : ∀ f g cells, (ax f).gl g = some cells → df W0 g cells := by
 intro f g cells h
 have : (ax f).gl g = none := by
  show (annL0 f).gl g = none
  unfold annL0
  split <;> rfl
 rw [this] at h; cases h
end Go.Abs
namespace Go.Abs
open Go Go.Proofs
def ePt (p : Prc) : AV := .agg [.sc (.s p.nm), .sc (.s p.res), .sl 3 (jC p.ps) (.t 0), .sl 8 (dA p.body) (.t 1)]
def rcP (l : List T) (p : Prc) (a b : Nat) : RecC := ⟨60, [.ptr 0 0], [pbx l ⟨a, false⟩], (ePt p, [pbx l ⟨b, false⟩])⟩
def rcPs (l : List T) : List RecC := [rcP l pr0 0 26, rcP l pr1 26 52, rcP l pr2 52 136, rcP l pr3 136 217, rcP l pr4 217 310, rcP l pr5 310 408, rcP l pr6 408 453, rcP l pr7 453 605, rcP l pr8 605 704, rcP l pr9 704 778, rcP l pr10 778 829, rcP l pr11 829 1049, rcP l pr12 1049 1182, rcP l pr13 1182 1293, rcP l pr14 1293 1444, rcP l pr15 1444 1688]
end Go.Abs
namespace Go.Abs
open Go.Proofs
open K in
def F58j : Fn := ⟨.seq (.reg [n (.mv 2 (.c (.sc .np))), n (mi 3 0)]) (.seq (.reg [m 7 0, n (cf 8 105 [.t 7]), m 6 8, n (ext 9 6 0), n (ext 10 6 1), m 4 9, m 5 10]) (.seq (.reg [m 11 4, n (.build 12 [.sl 3 [] .full, .sc (.i .i64 0), .sc (.b false)] [(0, (1, .t 11))]), n (.box 13 (.t 12)), m 14 5, m 2 13, m 3 14]) .ret)), [(2, 0), (3, 0)], 15, []⟩
theorem F58j_ok : ab Tryz.prog (fun _ => an0) 58 = some F58j := by kernel_rfl
theorem b58j (W0 : Go.World) (hk : Wk W0) (s : S) (hl : s.length ≤ 140737488355328) : be (Ctr Tryz.prog W0) F58j.ac F58j.rs [.sc (.s s)] [] (.tup [.ptr 0 0, .sc (.i .i64 (ib s))]) [pbx (ig s) ⟨0, false⟩] := by
 conv => whnf
 refine callP.pure _ (c107 W0 hk s hl) ⟨rfl, rfl⟩ ?_
 conv => whnf
 exact ⟨⟨[2100], [], ⟨rfl, rfl, rfl, rfl⟩, ⟨rfl, rfl, trivial⟩, ⟨⟨⟨rfl, rfl, .inl rfl⟩, rfl, rfl, trivial⟩, trivial⟩, trivial⟩⟩
theorem c58j (W0 : Go.World) (hk : Wk W0) (s : S) (hl : s.length ≤ 140737488355328) : Ctr Tryz.prog W0 58 [.sc (.s s)] [] (.tup [.ptr 0 0, .sc (.i .i64 (ib s))]) [pbx (ig s) ⟨0, false⟩] :=
 ah follows F58j_ok rfl (fun _ _ h => by cases h) rfl rfl (b58j W0 hk s hl)
end Go.Abs
