/- The tokens of a text: the program. -/
import Derived.Test.YthmcdebdkbhbmaaGreatDoorMi
import Derived.Test.YthmcdebdkbhbmaaGreatDoorMf
import Derived.Test.YthmcdebdkbhbmaaGreatDoorMj
set_option maxRecDepth 100000
namespace Go.Abs
open Go.Proofs
def F171 : Fn := ⟨.seq (.reg [⟨none, .mv 2 (.c (.sc (.i .i64 0)))⟩]) (.seq (.reg [⟨none, .mv 3 (.c (.sc (.i .i64 0)))⟩]) (.seq (.block 0 (.loop (.seq (.seq (.reg [⟨none, .mv 5 (.t 3)⟩, ⟨none, .mv 6 (.t 0)⟩, ⟨none, .lenS 7 (.t 6)⟩, ⟨none, .bin 8 .lss (.t 5) (.t 7)⟩]) (.cond (.t 8) .skip (.exit 0))) (.block 1 (.block 2 (.seq (.reg [⟨none, .mv 11 (.t 0)⟩, ⟨none, .mv 12 (.t 3)⟩, ⟨none, .ix 13 (.t 11) (.t 12)⟩, ⟨none, .bin 14 .eql (.t 13) (.c (.sc (.i .u8 32)))⟩, ⟨none, .mv 15 (.t 14)⟩, ⟨some (15, false), .mv 16 (.t 0)⟩, ⟨some (15, false), .mv 17 (.t 3)⟩, ⟨some (15, false), .ix 18 (.t 16) (.t 17)⟩, ⟨some (15, false), .bin 19 .eql (.t 18) (.c (.sc (.i .u8 9)))⟩, ⟨none, .pick 20 (.t 15) (.c (.sc (.b true))) (.t 19)⟩, ⟨none, .mv 21 (.t 20)⟩, ⟨some (21, false), .mv 22 (.t 0)⟩, ⟨some (21, false), .mv 23 (.t 3)⟩, ⟨some (21, false), .ix 24 (.t 22) (.t 23)⟩, ⟨some (21, false), .bin 25 .eql (.t 24) (.c (.sc (.i .u8 10)))⟩, ⟨none, .pick 26 (.t 21) (.c (.sc (.b true))) (.t 25)⟩, ⟨none, .mv 10 (.t 26)⟩]) (.cond (.t 10) (.reg [⟨none, .mv 27 (.t 3)⟩, ⟨none, .bin 28 .add (.t 27) (.c (.sc (.i .i64 1)))⟩, ⟨none, .mv 3 (.t 28)⟩]) (.seq (.reg [⟨none, .mv 30 (.t 0)⟩, ⟨none, .mv 31 (.t 3)⟩, ⟨none, .slS 32 (.t 30) (some (.t 31)) none⟩, ⟨none, .call (some 33) (.c (.fn 214 [])) [.t 32, .c (.sc (.s [47, 47]))]⟩, ⟨none, .mv 29 (.t 33)⟩]) (.cond (.t 29) (.seq (.reg [⟨none, .mv 34 (.t 0)⟩, ⟨none, .mv 35 (.t 3)⟩, ⟨none, .slS 36 (.t 34) (some (.t 35)) none⟩, ⟨none, .call (some 37) (.c (.fn 215 [])) [.t 36, .c (.sc (.i .u8 10))]⟩, ⟨none, .mv 4 (.t 37)⟩]) (.seq (.seq (.reg [⟨none, .mv 38 (.t 4)⟩, ⟨none, .bin 39 .lss (.t 38) (.c (.sc (.i .i64 0)))⟩]) (.cond (.t 39) (.seq (.reg [⟨none, .mv 40 (.t 0)⟩, ⟨none, .lenS 41 (.t 40)⟩, ⟨none, .mv 2 (.t 41)⟩]) .ret) .skip)) (.reg [⟨none, .mv 42 (.t 3)⟩, ⟨none, .mv 43 (.t 4)⟩, ⟨none, .bin 44 .add (.t 42) (.t 43)⟩, ⟨none, .mv 3 (.t 44)⟩]))) (.seq (.reg [⟨none, .mv 9 (.t 3)⟩, ⟨none, .mv 2 (.t 9)⟩]) .ret)))))))))) (.seq (.reg [⟨none, .mv 45 (.t 3)⟩, ⟨none, .mv 2 (.t 45)⟩]) .ret))), [(2, 0)], 46⟩
theorem F171_ok : compT Tryz.prog (fun _ => an0) 171 = some F171 := by kernel_rfl
theorem ixb_ctr (W0 : Go.World) (s : S) (c : UInt8) : Ctr Tryz.prog W0 215 [.sc (.s s), .sc (.i .u8 c.toNat)] [] (.sc (.i .i64 (Go.Lib.indexByte s c))) [] := by
  refine ctr_lib (by kernel_rfl) rfl fun κ w vals hsz hs => ?_
  have h0 := (hs.arg (n := 0) rfl).sc_inv
  have h1 := (hs.arg (n := 1) rfl).sc_inv
  rw [vals2 hsz, h0, h1]
  refine (Tryz.strings_IndexByte ⟨s.toArray⟩ c.toNat w).mono ?_
  rintro e w' ⟨rfl, rfl⟩
  refine ⟨_, rfl, Go.RowKit.Below.refl _ _, ?_⟩
  simp only [Int.toNat_natCast, Nat.toUInt8_eq, UInt8.ofNat_toNat]
  exact .sc (.i .i64 _)
def wsB (c : UInt8) : Bool := decide ((c.toNat : Int) = 32) || (decide ((c.toNat : Int) = 9) || decide ((c.toNat : Int) = 10))
/-- spaces and comments in front of a text; true: within a comment -/
def gapS : Bool → S → Nat
  | _, [] => 0
  | true, c :: r => bif decide ((c.toNat : Int) = 10) then gapS false r + 1 else gapS true r + 1
  | false, c :: r => bif wsB c then gapS false r + 1 else bif preB (c :: r) [47, 47] then gapS true r + 1 else 0
theorem gapS_le : ∀ (b : Bool) (s : S), gapS b s ≤ s.length
  | _, [] => by simp [gapS]
  | true, c :: r => by
    have := gapS_le true r; have := gapS_le false r
    simp only [gapS, List.length_cons]
    cases decide ((c.toNat : Int) = 10) <;> simp only [cond_true, cond_false] <;> omega
  | false, c :: r => by
    have := gapS_le true r; have := gapS_le false r
    simp only [gapS, List.length_cons]
    cases wsB c <;> cases preB (c :: r) [47, 47] <;> simp only [cond_true, cond_false] <;> omega
theorem ten (c : UInt8) : (c == 10) = decide ((c.toNat : Int) = 10) := by
  rw [Bool.eq_iff_iff]; simp only [beq_iff_eq, decide_eq_true_eq]
  constructor
  · rintro rfl; rfl
  · intro h; exact UInt8.toNat_inj.1 (by simp; omega)
theorem gapS_ix : ∀ (s : S), (Go.Lib.indexByte s 10 = -1 ∧ gapS true s = s.length) ∨ ∃ k : Nat, Go.Lib.indexByte s 10 = k ∧ k < s.length ∧ gapS true s = k + gapS false (s.drop k)
  | [] => by simp [Go.Lib.indexByte, gapS]
  | c :: r => by
    simp only [Go.Lib.indexByte, gapS, ten]
    cases hc : decide ((c.toNat : Int) = 10) with
    | true =>
      refine .inr ⟨0, by simp, by simp, ?_⟩
      have : wsB c = true := by simp [wsB] at hc ⊢; omega
      simp [gapS, this]
    | false =>
      rcases gapS_ix r with ⟨h1, h2⟩ | ⟨k, h1, h2, h3⟩
      · exact .inl ⟨by simp [h1], by simp [h2]⟩
      · refine .inr ⟨k + 1, ?_, by simpa using h2, ?_⟩
        · have : ¬ ((k : Int) = -1) := by omega
          simp [h1, this]
        · simp [h3]; omega
theorem ix0 {c : UInt8} {r : S} (h : Go.Lib.indexByte (c :: r) 10 = 0) : decide ((c.toNat : Int) = 10) = true := by
  have g := Go.Lib.indexByte_ge r 10
  simp only [Go.Lib.indexByte, ten] at h
  cases hc : decide ((c.toNat : Int) = 10) with
  | true => rfl
  | false =>
    rw [hc] at h
    simp only [Bool.false_eq_true, if_false] at h
    by_cases h1 : Go.Lib.indexByte r 10 = -1
    · simp [h1] at h
    · have : ¬ (Go.Lib.indexByte r 10 == -1) = true := by simpa using h1
      rw [if_neg this] at h; omega
/-- a comment begins: as far as its end -/
theorem gapS_com {c : UInt8} {r : S} (hw : wsB c = false) (hp : preB (c :: r) [47, 47] = true) : gapS false (c :: r) = gapS true (c :: r) := by
  have h10 : decide ((c.toNat : Int) = 10) = false := by simp [wsB] at hw ⊢; omega
  simp only [gapS, hw, hp, h10, cond_true, cond_false]
set_option maxHeartbeats 8000000 in
theorem b171 (W0 : Go.World) (s : S) (hl : s.length ≤ 140737488355328) : Body (Ctr Tryz.prog W0) F171.ac F171.rs [.sc (.s s)] [] (.sc (.i .i64 (gapS false s))) [] := by
  conv => whnf
  refine .st 2000 (fun k => s.length - k) (fun k => [(.s 0, .av (.sc (.s s))), (.s 3, .av (.sc (.i .i64 (k : Nat))))])
    (fun k => k ≤ s.length ∧ gapS false s = k + gapS false (s.drop k)) 0 ?_ ⟨by simp, by simp⟩ ?_
  · (refine le_of rfl rfl ?_; repeat' (first | exact rfl | exact trivial | refine ⟨?_, ?_⟩))
  · rintro k ⟨hk, he⟩
    conv => whnf
    refine brec (fun h2 => ?_) (fun h2 => ?_)
    · simp only [decide_eq_false_iff_not] at h2
      have e1 : s.drop k = [] := by rw [List.drop_eq_nil_iff]; omega
      rw [e1] at he
      conv => whnf
      refine fin_i ?_
      simp only [gapS] at he; omega
    · simp only [decide_eq_true_eq] at h2
      obtain ⟨c, hc⟩ := get_of_lt (l := s) (k := k) (by omega)
      have hd := drop_get hc
      have hdl : (s.drop k).length = s.length - k := List.length_drop
      have hsl : (List.drop ((k : Int).toNat) s).take (((s.length : Nat) : Int).toNat - (k : Int).toNat) = s.drop k := by
        simp only [Int.toNat_natCast]; rw [List.take_of_length_le (by omega)]
      conv => whnf
      refine ⟨c, ⟨Int.natCast_nonneg _, hc⟩, ?_⟩
      repeat' ((conv => whnf); (first | with_reducible refine brec (fun _ => ?_) (fun _ => ?_) | (refine callP.pure _ ((by rw [hsl]; exact c214 W0 (s.drop k) [47, 47])) ⟨rfl, rfl⟩ ?_) | (refine ⟨c, ⟨Int.natCast_nonneg _, hc⟩, ?_⟩) | (refine And.intro ⟨Int.natCast_nonneg _, by omega, Int.le_refl _⟩ ?_) | fail))
      all_goals rw [hd] at he hsl
      all_goals first
        | (refine fin_i ?_
           have hw : wsB c = false := by simp_all [wsB]
           have hp : preB (c :: s.drop (k + 1)) [47, 47] = false := by simpa [hd] using ‹preB (s.drop k) [47, 47] = false›
           simp only [gapS, hw, hp, cond_false] at he; omega)
        | (refine And.intro (by constructor <;> omega) ?_
           conv => whnf
           have hw : wsB c = true := by simp_all [wsB]
           simp only [gapS, hw, cond_true] at he
           refine nxt (k + 1) ⟨by omega, by omega, by omega⟩ ?_
           (refine le_of rfl rfl ?_; repeat' (first | exact rfl | exact trivial | refine ⟨?_, ?_⟩)))
        | skip
      have hw : wsB c = false := by simp_all [wsB]
      have hp : preB (c :: s.drop (k + 1)) [47, 47] = true := by simpa [hd] using ‹preB (s.drop k) [47, 47] = true›
      rw [gapS_com hw hp, ← hd] at he
      rw [← hd] at hsl
      have ic : Ctr Tryz.prog W0 215 [.sc (.s ((List.drop ((k : Int).toNat) s).take (((s.length : Nat) : Int).toNat - (k : Int).toNat))), .sc (.i .u8 10)] [] (.sc (.i .i64 (Go.Lib.indexByte (s.drop k) 10))) [] := by
        rw [hsl]; exact ixb_ctr W0 (s.drop k) 10
      refine callP.pure _ ic ⟨rfl, rfl⟩ ?_
      rcases gapS_ix (s.drop k) with ⟨g1, g2⟩ | ⟨m, g1, g2, g3⟩
      · rw [g1]
        conv => whnf
        refine fin_i ?_
        omega
      · rw [g1]
        conv => whnf
        refine And.intro (by constructor <;> omega) ?_
        conv => whnf
        have hm : 0 < m := by
          rcases Nat.eq_zero_or_pos m with h | h
          · rw [h, hd] at g1
            have := ix0 g1
            simp [wsB, this] at hw
          · exact h
        rw [List.drop_drop] at g3
        refine nxt (k + m) ⟨by omega, by omega, by omega⟩ ?_
        (refine le_of rfl rfl ?_; repeat' (first | exact rfl | exact trivial | refine ⟨?_, ?_⟩))
theorem c171 (W0 : Go.World) (s : S) (hl : s.length ≤ 140737488355328) : Ctr Tryz.prog W0 171 [.sc (.s s)] [] (.sc (.i .i64 (gapS false s))) [] :=
  ctr_body follows F171_ok rfl (fun _ _ h => by cases h) rfl rfl (b171 W0 s hl)
/-- a token: kind, text, where -/
abbrev T := S × S × Int
def tokD (t : T) : List Data := [.sc (.s t.1), .sc (.s t.2.1), .sc (.i .i64 t.2.2)]
def toksD (l : List T) : List (List Data) := l.map tokD
theorem toksD_length (l : List T) : (toksD l).length = l.length := by simp [toksD]
theorem toksD_append (a b : List T) : toksD (a ++ b) = toksD a ++ toksD b := by simp [toksD]
theorem toksD_get {l : List T} {i : Nat} {t : T} (h : l[i]? = some t) : (toksD l)[i]? = some (tokD t) := by simp [toksD, h]
/-- the tokens from a place on -/
def toksF : Nat → Nat → S → Option (List T)
  | 0, _, _ => some []
  | _ + 1, _, [] => some []
  | f + 1, a, c :: r => bif (firstT (c :: r)).2.2 then
      (match toksF f (a + (firstT (c :: r)).2.1.length + gapS false ((c :: r).drop (firstT (c :: r)).2.1.length)) (((c :: r).drop (firstT (c :: r)).2.1.length).drop (gapS false ((c :: r).drop (firstT (c :: r)).2.1.length))) with
        | some l => some (((firstT (c :: r)).1, (firstT (c :: r)).2.1, (a : Int)) :: l)
        | none => none)
    else none
def tokensP (s : S) : Option (List T) := toksF s.length (gapS false s) (s.drop (gapS false s))
theorem preB_len {s p : S} (h : preB s p = true) : p.length ≤ s.length := by
  simp only [preB, Bool.and_eq_true, decide_eq_true_eq] at h; exact h.1
theorem signOf_spec : ∀ {l : List S} {s x : S}, signOf s l = some x → x ∈ l ∧ preB s x = true
  | [], _, _, h => by simp [signOf] at h
  | y :: r, s, x, h => by
    simp only [signOf] at h
    split at h
    · rename_i hp; cases h; exact ⟨by simp, hp⟩
    · have := signOf_spec h; exact ⟨by simp [this.1], this.2⟩
theorem signList_ne : ∀ x ∈ signList, 1 ≤ x.length := by decide
/-- the first token is no longer than the text; and, if there is one, it has a byte -/
theorem firstT_len (s : S) : (firstT s).2.1.length ≤ s.length ∧ ((firstT s).2.2 = true → 1 ≤ (firstT s).2.1.length) := by
  have hw := wordN_le s
  have hd : digN s ≤ s.length := by
    unfold digN
    split
    · rename_i h; simp [preB] at h; omega
    · exact digsN_le s
  unfold firstT
  split
  · rename_i n e; rw [e] at hw; simp [List.length_take]; omega
  · split
    · rename_i n e; rw [e] at hd; simp [List.length_take]; omega
    · split
      · rename_i x e
        obtain ⟨h1, h2⟩ := signOf_spec e
        have := preB_len h2
        have := signList_ne _ h1
        simp; omega
      · simp
theorem toksF_len : ∀ {f a : Nat} {s : S} {l : List T}, toksF f a s = some l → l.length ≤ s.length
  | 0, _, _, l, h => by simp [toksF] at h; subst h; simp
  | f + 1, a, [], l, h => by simp [toksF] at h; subst h; simp
  | f + 1, a, c :: r, l, h => by
    simp only [toksF] at h
    obtain ⟨h1, h2⟩ := firstT_len (c :: r)
    cases hb : (firstT (c :: r)).2.2 with
    | false => simp [hb] at h
    | true =>
      rw [hb] at h
      simp only [cond_true] at h
      split at h
      · rename_i l' e
        have := toksF_len e
        simp only [Option.some.injEq] at h
        subst h
        simp only [List.length_drop, List.length_cons] at this ⊢
        have := h2 hb
        simp only [List.length_cons] at h1
        omega
      · cases h
def F107 : Fn := ⟨.seq (.reg [⟨none, .mv 2 (.c (.sl 3 [] .full))⟩, ⟨none, .mv 3 (.c (.sc (.i .i64 0)))⟩]) (.seq (.seq (.reg [⟨none, .mv 8 (.t 0)⟩, ⟨none, .lenS 9 (.t 8)⟩, ⟨none, .bin 10 .gtr (.t 9) (.c (.sc (.i .i64 10000)))⟩]) (.cond (.t 10) (.seq (.reg [⟨none, .mv 2 (.c (.sl 3 [] .full))⟩, ⟨none, .mv 3 (.c (.sc (.i .i64 4)))⟩]) .ret) .skip)) (.seq (.reg [⟨none, .mv 4 (.c (.sl 3 [] .full))⟩]) (.seq (.seq (.reg [⟨none, .mv 11 (.t 0)⟩, ⟨none, .call (some 12) (.c (.fn 171 [])) [.t 11]⟩, ⟨none, .mv 5 (.t 12)⟩]) (.block 0 (.loop (.seq (.seq (.reg [⟨none, .mv 13 (.t 5)⟩, ⟨none, .mv 14 (.t 0)⟩, ⟨none, .lenS 15 (.t 14)⟩, ⟨none, .bin 16 .lss (.t 13) (.t 15)⟩]) (.cond (.t 16) .skip (.exit 0))) (.seq (.block 1 (.seq (.reg [⟨none, .mv 24 (.t 0)⟩, ⟨none, .mv 25 (.t 5)⟩, ⟨none, .slS 26 (.t 24) (some (.t 25)) none⟩, ⟨none, .call (some 27) (.c (.fn 172 [])) [.t 26]⟩, ⟨none, .mv 23 (.t 27)⟩, ⟨none, .ext 28 (.t 23) 0⟩, ⟨none, .ext 29 (.t 23) 1⟩, ⟨none, .alloc 6 [.sc (.s []), .sc (.s []), .sc (.i .i64 0)]⟩, ⟨none, .st (.t 6) 3 (.t 28)⟩, ⟨none, .mv 7 (.t 29)⟩]) (.seq (.seq (.reg [⟨none, .mv 30 (.t 7)⟩, ⟨none, .no 31 (.t 30)⟩]) (.cond (.t 31) (.seq (.reg [⟨none, .mv 2 (.c (.sl 3 [] .full))⟩, ⟨none, .mv 3 (.c (.sc (.i .i64 10)))⟩]) .ret) .skip)) (.seq (.reg [⟨none, .mv 32 (.t 5)⟩, ⟨none, .fa 33 (.t 6) 2⟩, ⟨none, .st (.t 33) 1 (.t 32)⟩]) (.seq (.reg [⟨none, .mv 34 (.t 4)⟩, ⟨none, .ld 35 3 true (.t 6)⟩, ⟨none, .bsl 36 3 [.t 35]⟩, ⟨none, .app 37 3 40 (.t 34) (.t 36)⟩, ⟨none, .mv 4 (.t 37)⟩]) (.reg [⟨none, .mv 38 (.t 5)⟩, ⟨none, .fa 39 (.t 6) 1⟩, ⟨none, .ld 40 1 false (.t 39)⟩, ⟨none, .lenS 41 (.t 40)⟩, ⟨none, .bin 42 .add (.t 38) (.t 41)⟩, ⟨none, .mv 5 (.t 42)⟩])))))) (.reg [⟨none, .mv 17 (.t 5)⟩, ⟨none, .mv 18 (.t 0)⟩, ⟨none, .mv 19 (.t 5)⟩, ⟨none, .slS 20 (.t 18) (some (.t 19)) none⟩, ⟨none, .call (some 21) (.c (.fn 171 [])) [.t 20]⟩, ⟨none, .bin 22 .add (.t 17) (.t 21)⟩, ⟨none, .mv 5 (.t 22)⟩])))))) (.seq (.reg [⟨none, .mv 43 (.t 4)⟩, ⟨none, .mv 2 (.t 43)⟩, ⟨none, .mv 3 (.c (.sc (.i .i64 0)))⟩]) .ret)))), [(2, 0), (3, 0)], 44⟩
theorem F107_ok : compT Tryz.prog (fun _ => an0) 107 = some F107 := by kernel_rfl
def tokR1 (s : S) : List T := bif decide ((s.length : Int) > 10000) then [] else (tokensP s).getD []
def tokR2 (s : S) : Int := bif decide ((s.length : Int) > 10000) then 4 else match tokensP s with | some _ => 0 | none => 10
def toksA (l : List T) (e : Int) : AV := .tup [.sl 3 (toksD l) .none, .sc (.i .i64 e)]
theorem fin_ts {σ : Log} {l l' : List (List Data)} {e e' : Int} {t : Tok} (h1 : l = l') (h2 : e = e') : FinOK σ (.tup [.sl 3 l t, .sc (.i .i64 e)]) 0 0 (.tup [.sl 3 l' .none, .sc (.i .i64 e')]) [] := by
  subst h1; subst h2; exact ⟨⟨[], [], ⟨rfl, rfl, rfl, rfl⟩, ⟨⟨rfl, rfl, .inl rfl⟩, rfl, trivial⟩, trivial, trivial⟩⟩
set_option maxHeartbeats 8000000 in
theorem b107 (W0 : Go.World) (hk : Wk W0) (s : S) (hl : s.length ≤ 140737488355328) : Body (Ctr Tryz.prog W0) F107.ac F107.rs [.sc (.s s)] [] (toksA (tokR1 s) (tokR2 s)) [] := by
  conv => whnf
  refine brec (fun h1 => ?_) (fun h1 => ?_)
  · conv => whnf
    refine callP.pure _ (c171 W0 s hl) ⟨rfl, rfl⟩ ?_
    conv => whnf
    have g0 := gapS_le false s
    have hs10 : s.length ≤ 10000 := by simp only [decide_eq_false_iff_not] at h1; omega
    refine .st (α := Nat × Nat × List T) 10000 (fun a => s.length - a.1) (fun a => [(.s 0, .av (.sc (.s s))), (.s 5, .av (.sc (.i .i64 (a.1 : Nat)))), (.s 4, .av (.sl 3 (toksD a.2.2) (.t 9000))), (.t 9000, .tk true)])
      (fun a => a.1 ≤ s.length ∧ s.length - a.1 ≤ a.2.1 ∧ a.2.2.length ≤ a.1 ∧ tokensP s = (match toksF a.2.1 a.1 (s.drop a.1) with | some l => some (a.2.2 ++ l) | none => none)) (gapS false s, s.length, []) ?_ ⟨g0, by simp, by simp, ?_⟩ ?_
    · (refine le_of rfl rfl ?_; repeat' (first | exact rfl | exact trivial | refine ⟨?_, ?_⟩))
    · show toksF s.length (gapS false s) (s.drop (gapS false s)) = _
      cases toksF s.length (gapS false s) (s.drop (gapS false s)) <;> simp
    · rintro ⟨k, f, acc⟩ ⟨hk', hf, ha, he⟩
      simp only at hk' hf ha he
      conv => whnf
      refine brec (fun h2 => ?_) (fun h2 => ?_)
      · simp only [decide_eq_false_iff_not] at h2
        have e1 : s.drop k = [] := by rw [List.drop_eq_nil_iff]; omega
        have e2 : toksF f k [] = some [] := by cases f <;> rfl
        rw [e1, e2] at he
        conv => whnf
        exact fin_ts (by simp [tokR1, h1, he]) (by simp [tokR2, h1, he])
      · simp only [decide_eq_true_eq] at h2
        obtain ⟨c, hc⟩ := get_of_lt (l := s) (k := k) (by omega)
        have hd := drop_get hc
        have hdl : (s.drop k).length = s.length - k := List.length_drop
        have hsl : (List.drop ((k : Int).toNat) s).take (((s.length : Nat) : Int).toNat - (k : Int).toNat) = s.drop k := by
          simp only [Int.toNat_natCast]; rw [List.take_of_length_le (by omega)]
        obtain ⟨n1, n2⟩ := firstT_len (s.drop k)
        have ic : Ctr Tryz.prog W0 172 [.sc (.s ((List.drop ((k : Int).toNat) s).take (((s.length : Nat) : Int).toNat - (k : Int).toNat)))] [] (tokA (firstT (s.drop k)).1 (firstT (s.drop k)).2.1 0 (firstT (s.drop k)).2.2) [] := by
          rw [hsl]; exact c172 W0 hk (s.drop k) (by omega)
        conv => whnf
        refine And.intro ⟨Int.natCast_nonneg _, by omega, Int.le_refl _⟩ ?_
        conv => whnf
        refine callP.pure _ ic ⟨rfl, rfl⟩ ?_
        conv => whnf
        refine brec (fun h3 => ?_) (fun h3 => ?_)
        · rw [Bool.not_eq_false'] at h3
          have n3 := n2 h3
          have hkk : k + (firstT (s.drop k)).2.1.length ≤ s.length := by omega
          have gl := gapS_le false ((s.drop k).drop (firstT (s.drop k)).2.1.length)
          have hsl2 : (List.drop (((k : Int) + ((firstT (s.drop k)).2.1.length : Nat)).toNat) s).take (((s.length : Nat) : Int).toNat - ((k : Int) + ((firstT (s.drop k)).2.1.length : Nat)).toNat) = (s.drop k).drop (firstT (s.drop k)).2.1.length := by
            rw [← Int.natCast_add]
            simp only [Int.toNat_natCast]; rw [List.take_of_length_le (by rw [List.length_drop]; omega), List.drop_drop]
          have ic2 : Ctr Tryz.prog W0 171 [.sc (.s ((List.drop (((k : Int) + ((firstT (s.drop k)).2.1.length : Nat)).toNat) s).take (((s.length : Nat) : Int).toNat - ((k : Int) + ((firstT (s.drop k)).2.1.length : Nat)).toNat)))] [] (.sc (.i .i64 (gapS false ((s.drop k).drop (firstT (s.drop k)).2.1.length)))) [] := by
            rw [hsl2]; exact c171 W0 _ (by simp only [List.length_drop]; omega)
          rw [List.length_drop, hdl] at gl
          conv => whnf
          refine And.intro (by rw [toksD_length]; constructor <;> (simp only [List.length_cons, List.length_nil]; omega)) ?_
          conv => whnf
          refine And.intro (by constructor <;> omega) ?_
          conv => whnf
          refine And.intro ⟨by omega, by omega, Int.le_refl _⟩ ?_
          conv => whnf
          refine callP.pure _ ic2 ⟨rfl, rfl⟩ ?_
          conv => whnf
          refine And.intro (by constructor <;> omega) ?_
          conv => whnf
          refine nxt (k + (firstT (s.drop k)).2.1.length + gapS false ((s.drop k).drop (firstT (s.drop k)).2.1.length), f - 1, acc ++ [((firstT (s.drop k)).1, (firstT (s.drop k)).2.1, (k : Int))]) ⟨by simp only; omega, by simp only; omega, by simp only; omega, by simp only [List.length_append, List.length_cons, List.length_nil]; omega, ?_⟩ ?_
          · simp only
            rw [he]
            cases f with
            | zero => omega
            | succ f =>
              rw [← List.drop_drop, ← List.drop_drop]
              have : s.drop k = c :: s.drop (k + 1) := hd
              rw [this] at h3 ⊢
              simp only [toksF, h3, cond_true, Nat.succ_sub_one]
              cases toksF f _ _ <;> simp
          · simp only [toksD_append]
            (apply le_tok (h1 := rfl); (case h3 => repeat' (first | exact rfl | exact trivial | refine ⟨?_, ?_⟩)); all_goals exact rfl)
        · rw [Bool.not_eq_true'] at h3
          have e3 : tokensP s = none := by
            rw [he]
            cases f with
            | zero => omega
            | succ f => rw [hd] at h3 ⊢; simp only [toksF, h3, cond_false]
          conv => whnf
          exact fin_ts (by simp [tokR1, h1, e3]; rfl) (by simp [tokR2, h1, e3])
  · conv => whnf
    exact fin_ts (by simp [tokR1, h1]; rfl) (by simp [tokR2, h1])
theorem c107 (W0 : Go.World) (hk : Wk W0) (s : S) (hl : s.length ≤ 140737488355328) : Ctr Tryz.prog W0 107 [.sc (.s s)] [] (toksA (tokR1 s) (tokR2 s)) [] :=
  ctr_body follows F107_ok rfl (fun _ _ h => by cases h) rfl rfl (b107 W0 hk s hl)
end Go.Abs

set_option maxRecDepth 100000
namespace Go.Abs
open Go.Proofs
def F108 : Fn := ⟨.seq (.reg [⟨none, .alloc 2 [.sc (.s []), .sc (.s []), .sc (.i .i64 0)]⟩]) (.seq (.seq (.regD [⟨none, .mv 3 (.t 0)⟩, ⟨none, .nc 4 (.t 3)⟩, ⟨none, .fa 5 (.t 4) 2⟩, ⟨none, .ld 6 1 false (.t 5)⟩, ⟨none, .mv 7 (.t 6)⟩, ⟨some (7, false), .mv 8 (.t 0)⟩, ⟨some (7, false), .nc 9 (.t 8)⟩, ⟨some (7, false), .fa 10 (.t 9) 1⟩, ⟨some (7, false), .ld 11 1 false (.t 10)⟩, ⟨some (7, false), .mv 12 (.t 0)⟩, ⟨some (7, false), .nc 13 (.t 12)⟩, ⟨some (7, false), .fa 14 (.t 13) 0⟩, ⟨some (7, false), .ld 15 1 false (.t 14)⟩, ⟨some (7, false), .len 16 (.t 15)⟩, ⟨some (7, false), .bin 17 .geq (.t 11) (.t 16)⟩, ⟨none, .pick 18 (.t 7) (.c (.sc (.b true))) (.t 17)⟩] [0, 1, 3, 7, 15, 31, 63, 127, 255, 31, 543, 1567, 3615, 7711, 16383, 32767]) (.cond (.t 18) (.seq (.reg [⟨none, .build 19 [.sc (.s []), .sc (.s []), .sc (.i .i64 0)] []⟩, ⟨none, .st (.t 2) 3 (.t 19)⟩]) .ret) .skip)) (.seq (.regD [⟨none, .mv 20 (.t 0)⟩, ⟨none, .nc 21 (.t 20)⟩, ⟨none, .fa 22 (.t 21) 0⟩, ⟨none, .ld 23 1 false (.t 22)⟩, ⟨none, .mv 24 (.t 0)⟩, ⟨none, .nc 25 (.t 24)⟩, ⟨none, .fa 26 (.t 25) 1⟩, ⟨none, .ld 27 1 false (.t 26)⟩, ⟨none, .ia 28 3 (.t 23) (.t 27)⟩, ⟨none, .ld 29 3 true (.t 28)⟩, ⟨none, .st (.t 2) 3 (.t 29)⟩] [0, 1, 3, 7, 0, 16, 48, 112, 255, 511, 1023]) .ret)), [(2, 3)], 30⟩
def F113 : Fn := ⟨.seq (.reg [⟨none, .alloc 2 [.sc (.s []), .sc (.s []), .sc (.i .i64 0)]⟩]) (.seq (.reg [⟨none, .mv 4 (.t 0)⟩, ⟨none, .call (some 5) (.c (.fn 108 [])) [.t 4]⟩, ⟨none, .alloc 3 [.sc (.s []), .sc (.s []), .sc (.i .i64 0)]⟩, ⟨none, .st (.t 3) 3 (.t 5)⟩]) (.seq (.seq (.reg [⟨none, .fa 6 (.t 3) 0⟩, ⟨none, .ld 7 1 false (.t 6)⟩, ⟨none, .bin 8 .eql (.t 7) (.c (.sc (.s [])))⟩]) (.cond (.t 8) (.seq (.reg [⟨none, .mv 9 (.t 0)⟩, ⟨none, .nc 10 (.t 9)⟩, ⟨none, .fa 11 (.t 10) 2⟩, ⟨none, .st (.t 11) 1 (.c (.sc (.b true)))⟩]) (.seq (.reg [⟨none, .ld 12 3 true (.t 3)⟩, ⟨none, .st (.t 2) 3 (.t 12)⟩]) .ret)) .skip)) (.seq (.reg [⟨none, .mv 13 (.t 0)⟩, ⟨none, .nc 14 (.t 13)⟩, ⟨none, .fa 15 (.t 14) 1⟩, ⟨none, .ld 16 1 false (.t 15)⟩, ⟨none, .bin 17 .add (.t 16) (.c (.sc (.i .i64 1)))⟩, ⟨none, .nc 18 (.t 13)⟩, ⟨none, .fa 19 (.t 18) 1⟩, ⟨none, .st (.t 19) 1 (.t 17)⟩]) (.seq (.reg [⟨none, .ld 20 3 true (.t 3)⟩, ⟨none, .st (.t 2) 3 (.t 20)⟩]) .ret)))), [(2, 3)], 21⟩
def F56 : Fn := ⟨.seq (.reg [⟨none, .mv 4 (.c (.sc (.b false)))⟩]) (.seq (.reg [⟨none, .mv 6 (.t 0)⟩, ⟨none, .call (some 7) (.c (.fn 108 [])) [.t 6]⟩, ⟨none, .alloc 5 [.sc (.s []), .sc (.s []), .sc (.i .i64 0)]⟩, ⟨none, .st (.t 5) 3 (.t 7)⟩]) (.seq (.reg [⟨none, .fa 8 (.t 5) 0⟩, ⟨none, .ld 9 1 false (.t 8)⟩, ⟨none, .bin 10 .eql (.t 9) (.c (.sc (.s [107, 101, 121])))⟩, ⟨none, .mv 11 (.t 10)⟩, ⟨some (11, false), .fa 12 (.t 5) 0⟩, ⟨some (11, false), .ld 13 1 false (.t 12)⟩, ⟨some (11, false), .bin 14 .eql (.t 13) (.c (.sc (.s [115, 105, 103, 110])))⟩, ⟨none, .pick 15 (.t 11) (.c (.sc (.b true))) (.t 14)⟩, ⟨none, .mv 16 (.t 15)⟩, ⟨some (16, true), .fa 17 (.t 5) 1⟩, ⟨some (16, true), .ld 18 1 false (.t 17)⟩, ⟨some (16, true), .mv 19 (.t 1)⟩, ⟨some (16, true), .bin 20 .eql (.t 18) (.t 19)⟩, ⟨none, .pick 21 (.t 16) (.t 20) (.c (.sc (.b false)))⟩, ⟨none, .mv 4 (.t 21)⟩]) .ret)), [(4, 0)], 22⟩
def F142 : Fn := ⟨.seq (.reg [⟨none, .mv 4 (.c (.sc (.b false)))⟩]) (.seq (.seq (.reg [⟨none, .mv 5 (.t 0)⟩, ⟨none, .mv 6 (.t 1)⟩, ⟨none, .call (some 7) (.c (.fn 56 [])) [.t 5, .t 6]⟩, ⟨none, .no 8 (.t 7)⟩]) (.cond (.t 8) (.seq (.reg [⟨none, .mv 4 (.c (.sc (.b false)))⟩]) .ret) .skip)) (.seq (.reg [⟨none, .mv 9 (.t 0)⟩, ⟨none, .nc 10 (.t 9)⟩, ⟨none, .fa 11 (.t 10) 1⟩, ⟨none, .ld 12 1 false (.t 11)⟩, ⟨none, .bin 13 .add (.t 12) (.c (.sc (.i .i64 1)))⟩, ⟨none, .nc 14 (.t 9)⟩, ⟨none, .fa 15 (.t 14) 1⟩, ⟨none, .st (.t 15) 1 (.t 13)⟩]) (.seq (.reg [⟨none, .mv 4 (.c (.sc (.b true)))⟩]) .ret))), [(4, 0)], 16⟩
def F109 : Fn := ⟨.seq (.reg [⟨none, .mv 4 (.t 0)⟩, ⟨none, .mv 5 (.t 1)⟩, ⟨none, .call (some 6) (.c (.fn 142 [])) [.t 4, .t 5]⟩, ⟨none, .no 7 (.t 6)⟩]) (.cond (.t 7) (.reg [⟨none, .mv 8 (.t 0)⟩, ⟨none, .nc 9 (.t 8)⟩, ⟨none, .fa 10 (.t 9) 2⟩, ⟨none, .st (.t 10) 1 (.c (.sc (.b true)))⟩]) .skip), [], 11⟩
def F110 : Fn := ⟨.seq (.reg [⟨none, .mv 2 (.c (.sc (.s [])))⟩]) (.seq (.reg [⟨none, .mv 4 (.t 0)⟩, ⟨none, .call (some 5) (.c (.fn 113 [])) [.t 4]⟩, ⟨none, .alloc 3 [.sc (.s []), .sc (.s []), .sc (.i .i64 0)]⟩, ⟨none, .st (.t 3) 3 (.t 5)⟩]) (.seq (.seq (.reg [⟨none, .fa 6 (.t 3) 0⟩, ⟨none, .ld 7 1 false (.t 6)⟩, ⟨none, .bin 8 .neq (.t 7) (.c (.sc (.s [110, 97, 109, 101])))⟩]) (.cond (.t 8) (.reg [⟨none, .mv 9 (.t 0)⟩, ⟨none, .nc 10 (.t 9)⟩, ⟨none, .fa 11 (.t 10) 2⟩, ⟨none, .st (.t 11) 1 (.c (.sc (.b true)))⟩]) .skip)) (.seq (.reg [⟨none, .fa 12 (.t 3) 1⟩, ⟨none, .ld 13 1 false (.t 12)⟩, ⟨none, .mv 2 (.t 13)⟩]) .ret))), [(2, 0)], 14⟩
def F178 : Fn := ⟨.seq (.reg [⟨none, .mv 2 (.c (.sc (.s [])))⟩]) (.seq (.reg [⟨none, .mv 4 (.t 0)⟩, ⟨none, .call (some 5) (.c (.fn 113 [])) [.t 4]⟩, ⟨none, .alloc 3 [.sc (.s []), .sc (.s []), .sc (.i .i64 0)]⟩, ⟨none, .st (.t 3) 3 (.t 5)⟩]) (.seq (.seq (.reg [⟨none, .fa 6 (.t 3) 0⟩, ⟨none, .ld 7 1 false (.t 6)⟩, ⟨none, .bin 8 .eql (.t 7) (.c (.sc (.s [110, 97, 109, 101])))⟩, ⟨none, .mv 9 (.t 8)⟩, ⟨some (9, false), .fa 10 (.t 3) 1⟩, ⟨some (9, false), .ld 11 1 false (.t 10)⟩, ⟨some (9, false), .call (some 12) (.c (.fn 186 [])) [.t 11]⟩, ⟨some (9, false), .no 13 (.t 12)⟩, ⟨none, .pick 14 (.t 9) (.c (.sc (.b true))) (.t 13)⟩]) (.cond (.t 14) (.reg [⟨none, .mv 15 (.t 0)⟩, ⟨none, .nc 16 (.t 15)⟩, ⟨none, .fa 17 (.t 16) 2⟩, ⟨none, .st (.t 17) 1 (.c (.sc (.b true)))⟩]) .skip)) (.seq (.reg [⟨none, .fa 18 (.t 3) 1⟩, ⟨none, .ld 19 1 false (.t 18)⟩, ⟨none, .mv 2 (.t 19)⟩]) .ret))), [(2, 0)], 20⟩
def F114 : Fn := ⟨.seq (.reg [⟨none, .mv 2 (.c (.sc (.i .i64 0)))⟩]) (.seq (.reg [⟨none, .mv 6 (.t 0)⟩, ⟨none, .call (some 7) (.c (.fn 113 [])) [.t 6]⟩, ⟨none, .fld 8 (.t 7) 1 1 false⟩, ⟨none, .call (some 9) (.c (.fn 141 [])) [.t 8]⟩, ⟨none, .mv 5 (.t 9)⟩, ⟨none, .ext 10 (.t 5) 0⟩, ⟨none, .ext 11 (.t 5) 1⟩, ⟨none, .mv 3 (.t 10)⟩, ⟨none, .mv 4 (.t 11)⟩]) (.seq (.seq (.reg [⟨none, .mv 12 (.t 4)⟩, ⟨none, .bin 13 .neq (.t 12) (.c (.sc (.i .i64 0)))⟩]) (.cond (.t 13) (.reg [⟨none, .mv 14 (.t 0)⟩, ⟨none, .nc 15 (.t 14)⟩, ⟨none, .fa 16 (.t 15) 2⟩, ⟨none, .st (.t 16) 1 (.c (.sc (.b true)))⟩]) .skip)) (.seq (.reg [⟨none, .mv 17 (.t 3)⟩, ⟨none, .mv 2 (.t 17)⟩]) .ret))), [(2, 0)], 18⟩
def F141 : Fn := ⟨.seq (.reg [⟨none, .mv 2 (.c (.sc (.i .i64 0)))⟩, ⟨none, .mv 3 (.c (.sc (.i .i64 0)))⟩]) (.seq (.seq (.reg [⟨none, .mv 6 (.t 0)⟩, ⟨none, .build 7 [.sc (.s []), .sc (.s []), .sc (.i .i64 0)] [(0, (1, .c (.sc (.s [105, 110, 116])))), (1, (1, .t 6))]⟩, ⟨none, .call (some 8) (.c (.fn 187 [])) [.t 7]⟩, ⟨none, .no 9 (.t 8)⟩]) (.cond (.t 9) (.seq (.reg [⟨none, .mv 2 (.c (.sc (.i .i64 0)))⟩, ⟨none, .mv 3 (.c (.sc (.i .i64 3)))⟩]) .ret) .skip)) (.seq (.reg [⟨none, .mv 11 (.t 0)⟩, ⟨none, .call (some 12) (.c (.fn 188 [])) [.t 11]⟩, ⟨none, .mv 10 (.t 12)⟩, ⟨none, .ext 13 (.t 10) 0⟩, ⟨none, .ext 14 (.t 10) 1⟩, ⟨none, .mv 4 (.t 13)⟩, ⟨none, .mv 5 (.t 14)⟩]) (.seq (.reg [⟨none, .mv 15 (.t 4)⟩, ⟨none, .mv 2 (.t 15)⟩, ⟨none, .mv 3 (.c (.sc (.i .i64 0)))⟩]) .ret))), [(2, 0), (3, 0)], 16⟩
theorem F108_ok : compT Tryz.prog (fun _ => an0) 108 = some F108 := by kernel_rfl
theorem F113_ok : compT Tryz.prog (fun _ => an0) 113 = some F113 := by kernel_rfl
theorem F56_ok : compT Tryz.prog (fun _ => an0) 56 = some F56 := by kernel_rfl
theorem F142_ok : compT Tryz.prog (fun _ => an0) 142 = some F142 := by kernel_rfl
theorem F109_ok : compT Tryz.prog (fun _ => an0) 109 = some F109 := by kernel_rfl
theorem F110_ok : compT Tryz.prog (fun _ => an0) 110 = some F110 := by kernel_rfl
theorem F178_ok : compT Tryz.prog (fun _ => an0) 178 = some F178 := by kernel_rfl
theorem F114_ok : compT Tryz.prog (fun _ => an0) 114 = some F114 := by kernel_rfl
theorem F141_ok : compT Tryz.prog (fun _ => an0) 141 = some F141 := by kernel_rfl
/-- where a parser is -/
structure PS where
  a : Nat
  bad : Bool
def pbx (l : List T) (s : PS) : List AV := [.sl 3 (toksD l) .none, .sc (.i .i64 (s.a : Nat)), .sc (.b s.bad)]
def tkA (t : T) : AV := .agg [.sc (.s t.1), .sc (.s t.2.1), .sc (.i .i64 t.2.2)]
def t0 : T := ([], [], 0)
def pPeek (l : List T) (s : PS) : T := bif s.bad then t0 else l.getD s.a t0
def pNext (l : List T) (s : PS) : T × PS := bif beqL (pPeek l s).1 [] then (pPeek l s, ⟨s.a, true⟩) else (pPeek l s, ⟨s.a + 1, s.bad⟩)
def pIs (l : List T) (s : PS) (x : S) : Bool := (beqL (pPeek l s).1 [107, 101, 121] || beqL (pPeek l s).1 [115, 105, 103, 110]) && beqL (pPeek l s).2.1 x
def pHas (l : List T) (s : PS) (x : S) : Bool × PS := bif pIs l s x then (true, ⟨s.a + 1, s.bad⟩) else (false, s)
def pMust (l : List T) (s : PS) (x : S) : PS := bif (pHas l s x).1 then (pHas l s x).2 else ⟨(pHas l s x).2.a, true⟩
def pName (l : List T) (s : PS) : S × PS := ((pNext l s).1.2.1, bif beqL (pNext l s).1.1 [110, 97, 109, 101] then (pNext l s).2 else ⟨(pNext l s).2.a, true⟩)
def pOp (l : List T) (s : PS) : S × PS := ((pNext l s).1.2.1, bif beqL (pNext l s).1.1 [110, 97, 109, 101] || !isOpB (pNext l s).1.2.1 then ⟨(pNext l s).2.a, true⟩ else (pNext l s).2)
theorem fin_pb {σ : Log} {v res : AV} {l : List T} {s' : PS} {e : List (List Data)} {t : Tok} {x : Int} {y : Bool} (hb : look σ (.b 0) = some (.bx [.sl 3 e t, .sc (.i .i64 x), .sc (.b y)])) (hv : v = res) (he : e = toksD l) (hx : x = (s'.a : Nat)) (hy : y = s'.bad)
    (h1 : inR 1 0 res = true) (h2 : wk3 res (ren [0] [] 0 res)) (h3 : toks res = []) : FinOK σ v 1 0 res [pbx l s'] := by
  subst hv; subst he; subst hx; subst hy
  refine ⟨⟨[], [], ⟨rfl, rfl, h1, rfl⟩, h2, ?_, ?_⟩⟩
  · refine ⟨?_, trivial⟩
    show (match look σ (.b 0) with | some (.bx l') => wkL2 l' _ | _ => False)
    rw [hb]
    exact ⟨⟨rfl, rfl, .inl rfl⟩, rfl, rfl, trivial⟩
  · rw [h3]; exact trivial
set_option maxHeartbeats 4000000 in
theorem b108 (W0 : Go.World) (l : List T) (s : PS) (hl : l.length ≤ 140737488355328) (hs : s.a ≤ l.length) : Body (Ctr Tryz.prog W0) F108.ac F108.rs [.ptr 0 0] [pbx l s] (tkA (pPeek l s)) [pbx l (s)] := by
  obtain ⟨a, bad⟩ := s
  simp only at hs
  conv => whnf
  refine brec (fun h1 => ?_) (fun h1 => ?_)
  · conv => whnf
    refine brec (fun h2 => ?_) (fun h2 => ?_)
    · have h1' : bad = false := h1
      have h2' : ¬ ((toksD l).length : Int) ≤ (a : Int) := by simpa using h2
      rw [toksD_length] at h2'
      obtain ⟨t, ht⟩ := get_of_lt (l := l) (k := a) (by omega)
      conv => whnf
      refine ⟨_, ⟨Int.natCast_nonneg _, toksD_get ht⟩, ?_⟩
      conv => whnf
      have e : pPeek l ⟨a, bad⟩ = t := by simp [pPeek, h1', ht]
      rw [e]
      obtain ⟨k, x, p⟩ := t
      refine fin_pb rfl (rfl) rfl (rfl) (rfl) rfl (⟨rfl, rfl, rfl, trivial⟩) rfl
    · have h2' : ((toksD l).length : Int) ≤ (a : Int) := by simpa using h2
      rw [toksD_length] at h2'
      have e : pPeek l ⟨a, bad⟩ = t0 := by simp only [pPeek]; rw [List.getD_eq_getElem?_getD, List.getElem?_eq_none (by omega)]; cases bad <;> rfl
      rw [e]
      conv => whnf
      refine fin_pb rfl (rfl) rfl (rfl) (rfl) rfl (⟨rfl, rfl, rfl, trivial⟩) rfl
  · have h1' : bad = true := h1
    have e : pPeek l ⟨a, bad⟩ = t0 := by simp [pPeek, h1']
    rw [e]
    conv => whnf
    refine fin_pb rfl (rfl) rfl (rfl) (rfl) rfl (⟨rfl, rfl, rfl, trivial⟩) rfl
theorem c108 (W0 : Go.World) (l : List T) (s : PS) (hl : l.length ≤ 140737488355328) (hs : s.a ≤ l.length) : Ctr Tryz.prog W0 108 [.ptr 0 0] [pbx l s] (tkA (pPeek l s)) [pbx l (s)] :=
  ctr_body follows F108_ok rfl (fun _ _ h => by cases h) rfl rfl (b108 W0 l s hl hs)
set_option maxHeartbeats 4000000 in
theorem b113 (W0 : Go.World) (l : List T) (s : PS) (hl : l.length ≤ 140737488355328) (hs : s.a ≤ l.length) : Body (Ctr Tryz.prog W0) F113.ac F113.rs [.ptr 0 0] [pbx l s] (tkA (pNext l s).1) [pbx l ((pNext l s).2)] := by
  obtain ⟨a, bad⟩ := s
  simp only at hs
  repeat' ((conv => whnf); (first | with_reducible refine brec (fun _ => ?_) (fun _ => ?_) | (refine callP.full [0] [] [.ptr 0 0] [pbx l _] [pbx l _] _ (c108 W0 l ⟨a, bad⟩ hl hs) ⟨rfl, rfl, rfl, rfl, rfl, rfl, rfl, rfl, rfl, rfl, ⟨rfl, trivial⟩, ⟨⟨⟨rfl, rfl, .inr rfl⟩, rfl, rfl, trivial⟩, trivial⟩, trivial⟩ ?_) | (refine And.intro (by constructor <;> ((try simp only); omega)) ?_) | fail))
  all_goals (conv => whnf)
  all_goals (rename_i h1; simp only [pNext, h1, cond_true, cond_false])
  all_goals (first | refine fin_pb rfl (rfl) rfl (rfl) (rfl) rfl (⟨rfl, rfl, rfl, trivial⟩) rfl)
theorem c113 (W0 : Go.World) (l : List T) (s : PS) (hl : l.length ≤ 140737488355328) (hs : s.a ≤ l.length) : Ctr Tryz.prog W0 113 [.ptr 0 0] [pbx l s] (tkA (pNext l s).1) [pbx l ((pNext l s).2)] :=
  ctr_body follows F113_ok rfl (fun _ _ h => by cases h) rfl rfl (b113 W0 l s hl hs)
set_option maxHeartbeats 4000000 in
theorem b56 (W0 : Go.World) (l : List T) (s : PS) (x : S) (hl : l.length ≤ 140737488355328) (hs : s.a ≤ l.length) : Body (Ctr Tryz.prog W0) F56.ac F56.rs [.ptr 0 0, .sc (.s x)] [pbx l s] (.sc (.b (pIs l s x))) [pbx l (s)] := by
  obtain ⟨a, bad⟩ := s
  simp only at hs
  repeat' ((conv => whnf); (first | with_reducible refine brec (fun _ => ?_) (fun _ => ?_) | (refine callP.full [0] [] [.ptr 0 0] [pbx l _] [pbx l _] _ (c108 W0 l ⟨a, bad⟩ hl hs) ⟨rfl, rfl, rfl, rfl, rfl, rfl, rfl, rfl, rfl, rfl, ⟨rfl, trivial⟩, ⟨⟨⟨rfl, rfl, .inr rfl⟩, rfl, rfl, trivial⟩, trivial⟩, trivial⟩ ?_) | fail))
  all_goals (conv => whnf)
  all_goals (first | refine fin_pb rfl (congrArg (fun b => AV.sc (Sc.b b)) (by simp_all [pIs])) rfl (rfl) (rfl) rfl (rfl) rfl)
theorem c56 (W0 : Go.World) (l : List T) (s : PS) (x : S) (hl : l.length ≤ 140737488355328) (hs : s.a ≤ l.length) : Ctr Tryz.prog W0 56 [.ptr 0 0, .sc (.s x)] [pbx l s] (.sc (.b (pIs l s x))) [pbx l (s)] :=
  ctr_body follows F56_ok rfl (fun _ _ h => by cases h) rfl rfl (b56 W0 l s x hl hs)
set_option maxHeartbeats 4000000 in
theorem b142 (W0 : Go.World) (l : List T) (s : PS) (x : S) (hl : l.length ≤ 140737488355328) (hs : s.a ≤ l.length) : Body (Ctr Tryz.prog W0) F142.ac F142.rs [.ptr 0 0, .sc (.s x)] [pbx l s] (.sc (.b ((pHas l s x).1))) [pbx l ((pHas l s x).2)] := by
  obtain ⟨a, bad⟩ := s
  simp only at hs
  repeat' ((conv => whnf); (first | with_reducible refine brec (fun _ => ?_) (fun _ => ?_) | (refine callP.full [0] [] [.ptr 0 0, .sc (.s x)] [pbx l _] [pbx l _] _ (c56 W0 l ⟨a, bad⟩ x hl hs) ⟨rfl, rfl, rfl, rfl, rfl, rfl, rfl, rfl, rfl, rfl, ⟨rfl, rfl, trivial⟩, ⟨⟨⟨rfl, rfl, .inr rfl⟩, rfl, rfl, trivial⟩, trivial⟩, trivial⟩ ?_) | (refine And.intro (by constructor <;> ((try simp only); omega)) ?_) | fail))
  all_goals (conv => whnf)
  all_goals (rename_i h1; simp only [Bool.not_eq_true', Bool.not_eq_false'] at h1; simp only [pHas, h1, cond_true, cond_false])
  all_goals (first | refine fin_pb rfl (rfl) rfl (rfl) (rfl) rfl (rfl) rfl)
theorem c142 (W0 : Go.World) (l : List T) (s : PS) (x : S) (hl : l.length ≤ 140737488355328) (hs : s.a ≤ l.length) : Ctr Tryz.prog W0 142 [.ptr 0 0, .sc (.s x)] [pbx l s] (.sc (.b ((pHas l s x).1))) [pbx l ((pHas l s x).2)] :=
  ctr_body follows F142_ok rfl (fun _ _ h => by cases h) rfl rfl (b142 W0 l s x hl hs)
theorem pPeek_out {l : List T} {s : PS} (h : l.length ≤ s.a) : pPeek l s = t0 := by
  simp only [pPeek]; rw [List.getD_eq_getElem?_getD, List.getElem?_eq_none h]; cases s.bad <;> rfl
theorem pIs_lt {l : List T} {s : PS} {x : S} (h : pIs l s x = true) : s.a < l.length ∧ s.bad = false := by
  obtain ⟨a, bad⟩ := s
  cases bad with
  | true => simp [pIs, pPeek, t0, beqL] at h
  | false =>
    refine ⟨?_, rfl⟩
    by_cases hlt : a < l.length
    · exact hlt
    · simp [pIs, pPeek_out (l := l) (s := ⟨a, false⟩) (by simp only; omega), t0, beqL] at h
theorem pHas_le {l : List T} {s : PS} {x : S} (hs : s.a ≤ l.length) : s.a ≤ (pHas l s x).2.a ∧ (pHas l s x).2.a ≤ l.length := by
  simp only [pHas]
  cases h : pIs l s x with
  | true => have := (pIs_lt h).1; simp; omega
  | false => simpa using hs
theorem pNext_le {l : List T} {s : PS} (hs : s.a ≤ l.length) : s.a ≤ (pNext l s).2.a ∧ (pNext l s).2.a ≤ l.length ∧ ((pNext l s).2.bad = false → s.a < (pNext l s).2.a) := by
  simp only [pNext]
  cases h : beqL (pPeek l s).1 [] with
  | true => simpa using hs
  | false =>
    have : s.a < l.length := by
      by_cases hlt : s.a < l.length
      · exact hlt
      · rw [pPeek_out (by omega)] at h; simp [t0, beqL] at h
    simp; omega
theorem pMust_le {l : List T} {s : PS} {x : S} (hs : s.a ≤ l.length) : s.a ≤ (pMust l s x).a ∧ (pMust l s x).a ≤ l.length := by
  have := pHas_le (x := x) hs
  simp only [pMust]
  cases (pHas l s x).1 <;> simpa using this
theorem pName_le {l : List T} {s : PS} (hs : s.a ≤ l.length) : s.a ≤ (pName l s).2.a ∧ (pName l s).2.a ≤ l.length := by
  have := pNext_le hs
  simp only [pName]
  cases beqL (pNext l s).1.1 [110, 97, 109, 101] <;> simp <;> omega
theorem pOp_le {l : List T} {s : PS} (hs : s.a ≤ l.length) : s.a ≤ (pOp l s).2.a ∧ (pOp l s).2.a ≤ l.length := by
  have := pNext_le hs
  simp only [pOp]
  cases (beqL (pNext l s).1.1 [110, 97, 109, 101] || !isOpB (pNext l s).1.2.1) <;> simp <;> omega
set_option maxHeartbeats 4000000 in
theorem b109 (W0 : Go.World) (l : List T) (s : PS) (x : S) (hl : l.length ≤ 140737488355328) (hs : s.a ≤ l.length) : Body (Ctr Tryz.prog W0) F109.ac F109.rs [.ptr 0 0, .sc (.s x)] [pbx l s] (.tup []) [pbx l (pMust l s x)] := by
  obtain ⟨a, bad⟩ := s
  simp only at hs
  repeat' ((conv => whnf); (first | with_reducible refine brec (fun _ => ?_) (fun _ => ?_) | (refine callP.full [0] [] [.ptr 0 0, .sc (.s x)] [pbx l _] [pbx l _] _ (c142 W0 l ⟨a, bad⟩ x hl hs) ⟨rfl, rfl, rfl, rfl, rfl, rfl, rfl, rfl, rfl, rfl, ⟨rfl, rfl, trivial⟩, ⟨⟨⟨rfl, rfl, .inr rfl⟩, rfl, rfl, trivial⟩, trivial⟩, trivial⟩ ?_) | fail))
  all_goals (conv => whnf)
  all_goals (rename_i h1; simp only [Bool.not_eq_true', Bool.not_eq_false'] at h1; simp only [pMust, h1, cond_true, cond_false])
  all_goals (first | refine fin_pb rfl (rfl) rfl (rfl) (rfl) rfl (trivial) rfl)
theorem c109 (W0 : Go.World) (l : List T) (s : PS) (x : S) (hl : l.length ≤ 140737488355328) (hs : s.a ≤ l.length) : Ctr Tryz.prog W0 109 [.ptr 0 0, .sc (.s x)] [pbx l s] (.tup []) [pbx l (pMust l s x)] :=
  ctr_body follows F109_ok rfl (fun _ _ h => by cases h) rfl rfl (b109 W0 l s x hl hs)
set_option maxHeartbeats 4000000 in
theorem b110 (W0 : Go.World) (l : List T) (s : PS) (hl : l.length ≤ 140737488355328) (hs : s.a ≤ l.length) : Body (Ctr Tryz.prog W0) F110.ac F110.rs [.ptr 0 0] [pbx l s] (.sc (.s ((pName l s).1))) [pbx l ((pName l s).2)] := by
  obtain ⟨a, bad⟩ := s
  simp only at hs
  repeat' ((conv => whnf); (first | with_reducible refine brec (fun _ => ?_) (fun _ => ?_) | (refine callP.full [0] [] [.ptr 0 0] [pbx l _] [pbx l _] _ (c113 W0 l ⟨a, bad⟩ hl hs) ⟨rfl, rfl, rfl, rfl, rfl, rfl, rfl, rfl, rfl, rfl, ⟨rfl, trivial⟩, ⟨⟨⟨rfl, rfl, .inr rfl⟩, rfl, rfl, trivial⟩, trivial⟩, trivial⟩ ?_) | fail))
  all_goals (conv => whnf)
  all_goals (rename_i h1; simp only [Bool.not_eq_true', Bool.not_eq_false'] at h1; simp only [pName, h1, cond_true, cond_false])
  all_goals (first | refine fin_pb rfl (rfl) rfl (rfl) (rfl) rfl (rfl) rfl)
theorem c110 (W0 : Go.World) (l : List T) (s : PS) (hl : l.length ≤ 140737488355328) (hs : s.a ≤ l.length) : Ctr Tryz.prog W0 110 [.ptr 0 0] [pbx l s] (.sc (.s ((pName l s).1))) [pbx l ((pName l s).2)] :=
  ctr_body follows F110_ok rfl (fun _ _ h => by cases h) rfl rfl (b110 W0 l s hl hs)
set_option maxHeartbeats 4000000 in
theorem b178 (W0 : Go.World) (l : List T) (s : PS) (hl : l.length ≤ 140737488355328) (hs : s.a ≤ l.length) : Body (Ctr Tryz.prog W0) F178.ac F178.rs [.ptr 0 0] [pbx l s] (.sc (.s ((pOp l s).1))) [pbx l ((pOp l s).2)] := by
  obtain ⟨a, bad⟩ := s
  simp only at hs
  repeat' ((conv => whnf); (first | with_reducible refine brec (fun _ => ?_) (fun _ => ?_) | (refine callP.full [0] [] [.ptr 0 0] [pbx l _] [pbx l _] _ (c113 W0 l ⟨a, bad⟩ hl hs) ⟨rfl, rfl, rfl, rfl, rfl, rfl, rfl, rfl, rfl, rfl, ⟨rfl, trivial⟩, ⟨⟨⟨rfl, rfl, .inr rfl⟩, rfl, rfl, trivial⟩, trivial⟩, trivial⟩ ?_) | (refine callP.pure _ (c186 W0 (pNext l ⟨a, bad⟩).1.2.1) ⟨rfl, rfl⟩ ?_) | fail))
  all_goals (conv => whnf)
  all_goals (simp only [pOp]; simp_all only [Bool.not_eq_true', Bool.not_eq_false', Bool.true_or, Bool.false_or, Bool.not_true, Bool.not_false, cond_true, cond_false])
  all_goals (first | refine fin_pb rfl (rfl) rfl (rfl) (rfl) rfl (rfl) rfl)
theorem c178 (W0 : Go.World) (l : List T) (s : PS) (hl : l.length ≤ 140737488355328) (hs : s.a ≤ l.length) : Ctr Tryz.prog W0 178 [.ptr 0 0] [pbx l s] (.sc (.s ((pOp l s).1))) [pbx l ((pOp l s).2)] :=
  ctr_body follows F178_ok rfl (fun _ _ h => by cases h) rfl rfl (b178 W0 l s hl hs)
end Go.Abs

set_option maxRecDepth 100000
namespace Go.Abs
open Go.Proofs
theorem digs_all : ∀ (s : S), digsN s = s.length → ∀ c ∈ s, digI c.toNat = true
  | [], _, c, hc => by simp at hc
  | b :: r, h, c, hc => by
    simp only [digsN] at h
    split at h
    · rename_i hb
      rcases List.mem_cons.1 hc with rfl | hc
      · exact hb
      · exact digs_all r (by simpa using h) c hc
    · simp at h
theorem dec_some : ∀ (s : S) (acc : Nat), (∀ c ∈ s, digI c.toNat = true) → ∃ n, Go.Lib.decFrom acc s = some n
  | [], acc, _ => ⟨acc, rfl⟩
  | b :: r, acc, h => by
    have hb := h b (by simp)
    simp only [digI, Bool.and_eq_true, decide_eq_true_eq] at hb
    have : Go.Lib.digitVal b = some (b.toNat - 48) := by simp only [Go.Lib.digitVal]; rw [if_pos (by omega)]
    simp only [Go.Lib.decFrom, this]
    exact dec_some r _ fun c hc => h c (by simp [hc])
theorem atoi_digs {s : S} (h0 : s ≠ []) (h : ∀ c ∈ s, digI c.toNat = true) : ∃ n, Go.Lib.atoi s = some n := by
  cases s with
  | nil => exact absurd rfl h0
  | cons b r =>
    obtain ⟨n, hn⟩ := dec_some (b :: r) 0 h
    have hb := h b (by simp)
    simp only [digI, Bool.and_eq_true, decide_eq_true_eq] at hb
    have h1 : (b == 45) = false := by
      cases hc : b == 45 with
      | false => rfl
      | true => simp only [beq_iff_eq] at hc; subst hc; simp at hb
    have h2 : (b == 43) = false := by
      cases hc : b == 43 with
      | false => rfl
      | true => simp only [beq_iff_eq] at hc; subst hc; simp at hb
    refine ⟨(n : Int), ?_⟩
    simp only [Go.Lib.atoi, h1, h2, Bool.false_eq_true, if_false, Go.Lib.decNat, List.isEmpty_cons]
    rw [hn]; rfl
theorem digN_le (s : S) : digN s ≤ s.length := by
  unfold digN
  split
  · rename_i h; simp [preB] at h; omega
  · exact digsN_le s
theorem kindS_int (s : S) : beqL (kindS s) [105, 110, 116] = false := by
  unfold kindS
  cases hasB s keyList <;> decide
theorem int_spec {s : S} (h : validT [105, 110, 116] s = true) : s.length ≤ 9 ∧ s ≠ [] ∧ ∀ c ∈ s, digI c.toNat = true := by
  simp only [validT, Bool.and_eq_true] at h
  obtain ⟨h1, h2, h3⟩ := h
  unfold firstT at h1 h2 h3
  split at h1
  · rename_i n e
    simp only [e] at h2
    rw [kindS_int] at h2; cases h2
  · rename_i e
    simp only [e] at h1 h2 h3
    split at h1
    · rename_i n e2
      simp only [e2] at h3
      have ht := beqL_iff.1 h3
      have hl : (s.take (n + 1)).length = s.length := by rw [ht]
      have hd := digN_le s
      rw [e2] at hd
      rw [List.length_take] at hl
      have hn : n + 1 = s.length := by omega
      have h9 : (n : Int) + 1 ≤ 9 := by simpa using h1
      refine ⟨by omega, by intro h; subst h; simp at hn, ?_⟩
      unfold digN at e2
      split at e2
      · rename_i hp
        have : s = [48] := by
          simp only [preB, Bool.and_eq_true] at hp
          have := beqL_iff.1 hp.2
          have hl1 : s.length = 1 := by omega
          rw [← this, List.take_of_length_le (by simp; omega)]
        subst this
        simp [digI]
      · exact digs_all s (by omega)
    · rename_i e2
      simp only [e2] at h2
      split at h2
      · exact absurd (beqL_iff.1 h2) (show ¬ ([115, 105, 103, 110] : S) = [105, 110, 116] by decide)
      · exact absurd (beqL_iff.1 h2) (show ¬ ([] : S) = [105, 110, 116] by decide)
def numV (s : S) : Int := bif validT [105, 110, 116] s then (Go.Lib.atoi s).getD 0 else 0
def numC (s : S) : Int := bif validT [105, 110, 116] s then 0 else 3
theorem b141 (W0 : Go.World) (hk : Wk W0) (s : S) (hl : s.length ≤ 140737488355328) : Body (Ctr Tryz.prog W0) F141.ac F141.rs [.sc (.s s)] [] (.tup [.sc (.i .i64 (numV s)), .sc (.i .i64 (numC s))]) [] := by
  conv => whnf
  refine callP.pure _ (c187 W0 hk [105, 110, 116] s 0 hl) ⟨rfl, rfl⟩ ?_
  conv => whnf
  refine brec (fun h => ?_) (fun h => ?_)
  · rw [Bool.not_eq_false'] at h
    obtain ⟨i1, i2, i3⟩ := int_spec h
    obtain ⟨n, hn⟩ := atoi_digs i2 i3
    have e1 : numV s = n := by simp [numV, h, hn]
    have e2 : numC s = 0 := by simp [numC, h]
    rw [e1, e2]
    conv => whnf
    refine callP.pure _ (atoi_ctr W0 s n (by omega) hn) ⟨rfl, rfl⟩ ?_
    conv => whnf
    exact fin0 rfl ⟨rfl, rfl, trivial⟩ rfl
  · rw [Bool.not_eq_true'] at h
    have e1 : numV s = 0 := by simp [numV, h]
    have e2 : numC s = 3 := by simp [numC, h]
    rw [e1, e2]
    conv => whnf
    exact fin0 rfl ⟨rfl, rfl, trivial⟩ rfl
theorem c141 (W0 : Go.World) (hk : Wk W0) (s : S) (hl : s.length ≤ 140737488355328) : Ctr Tryz.prog W0 141 [.sc (.s s)] [] (.tup [.sc (.i .i64 (numV s)), .sc (.i .i64 (numC s))]) [] :=
  ctr_body follows F141_ok rfl (fun _ _ h => by cases h) rfl rfl (b141 W0 hk s hl)
/-- no token's text is longer than the reach -/
def tOK (l : List T) : Prop := ∀ t ∈ l, t.2.1.length ≤ 10000
theorem pPeek_ok {l : List T} {s : PS} (h : tOK l) : (pPeek l s).2.1.length ≤ 10000 := by
  simp only [pPeek]
  cases s.bad with
  | true => simp [t0]
  | false =>
    simp only [cond_false]
    rw [List.getD_eq_getElem?_getD]
    cases hg : l[s.a]? with
    | none => simp [t0]
    | some t => exact h t (List.mem_of_getElem? hg)
theorem pNext_ok {l : List T} {s : PS} (h : tOK l) : (pNext l s).1.2.1.length ≤ 10000 := by
  have := pPeek_ok (s := s) h
  simp only [pNext]
  cases beqL (pPeek l s).1 [] <;> simpa using this
def pNum (l : List T) (s : PS) : Int × PS := (numV (pNext l s).1.2.1, bif decide (numC (pNext l s).1.2.1 = 0) then (pNext l s).2 else ⟨(pNext l s).2.a, true⟩)
theorem pNum_le {l : List T} {s : PS} (hs : s.a ≤ l.length) : s.a ≤ (pNum l s).2.a ∧ (pNum l s).2.a ≤ l.length := by
  have := pNext_le hs
  simp only [pNum]
  cases decide (numC (pNext l s).1.2.1 = 0) <;> simp <;> omega
set_option maxHeartbeats 4000000 in
theorem b114 (W0 : Go.World) (hk : Wk W0) (l : List T) (s : PS) (ht : tOK l) (hl : l.length ≤ 140737488355328) (hs : s.a ≤ l.length) : Body (Ctr Tryz.prog W0) F114.ac F114.rs [.ptr 0 0] [pbx l s] (.sc (.i .i64 ((pNum l s).1))) [pbx l ((pNum l s).2)] := by
  obtain ⟨a, bad⟩ := s
  simp only at hs
  repeat' ((conv => whnf); (first | with_reducible refine brec (fun _ => ?_) (fun _ => ?_) | (refine callP.full [0] [] [.ptr 0 0] [pbx l _] [pbx l _] _ (c113 W0 l ⟨a, bad⟩ hl hs) ⟨rfl, rfl, rfl, rfl, rfl, rfl, rfl, rfl, rfl, rfl, ⟨rfl, trivial⟩, ⟨⟨⟨rfl, rfl, .inr rfl⟩, rfl, rfl, trivial⟩, trivial⟩, trivial⟩ ?_) | (refine callP.pure _ (c141 W0 hk (pNext l ⟨a, bad⟩).1.2.1 (Nat.le_trans (pNext_ok ht) (by decide))) ⟨rfl, rfl⟩ ?_) | fail))
  all_goals (conv => whnf)
  all_goals (simp only [pNum]; simp_all only [Bool.not_eq_true', Bool.not_eq_false', decide_eq_false_iff_not, decide_eq_true_eq, decide_true, decide_false, cond_true, cond_false, Decidable.not_not])
  all_goals (first | refine fin_pb rfl (rfl) rfl (rfl) (rfl) rfl (rfl) rfl)
theorem c114 (W0 : Go.World) (hk : Wk W0) (l : List T) (s : PS) (ht : tOK l) (hl : l.length ≤ 140737488355328) (hs : s.a ≤ l.length) : Ctr Tryz.prog W0 114 [.ptr 0 0] [pbx l s] (.sc (.i .i64 ((pNum l s).1))) [pbx l ((pNum l s).2)] :=
  ctr_body follows F114_ok rfl (fun _ _ h => by cases h) rfl rfl (b114 W0 hk l s ht hl hs)
end Go.Abs

set_option maxRecDepth 100000
namespace Go.Abs
open Go.Proofs
def F144 : Fn := ⟨.seq (.reg [⟨none, .mv 2 (.c (.sc (.b false)))⟩]) (.seq (.seq (.reg [⟨none, .mv 6 (.t 0)⟩, ⟨none, .call (some 7) (.c (.fn 56 [])) [.t 6, .c (.sc (.s [40]))]⟩, ⟨none, .no 8 (.t 7)⟩]) (.cond (.t 8) (.seq (.reg [⟨none, .mv 2 (.c (.sc (.b false)))⟩]) .ret) .skip)) (.seq (.reg [⟨none, .mv 3 (.c (.sc (.i .i64 0)))⟩]) (.seq (.seq (.regD [⟨none, .mv 9 (.t 0)⟩, ⟨none, .nc 10 (.t 9)⟩, ⟨none, .fa 11 (.t 10) 0⟩, ⟨none, .ld 12 1 false (.t 11)⟩, ⟨none, .mv 13 (.t 0)⟩, ⟨none, .nc 14 (.t 13)⟩, ⟨none, .fa 15 (.t 14) 1⟩, ⟨none, .ld 16 1 false (.t 15)⟩, ⟨none, .slL 17 3 (.t 12) (some (.t 16)) none none⟩, ⟨none, .len 18 (.t 17)⟩, ⟨none, .mv 19 (.c (.sc (.i .i64 0)))⟩] [0, 1, 3, 7, 0, 16, 48, 112, 255, 511, 0]) (.block 0 (.loop (.seq (.reg [⟨none, .bin 20 .lss (.t 19) (.t 18)⟩]) (.seq (.cond (.t 20) .skip (.exit 0)) (.seq (.block 1 (.seq (.reg [⟨none, .mv 21 (.t 19)⟩, ⟨none, .ia 22 3 (.t 17) (.t 19)⟩, ⟨none, .ld 23 3 true (.t 22)⟩, ⟨none, .alloc 5 [.sc (.s []), .sc (.s []), .sc (.i .i64 0)]⟩, ⟨none, .mv 4 (.t 21)⟩, ⟨none, .st (.t 5) 3 (.t 23)⟩]) (.block 2 (.seq (.reg [⟨none, .fa 25 (.t 5) 0⟩, ⟨none, .ld 26 1 false (.t 25)⟩, ⟨none, .bin 27 .eql (.t 26) (.c (.sc (.s [115, 105, 103, 110])))⟩, ⟨none, .mv 28 (.t 27)⟩, ⟨some (28, true), .fa 29 (.t 5) 1⟩, ⟨some (28, true), .ld 30 1 false (.t 29)⟩, ⟨some (28, true), .bin 31 .eql (.t 30) (.c (.sc (.s [40])))⟩, ⟨some (28, true), .mv 32 (.t 31)⟩, ⟨some (32, false), .fa 33 (.t 5) 1⟩, ⟨some (32, false), .ld 34 1 false (.t 33)⟩, ⟨some (32, false), .bin 35 .eql (.t 34) (.c (.sc (.s [91])))⟩, ⟨some (28, true), .pick 36 (.t 32) (.c (.sc (.b true))) (.t 35)⟩, ⟨none, .pick 37 (.t 28) (.t 36) (.c (.sc (.b false)))⟩, ⟨none, .mv 24 (.t 37)⟩]) (.cond (.t 24) (.reg [⟨none, .mv 38 (.t 3)⟩, ⟨none, .bin 39 .add (.t 38) (.c (.sc (.i .i64 1)))⟩, ⟨none, .mv 3 (.t 39)⟩]) (.seq (.reg [⟨none, .fa 41 (.t 5) 0⟩, ⟨none, .ld 42 1 false (.t 41)⟩, ⟨none, .bin 43 .eql (.t 42) (.c (.sc (.s [115, 105, 103, 110])))⟩, ⟨none, .mv 44 (.t 43)⟩, ⟨some (44, true), .fa 45 (.t 5) 1⟩, ⟨some (44, true), .ld 46 1 false (.t 45)⟩, ⟨some (44, true), .bin 47 .eql (.t 46) (.c (.sc (.s [41])))⟩, ⟨some (44, true), .mv 48 (.t 47)⟩, ⟨some (48, false), .fa 49 (.t 5) 1⟩, ⟨some (48, false), .ld 50 1 false (.t 49)⟩, ⟨some (48, false), .bin 51 .eql (.t 50) (.c (.sc (.s [93])))⟩, ⟨some (44, true), .pick 52 (.t 48) (.c (.sc (.b true))) (.t 51)⟩, ⟨none, .pick 53 (.t 44) (.t 52) (.c (.sc (.b false)))⟩, ⟨none, .mv 40 (.t 53)⟩]) (.cond (.t 40) (.seq (.reg [⟨none, .mv 54 (.t 3)⟩, ⟨none, .bin 55 .sub (.t 54) (.c (.sc (.i .i64 1)))⟩, ⟨none, .mv 3 (.t 55)⟩]) (.seq (.reg [⟨none, .mv 56 (.t 3)⟩, ⟨none, .bin 57 .eql (.t 56) (.c (.sc (.i .i64 0)))⟩]) (.cond (.t 57) (.seq (.reg [⟨none, .mv 2 (.c (.sc (.b true)))⟩]) .ret) .skip))) (.seq (.reg [⟨none, .mv 59 (.t 3)⟩, ⟨none, .bin 60 .eql (.t 59) (.c (.sc (.i .i64 1)))⟩, ⟨none, .mv 61 (.t 60)⟩, ⟨some (61, true), .fa 62 (.t 5) 0⟩, ⟨some (61, true), .ld 63 1 false (.t 62)⟩, ⟨some (61, true), .bin 64 .eql (.t 63) (.c (.sc (.s [115, 105, 103, 110])))⟩, ⟨none, .pick 65 (.t 61) (.t 64) (.c (.sc (.b false)))⟩, ⟨none, .mv 66 (.t 65)⟩, ⟨some (66, true), .fa 67 (.t 5) 1⟩, ⟨some (66, true), .ld 68 1 false (.t 67)⟩, ⟨some (66, true), .bin 69 .eql (.t 68) (.c (.sc (.s [44])))⟩, ⟨none, .pick 70 (.t 66) (.t 69) (.c (.sc (.b false)))⟩, ⟨none, .mv 58 (.t 70)⟩]) (.cond (.t 58) (.seq (.reg [⟨none, .mv 2 (.c (.sc (.b true)))⟩]) .ret) (.seq (.seq (.reg [⟨none, .mv 72 (.t 3)⟩, ⟨none, .bin 73 .eql (.t 72) (.c (.sc (.i .i64 1)))⟩, ⟨none, .mv 74 (.t 73)⟩, ⟨some (74, true), .fa 75 (.t 5) 0⟩, ⟨some (74, true), .ld 76 1 false (.t 75)⟩, ⟨some (74, true), .bin 77 .eql (.t 76) (.c (.sc (.s [115, 105, 103, 110])))⟩, ⟨none, .pick 78 (.t 74) (.t 77) (.c (.sc (.b false)))⟩, ⟨none, .mv 71 (.t 78)⟩]) (.cond (.t 71) .skip (.reg [⟨none, .mv 79 (.t 3)⟩, ⟨none, .bin 80 .eql (.t 79) (.c (.sc (.i .i64 1)))⟩, ⟨none, .mv 81 (.t 80)⟩, ⟨some (81, true), .mv 82 (.t 4)⟩, ⟨some (81, true), .bin 83 .eql (.t 82) (.c (.sc (.i .i64 1)))⟩, ⟨none, .pick 84 (.t 81) (.t 83) (.c (.sc (.b false)))⟩, ⟨none, .mv 85 (.t 84)⟩, ⟨some (85, true), .fa 86 (.t 5) 0⟩, ⟨some (85, true), .ld 87 1 false (.t 86)⟩, ⟨some (85, true), .bin 88 .eql (.t 87) (.c (.sc (.s [107, 101, 121])))⟩, ⟨none, .pick 89 (.t 85) (.t 88) (.c (.sc (.b false)))⟩, ⟨none, .mv 90 (.t 89)⟩, ⟨some (90, true), .fa 91 (.t 5) 1⟩, ⟨some (90, true), .ld 92 1 false (.t 91)⟩, ⟨some (90, true), .bin 93 .neq (.t 92) (.c (.sc (.s [116, 114, 117, 101])))⟩, ⟨none, .pick 94 (.t 90) (.t 93) (.c (.sc (.b false)))⟩, ⟨none, .mv 95 (.t 94)⟩, ⟨some (95, true), .fa 96 (.t 5) 1⟩, ⟨some (95, true), .ld 97 1 false (.t 96)⟩, ⟨some (95, true), .bin 98 .neq (.t 97) (.c (.sc (.s [102, 97, 108, 115, 101])))⟩, ⟨none, .pick 99 (.t 95) (.t 98) (.c (.sc (.b false)))⟩, ⟨none, .mv 71 (.t 99)⟩]))) (.cond (.t 71) (.seq (.reg [⟨none, .mv 2 (.c (.sc (.b false)))⟩]) .ret) .skip))))))))))) (.reg [⟨none, .bin 100 .add (.t 19) (.c (.sc (.i .i64 1)))⟩, ⟨none, .mv 19 (.t 100)⟩]))))))) (.seq (.reg [⟨none, .mv 2 (.c (.sc (.b true)))⟩]) .ret)))), [(2, 0)], 101⟩
theorem F144_ok : compT Tryz.prog (fun _ => an0) 144 = some F144 := by kernel_rfl
def callScan : Nat → Int → List T → Bool
  | _, _, [] => true
  | i, dp, t :: r =>
    bif beqL t.1 [115, 105, 103, 110] && (beqL t.2.1 [40] || beqL t.2.1 [91]) then callScan (i + 1) (dp + 1) r else
    bif beqL t.1 [115, 105, 103, 110] && (beqL t.2.1 [41] || beqL t.2.1 [93]) then (bif decide (dp - 1 = 0) then true else callScan (i + 1) (dp - 1) r) else
    bif decide (dp = 1) && (beqL t.1 [115, 105, 103, 110] && beqL t.2.1 [44]) then true else
    bif (decide (dp = 1) && beqL t.1 [115, 105, 103, 110]) || (decide (dp = 1) && (decide ((i : Int) = 1) && (beqL t.1 [107, 101, 121] && (!beqL t.2.1 [116, 114, 117, 101] && !beqL t.2.1 [102, 97, 108, 115, 101])))) then false else
    callScan (i + 1) dp r
def pIsCall (l : List T) (s : PS) : Bool := bif pIs l s [40] then callScan 0 0 (l.drop s.a) else false
set_option maxHeartbeats 16000000 in
theorem b144 (W0 : Go.World) (l : List T) (s : PS) (hl : l.length ≤ 140737488355328) (hs : s.a ≤ l.length) : Body (Ctr Tryz.prog W0) F144.ac F144.rs [.ptr 0 0] [pbx l s] (.sc (.b (pIsCall l s))) [pbx l (s)] := by
  obtain ⟨a, bad⟩ := s
  simp only at hs
  conv => whnf
  (refine callP.full [0] [] [.ptr 0 0, .sc (.s [40])] [pbx l _] [pbx l _] _ (c56 W0 l ⟨a, bad⟩ [40] hl hs) ⟨rfl, rfl, rfl, rfl, rfl, rfl, rfl, rfl, rfl, rfl, ⟨rfl, rfl, trivial⟩, ⟨⟨⟨rfl, rfl, .inr rfl⟩, rfl, rfl, trivial⟩, trivial⟩, trivial⟩ ?_)
  conv => whnf
  refine brec (fun h0 => ?_) (fun h0 => ?_)
  · rw [Bool.not_eq_false'] at h0
    have hlt := (pIs_lt h0).1
    simp only at hlt
    have hsl : ((toksD l).drop ((a : Int).toNat)).take ((((toksD l).length : Nat) : Int).toNat - (a : Int).toNat) = toksD (l.drop a) := by
      simp only [Int.toNat_natCast, toksD_length]
      rw [List.take_of_length_le (by simp [toksD_length])]
      simp [toksD, List.map_drop]
    have hL : (l.drop a).length = l.length - a := List.length_drop
    generalize hLe : l.drop a = L at hsl hL
    conv => whnf
    refine ⟨.none, ⟨⟨Int.natCast_nonneg _, by simp only [toksD_length]; omega, Int.le_refl _⟩, .inl rfl⟩, ?_⟩
    rw [hsl]
    conv => whnf
    refine .st (α := Nat × Int) 2000 (fun x => L.length - x.1) (fun x => [(.b 0, .bx (pbx l ⟨a, bad⟩)), (.s 17, .av (.sl 3 (toksD L) .none)), (.s 18, .av (.sc (.i .i64 ((toksD L).length : Nat)))), (.s 19, .av (.sc (.i .i64 (x.1 : Nat)))), (.s 3, .av (.sc (.i .i64 x.2)))])
      (fun x => x.1 ≤ L.length ∧ callScan 0 0 L = callScan x.1 x.2 (L.drop x.1) ∧ -(x.1 : Int) ≤ x.2 ∧ x.2 ≤ x.1) (0, 0) ?_ ⟨Nat.zero_le _, rfl, by simp, by simp⟩ ?_
    · (refine le_of rfl rfl ?_; repeat' (first | exact rfl | exact trivial | refine ⟨?_, ?_⟩))
    · rintro ⟨k, dp⟩ ⟨hk, he, hd1, hd2⟩
      simp only at hk he hd1 hd2
      conv => whnf
      refine brec (fun h2 => ?_) (fun h2 => ?_)
      · simp only [toksD_length, decide_eq_false_iff_not] at h2
        have e1 : L.drop k = [] := by rw [List.drop_eq_nil_iff]; omega
        rw [e1] at he
        conv => whnf
        refine fin_pb rfl (congrArg (fun b => AV.sc (Sc.b b)) (by simp [pIsCall, h0, hLe, he, callScan])) rfl (rfl) (rfl) rfl (rfl) rfl
      · simp only [toksD_length, decide_eq_true_eq] at h2
        obtain ⟨⟨kd, tx, ps⟩, hx⟩ := get_of_lt (l := L) (k := k) (by omega)
        have dx := toksD_get hx
        rw [drop_get hx] at he
        simp only [callScan] at he
        conv => whnf
        refine ⟨_, ⟨Int.natCast_nonneg _, dx⟩, ?_⟩
        repeat' ((conv => whnf); (first | with_reducible refine brec (fun _ => ?_) (fun _ => ?_) | (refine And.intro (by constructor <;> omega) ?_) | fail))
        all_goals (conv => whnf)
        all_goals (try simp only at *)
        all_goals (try (exfalso; clear hx dx he; simp_all; done))
        all_goals first
          | (have hee : callScan 0 0 L = true := by (clear hx dx; simp_all; done)
             refine fin_pb rfl (congrArg (fun b => AV.sc (Sc.b b)) (by simp [pIsCall, h0, hLe, hee])) rfl (rfl) (rfl) rfl (rfl) rfl)
          | (have hee : callScan 0 0 L = false := by (clear hx dx; simp_all; done)
             refine fin_pb rfl (congrArg (fun b => AV.sc (Sc.b b)) (by simp [pIsCall, h0, hLe, hee])) rfl (rfl) (rfl) rfl (rfl) rfl)
          | skip
        all_goals first
          | (refine nxt (k + 1, dp + 1) ⟨by simp only; omega, by simp only; omega, by clear hx dx; simp_all, by simp only; omega, by simp only; omega⟩ ?_; (refine le_of rfl rfl ?_; repeat' (first | exact rfl | exact trivial | refine ⟨?_, ?_⟩)); done)
          | (refine nxt (k + 1, dp - 1) ⟨by simp only; omega, by simp only; omega, by clear hx dx; simp_all, by simp only; omega, by simp only; omega⟩ ?_; (refine le_of rfl rfl ?_; repeat' (first | exact rfl | exact trivial | refine ⟨?_, ?_⟩)); done)
          | (refine nxt (k + 1, dp) ⟨by simp only; omega, by simp only; omega, by clear hx dx; simp_all, by simp only; omega, by simp only; omega⟩ ?_; (refine le_of rfl rfl ?_; repeat' (first | exact rfl | exact trivial | refine ⟨?_, ?_⟩)); done)
          | skip
  · rw [Bool.not_eq_true'] at h0
    conv => whnf
    refine fin_pb rfl (congrArg (fun b => AV.sc (Sc.b b)) (by simp [pIsCall, h0])) rfl (rfl) (rfl) rfl (rfl) rfl
theorem c144 (W0 : Go.World) (l : List T) (s : PS) (hl : l.length ≤ 140737488355328) (hs : s.a ≤ l.length) : Ctr Tryz.prog W0 144 [.ptr 0 0] [pbx l s] (.sc (.b (pIsCall l s))) [pbx l (s)] :=
  ctr_body follows F144_ok rfl (fun _ _ h => by cases h) rfl rfl (b144 W0 l s hl hs)
end Go.Abs
