/- DeskLines: the two readers of a line answer the same. -/
import Derived.Test.YthhfalbeafocoaaGreatDoorMe
set_option maxRecDepth 100000
namespace Go.Abs
open Go.Proofs
theorem beqL_refl (s : S) : beqL s s = true := by simp [beqL]
theorem small_inner {n : Int} (h : smallI n = true) : innerI n = true := by simp [innerI, h]
theorem kindS_name (s : S) : beqL (kindS s) [110, 97, 109, 101] = !hasB s keyList := by
  unfold kindS
  cases hasB s keyList <;> decide
theorem nameR_eq (s : S) : nameR s = isNameB s := by
  unfold isNameB validT nameR
  cases s with
  | nil => decide +kernel
  | cons c r =>
    have hw := wordN_le (c :: r)
    simp only [wordR]
    cases hs : smallI c.toNat with
    | false =>
      simp only [Bool.false_and]
      have hw0 : wordN (c :: r) = 0 := by simp [wordN, hs]
      have : beqL (firstT (c :: r)).1 [110, 97, 109, 101] = false ∨ (firstT (c :: r)).2.2 = false := by
        unfold firstT
        rw [hw0]
        simp only
        split
        · left; show beqL [105, 110, 116] [110, 97, 109, 101] = false; decide
        · split
          · left; show beqL [115, 105, 103, 110] [110, 97, 109, 101] = false; decide
          · right; rfl
      rcases this with h | h <;> rw [h] <;> simp
    | true =>
      have hi := small_inner hs
      have hwn : wordN (c :: r) = innN r + 1 := by simp [wordN, hs]
      have hin : innN (c :: r) = innN r + 1 := by simp [innN, hi]
      have hf : firstT (c :: r) = (kindS ((c :: r).take (innN r + 1)), (c :: r).take (innN r + 1), true) := by unfold firstT; rw [hwn]
      rw [hf, hin]
      simp only [Bool.true_and]
      rw [hwn] at hw
      by_cases hl : innN r + 1 = (c :: r).length
      · rw [hl, List.take_length, kindS_name, beqL_refl]
        simp
      · have h1 : beqL ((c :: r).take (innN r + 1)) (c :: r) = false := by
          simp only [beqL, decide_eq_false_iff_not]
          intro e
          have := congrArg List.length e
          rw [List.length_take] at this
          omega
        rw [h1, show decide (innN r + 1 = (c :: r).length) = false from decide_eq_false hl]
        simp

def wText : S := [116, 101, 120, 116]
def wordsN : List S := [[112, 108, 97, 99, 101, 115], [102, 117, 101, 108], [99, 117, 116]]
def wordsL : List S := [[115, 99, 104, 101, 100, 117, 108, 101]]
def wordsW : List S := [[108, 111, 111, 107], [111, 119, 110, 115]]
def wordsNN : List S := [[114, 101, 115, 117, 109, 101]]
def wordsE : List S := [[116, 111, 107, 101, 110, 115], [116, 114, 101, 101], [99, 104, 101, 99, 107], [99, 111, 114, 101], [111, 112, 116, 105, 109, 105, 115, 101, 100], [112, 108, 97, 105, 110], [114, 117, 110], [102, 97, 115, 116], [102, 114, 101, 101], [114, 97, 99, 101], [108, 111, 99, 97, 108], [99, 111, 117, 110, 116, 115], [115, 97, 118, 101, 100]]
/-- what a word needs -/
def needP (w : S) : S × Bool :=
  bif beqL w wText then ([114], true) else bif hasB w wordsN then ([110], true) else bif hasB w wordsL then ([108], true) else bif hasB w wordsW then ([119], true) else
  bif hasB w wordsNN then ([110, 110], true) else bif hasB w wordsE then ([], true) else ([], false)
theorem fin_sb {σ : Log} {n n' : S} {b b' : Bool} (h1 : n' = n) (h2 : b' = b) : FinOK σ (.tup [.sc (.s n'), .sc (.b b')]) 0 0 (.tup [.sc (.s n), .sc (.b b)]) [] := by
  subst h1; subst h2; exact fin0 rfl ⟨rfl, rfl, trivial⟩ rfl
set_option maxHeartbeats 4000000 in
theorem b21 (W0 : Go.World) (w : S) : Body (Ctr Tryz.prog W0) F21_.ac F21_.rs [.sc (.s w)] [] (.tup [.sc (.s (needP w).1), .sc (.b (needP w).2)]) [] := by
  repeat' ((conv => whnf); (first | with_reducible refine brec (fun _ => ?_) (fun _ => ?_) | fail))
  all_goals ((conv => whnf); refine fin_sb ?_ ?_ <;> simp_all [needP, hasB, wText, wordsN, wordsL, wordsW, wordsNN, wordsE])
theorem c21n (W0 : Go.World) (w : S) : Ctr Tryz.prog W0 21 [.sc (.s w)] [] (.tup [.sc (.s (needP w).1), .sc (.b (needP w).2)]) [] :=
  ctr_body follows F21_ok rfl (fun _ _ h => by cases h) rfl (by rfl) (b21 W0 w)
theorem needP_cases (w : S) : needP w = ([114], true) ∨ needP w = ([110], true) ∨ needP w = ([108], true) ∨ needP w = ([119], true) ∨ needP w = ([110, 110], true) ∨ needP w = ([], true) ∨ needP w = ([], false) := by
  unfold needP
  cases beqL w wText <;> cases hasB w wordsN <;> cases hasB w wordsL <;> cases hasB w wordsW <;> cases hasB w wordsNN <;> cases hasB w wordsE <;> simp
/-- the program's lines -/
def lineP (s : S) : Bool := match decide (10000 < s.length) with
  | true => false
  | false => (match needP (Go.Lib.cut s [32]).1 with
    | (_, false) => false
    | (nd, true) => (match beqL nd [114] with
      | true => !beqL (Go.Lib.cut s [32]).2.1 []
      | false => restP isNameB nd s))
theorem len1 {α : Type} {L : List α} (h : L.length = 1) : ∃ a, L = [a] := by
  match L, h with | [a], _ => exact ⟨a, rfl⟩
theorem len2 {α : Type} {L : List α} (h : L.length = 2) : ∃ a b, L = [a, b] := by
  match L, h with | [a, b], _ => exact ⟨a, b, rfl⟩
theorem len3 {α : Type} {L : List α} (h : L.length = 3) : ∃ a b c, L = [a, b, c] := by
  match L, h with | [a, b, c], _ => exact ⟨a, b, c, rfl⟩
theorem lst_eq (s : S) : lstG numP s = lstP s := rfl
set_option maxHeartbeats 4000000 in
theorem w9n (W0 : Go.World) (hk : Wk W0) (h2 : ErrV W0 2) (h3 : ErrV W0 3) (s : S) (h0 : ¬ 10000 < s.length) (h : needP (Go.Lib.cut s [32]).1 = ([110], true)) : ∃ els, Ctr Tryz.prog W0 9 [.sc (.s s)] [] (.tup [.sl 1 els .none, .sc (.b (lineP s))]) [] := by
  have c21 := c21n W0 (Go.Lib.cut s [32]).1
  rw [h] at c21
  have key : lineP s = (decide ((spl 32 s).length = 1 + 1) && loopP isNameB [110] (spl 32 s).tail) := by
    simp only [lineP, decide_eq_false h0, h]
    rfl
  rw [key]
  have hsp := split1_ctr W0 hk.ml s 32 (by omega)
  have hle := spl_mem_le 32 s
  have hnl := spl_len_le 32 s
  generalize spl 32 s = L at hsp hle hnl ⊢
  by_cases hL : L.length = 1 + 1
  · obtain ⟨a, b, rfl⟩ := len2 (L := L) (by omega)
    have la := hle a (by simp)
    have lb := hle b (by simp)
    refine ⟨match loopP isNameB [110] [b] with | true => strsD [a, b] | false => [], ctr_body follows F9_ok rfl (fun _ _ h => by cases h) rfl (by rfl) ?_⟩
    conv => whnf
    refine brec (fun h1 => ?_) (fun h1 => ?_)
    · conv => whnf
      refine callP.pure _ (cut_ctr W0 hk.ml s [32] (by omega)) ⟨rfl, rfl⟩ ?_
      conv => whnf
      refine callP.pure _ c21 ⟨rfl, rfl⟩ ?_
      conv => whnf
      refine callP.pure _ hsp ⟨rfl, rfl⟩ ?_
      conv => whnf
      refine And.intro (by constructor <;> decide) ?_
      conv => whnf
      · refine .runs 2 ?_
        conv => whnf
        refine And.intro (by decide) ?_
        conv => whnf
        refine And.intro (by constructor <;> decide) ?_
        conv => whnf
        refine ⟨_, ⟨by decide, rfl⟩, ?_⟩
        conv => whnf
        refine callP.pure _ (c168 W0 hk b (by omega)) ⟨rfl, rfl⟩ ?_
        conv => whnf
        refine And.intro (by constructor <;> decide) ?_
        conv => whnf
        refine ⟨_, ⟨by decide, rfl⟩, ?_⟩
        conv => whnf
        refine callP.pure _ (c24 W0 hk.pow h2 h3 b (by omega)) ⟨rfl, rfl⟩ ?_
        conv => whnf
        refine brec (fun q0 => ?_) (fun q0 => ?_)
        rotate_left
        · conv => whnf
          have e : numP b = false := by simpa using q0
          have e' : loopP isNameB [110] [b] = false := by simp [loopP, behP, ← lst_eq, e]
          refine fin_lb (by rw [e']) (by rw [show (List.tail _ : List S) = [b] from rfl, e', Bool.and_false])
        conv => whnf
        refine And.intro (by decide) ?_
        conv => whnf
        have e0 : numP b = true := by simpa using q0
        have e' : loopP isNameB [110] [b] = true := by simp [loopP, behP, ← lst_eq, e0]
        exact fin_lb (by rw [e']) (by rw [show (List.tail _ : List S) = [b] from rfl, e', hL]; simp)
    · exact absurd (by simp only [decide_eq_true_eq] at h1; omega) h0
  · refine ⟨[], ctr_body follows F9_ok rfl (fun _ _ h => by cases h) rfl (by rfl) ?_⟩
    conv => whnf
    refine brec (fun h1 => ?_) (fun h1 => ?_)
    · conv => whnf
      refine callP.pure _ (cut_ctr W0 hk.ml s [32] (by omega)) ⟨rfl, rfl⟩ ?_
      conv => whnf
      refine callP.pure _ c21 ⟨rfl, rfl⟩ ?_
      conv => whnf
      refine callP.pure _ hsp ⟨rfl, rfl⟩ ?_
      conv => whnf
      refine And.intro (by constructor <;> decide) ?_
      conv => whnf
      refine brec (fun h4 => ?_) (fun h4 => ?_)
      · exfalso
        simp only [Bool.not_eq_false', decide_eq_true_eq] at h4
        apply hL
        rw [strsD_length] at h4
        simp at h4
        omega
      · conv => whnf
        exact fin_lb rfl (by rw [decide_eq_false hL, Bool.false_and])
    · exact absurd (by simp only [decide_eq_true_eq] at h1; omega) h0
set_option maxHeartbeats 4000000 in
theorem w9l (W0 : Go.World) (hk : Wk W0) (h2 : ErrV W0 2) (h3 : ErrV W0 3) (s : S) (h0 : ¬ 10000 < s.length) (h : needP (Go.Lib.cut s [32]).1 = ([108], true)) : ∃ els, Ctr Tryz.prog W0 9 [.sc (.s s)] [] (.tup [.sl 1 els .none, .sc (.b (lineP s))]) [] := by
  have c21 := c21n W0 (Go.Lib.cut s [32]).1
  rw [h] at c21
  have key : lineP s = (decide ((spl 32 s).length = 1 + 1) && loopP isNameB [108] (spl 32 s).tail) := by
    simp only [lineP, decide_eq_false h0, h]
    rfl
  rw [key]
  have hsp := split1_ctr W0 hk.ml s 32 (by omega)
  have hle := spl_mem_le 32 s
  have hnl := spl_len_le 32 s
  generalize spl 32 s = L at hsp hle hnl ⊢
  by_cases hL : L.length = 1 + 1
  · obtain ⟨a, b, rfl⟩ := len2 (L := L) (by omega)
    have la := hle a (by simp)
    have lb := hle b (by simp)
    refine ⟨match loopP isNameB [108] [b] with | true => strsD [a, b] | false => [], ctr_body follows F9_ok rfl (fun _ _ h => by cases h) rfl (by rfl) ?_⟩
    conv => whnf
    refine brec (fun h1 => ?_) (fun h1 => ?_)
    · conv => whnf
      refine callP.pure _ (cut_ctr W0 hk.ml s [32] (by omega)) ⟨rfl, rfl⟩ ?_
      conv => whnf
      refine callP.pure _ c21 ⟨rfl, rfl⟩ ?_
      conv => whnf
      refine callP.pure _ hsp ⟨rfl, rfl⟩ ?_
      conv => whnf
      refine And.intro (by constructor <;> decide) ?_
      conv => whnf
      · refine .runs 2 ?_
        conv => whnf
        refine And.intro (by decide) ?_
        conv => whnf
        refine And.intro (by constructor <;> decide) ?_
        conv => whnf
        refine ⟨_, ⟨by decide, rfl⟩, ?_⟩
        conv => whnf
        refine callP.pure _ (c168 W0 hk b (by omega)) ⟨rfl, rfl⟩ ?_
        conv => whnf
        refine And.intro (by constructor <;> decide) ?_
        conv => whnf
        refine ⟨_, ⟨by decide, rfl⟩, ?_⟩
        conv => whnf
        refine callP.pure _ (c11 W0 hk.pow h2 h3 hk.ml b (by omega)) ⟨rfl, rfl⟩ ?_
        conv => whnf
        refine brec (fun q0 => ?_) (fun q0 => ?_)
        rotate_left
        · conv => whnf
          have e : lstG numP b = false := by simpa using q0
          have e' : loopP isNameB [108] [b] = false := by simp [loopP, behP, ← lst_eq, e]
          refine fin_lb (by rw [e']) (by rw [show (List.tail _ : List S) = [b] from rfl, e', Bool.and_false])
        conv => whnf
        refine And.intro (by decide) ?_
        conv => whnf
        have e0 : lstG numP b = true := by simpa using q0
        have e' : loopP isNameB [108] [b] = true := by simp [loopP, behP, ← lst_eq, e0]
        exact fin_lb (by rw [e']) (by rw [show (List.tail _ : List S) = [b] from rfl, e', hL]; simp)
    · exact absurd (by simp only [decide_eq_true_eq] at h1; omega) h0
  · refine ⟨[], ctr_body follows F9_ok rfl (fun _ _ h => by cases h) rfl (by rfl) ?_⟩
    conv => whnf
    refine brec (fun h1 => ?_) (fun h1 => ?_)
    · conv => whnf
      refine callP.pure _ (cut_ctr W0 hk.ml s [32] (by omega)) ⟨rfl, rfl⟩ ?_
      conv => whnf
      refine callP.pure _ c21 ⟨rfl, rfl⟩ ?_
      conv => whnf
      refine callP.pure _ hsp ⟨rfl, rfl⟩ ?_
      conv => whnf
      refine And.intro (by constructor <;> decide) ?_
      conv => whnf
      refine brec (fun h4 => ?_) (fun h4 => ?_)
      · exfalso
        simp only [Bool.not_eq_false', decide_eq_true_eq] at h4
        apply hL
        rw [strsD_length] at h4
        simp at h4
        omega
      · conv => whnf
        exact fin_lb rfl (by rw [decide_eq_false hL, Bool.false_and])
    · exact absurd (by simp only [decide_eq_true_eq] at h1; omega) h0
set_option maxHeartbeats 4000000 in
theorem w9w (W0 : Go.World) (hk : Wk W0) (h2 : ErrV W0 2) (h3 : ErrV W0 3) (s : S) (h0 : ¬ 10000 < s.length) (h : needP (Go.Lib.cut s [32]).1 = ([119], true)) : ∃ els, Ctr Tryz.prog W0 9 [.sc (.s s)] [] (.tup [.sl 1 els .none, .sc (.b (lineP s))]) [] := by
  have c21 := c21n W0 (Go.Lib.cut s [32]).1
  rw [h] at c21
  have key : lineP s = (decide ((spl 32 s).length = 1 + 1) && loopP isNameB [119] (spl 32 s).tail) := by
    simp only [lineP, decide_eq_false h0, h]
    rfl
  rw [key]
  have hsp := split1_ctr W0 hk.ml s 32 (by omega)
  have hle := spl_mem_le 32 s
  have hnl := spl_len_le 32 s
  generalize spl 32 s = L at hsp hle hnl ⊢
  by_cases hL : L.length = 1 + 1
  · obtain ⟨a, b, rfl⟩ := len2 (L := L) (by omega)
    have la := hle a (by simp)
    have lb := hle b (by simp)
    refine ⟨match loopP isNameB [119] [b] with | true => strsD [a, b] | false => [], ctr_body follows F9_ok rfl (fun _ _ h => by cases h) rfl (by rfl) ?_⟩
    conv => whnf
    refine brec (fun h1 => ?_) (fun h1 => ?_)
    · conv => whnf
      refine callP.pure _ (cut_ctr W0 hk.ml s [32] (by omega)) ⟨rfl, rfl⟩ ?_
      conv => whnf
      refine callP.pure _ c21 ⟨rfl, rfl⟩ ?_
      conv => whnf
      refine callP.pure _ hsp ⟨rfl, rfl⟩ ?_
      conv => whnf
      refine And.intro (by constructor <;> decide) ?_
      conv => whnf
      · refine .runs 2 ?_
        conv => whnf
        refine And.intro (by decide) ?_
        conv => whnf
        refine And.intro (by constructor <;> decide) ?_
        conv => whnf
        refine ⟨_, ⟨by decide, rfl⟩, ?_⟩
        conv => whnf
        refine callP.pure _ (c168 W0 hk b (by omega)) ⟨rfl, rfl⟩ ?_
        conv => whnf
        refine brec (fun q0 => ?_) (fun q0 => ?_)
        rotate_left
        · conv => whnf
          have e : isNameB b = false := by simpa using q0
          have e' : loopP isNameB [119] [b] = false := by simp [loopP, behP, ← lst_eq, e]
          refine fin_lb (by rw [e']) (by rw [show (List.tail _ : List S) = [b] from rfl, e', Bool.and_false])
        conv => whnf
        refine And.intro (by decide) ?_
        conv => whnf
        have e0 : isNameB b = true := by simpa using q0
        have e' : loopP isNameB [119] [b] = true := by simp [loopP, behP, ← lst_eq, e0]
        exact fin_lb (by rw [e']) (by rw [show (List.tail _ : List S) = [b] from rfl, e', hL]; simp)
    · exact absurd (by simp only [decide_eq_true_eq] at h1; omega) h0
  · refine ⟨[], ctr_body follows F9_ok rfl (fun _ _ h => by cases h) rfl (by rfl) ?_⟩
    conv => whnf
    refine brec (fun h1 => ?_) (fun h1 => ?_)
    · conv => whnf
      refine callP.pure _ (cut_ctr W0 hk.ml s [32] (by omega)) ⟨rfl, rfl⟩ ?_
      conv => whnf
      refine callP.pure _ c21 ⟨rfl, rfl⟩ ?_
      conv => whnf
      refine callP.pure _ hsp ⟨rfl, rfl⟩ ?_
      conv => whnf
      refine And.intro (by constructor <;> decide) ?_
      conv => whnf
      refine brec (fun h4 => ?_) (fun h4 => ?_)
      · exfalso
        simp only [Bool.not_eq_false', decide_eq_true_eq] at h4
        apply hL
        rw [strsD_length] at h4
        simp at h4
        omega
      · conv => whnf
        exact fin_lb rfl (by rw [decide_eq_false hL, Bool.false_and])
    · exact absurd (by simp only [decide_eq_true_eq] at h1; omega) h0
set_option maxHeartbeats 4000000 in
theorem w9nn (W0 : Go.World) (hk : Wk W0) (h2 : ErrV W0 2) (h3 : ErrV W0 3) (s : S) (h0 : ¬ 10000 < s.length) (h : needP (Go.Lib.cut s [32]).1 = ([110, 110], true)) : ∃ els, Ctr Tryz.prog W0 9 [.sc (.s s)] [] (.tup [.sl 1 els .none, .sc (.b (lineP s))]) [] := by
  have c21 := c21n W0 (Go.Lib.cut s [32]).1
  rw [h] at c21
  have key : lineP s = (decide ((spl 32 s).length = 1 + 2) && loopP isNameB [110, 110] (spl 32 s).tail) := by
    simp only [lineP, decide_eq_false h0, h]
    rfl
  rw [key]
  have hsp := split1_ctr W0 hk.ml s 32 (by omega)
  have hle := spl_mem_le 32 s
  have hnl := spl_len_le 32 s
  generalize spl 32 s = L at hsp hle hnl ⊢
  by_cases hL : L.length = 1 + 2
  · obtain ⟨a, b, c, rfl⟩ := len3 (L := L) (by omega)
    have la := hle a (by simp)
    have lb := hle b (by simp)
    have lc := hle c (by simp)
    refine ⟨match loopP isNameB [110, 110] [b, c] with | true => strsD [a, b, c] | false => [], ctr_body follows F9_ok rfl (fun _ _ h => by cases h) rfl (by rfl) ?_⟩
    conv => whnf
    refine brec (fun h1 => ?_) (fun h1 => ?_)
    · conv => whnf
      refine callP.pure _ (cut_ctr W0 hk.ml s [32] (by omega)) ⟨rfl, rfl⟩ ?_
      conv => whnf
      refine callP.pure _ c21 ⟨rfl, rfl⟩ ?_
      conv => whnf
      refine callP.pure _ hsp ⟨rfl, rfl⟩ ?_
      conv => whnf
      refine And.intro (by constructor <;> decide) ?_
      conv => whnf
      · refine .runs 3 ?_
        conv => whnf
        refine And.intro (by decide) ?_
        conv => whnf
        refine And.intro (by constructor <;> decide) ?_
        conv => whnf
        refine ⟨_, ⟨by decide, rfl⟩, ?_⟩
        conv => whnf
        refine callP.pure _ (c168 W0 hk b (by omega)) ⟨rfl, rfl⟩ ?_
        conv => whnf
        refine And.intro (by constructor <;> decide) ?_
        conv => whnf
        refine ⟨_, ⟨by decide, rfl⟩, ?_⟩
        conv => whnf
        refine callP.pure _ (c24 W0 hk.pow h2 h3 b (by omega)) ⟨rfl, rfl⟩ ?_
        conv => whnf
        refine brec (fun q0 => ?_) (fun q0 => ?_)
        rotate_left
        · conv => whnf
          have e : numP b = false := by simpa using q0
          have e' : loopP isNameB [110, 110] [b, c] = false := by simp [loopP, behP, ← lst_eq, e]
          refine fin_lb (by rw [e']) (by rw [show (List.tail _ : List S) = [b, c] from rfl, e', Bool.and_false])
        conv => whnf
        refine And.intro (by decide) ?_
        conv => whnf
        refine And.intro (by constructor <;> decide) ?_
        conv => whnf
        refine ⟨_, ⟨by decide, rfl⟩, ?_⟩
        conv => whnf
        refine callP.pure _ (c168 W0 hk c (by omega)) ⟨rfl, rfl⟩ ?_
        conv => whnf
        refine And.intro (by constructor <;> decide) ?_
        conv => whnf
        refine ⟨_, ⟨by decide, rfl⟩, ?_⟩
        conv => whnf
        refine callP.pure _ (c24 W0 hk.pow h2 h3 c (by omega)) ⟨rfl, rfl⟩ ?_
        conv => whnf
        refine brec (fun q1 => ?_) (fun q1 => ?_)
        rotate_left
        · conv => whnf
          have e : numP c = false := by simpa using q1
          have e' : loopP isNameB [110, 110] [b, c] = false := by simp [loopP, behP, ← lst_eq, e]
          refine fin_lb (by rw [e']) (by rw [show (List.tail _ : List S) = [b, c] from rfl, e', Bool.and_false])
        conv => whnf
        refine And.intro (by decide) ?_
        conv => whnf
        have e0 : numP b = true := by simpa using q0
        have e1 : numP c = true := by simpa using q1
        have e' : loopP isNameB [110, 110] [b, c] = true := by simp [loopP, behP, ← lst_eq, e0, e1]
        exact fin_lb (by rw [e']) (by rw [show (List.tail _ : List S) = [b, c] from rfl, e', hL]; simp)
    · exact absurd (by simp only [decide_eq_true_eq] at h1; omega) h0
  · refine ⟨[], ctr_body follows F9_ok rfl (fun _ _ h => by cases h) rfl (by rfl) ?_⟩
    conv => whnf
    refine brec (fun h1 => ?_) (fun h1 => ?_)
    · conv => whnf
      refine callP.pure _ (cut_ctr W0 hk.ml s [32] (by omega)) ⟨rfl, rfl⟩ ?_
      conv => whnf
      refine callP.pure _ c21 ⟨rfl, rfl⟩ ?_
      conv => whnf
      refine callP.pure _ hsp ⟨rfl, rfl⟩ ?_
      conv => whnf
      refine And.intro (by constructor <;> decide) ?_
      conv => whnf
      refine brec (fun h4 => ?_) (fun h4 => ?_)
      · exfalso
        simp only [Bool.not_eq_false', decide_eq_true_eq] at h4
        apply hL
        rw [strsD_length] at h4
        simp at h4
        omega
      · conv => whnf
        exact fin_lb rfl (by rw [decide_eq_false hL, Bool.false_and])
    · exact absurd (by simp only [decide_eq_true_eq] at h1; omega) h0
set_option maxHeartbeats 4000000 in
theorem w9e (W0 : Go.World) (hk : Wk W0) (h2 : ErrV W0 2) (h3 : ErrV W0 3) (s : S) (h0 : ¬ 10000 < s.length) (h : needP (Go.Lib.cut s [32]).1 = ([], true)) : ∃ els, Ctr Tryz.prog W0 9 [.sc (.s s)] [] (.tup [.sl 1 els .none, .sc (.b (lineP s))]) [] := by
  have c21 := c21n W0 (Go.Lib.cut s [32]).1
  rw [h] at c21
  have key : lineP s = (decide ((spl 32 s).length = 1 + 0) && loopP isNameB [] (spl 32 s).tail) := by
    simp only [lineP, decide_eq_false h0, h]
    rfl
  rw [key]
  have hsp := split1_ctr W0 hk.ml s 32 (by omega)
  have hle := spl_mem_le 32 s
  have hnl := spl_len_le 32 s
  generalize spl 32 s = L at hsp hle hnl ⊢
  by_cases hL : L.length = 1 + 0
  · obtain ⟨a, rfl⟩ := len1 (L := L) (by omega)
    have la := hle a (by simp)
    refine ⟨match loopP isNameB [] [] with | true => strsD [a] | false => [], ctr_body follows F9_ok rfl (fun _ _ h => by cases h) rfl (by rfl) ?_⟩
    conv => whnf
    refine brec (fun h1 => ?_) (fun h1 => ?_)
    · conv => whnf
      refine callP.pure _ (cut_ctr W0 hk.ml s [32] (by omega)) ⟨rfl, rfl⟩ ?_
      conv => whnf
      refine callP.pure _ c21 ⟨rfl, rfl⟩ ?_
      conv => whnf
      refine callP.pure _ hsp ⟨rfl, rfl⟩ ?_
      conv => whnf
      refine And.intro (by constructor <;> decide) ?_
      conv => whnf
      · refine .runs 1 ?_
        conv => whnf
        refine And.intro (by decide) ?_
        conv => whnf
        have e' : loopP isNameB [] [] = true := by simp [loopP, behP, ← lst_eq]
        exact fin_lb (by rw [e']) (by rw [show (List.tail _ : List S) = [] from rfl, e', hL]; simp)
    · exact absurd (by simp only [decide_eq_true_eq] at h1; omega) h0
  · refine ⟨[], ctr_body follows F9_ok rfl (fun _ _ h => by cases h) rfl (by rfl) ?_⟩
    conv => whnf
    refine brec (fun h1 => ?_) (fun h1 => ?_)
    · conv => whnf
      refine callP.pure _ (cut_ctr W0 hk.ml s [32] (by omega)) ⟨rfl, rfl⟩ ?_
      conv => whnf
      refine callP.pure _ c21 ⟨rfl, rfl⟩ ?_
      conv => whnf
      refine callP.pure _ hsp ⟨rfl, rfl⟩ ?_
      conv => whnf
      refine And.intro (by constructor <;> decide) ?_
      conv => whnf
      refine brec (fun h4 => ?_) (fun h4 => ?_)
      · exfalso
        simp only [Bool.not_eq_false', decide_eq_true_eq] at h4
        apply hL
        rw [strsD_length] at h4
        simp at h4
        omega
      · conv => whnf
        exact fin_lb rfl (by rw [decide_eq_false hL, Bool.false_and])
    · exact absurd (by simp only [decide_eq_true_eq] at h1; omega) h0
end Go.Abs

set_option maxRecDepth 100000
namespace Go.Abs
open Go.Proofs
theorem w9long (W0 : Go.World) (hk : Wk W0) (h2 : ErrV W0 2) (h3 : ErrV W0 3) (s : S) (h0 : 10000 < s.length) : ∃ els, Ctr Tryz.prog W0 9 [.sc (.s s)] [] (.tup [.sl 1 els .none, .sc (.b (lineP s))]) [] := by
  refine ⟨[], ctr_body follows F9_ok rfl (fun _ _ h => by cases h) rfl (by rfl) ?_⟩
  conv => whnf
  refine brec (fun h1 => ?_) (fun h1 => ?_)
  · exact absurd h0 (by simp only [decide_eq_false_iff_not] at h1; omega)
  · conv => whnf
    exact fin_lb rfl (by simp [lineP, h0])
theorem w9no (W0 : Go.World) (hk : Wk W0) (h2 : ErrV W0 2) (h3 : ErrV W0 3) (s : S) (h0 : ¬ 10000 < s.length) (h : needP (Go.Lib.cut s [32]).1 = ([], false)) : ∃ els, Ctr Tryz.prog W0 9 [.sc (.s s)] [] (.tup [.sl 1 els .none, .sc (.b (lineP s))]) [] := by
  have c21 := c21n W0 (Go.Lib.cut s [32]).1
  rw [h] at c21
  refine ⟨[], ctr_body follows F9_ok rfl (fun _ _ h => by cases h) rfl (by rfl) ?_⟩
  conv => whnf
  refine brec (fun h1 => ?_) (fun h1 => ?_)
  · conv => whnf
    refine callP.pure _ (cut_ctr W0 hk.ml s [32] (by omega)) ⟨rfl, rfl⟩ ?_
    conv => whnf
    refine callP.pure _ c21 ⟨rfl, rfl⟩ ?_
    conv => whnf
    exact fin_lb rfl (by simp [lineP, h0, h])
  · exact absurd (by simp only [decide_eq_true_eq] at h1; omega) h0
theorem w9r (W0 : Go.World) (hk : Wk W0) (h2 : ErrV W0 2) (h3 : ErrV W0 3) (s : S) (h0 : ¬ 10000 < s.length) (h : needP (Go.Lib.cut s [32]).1 = ([114], true)) : ∃ els, Ctr Tryz.prog W0 9 [.sc (.s s)] [] (.tup [.sl 1 els .none, .sc (.b (lineP s))]) [] := by
  have c21 := c21n W0 (Go.Lib.cut s [32]).1
  rw [h] at c21
  refine ⟨strsD [(Go.Lib.cut s [32]).1, (Go.Lib.cut s [32]).2.1], ctr_body follows F9_ok rfl (fun _ _ h => by cases h) rfl (by rfl) ?_⟩
  conv => whnf
  refine brec (fun h1 => ?_) (fun h1 => ?_)
  · conv => whnf
    refine callP.pure _ (cut_ctr W0 hk.ml s [32] (by omega)) ⟨rfl, rfl⟩ ?_
    conv => whnf
    refine callP.pure _ c21 ⟨rfl, rfl⟩ ?_
    conv => whnf
    exact fin_lb rfl (by simp [lineP, h0, h, beqL])
  · exact absurd (by simp only [decide_eq_true_eq] at h1; omega) h0
theorem c9 (W0 : Go.World) (hk : Wk W0) (h2 : ErrV W0 2) (h3 : ErrV W0 3) (s : S) : ∃ els, Ctr Tryz.prog W0 9 [.sc (.s s)] [] (.tup [.sl 1 els .none, .sc (.b (lineP s))]) [] := by
  by_cases h0 : 10000 < s.length
  · exact w9long W0 hk h2 h3 s h0
  · rcases needP_cases (Go.Lib.cut s [32]).1 with h | h | h | h | h | h | h
    · exact w9r W0 hk h2 h3 s h0 h
    · exact w9n W0 hk h2 h3 s h0 h
    · exact w9l W0 hk h2 h3 s h0 h
    · exact w9w W0 hk h2 h3 s h0 h
    · exact w9nn W0 hk h2 h3 s h0 h
    · exact w9e W0 hk h2 h3 s h0 h
    · exact w9no W0 hk h2 h3 s h0 h
theorem c8 (W0 : Go.World) (hk : Wk W0) (h2 : ErrV W0 2) (h3 : ErrV W0 3) (s : S) : Ctr Tryz.prog W0 8 [.sc (.s s)] [] (.sc (.b (lineP s))) [] := by
  obtain ⟨els, h⟩ := c9 W0 hk h2 h3 s
  refine ctr_body follows F8_ok rfl (fun _ _ h => by cases h) rfl (by rfl) ?_
  conv => whnf
  refine callP.pure _ h ⟨rfl, rfl⟩ ?_
  conv => whnf
  exact fin_b rfl
/-! the reference -/
theorem cut_len (s : S) : (Go.Lib.cut s [32]).1.length ≤ s.length ∧ (Go.Lib.cut s [32]).2.1.length ≤ s.length := by
  unfold Go.Lib.cut
  split
  · simp; omega
  · simp
/-- the reference's lines -/
def readB (w r : S) (f : Bool) : Bool :=
  bif beqL w wText then f && !beqL r [] else bif hasB w wordsL then f && lstG numR' r else bif hasB w wordsW then f && nameR r else bif hasB w wordsN then f && numR' r else
  bif hasB w wordsNN then ((f && (Go.Lib.cut r [32]).2.2) && numR' (Go.Lib.cut r [32]).1) && numR' (Go.Lib.cut r [32]).2.1 else bif hasB w wordsE then !f else false
def readW (w : S) : Bool := beqL w wText || (hasB w wordsL || (hasB w wordsW || (hasB w wordsN || (hasB w wordsNN || hasB w wordsE))))
def readT (w r : S) : S := bif beqL w wText then r else bif hasB w wordsL then [] else bif hasB w wordsW then r else []
def readN (w r : S) : List (List Data) := bif beqL w wText then [] else bif hasB w wordsL then lstV numV' numR' r else bif hasB w wordsW then [] else bif hasB w wordsN then [[.sc (.i .i64 (numV' r))]] else bif hasB w wordsNN then [[.sc (.i .i64 (numV' (Go.Lib.cut r [32]).1))], [.sc (.i .i64 (numV' (Go.Lib.cut r [32]).2.1))]] else []
theorem name_sp {r : S} (h : isNameB r = true) : (32 : UInt8) ∉ r := by
  rw [← nameR_eq] at h
  unfold nameR at h
  cases r with
  | nil => simp
  | cons c r =>
    simp only [wordR, Bool.and_eq_true, decide_eq_true_eq] at h
    have h1 := h.1.1
    have h2 : innN (c :: r) = (c :: r).length := h.1.2
    have key : ∀ l : S, innN l = l.length → (32 : UInt8) ∉ l := by
      intro l
      induction l with
      | nil => simp
      | cons b l ih =>
        intro hb hm
        simp only [innN] at hb
        split at hb
        · rename_i hi
          rcases List.mem_cons.1 hm with e | e
          · subst e; revert hi; decide
          · exact ih (by simpa using hb) e
        · simp at hb
    exact key _ h2
theorem beh_sp {k : UInt8} (x : S) (h : behP isNameB k x = true) : (32 : UInt8) ∉ x := by
  unfold behP at h
  split at h
  · exact num_notin (by decide) h
  · exact lst_notin h
  · exact name_sp h
theorem beqL_true {a b : S} (h : beqL a b = true) : a = b := by simpa [beqL] using h
theorem hasB_mem {w : S} : ∀ {l : List S}, hasB w l = true → w ∈ l
  | [], h => by simp [hasB] at h
  | e :: r, h => by
    simp only [hasB, Bool.or_eq_true] at h
    rcases h with h | h
    · rw [beqL_true h]; simp
    · exact List.mem_cons_of_mem _ (hasB_mem h)
/-- BOTH READ THE SAME LINES -/
theorem line_eq (s : S) (h0 : ¬ 10000 < s.length) : lineP s = readB (Go.Lib.cut s [32]).1 (Go.Lib.cut s [32]).2.1 (Go.Lib.cut s [32]).2.2 := by
  have e0 := restP_none isNameB s
  have en := restP_one isNameB 110 s beh_sp
  have el := restP_one isNameB 108 s beh_sp
  have ew := restP_one isNameB 119 s beh_sp
  have enn := restP_two isNameB s
  have hf := cut_false 32 (s := s)
  simp only [lineP, decide_eq_false h0]
  unfold needP readB
  cases ht : beqL (Go.Lib.cut s [32]).1 wText with
  | true =>
    simp only [cond_true]
    cases hff : (Go.Lib.cut s [32]).2.2 with
    | true => simp [beqL]
    | false => simp [(hf hff).2, beqL]
  | false =>
    simp only [cond_false]
    cases hN : hasB (Go.Lib.cut s [32]).1 wordsN with
    | true =>
      have hm := hasB_mem hN
      simp only [wordsN, List.mem_cons, List.mem_nil_iff, or_false] at hm
      have e1 : beqL [110] [114] = false := by decide
      have b1 : behP isNameB 110 (Go.Lib.cut s [32]).2.1 = numR' (Go.Lib.cut s [32]).2.1 := by rw [← num_eq]; rfl
      rcases hm with e | e | e <;> simp only [e] <;> simp [e1, en, b1, hasB, beqL, wordsL, wordsW, wordsN]
    | false =>
      cases hL : hasB (Go.Lib.cut s [32]).1 wordsL with
      | true =>
        have e1 : beqL [108] [114] = false := by decide
        have b1 : behP isNameB 108 (Go.Lib.cut s [32]).2.1 = lstG numR' (Go.Lib.cut s [32]).2.1 := by
          show lstP _ = _
          rw [← lst_eq, show numP = numR' from funext num_eq]
        simp only [cond_true, cond_false, e1, el, b1]
      | false =>
        cases hW : hasB (Go.Lib.cut s [32]).1 wordsW with
        | true =>
          have e1 : beqL [119] [114] = false := by decide
          have b1 : behP isNameB 119 (Go.Lib.cut s [32]).2.1 = nameR (Go.Lib.cut s [32]).2.1 := by rw [nameR_eq]; rfl
          simp only [cond_true, cond_false, e1, ew, b1]
        | false =>
          cases hNN : hasB (Go.Lib.cut s [32]).1 wordsNN with
          | true =>
            have e1 : beqL [110, 110] [114] = false := by decide
            simp only [cond_true, cond_false, e1, enn, num_eq, Bool.and_assoc]
          | false =>
            cases hE : hasB (Go.Lib.cut s [32]).1 wordsE with
            | true =>
              have e1 : beqL [] [114] = false := by decide
              simp only [cond_true, cond_false, e1, e0]
            | false => simp only [cond_false]
theorem fin_rd {σ : Log} {a a' b b' : S} {e e' : List (List Data)} {t : Tok} {v v' : Bool} (h1 : a' = a) (h2 : b' = b) (h3 : e' = e) (h4 : v' = v) :
    FinOK σ (.tup [.agg [.sc (.s a'), .sc (.s b'), .sl 1 e' t], .sc (.b v')]) 0 0 (.tup [.agg [.sc (.s a), .sc (.s b), .sl 1 e .none], .sc (.b v)]) [] := by
  subst h1; subst h2; subst h3; subst h4; exact fin0 rfl ⟨⟨rfl, rfl, ⟨rfl, rfl, .inl rfl⟩, trivial⟩, rfl, trivial⟩ rfl
set_option maxHeartbeats 8000000 in
theorem b7 (W0 : Go.World) (hk : Wk W0) (h2 : ErrV W0 2) (h3 : ErrV W0 3) (s : S) (h0 : ¬ 10000 < s.length) : Body (Ctr Tryz.prog W0) F7_.ac F7_.rs [.sc (.s s)] []
    (.tup [.agg [.sc (.s (bif readW (Go.Lib.cut s [32]).1 then (Go.Lib.cut s [32]).1 else [])), .sc (.s (readT (Go.Lib.cut s [32]).1 (Go.Lib.cut s [32]).2.1)), .sl 1 (readN (Go.Lib.cut s [32]).1 (Go.Lib.cut s [32]).2.1) .none], .sc (.b (readB (Go.Lib.cut s [32]).1 (Go.Lib.cut s [32]).2.1 (Go.Lib.cut s [32]).2.2))]) [] := by
  have hc := cut_ctr W0 hk.ml s [32] (by omega)
  have hl := cut_len s
  generalize (Go.Lib.cut s [32]).1 = w at hc hl ⊢
  generalize (Go.Lib.cut s [32]).2.2 = f at hc ⊢
  generalize (Go.Lib.cut s [32]).2.1 = r at hc hl ⊢
  have hc2 := cut_ctr W0 hk.ml r [32] (by omega)
  have hl2 := cut_len r
  have ca := c20 W0 hk.pow (Go.Lib.cut r [32]).1 (by omega)
  have cb := c20 W0 hk.pow (Go.Lib.cut r [32]).2.1 (by omega)
  have cr := c20 W0 hk.pow r (by omega)
  have cl := c18 W0 hk.pow h2 h3 hk.ml r (by omega)
  have cn := c129 W0 r (by omega)
  conv => whnf
  refine brec (fun h1 => ?_) (fun h1 => ?_)
  rotate_left
  · exact absurd (by simp only [decide_eq_true_eq] at h1; omega) h0
  clear h1
  repeat' ((conv => whnf); (first | with_reducible refine brec (fun _ => ?_) (fun _ => ?_) | (refine callP.pure _ hc ⟨rfl, rfl⟩ ?_) | (refine callP.pure _ hc2 ⟨rfl, rfl⟩ ?_) | (refine callP.pure _ cl ⟨rfl, rfl⟩ ?_) | (refine callP.pure _ cn ⟨rfl, rfl⟩ ?_) | (refine callP.pure _ cr ⟨rfl, rfl⟩ ?_) | (refine callP.pure _ ca ⟨rfl, rfl⟩ ?_) | (refine callP.pure _ cb ⟨rfl, rfl⟩ ?_) | fail))
  all_goals ((conv => whnf); refine fin_rd ?_ ?_ ?_ ?_)
  all_goals simp_all [readW, readT, readN, readB, hasB, wText, wordsN, wordsL, wordsW, wordsNN, wordsE]
theorem c7 (W0 : Go.World) (hk : Wk W0) (h2 : ErrV W0 2) (h3 : ErrV W0 3) (s : S) : ∃ a b els, Ctr Tryz.prog W0 7 [.sc (.s s)] [] (.tup [.agg [.sc (.s a), .sc (.s b), .sl 1 els .none], .sc (.b (lineP s))]) [] := by
  by_cases h0 : 10000 < s.length
  · refine ⟨[], [], [], ctr_body follows F7_ok rfl (fun _ _ h => by cases h) rfl (by rfl) ?_⟩
    conv => whnf
    refine brec (fun h1 => ?_) (fun h1 => ?_)
    · exact absurd h0 (by simp only [decide_eq_false_iff_not] at h1; omega)
    · conv => whnf
      exact fin_rd rfl rfl rfl (by simp [lineP, h0])
  · rw [line_eq s h0]
    exact ⟨_, _, _, ctr_body follows F7_ok rfl (fun _ _ h => by cases h) rfl (by rfl) (b7 W0 hk h2 h3 s h0)⟩
theorem c4 (W0 : Go.World) (hk : Wk W0) (h2 : ErrV W0 2) (h3 : ErrV W0 3) (s : S) : Ctr Tryz.prog W0 4 [.sc (.s s)] [] (.sc (.b true)) [] := by
  obtain ⟨a, b, els, h7⟩ := c7 W0 hk h2 h3 s
  have h8 := c8 W0 hk h2 h3 s
  have h6 := c21 W0 hk.sp hk.pow hk.ml
  refine ctr_body follows F4_ok rfl (fun _ _ h => by cases h) rfl (by rfl) ?_
  conv => whnf
  refine callP.pure _ h7 ⟨rfl, rfl⟩ ?_
  conv => whnf
  refine callP.pure _ h8 ⟨rfl, rfl⟩ ?_
  conv => whnf
  refine brec (fun h1 => ?_) (fun h1 => ?_)
  · simp at h1
  · conv => whnf
    refine callP.pure _ h6 ⟨rfl, rfl⟩ ?_
    conv => whnf
    exact fin_b rfl
end Go.Abs
