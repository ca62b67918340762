/- Words, one space between two: their tokens. -/
import Derived.Test.YthmcdebdkbhbmaaGreatDoorMk
import Derived.Test.YthmcdebdkbhbmaaGreatDoorMm
import Derived.Test.YthmcdebdkbhbmaaGreatDoorMi
set_option maxRecDepth 100000
namespace Go.Abs
open Go.Proofs
def okW (w : S) : Prop := (firstT w).2.2 = true ∧ (firstT w).2.1 = w
instance (w : S) : Decidable (okW w) := inferInstanceAs (Decidable (_ ∧ _))
def kw (w : S) : S := (firstT w).1
def posT : Nat → List S → List T
  | _, [] => []
  | a, w :: r => (kw w, w, (a : Int)) :: posT (a + w.length + 1) r
theorem join_one (w : S) : Go.Lib.join [w] [32] = w := by simp [Go.Lib.join, List.intercalate, List.intersperse]
theorem join_two (w v : S) (r : List S) : Go.Lib.join (w :: v :: r) [32] = w ++ 32 :: Go.Lib.join (v :: r) [32] := by
  simp [Go.Lib.join, List.intercalate, List.intersperse]
end Go.Abs

set_option maxRecDepth 100000
namespace Go.Abs
open Go.Proofs
/-- from place a on, the words ws stand -/
def AtW (l : List T) (a : Nat) (ws : List S) : Prop := ∃ p, l.drop a = posT p ws
theorem AtW.peek {l : List T} {a : Nat} {w : S} {r : List S} (h : AtW l a (w :: r)) : (pPeek l ⟨a, false⟩).1 = kw w ∧ (pPeek l ⟨a, false⟩).2.1 = w := by
  obtain ⟨p, h⟩ := h
  have e : l[a]? = some (kw w, w, (p : Int)) := by
    have := congrArg (fun m => m[0]?) h
    simpa [posT] using this
  simp [pPeek, List.getD_eq_getElem?_getD, e]
theorem AtW.tail {l : List T} {a : Nat} {w : S} {r : List S} (h : AtW l a (w :: r)) : AtW l (a + 1) r := by
  obtain ⟨p, h⟩ := h
  refine ⟨p + w.length + 1, ?_⟩
  rw [← List.drop_drop, h]; rfl
theorem AtW.endd {l : List T} {a : Nat} (h : AtW l a []) : (pPeek l ⟨a, false⟩) = t0 := by
  obtain ⟨p, h⟩ := h
  have : l.length ≤ a := List.drop_eq_nil_iff.1 h
  exact pPeek_out this
theorem AtW.is {l : List T} {a : Nat} {w : S} {r : List S} (h : AtW l a (w :: r)) (x : S) : pIs l ⟨a, false⟩ x = ((beqL (kw w) [107, 101, 121] || beqL (kw w) [115, 105, 103, 110]) && beqL w x) := by
  obtain ⟨h1, h2⟩ := h.peek
  simp only [pIs, h1, h2]
theorem AtW.is_end {l : List T} {a : Nat} (h : AtW l a []) (x : S) : pIs l ⟨a, false⟩ x = false := by
  simp [pIs, h.endd, t0, beqL]
theorem kw_ne {w : S} (h : okW w) : beqL (kw w) [] = false := by
  simp only [kw, firstT]
  have hv := h.1
  simp only [firstT] at hv
  split
  · simp only [kindS]; split <;> rfl
  · split
    · rfl
    · split
      · rfl
      · rename_i h1 _ h2 _ h3; rw [h1] at hv; simp only at hv; rw [h2] at hv; simp only at hv; rw [h3] at hv; cases hv
theorem AtW.next {l : List T} {a : Nat} {w : S} {r : List S} (h : AtW l a (w :: r)) (ok : okW w) : (pNext l ⟨a, false⟩).1.1 = kw w ∧ (pNext l ⟨a, false⟩).1.2.1 = w ∧ (pNext l ⟨a, false⟩).2 = ⟨a + 1, false⟩ := by
  obtain ⟨h1, h2⟩ := h.peek
  simp only [pNext, h1, kw_ne ok, cond_false, h2, and_self]
theorem AtW.has_t {l : List T} {a : Nat} {w : S} {r : List S} (h : AtW l a (w :: r)) (k : (beqL (kw w) [107, 101, 121] || beqL (kw w) [115, 105, 103, 110]) = true) : pHas l ⟨a, false⟩ w = (true, ⟨a + 1, false⟩) := by
  have := h.is w
  rw [k] at this
  have e : beqL w w = true := by simp [beqL]
  rw [e] at this
  simp only [pHas, this, Bool.and_self, cond_true]
theorem AtW.has_f {l : List T} {a : Nat} {w : S} {r : List S} (h : AtW l a (w :: r)) {x : S} (k : w ≠ x) : pHas l ⟨a, false⟩ x = (false, ⟨a, false⟩) := by
  have := h.is x
  simp only [beqL, k, decide_false, Bool.and_false] at this
  simp only [pHas, this, cond_false]
theorem AtW.has_end {l : List T} {a : Nat} (h : AtW l a []) (x : S) : pHas l ⟨a, false⟩ x = (false, ⟨a, false⟩) := by
  simp only [pHas, h.is_end x, cond_false]
theorem AtW.must {l : List T} {a : Nat} {w : S} {r : List S} (h : AtW l a (w :: r)) (k : (beqL (kw w) [107, 101, 121] || beqL (kw w) [115, 105, 103, 110]) = true) : pMust l ⟨a, false⟩ w = ⟨a + 1, false⟩ := by
  simp only [pMust, h.has_t k, cond_true]
theorem AtW.name {l : List T} {a : Nat} {w : S} {r : List S} (h : AtW l a (w :: r)) (ok : okW w) (k : kw w = [110, 97, 109, 101]) : pName l ⟨a, false⟩ = (w, ⟨a + 1, false⟩) := by
  obtain ⟨h1, h2, h3⟩ := h.next ok
  simp only [pName, h1, h2, h3, k, beqL, decide_true, cond_true]
theorem AtW.op {l : List T} {a : Nat} {w : S} {r : List S} (h : AtW l a (w :: r)) (ok : okW w) (k : kw w ≠ [110, 97, 109, 101]) (o : isOpB w = true) : pOp l ⟨a, false⟩ = (w, ⟨a + 1, false⟩) := by
  obtain ⟨h1, h2, h3⟩ := h.next ok
  simp only [pOp, h1, h2, h3, k, o, beqL, decide_false, Bool.not_true, Bool.or_self, cond_false]
theorem AtW.num {l : List T} {a : Nat} {w : S} {r : List S} (h : AtW l a (w :: r)) (ok : okW w) (k : numC w = 0) : pNum l ⟨a, false⟩ = (numV w, ⟨a + 1, false⟩) := by
  obtain ⟨h1, h2, h3⟩ := h.next ok
  simp only [pNum, h2, h3, k, decide_true, cond_true]
theorem AtW.bin {l : List T} {a : Nat} {w : S} {r : List S} (h : AtW l a (w :: r)) (ok : okW w) (k : kw w = [115, 105, 103, 110]) (o : operandsN w = 2) : pBin l ⟨a, false⟩ = ⟨a + 1, false⟩ := by
  obtain ⟨h1, h2, h3⟩ := h.next ok
  simp only [pBin, h1, h2, h3, k, o, beqL, decide_true, Bool.not_true, Bool.or_self, cond_false]
end Go.Abs

set_option maxRecDepth 100000
namespace Go.Abs
open Go.Proofs
theorem name_ok {w : S} (h : isNameB w = true) : okW w ∧ kw w = [110, 97, 109, 101] := by
  simp only [isNameB, validT, Bool.and_eq_true, beqL, decide_eq_true_eq] at h
  exact ⟨⟨h.1, h.2.2⟩, h.2.1⟩
theorem dec_dig (d : Nat) (h : d < 10) : digI (((UInt8.ofNat (48 + d)).toNat : Nat) : Int) = true ∧ smallI (((UInt8.ofNat (48 + d)).toNat : Nat) : Int) = false ∧ Go.Lib.digitVal (UInt8.ofNat (48 + d)) = some d ∧ (UInt8.ofNat (48 + d) = 48 → d = 0) := by
  have : ∀ d : Fin 10, digI (((UInt8.ofNat (48 + d.1)).toNat : Nat) : Int) = true ∧ smallI (((UInt8.ofNat (48 + d.1)).toNat : Nat) : Int) = false ∧ Go.Lib.digitVal (UInt8.ofNat (48 + d.1)) = some d.1 ∧ (UInt8.ofNat (48 + d.1) = 48 → d.1 = 0) := by decide
  exact this ⟨d, h⟩
theorem decFrom_app : ∀ (l : S) (b : UInt8) (acc m d : Nat), Go.Lib.decFrom acc l = some m → Go.Lib.digitVal b = some d → Go.Lib.decFrom acc (l ++ [b]) = some (m * 10 + d)
  | [], b, acc, m, d, h, hd => by simp only [Go.Lib.decFrom, Option.some.injEq] at h; subst h; simp [Go.Lib.decFrom, hd]
  | c :: r, b, acc, m, d, h, hd => by
    simp only [Go.Lib.decFrom, List.cons_append] at h ⊢
    split at h
    · exact decFrom_app r b _ m d h hd
    · cases h
theorem digsN_all : ∀ (l : S), (∀ b ∈ l, digI ((b.toNat : Nat) : Int) = true) → digsN l = l.length
  | [], _ => rfl
  | c :: r, h => by
    simp only [digsN, h c (by simp), List.length_cons]
    rw [digsN_all r fun b hb => h b (by simp [hb])]
theorem dec_facts (u : Nat) : (∀ b ∈ Go.Lib.decDigits u, digI ((b.toNat : Nat) : Int) = true) ∧ Go.Lib.decFrom 0 (Go.Lib.decDigits u) = some u ∧ (∃ c t, Go.Lib.decDigits u = c :: t ∧ smallI ((c.toNat : Nat) : Int) = false ∧ (c = 48 → u = 0)) := by
  induction u using Nat.strongRecOn with
  | _ u ih =>
    by_cases h : u < 10
    · obtain ⟨h1, h2, h3, h4⟩ := dec_dig u h
      rw [Go.Lib.decDigits, dif_pos h]
      refine ⟨fun b hb => by rw [List.mem_singleton.1 hb]; exact h1, by simp only [Go.Lib.decFrom, h3, Nat.zero_mul, Nat.zero_add], _, _, rfl, h2, h4⟩
    · obtain ⟨i1, i2, c, t, i3, i4, i5⟩ := ih (u / 10) (by omega)
      obtain ⟨h1, h2, h3, h4⟩ := dec_dig (u % 10) (by omega)
      rw [Go.Lib.decDigits, dif_neg h]
      refine ⟨?_, ?_, c, t ++ [UInt8.ofNat (48 + u % 10)], by rw [i3]; rfl, i4, fun e => by have := i5 e; omega⟩
      · intro b hb
        rw [List.mem_append] at hb
        rcases hb with hb | hb
        · exact i1 b hb
        · rw [List.mem_singleton.1 hb]; exact h1
      · rw [decFrom_app _ _ _ _ _ i2 h3]
        congr 1; omega
theorem nDigits_le : ∀ (k u : Nat), u < 10 ^ (k + 1) → Go.Lib.nDigits u ≤ k + 1
  | 0, u, h => by rw [Go.Lib.nDigits_small (by simpa using h)]; exact Nat.le_refl _
  | k + 1, u, h => by
    by_cases h10 : u < 10
    · rw [Go.Lib.nDigits_small h10]; omega
    · rw [Go.Lib.nDigits_big h10]
      have := nDigits_le k (u / 10) (by rw [Nat.pow_succ] at h; omega)
      omega
theorem num_ok {n : Int} (h0 : 0 ≤ n) (h1 : n ≤ 999999999) : okW (Go.Lib.itoa n) ∧ kw (Go.Lib.itoa n) = [105, 110, 116] ∧ numV (Go.Lib.itoa n) = n ∧ numC (Go.Lib.itoa n) = 0 := by
  obtain ⟨u, rfl⟩ : ∃ u : Nat, n = u := ⟨n.toNat, by omega⟩
  rw [Go.Lib.itoa_nonneg]
  obtain ⟨d1, d2, c, t, d3, d4, d5⟩ := dec_facts u
  have hl : (Go.Lib.decDigits u).length ≤ 9 := by rw [Go.Lib.decDigits_length]; exact nDigits_le 8 u (by omega)
  have hlc : (Go.Lib.decDigits u).length = t.length + 1 := by rw [d3]; rfl
  have hw : wordN (Go.Lib.decDigits u) = 0 := by rw [d3]; simp only [wordN, d4]
  have hd : digN (Go.Lib.decDigits u) = t.length + 1 := by
    simp only [digN]
    cases hp : preB (Go.Lib.decDigits u) [48] with
    | true =>
      rw [d3] at hp
      simp [preB, beqL] at hp
      have hu := d5 hp
      subst hu
      rw [Go.Lib.decDigits_one (by decide)] at d3
      simp only [List.cons.injEq] at d3
      rw [← d3.2]; rfl
    | false =>
      simp only
      rw [digsN_all _ d1, hlc]
  have ht : (Go.Lib.decDigits u).take (t.length + 1) = Go.Lib.decDigits u := List.take_of_length_le (by omega)
  have e : firstT (Go.Lib.decDigits u) = ([105, 110, 116], Go.Lib.decDigits u, true) := by
    have h9 : decide (((t.length + 1 : Nat) : Int) ≤ 9) = true := by simp; omega
    simp only [firstT, hw, hd, ht, h9]
  have hv : validT [105, 110, 116] (Go.Lib.decDigits u) = true := by simp [validT, e, beqL]
  have ha : Go.Lib.atoi (Go.Lib.decDigits u) = some (u : Int) := by
    have hc := d1 c (by rw [d3]; simp)
    rw [d3] at d2 ⊢
    have c1 : (c == 45) = false := by
      rw [beq_eq_false_iff_ne]; rintro rfl; simp [digI] at hc
    have c2 : (c == 43) = false := by
      rw [beq_eq_false_iff_ne]; rintro rfl; simp [digI] at hc
    simp [Go.Lib.atoi, c1, c2, Go.Lib.decNat, d2]
  refine ⟨⟨by rw [e], by rw [e]⟩, by simp only [kw, e], ?_, ?_⟩
  · simp only [numV, hv, ha, cond_true, Option.getD_some]
  · simp only [numC, hv, cond_true]
end Go.Abs

set_option maxRecDepth 100000
namespace Go.Abs
open Go.Proofs
/-- the forms -/
inductive Sh : Exp → Prop
  | int (n : Int) (h0 : 0 ≤ n) (h1 : n ≤ 999999999) : Sh (.mk [105, 110, 116] [] n [])
  | bool (n : Int) (h : n = 0 ∨ n = 1) : Sh (.mk [98, 111, 111, 108] [] n [])
  | var (nm : S) (h : isNameB nm = true) : Sh (.mk [118, 97, 114] nm 0 [])
  | un (nm : S) (x : Exp) (h : nm = [33] ∨ nm = [105, 110, 116]) : Sh (.mk [111, 112] nm 0 [x])
  | mm (nm : S) (x y : Exp) (h : nm = [109, 105, 110] ∨ nm = [109, 97, 120]) : Sh (.mk [111, 112] nm 0 [x, y])
  | bin (nm : S) (x y : Exp) (h : hasB nm [[43], [45], [42], [47], [37], [60], [60, 61], [61, 61], [38], [124]] = true) : Sh (.mk [111, 112] nm 0 [x, y])
  | none (nm : S) (h : isOpB nm = true) : Sh (.mk [110, 111, 110, 101] nm 0 [])
  | nam (d nm : S) (hd : d = [114, 101, 97, 100] ∨ d = [103, 101, 116] ∨ d = [99, 111, 117, 110, 116]) (h : isNameB nm = true) : Sh (.mk d nm 0 [])
  | num (d nm : S) (n : Int) (hd : d = [108, 111, 119] ∨ d = [104, 105, 103, 104]) (h : isNameB nm = true) (h0 : 0 ≤ n) (h1 : n ≤ 2) : Sh (.mk d nm n [])
  | at_ (nm : S) (l : List Exp) (h : isNameB nm = true) (h1 : l ≠ []) : Sh (.mk [97, 116] nm 0 l)
  | oh (d nm : S) (l : List Exp) (hd : d = [111, 114, 100] ∨ d = [104, 97, 115]) (h : isNameB nm = true) (h1 : l ≠ []) : Sh (.mk d nm 0 l)
  | nth (nm : S) (n : Int) (x : Exp) (h : isNameB nm = true) (h0 : 0 ≤ n) (h1 : n ≤ 2) : Sh (.mk [110, 116, 104] nm n [x])
  | call (nm : S) (l : List Exp) (h : isNameB nm = true) : Sh (.mk [99, 97, 108, 108] nm 0 l)
theorem hasB_mem {d : S} {L : List S} : hasB d L = true ↔ d ∈ L := by
  induction L with
  | nil => simp [hasB]
  | cons e r ih => simp [hasB, beqL, ih]
theorem sh_of {d nm : S} {n : Int} {l : List Exp} (h : headE d nm n l.length = true) : Sh (.mk d nm n l) := by
  unfold headE at h
  have l0 : ∀ {l : List Exp}, ((l.length : Nat) : Int) = 0 → l = [] := fun e => List.eq_nil_of_length_eq_zero (by omega)
  by_cases d1 : d = [105, 110, 116]
  · subst d1; simp [hasB, beqL] at h; obtain ⟨rfl, h0, h1, h2⟩ := h; subst h2; exact .int n h0 h1
  by_cases d2 : d = [98, 111, 111, 108]
  · subst d2; simp [hasB, beqL] at h; obtain ⟨rfl, h0, h1, h2⟩ := h; subst h2; exact .bool n (by omega)
  by_cases d3 : d = [111, 112]
  · subst d3; simp [hasB, beqL] at h; obtain ⟨rfl, h0, h1⟩ := h
    unfold operandsN at h1
    split at h1
    · rename_i hb
      match l, h1 with
      | [], h1 => simp at h1
      | [x], h1 => simp at h1
      | [x, y], _ =>
        have hm := hasB_mem.1 hb
        simp only [List.mem_cons, List.not_mem_nil, or_false] at hm
        by_cases m : nm = [109, 105, 110] ∨ nm = [109, 97, 120]
        · exact .mm nm x y m
        · exact .bin nm x y (by simp only [not_or] at m; rcases hm with h | h | h | h | h | h | h | h | h | h | h | h <;> first | exact absurd h m.1 | exact absurd h m.2 | (subst h; decide))
      | x :: y :: z :: r, h1 => simp at h1; omega
    · split at h1
      · rename_i hb
        match l, h1 with
        | [], h1 => simp at h1
        | [x], _ =>
          have hm := hasB_mem.1 hb
          simp only [List.mem_cons, List.not_mem_nil, or_false] at hm
          exact .un nm x hm
        | x :: y :: r, h1 => simp at h1; omega
      · exfalso; apply h0; apply l0; omega
  by_cases d4 : d = [110, 111, 110, 101]
  · subst d4; simp [hasB, beqL] at h; obtain ⟨h0, rfl, rfl⟩ := h; exact .none nm h0
  by_cases d5 : d = [118, 97, 114]
  · subst d5; simp [hasB, beqL] at h; obtain ⟨h0, rfl, rfl⟩ := h; exact .var nm h0
  by_cases d6 : d = [114, 101, 97, 100] ∨ d = [103, 101, 116] ∨ d = [99, 111, 117, 110, 116]
  · rcases d6 with rfl | rfl | rfl <;> (simp [hasB, beqL] at h; obtain ⟨h0, rfl, rfl⟩ := h; exact .nam _ nm (by simp) h0)
  by_cases d7 : d = [108, 111, 119] ∨ d = [104, 105, 103, 104]
  · rcases d7 with rfl | rfl <;> (simp [hasB, beqL] at h; obtain ⟨h0, h1, h2, rfl⟩ := h; exact .num _ nm n (by simp) h0 h1 h2)
  by_cases d8 : d = [97, 116]
  · subst d8; simp [hasB, beqL] at h; obtain ⟨h0, rfl, h1, h2⟩ := h; exact .at_ nm l h0 (by rintro rfl; simp at h1)
  by_cases d9 : d = [111, 114, 100] ∨ d = [104, 97, 115]
  · rcases d9 with rfl | rfl <;> (simp [hasB, beqL] at h; obtain ⟨h0, rfl, h1, h2⟩ := h; exact .oh _ nm l (by simp) h0 (by rintro rfl; simp at h1))
  by_cases d10 : d = [110, 116, 104]
  · subst d10; simp [hasB, beqL] at h; obtain ⟨h0, h1, h2, h3⟩ := h
    match l, h3 with
    | [x], _ => exact .nth nm n x h0 h1 h2
    | [], h3 => simp at h3
    | x :: y :: r, h3 => simp at h3
  by_cases d11 : d = [99, 97, 108, 108]
  · subst d11; simp [hasB, beqL] at h; obtain ⟨h0, rfl⟩ := h; exact .call nm l h0
  · exfalso
    simp only [not_or] at d6 d7 d9
    simp [hasB, beqL, d1, d2, d3, d4, d5, d6.1, d6.2.1, d6.2.2, d7.1, d7.2, d8, d9.1, d9.2, d10, d11] at h
end Go.Abs

set_option maxRecDepth 100000
namespace Go.Abs
open Go.Proofs
theorem cs_go {i : Nat} {dp : Int} {t : T} {r : List T} (h1 : (beqL t.1 [115, 105, 103, 110] && (beqL t.2.1 [40] || beqL t.2.1 [91])) = false) (h2 : (beqL t.1 [115, 105, 103, 110] && (beqL t.2.1 [41] || beqL t.2.1 [93])) = false)
    (h3 : (decide (dp = 1) && beqL t.1 [115, 105, 103, 110]) = false) (h4 : (decide (dp = 1) && (decide ((i : Int) = 1) && (beqL t.1 [107, 101, 121] && (!beqL t.2.1 [116, 114, 117, 101] && !beqL t.2.1 [102, 97, 108, 115, 101])))) = false) : callScan i dp (t :: r) = callScan (i + 1) dp r := by
  simp only [callScan, h1, h2, h4, cond_false, Bool.or_false]
  rw [← Bool.and_assoc, h3]; simp
def aroundW' (o : S) (ws : List S) (c : S) : List S := o :: (ws ++ [c])
/-- the scan goes through the words, at every depth in parentheses -/
def Pass (ws : List S) : Prop := ∀ (i p : Nat) (dp : Int) (r : List S), 1 ≤ i → 1 ≤ dp → ∃ p', callScan i dp (posT p (ws ++ r)) = callScan (i + ws.length) dp (posT p' r)
def Deep (ws : List S) : Prop := ∀ (i p : Nat) (dp : Int) (r : List S), 1 ≤ i → 2 ≤ dp → ∃ p', callScan i dp (posT p (ws ++ r)) = callScan (i + ws.length) dp (posT p' r)
theorem Pass.deep {ws : List S} (h : Pass ws) : Deep ws := fun i p dp r hi hd => h i p dp r hi (by omega)
theorem deep_nil : Deep [] := fun i p dp r _ _ => ⟨p, rfl⟩
theorem Deep.app {a b : List S} (ha : Deep a) (hb : Deep b) : Deep (a ++ b) := by
  intro i p dp r hi hd
  obtain ⟨p1, e1⟩ := ha i p dp (b ++ r) hi hd
  obtain ⟨p2, e2⟩ := hb (i + a.length) p1 dp r (by omega) hd
  refine ⟨p2, ?_⟩
  rw [List.append_assoc, e1, e2, List.length_append, Nat.add_assoc]
theorem Pass.app {a b : List S} (ha : Pass a) (hb : Pass b) : Pass (a ++ b) := by
  intro i p dp r hi hd
  obtain ⟨p1, e1⟩ := ha i p dp (b ++ r) hi hd
  obtain ⟨p2, e2⟩ := hb (i + a.length) p1 dp r (by omega) hd
  refine ⟨p2, ?_⟩
  rw [List.append_assoc, e1, e2, List.length_append, Nat.add_assoc]
theorem deep_one {w : S} (h : hasB w [[40], [91], [41], [93]] = false) : Deep [w] := by
  intro i p dp r hi hd
  simp only [hasB, Bool.or_eq_false_iff] at h
  have d : decide (dp = 1) = false := by simp; omega
  exact ⟨_, cs_go (by simp [h]) (by simp [h]) (by simp [d]) (by simp [d])⟩
theorem pass_one {w : S} (h : kw w = [110, 97, 109, 101] ∨ kw w = [105, 110, 116] ∨ w = [116, 114, 117, 101] ∨ w = [102, 97, 108, 115, 101]) : Pass [w] := by
  intro i p dp r hi hd
  have hs : beqL (kw w) [115, 105, 103, 110] = false := by
    rcases h with h | h | h | h
    · rw [h]; rfl
    · rw [h]; rfl
    · rw [h]; decide +kernel
    · rw [h]; decide +kernel
  have hk : (beqL (kw w) [107, 101, 121] && (!beqL w [116, 114, 117, 101] && !beqL w [102, 97, 108, 115, 101])) = false := by
    rcases h with h | h | h | h
    · rw [h]; rfl
    · rw [h]; rfl
    · rw [h]; simp [beqL]
    · rw [h]; simp [beqL]
  exact ⟨_, cs_go (by simp [hs]) (by simp [hs]) (by simp [hs]) (by simp only [hk, Bool.and_false])⟩
/-- what brackets enclose is passed -/
theorem pass_br {o c : S} {ws : List S} (ho : o = [40] ∨ o = [91]) (hc : c = [41] ∨ c = [93]) (h : Deep ws) : Pass (aroundW' o ws c) := by
  intro i p dp r hi hd
  have ko : beqL (kw o) [115, 105, 103, 110] = true ∧ (beqL o [40] || beqL o [91]) = true := by rcases ho with rfl | rfl <;> exact ⟨by decide +kernel, rfl⟩
  have kc : beqL (kw c) [115, 105, 103, 110] = true ∧ (beqL c [40] || beqL c [91]) = false ∧ (beqL c [41] || beqL c [93]) = true := by rcases hc with rfl | rfl <;> exact ⟨by decide +kernel, rfl, rfl⟩
  obtain ⟨p1, e1⟩ := h (i + 1) (p + o.length + 1) (dp + 1) (c :: r) (by omega) (by omega)
  refine ⟨p1 + c.length + 1, ?_⟩
  have e0 : aroundW' o ws c ++ r = o :: (ws ++ c :: r) := by simp [aroundW']
  have d1 : decide (dp = 0) = false := by simp; omega
  have d2 : dp + 1 - 1 = dp := by omega
  rw [e0]
  simp only [posT, callScan, ko.1, ko.2, Bool.and_self, cond_true]
  rw [e1]
  simp only [posT, callScan, kc.1, kc.2.1, kc.2.2, Bool.and_false, Bool.and_self, cond_true, cond_false, d1, d2]
  have ei : i + 1 + ws.length + 1 = i + (aroundW' o ws c).length := by simp [aroundW']; omega
  rw [ei]
end Go.Abs

set_option maxRecDepth 100000
namespace Go.Abs
open Go.Proofs
theorem aroundW_eq (o : S) (ws : List S) (c : S) : aroundW o ws c = aroundW' o ws c := by simp [aroundW, aroundW']
def kids : Exp → List Exp | .mk _ _ _ l => l
theorem pw_name {nm : S} (h : isNameB nm = true) : Pass [nm] := pass_one (.inl (name_ok h).2)
theorem pw_num {n : Int} (h0 : 0 ≤ n) (h1 : n ≤ 999999999) : Pass [Go.Lib.itoa n] := pass_one (.inr (.inl (num_ok h0 h1).2.1))
theorem deep_commaT : ∀ (ws : List (List S)), (∀ w ∈ ws, Deep w) → Deep (commaT ws)
  | [], _ => deep_nil
  | w :: r, h => by
    have e : commaT (w :: r) = [[44]] ++ (w ++ commaT r) := by simp [commaT]
    rw [e]
    exact (deep_one (by decide)).app ((h w (by simp)).app (deep_commaT r (fun v hv => h v (by simp [hv]))))
theorem deep_commaJ : ∀ (ws : List (List S)), (∀ w ∈ ws, Deep w) → Deep (commaJ ws)
  | [], _ => deep_nil
  | w :: r, h => (h w (by simp)).app (deep_commaT r (fun v hv => h v (by simp [hv])))
theorem wE_int (n : Int) : wE (.mk [105, 110, 116] [] n []) = [Go.Lib.itoa n] := by simp [wE, hasB, beqL]
theorem wE_bool (n : Int) : wE (.mk [98, 111, 111, 108] [] n []) = [truthW n] := by simp [wE, hasB, beqL]
theorem wE_var (nm : S) : wE (.mk [118, 97, 114] nm 0 []) = [nm] := by simp [wE, hasB, beqL]
theorem wE_un (nm : S) (x : Exp) : wE (.mk [111, 112] nm 0 [x]) = [40] :: (nm :: wE x ++ [[41]]) := by simp [wE, wEs, hasB, beqL, opW, aroundW]
theorem wE_mm {nm : S} (h : nm = [109, 105, 110] ∨ nm = [109, 97, 120]) (x y : Exp) : wE (.mk [111, 112] nm 0 [x, y]) = [40] :: (nm :: wE x ++ wE y ++ [[41]]) := by
  rcases h with rfl | rfl <;> simp [wE, wEs, hasB, beqL, opW, aroundW]
theorem bin_ne {nm : S} (h : hasB nm [[43], [45], [42], [47], [37], [60], [60, 61], [61, 61], [38], [124]] = true) : hasB nm [[109, 105, 110], [109, 97, 120]] = false ∧ hasB nm [[40], [91], [41], [93]] = false ∧ kw nm = [115, 105, 103, 110] ∧ okW nm ∧ operandsN nm = 2 ∧ nm ≠ [44] ∧ nm ≠ [40] ∧ nm ≠ [91] := by
  have hm := hasB_mem.1 h
  simp only [List.mem_cons, List.not_mem_nil, or_false] at hm
  rcases hm with rfl | rfl | rfl | rfl | rfl | rfl | rfl | rfl | rfl | rfl <;> refine ⟨by decide, by decide, by decide +kernel, by decide +kernel, by decide, by decide, by decide, by decide⟩
theorem wE_bin {nm : S} (h : hasB nm [[43], [45], [42], [47], [37], [60], [60, 61], [61, 61], [38], [124]] = true) (x y : Exp) : wE (.mk [111, 112] nm 0 [x, y]) = [40] :: (wE x ++ nm :: wE y ++ [[41]]) := by
  simp only [wE, wEs, hasB, beqL, opW, aroundW]
  have := (bin_ne h).1
  simp only [hasB, beqL] at this
  rw [this]
  simp
theorem wE_none (nm : S) : wE (.mk [110, 111, 110, 101] nm 0 []) = [[40], [110, 111, 110, 101], nm, [41]] := by simp [wE, hasB, beqL]
theorem wE_nam {d : S} (hd : d = [114, 101, 97, 100] ∨ d = [103, 101, 116] ∨ d = [99, 111, 117, 110, 116]) (nm : S) : wE (.mk d nm 0 []) = [[40], d, nm, [41]] := by
  rcases hd with rfl | rfl | rfl <;> simp [wE, hasB, beqL]
theorem wE_num {d : S} (hd : d = [108, 111, 119] ∨ d = [104, 105, 103, 104]) (nm : S) (n : Int) : wE (.mk d nm n []) = [[40], d, nm, Go.Lib.itoa n, [41]] := by
  rcases hd with rfl | rfl <;> simp [wE, hasB, beqL]
theorem wE_at (nm : S) (l : List Exp) : wE (.mk [97, 116] nm 0 l) = nm :: [91] :: (commaJ (wEs l) ++ [[93]]) := by simp [wE, hasB, beqL, aroundW]
theorem wE_oh {d : S} (hd : d = [111, 114, 100] ∨ d = [104, 97, 115]) (nm : S) (l : List Exp) : wE (.mk d nm 0 l) = [40] :: d :: nm :: [91] :: (commaJ (wEs l) ++ [[93], [41]]) := by
  rcases hd with rfl | rfl <;> simp [wE, hasB, beqL, aroundW]
theorem wE_nth (nm : S) (n : Int) (x : Exp) : wE (.mk [110, 116, 104] nm n [x]) = [40] :: [110, 116, 104] :: nm :: Go.Lib.itoa n :: (wE x ++ [[41]]) := by simp [wE, wEs, hasB, beqL, aroundW]
theorem wE_call (nm : S) (l : List Exp) : wE (.mk [99, 97, 108, 108] nm 0 l) = nm :: [40] :: (commaJ (wEs l) ++ [[41]]) := by simp [wE, hasB, beqL, aroundW]
theorem pass_sh {x : Exp} (h : Sh x) (hk : ∀ w ∈ wEs (kids x), Pass w) : Pass (wE x) := by
  have hdp : ∀ w ∈ wEs (kids x), Deep w := fun w hw => (hk w hw).deep
  have n2 : ∀ {n : Int}, n ≤ 2 → n ≤ 999999999 := fun h => by omega
  cases h with
  | int n h0 h1 => rw [wE_int]; exact pw_num h0 h1
  | bool n h => rw [wE_bool]; exact pass_one (by rcases h with rfl | rfl; exact .inr (.inr (.inr rfl)); exact .inr (.inr (.inl rfl)))
  | var nm h => rw [wE_var]; exact pw_name h
  | un nm x h =>
    have h1 : Deep ([nm] ++ wE x) := (deep_one (by rcases h with rfl | rfl <;> decide)).app (hdp _ (by simp [kids, wEs]))
    have := pass_br (.inl rfl) (.inl rfl) h1
    rw [wE_un]; simpa [aroundW'] using this
  | mm nm x y h =>
    have h1 : Deep ([nm] ++ (wE x ++ wE y)) := (deep_one (by rcases h with rfl | rfl <;> decide)).app ((hdp _ (by simp [kids, wEs])).app (hdp _ (by simp [kids, wEs])))
    have := pass_br (.inl rfl) (.inl rfl) h1
    rw [wE_mm h]; simpa [aroundW'] using this
  | bin nm x y h =>
    have h1 : Deep (wE x ++ ([nm] ++ wE y)) := (hdp _ (by simp [kids, wEs])).app ((deep_one (bin_ne h).2.1).app (hdp _ (by simp [kids, wEs])))
    have := pass_br (.inl rfl) (.inl rfl) h1
    rw [wE_bin h]; simpa [aroundW'] using this
  | none nm h =>
    have h0 : hasB nm [[40], [91], [41], [93]] = false := by
      have hm := hasB_mem.1 h
      simp only [List.mem_cons, List.not_mem_nil, or_false] at hm
      rcases hm with rfl | rfl | rfl | rfl | rfl | rfl <;> decide
    have h1 : Deep ([[110, 111, 110, 101]] ++ [nm]) := (deep_one (by decide)).app (deep_one h0)
    have := pass_br (.inl rfl) (.inl rfl) h1
    rw [wE_none]; simpa [aroundW'] using this
  | nam d nm hd h =>
    have h1 : Deep ([d] ++ [nm]) := (deep_one (by rcases hd with rfl | rfl | rfl <;> decide)).app (pw_name h).deep
    have := pass_br (.inl rfl) (.inl rfl) h1
    rw [wE_nam hd]; simpa [aroundW'] using this
  | num d nm n hd h h0 h2 =>
    have h1 : Deep ([d] ++ ([nm] ++ [Go.Lib.itoa n])) := (deep_one (by rcases hd with rfl | rfl <;> decide)).app ((pw_name h).deep.app (pw_num h0 (n2 h2)).deep)
    have := pass_br (.inl rfl) (.inl rfl) h1
    rw [wE_num hd]; simpa [aroundW'] using this
  | at_ nm l h h1 =>
    have := (pw_name h).app (pass_br (.inr rfl) (.inr rfl) (deep_commaJ _ hdp))
    rw [wE_at]; simpa [aroundW', kids] using this
  | oh d nm l hdd h h1 =>
    have h1 : Deep ([d] ++ ([nm] ++ aroundW' [91] (commaJ (wEs l)) [93])) := (deep_one (by rcases hdd with rfl | rfl <;> decide)).app ((pw_name h).deep.app (pass_br (.inr rfl) (.inr rfl) (deep_commaJ _ hdp)).deep)
    have := pass_br (.inl rfl) (.inl rfl) h1
    rw [wE_oh hdd]; simpa [aroundW'] using this
  | nth nm n x h h0 h2 =>
    have h1 : Deep ([[110, 116, 104]] ++ ([nm] ++ ([Go.Lib.itoa n] ++ wE x))) := (deep_one (by decide)).app ((pw_name h).deep.app ((pw_num h0 (n2 h2)).deep.app (hdp _ (by simp [kids, wEs]))))
    have := pass_br (.inl rfl) (.inl rfl) h1
    rw [wE_nth]; simpa [aroundW'] using this
  | call nm l h =>
    have := (pw_name h).app (pass_br (.inl rfl) (.inl rfl) (deep_commaJ _ hdp))
    rw [wE_call]; simpa [aroundW', kids] using this
theorem well_head {x : Exp} (h : wellE x = true) : Sh x ∧ wellL (kids x) = true := by
  cases x with | mk a b n l =>
  simp only [wellE, Bool.and_eq_true] at h
  exact ⟨sh_of h.1, h.2⟩
theorem well_mem : ∀ {l : List Exp}, wellL l = true → ∀ y ∈ l, wellE y = true
  | [], _, y, hy => by simp at hy
  | x :: r, h, y, hy => by
    simp only [wellL, Bool.and_eq_true] at h
    rcases List.mem_cons.1 hy with rfl | hy
    · exact h.1
    · exact well_mem h.2 y hy
mutual
theorem pass_wE : ∀ (x : Exp), wellE x = true → Pass (wE x)
  | .mk a b n l, h => pass_sh (well_head h).1 (pass_wEs l (well_head h).2)
theorem pass_wEs : ∀ (l : List Exp), wellL l = true → ∀ w ∈ wEs l, Pass w
  | [], _, w, hw => by simp [wEs] at hw
  | x :: r, h, w, hw => by
    simp only [wellL, Bool.and_eq_true] at h
    simp only [wEs, List.mem_cons] at hw
    rcases hw with rfl | hw
    · exact pass_wE x h.1
    · exact pass_wEs r h.2 w hw
end
/-- what follows is no index and no call -/
def NotF (l : List T) (b : Nat) : Prop := (pHas l ⟨b, false⟩ [91]).1 = false ∧ pIsCall l ⟨b, false⟩ = false
theorem notF_end {l : List T} {b : Nat} (h : AtW l b []) : NotF l b := by
  refine ⟨by rw [h.has_end], ?_⟩
  simp only [pIsCall, h.is_end, cond_false]
theorem notF_w {l : List T} {b : Nat} {w : S} {r : List S} (h : AtW l b (w :: r)) (h1 : w ≠ [91]) (h2 : w ≠ [40]) : NotF l b := by
  refine ⟨by rw [h.has_f h1], ?_⟩
  have e : pIs l ⟨b, false⟩ [40] = false := by rw [h.is]; simp [beqL, h2]
  simp only [pIsCall, e, cond_false]
theorem isCall_open {l : List T} {b : Nat} {r : List S} (h : AtW l b ([40] :: r)) : ∃ p, pIsCall l ⟨b, false⟩ = callScan 1 1 (posT p r) := by
  have k : kw [40] = [115, 105, 103, 110] := by decide +kernel
  have e : pIs l ⟨b, false⟩ [40] = true := by rw [h.is, k]; simp [beqL]
  obtain ⟨p, hp⟩ := h
  refine ⟨p + 1 + 1, ?_⟩
  simp only [pIsCall, e, cond_true, hp, posT, callScan, k]
  simp [beqL]
theorem scan_key {p : Nat} {w : S} {r : List S} (h : kw w = [107, 101, 121]) (h1 : w ≠ [116, 114, 117, 101]) (h2 : w ≠ [102, 97, 108, 115, 101]) : callScan 1 1 (posT p (w :: r)) = false := by
  simp [posT, callScan, h, beqL, h1, h2]
theorem scan_sign {i p : Nat} {w : S} {r : List S} (h : kw w = [115, 105, 103, 110]) (h1 : hasB w [[40], [91], [41], [93]] = false) (h2 : w ≠ [44]) : callScan i 1 (posT p (w :: r)) = false := by
  simp only [hasB, Bool.or_eq_false_iff] at h1
  have : w ≠ [40] ∧ w ≠ [91] ∧ w ≠ [41] ∧ w ≠ [93] := by simpa [hasB, beqL] using h1
  simp [posT, callScan, h, beqL, h2, this]
theorem scan_close {i p : Nat} {r : List S} : callScan i 1 (posT p ([41] :: r)) = true := by
  have k : kw [41] = [115, 105, 103, 110] := by decide +kernel
  simp [posT, callScan, k, beqL]
theorem scan_comma {i p : Nat} {r : List S} : callScan i 1 (posT p ([44] :: r)) = true := by
  have k : kw [44] = [115, 105, 103, 110] := by decide +kernel
  simp [posT, callScan, k, beqL]
theorem name_ne {w x : S} (h : kw w = [110, 97, 109, 101] ∨ kw w = [105, 110, 116]) (hx : kw x = [107, 101, 121] ∨ kw x = [115, 105, 103, 110]) : w ≠ x := by
  rintro rfl
  rcases h with h | h <;> rcases hx with hx | hx <;> rw [h] at hx <;> cases hx
theorem k91 : kw [91] = [107, 101, 121] ∨ kw [91] = [115, 105, 103, 110] := by decide +kernel
theorem k40 : kw [40] = [107, 101, 121] ∨ kw [40] = [115, 105, 103, 110] := by decide +kernel
/-- an expression that follows an expression is no call of it -/
theorem notF_wE {l : List T} {b : Nat} {y : Exp} {r : List S} (hw : wellE y = true) (h : AtW l b (wE y ++ r)) : NotF l b := by
  obtain ⟨sh, wk⟩ := well_head hw
  have hp := pass_wEs _ wk
  have par : ∀ {ws : List S}, AtW l b ([40] :: ws) → (∀ p, callScan 1 1 (posT p ws) = false) → NotF l b := by
    intro ws h' hc
    refine ⟨by rw [h'.has_f (by decide)], ?_⟩
    obtain ⟨p, e⟩ := isCall_open h'
    rw [e]; exact hc p
  cases sh with
  | int n h0 h1 => rw [wE_int] at h; exact notF_w h (name_ne (.inr (num_ok h0 h1).2.1) k91) (name_ne (.inr (num_ok h0 h1).2.1) k40)
  | bool n h0 => rw [wE_bool] at h; rcases h0 with rfl | rfl <;> exact notF_w h (by decide) (by decide)
  | var nm h0 => rw [wE_var] at h; exact notF_w h (name_ne (.inl (name_ok h0).2) k91) (name_ne (.inl (name_ok h0).2) k40)
  | un nm x h0 =>
    rw [wE_un] at h
    refine par h (fun p => ?_)
    rcases h0 with rfl | rfl
    · exact scan_sign (by decide +kernel) (by decide) (by decide)
    · exact scan_key (by decide +kernel) (by decide) (by decide)
  | mm nm x y h0 =>
    rw [wE_mm h0] at h
    refine par h (fun p => ?_)
    rcases h0 with rfl | rfl <;> exact scan_key (by decide +kernel) (by decide) (by decide)
  | bin nm x y h0 =>
    rw [wE_bin h0] at h
    refine par h (fun p => ?_)
    obtain ⟨p', e⟩ := hp (wE x) (by simp [kids, wEs]) 1 p 1 (nm :: wE y ++ [[41]] ++ r) (by decide) (by decide)
    have e2 : wE x ++ nm :: wE y ++ [[41]] ++ r = wE x ++ (nm :: wE y ++ [[41]] ++ r) := by simp
    have e3 : List.append (wE x ++ nm :: wE y ++ [[41]]) r = wE x ++ (nm :: wE y ++ [[41]] ++ r) := e2
    rw [e3, e]
    exact scan_sign (bin_ne h0).2.2.1 (bin_ne h0).2.1 (bin_ne h0).2.2.2.2.2.1
  | none nm h0 => rw [wE_none] at h; exact par h (fun p => scan_key (by decide +kernel) (by decide) (by decide))
  | nam d nm hd h0 => rw [wE_nam hd] at h; exact par h (fun p => by rcases hd with rfl | rfl | rfl <;> exact scan_key (by decide +kernel) (by decide) (by decide))
  | num d nm n hd h0 h1 h2 => rw [wE_num hd] at h; exact par h (fun p => by rcases hd with rfl | rfl <;> exact scan_key (by decide +kernel) (by decide) (by decide))
  | at_ nm l' h0 h1 => rw [wE_at] at h; exact notF_w h (name_ne (.inl (name_ok h0).2) k91) (name_ne (.inl (name_ok h0).2) k40)
  | oh d nm l' hd h0 h1 => rw [wE_oh hd] at h; exact par h (fun p => by rcases hd with rfl | rfl <;> exact scan_key (by decide +kernel) (by decide) (by decide))
  | nth nm n x h0 h1 h2 => rw [wE_nth] at h; exact par h (fun p => scan_key (by decide +kernel) (by decide) (by decide))
  | call nm l' h0 => rw [wE_call] at h; exact notF_w h (name_ne (.inl (name_ok h0).2) k91) (name_ne (.inl (name_ok h0).2) k40)
/-- a call's parenthesis -/
theorem isCall_args {l : List T} {b : Nat} {xs : List Exp} {r : List S} (hw : wellL xs = true) (h : AtW l b ([40] :: (commaJ (wEs xs) ++ [41] :: r))) : pIsCall l ⟨b, false⟩ = true := by
  obtain ⟨p, e⟩ := isCall_open h
  rw [e]
  match xs, hw with
  | [], _ => exact scan_close
  | [x], hw =>
    simp only [wellL, Bool.and_eq_true] at hw
    obtain ⟨p', e⟩ := pass_wE x hw.1 1 p 1 ([41] :: r) (by decide) (by decide)
    have e2 : commaJ (wEs [x]) ++ [41] :: r = wE x ++ [41] :: r := by simp [wEs, commaJ, commaT]
    rw [e2, e]; exact scan_close
  | x :: y :: zs, hw =>
    simp only [wellL, Bool.and_eq_true] at hw
    obtain ⟨p', e⟩ := pass_wE x hw.1 1 p 1 ([44] :: (wE y ++ commaT (wEs zs) ++ [41] :: r)) (by decide) (by decide)
    have e2 : commaJ (wEs (x :: y :: zs)) ++ [41] :: r = wE x ++ [44] :: (wE y ++ commaT (wEs zs) ++ [41] :: r) := by simp [wEs, commaJ, commaT]
    rw [e2, e]; exact scan_comma
end Go.Abs

set_option maxRecDepth 100000
namespace Go.Abs
open Go.Proofs
theorem AtW.app {l : List T} : ∀ {ws : List S} {a : Nat} {r : List S}, AtW l a (ws ++ r) → AtW l (a + ws.length) r
  | [], a, r, h => by simpa using h
  | w :: ws, a, r, h => by
    have h' : AtW l a (w :: (ws ++ r)) := by simpa using h
    have := AtW.app (ws := ws) h'.tail
    have e : a + (w :: ws).length = a + 1 + ws.length := by simp; omega
    rw [e]; exact this
theorem posT_len : ∀ (ws : List S) (p : Nat), (posT p ws).length = ws.length
  | [], _ => rfl
  | w :: r, p => by simp [posT, posT_len r]
theorem AtW.len {l : List T} {a : Nat} {ws : List S} (h : AtW l a ws) : ws.length ≤ l.length := by
  obtain ⟨p, h⟩ := h
  have := congrArg List.length h
  rw [posT_len, List.length_drop] at this
  omega
/-- the parser E reads the expression y back, wherever it stands -/
def Rb (l : List T) (E : PS → Exp × PS) (y : Exp) : Prop := ∀ a r, AtW l a (wE y ++ r) → NotF l (a + (wE y).length) → E ⟨a, false⟩ = (y, ⟨a + (wE y).length, false⟩)
theorem loop_ok {l : List T} {E : PS → Exp × PS} {c : S} (hc : c = [93] ∨ c = [41]) : ∀ (xs : List Exp) (x : Exp) (f a : Nat) (r : List S), (∀ y ∈ x :: xs, Rb l E y) → xs.length < f → AtW l a (wE x ++ (commaT (wEs xs) ++ c :: r)) →
    pLoop l E f ⟨a, false⟩ = (x :: xs, ⟨a + (wE x).length + (commaT (wEs xs)).length, false⟩)
  | _, _, 0, _, _, _, hf, _ => absurd hf (Nat.not_lt_zero _)
  | [], x, f + 1, a, r, hE, hf, h => by
    have h1 : AtW l (a + (wE x).length) (c :: r) := by simpa [wEs, commaT] using h.app
    have e1 := hE x (by simp) a _ h (notF_w h1 (by rcases hc with rfl | rfl <;> decide) (by rcases hc with rfl | rfl <;> decide))
    have e2 : pHas l ⟨a + (wE x).length, false⟩ [44] = (false, ⟨a + (wE x).length, false⟩) := h1.has_f (by rcases hc with rfl | rfl <;> decide)
    simp only [pLoop, e1, e2, cond_false]
    simp [wEs, commaT]
  | y :: ys, x, f + 1, a, r, hE, hf, h => by
    have h1 : AtW l (a + (wE x).length) ([44] :: (wE y ++ (commaT (wEs ys) ++ c :: r))) := by
      have := h.app; simpa [wEs, commaT] using this
    have e1 := hE x (by simp) a _ h (notF_w h1 (by decide) (by decide))
    have e2 : pHas l ⟨a + (wE x).length, false⟩ [44] = (true, ⟨a + (wE x).length + 1, false⟩) := h1.has_t (by decide +kernel)
    have e3 := loop_ok hc ys y f (a + (wE x).length + 1) r (fun z hz => hE z (by simp at hz ⊢; exact .inr hz)) (by simp at hf; omega) h1.tail
    simp only [pLoop, e1, e2, cond_true, e3]
    refine Prod.ext rfl ?_
    simp only [wEs, commaT, List.map_cons, List.flatten_cons, List.length_append, List.length_cons, PS.mk.injEq, and_true]
    omega
theorem commaT_len : ∀ ws : List (List S), ws.length ≤ (commaT ws).length
  | [] => Nat.zero_le _
  | w :: r => by
    have := commaT_len r
    simp only [commaT, List.map_cons, List.flatten_cons, List.length_append, List.length_cons] at this ⊢; omega
theorem first_ne {c x : S} (h : (kw c = [110, 97, 109, 101] ∨ kw c = [105, 110, 116]) ∨ c = [40] ∨ c = [116, 114, 117, 101] ∨ c = [102, 97, 108, 115, 101]) (hx : x = [93] ∨ x = [41] ∨ x = [44]) : c ≠ x := by
  rcases h with h | rfl | rfl | rfl
  · exact name_ne h (by rcases hx with rfl | rfl | rfl <;> decide +kernel)
  · rcases hx with rfl | rfl | rfl <;> decide
  · rcases hx with rfl | rfl | rfl <;> decide
  · rcases hx with rfl | rfl | rfl <;> decide
/-- the first word -/
theorem first_wE {x : Exp} (hs : Sh x) : ∃ c t, wE x = c :: t ∧ ((kw c = [110, 97, 109, 101] ∨ kw c = [105, 110, 116]) ∨ c = [40] ∨ c = [116, 114, 117, 101] ∨ c = [102, 97, 108, 115, 101]) := by
  cases hs with
  | int n h0 h1 => rw [wE_int]; exact ⟨_, _, rfl, .inl (.inr (num_ok h0 h1).2.1)⟩
  | bool n h0 => rw [wE_bool]; rcases h0 with rfl | rfl; exact ⟨_, _, rfl, .inr (.inr (.inr rfl))⟩; exact ⟨_, _, rfl, .inr (.inr (.inl rfl))⟩
  | var nm h0 => rw [wE_var]; exact ⟨_, _, rfl, .inl (.inl (name_ok h0).2)⟩
  | un nm x h0 => rw [wE_un]; exact ⟨_, _, rfl, .inr (.inl rfl)⟩
  | mm nm x y h0 => rw [wE_mm h0]; exact ⟨_, _, rfl, .inr (.inl rfl)⟩
  | bin nm x y h0 => rw [wE_bin h0]; exact ⟨_, _, rfl, .inr (.inl rfl)⟩
  | none nm h0 => rw [wE_none]; exact ⟨_, _, rfl, .inr (.inl rfl)⟩
  | nam d nm hd h0 => rw [wE_nam hd]; exact ⟨_, _, rfl, .inr (.inl rfl)⟩
  | num d nm n hd h0 h1 h2 => rw [wE_num hd]; exact ⟨_, _, rfl, .inr (.inl rfl)⟩
  | at_ nm l' h0 h1 => rw [wE_at]; exact ⟨_, _, rfl, .inl (.inl (name_ok h0).2)⟩
  | oh d nm l' hd h0 h1 => rw [wE_oh hd]; exact ⟨_, _, rfl, .inr (.inl rfl)⟩
  | nth nm n x h0 h1 h2 => rw [wE_nth]; exact ⟨_, _, rfl, .inr (.inl rfl)⟩
  | call nm l' h0 => rw [wE_call]; exact ⟨_, _, rfl, .inl (.inl (name_ok h0).2)⟩
theorem exps_ok {l : List T} {E : PS → Exp × PS} {c : S} (hc : c = [93] ∨ c = [41]) {xs : List Exp} {a : Nat} {r : List S} (hw : wellL xs = true) (hE : ∀ y ∈ xs, Rb l E y) (h : AtW l a (commaJ (wEs xs) ++ c :: r)) :
    pExps l E c ⟨a, false⟩ = (xs, ⟨a + (commaJ (wEs xs)).length + 1, false⟩) := by
  have kc : (beqL (kw c) [107, 101, 121] || beqL (kw c) [115, 105, 103, 110]) = true := by rcases hc with rfl | rfl <;> decide +kernel
  match xs, hw, hE, h with
  | [], _, _, h =>
    have h1 : AtW l a (c :: r) := by simpa [wEs, commaJ] using h
    simp only [pExps, h1.has_t kc, cond_true]
    simp [wEs, commaJ]
  | x :: xs, hw, hE, h =>
    have hx := well_mem hw x (by simp)
    obtain ⟨w, t, e, hf⟩ := first_wE (well_head hx).1
    have h1 : AtW l a (w :: (t ++ (commaT (wEs xs) ++ c :: r))) := by simpa [wEs, commaJ, e] using h
    have h2 : AtW l a (wE x ++ (commaT (wEs xs) ++ c :: r)) := by simpa [wEs, commaJ] using h
    have e1 := h1.has_f (x := c) (first_ne hf (by rcases hc with rfl | rfl <;> simp))
    have hl : xs.length < l.length + 2 := by
      have := h2.len
      have := commaT_len (wEs xs)
      rw [wEs_length] at this
      simp only [List.length_append] at *
      omega
    have e2 := loop_ok hc xs x (l.length + 2) a r hE hl h2
    have h3 : AtW l (a + (wE x).length + (commaT (wEs xs)).length) (c :: r) := (h2.app).app
    simp only [pExps, e1, cond_false, e2, h3.must kc]
    refine Prod.ext rfl ?_
    simp only [wEs, commaJ, List.length_append, PS.mk.injEq, and_true]
    omega
theorem hasB_first {c : S} (h : (kw c = [110, 97, 109, 101] ∨ kw c = [105, 110, 116]) ∨ c = [40] ∨ c = [116, 114, 117, 101] ∨ c = [102, 97, 108, 115, 101]) {L : List S} (hL : ∀ x ∈ L, (kw x = [107, 101, 121] ∨ kw x = [115, 105, 103, 110]) ∧ x ≠ [40] ∧ x ≠ [116, 114, 117, 101] ∧ x ≠ [102, 97, 108, 115, 101]) : hasB c L = false := by
  cases hb : hasB c L with
  | false => rfl
  | true =>
    exfalso
    obtain ⟨h1, h2, h3, h4⟩ := hL c (hasB_mem.1 hb)
    rcases h with h | h | h | h
    · exact name_ne h h1 rfl
    · exact h2 h
    · exact h3 h
    · exact h4 h
theorem inner_mm {l : List T} {E : PS → Exp × PS} {a b c : Nat} {w : S} {x y : Exp} (hp : (pPeek l ⟨a, false⟩).2.1 = w) (h : w = [109, 105, 110] ∨ w = [109, 97, 120]) (e1 : E ⟨a + 1, false⟩ = (x, ⟨b, false⟩)) (e2 : E ⟨b, false⟩ = (y, ⟨c, false⟩)) : pInner l E ⟨a, false⟩ = (.mk [111, 112] w 0 [x, y], ⟨c, false⟩) := by
  have g : hasB w [[109, 105, 110], [109, 97, 120]] = true := by rcases h with rfl | rfl <;> decide
  simp only [pInner, hp, g, cond_true, e1, e2]
theorem inner_un {l : List T} {E : PS → Exp × PS} {a b : Nat} {w : S} {x : Exp} (hp : (pPeek l ⟨a, false⟩).2.1 = w) (h : w = [33] ∨ w = [105, 110, 116]) (e1 : E ⟨a + 1, false⟩ = (x, ⟨b, false⟩)) : pInner l E ⟨a, false⟩ = (.mk [111, 112] w 0 [x], ⟨b, false⟩) := by
  have g : hasB w [[109, 105, 110], [109, 97, 120]] = false := by rcases h with rfl | rfl <;> decide
  have g2 : hasB w [[33], [105, 110, 116]] = true := by rcases h with rfl | rfl <;> decide
  simp only [pInner, hp, g, g2, cond_true, cond_false, e1]
theorem inner_none {l : List T} {E : PS → Exp × PS} {a b : Nat} {nm : S} (hp : (pPeek l ⟨a, false⟩).2.1 = [110, 111, 110, 101]) (e1 : pOp l ⟨a + 1, false⟩ = (nm, ⟨b, false⟩)) : pInner l E ⟨a, false⟩ = (.mk [110, 111, 110, 101] nm 0 [], ⟨b, false⟩) := by
  simp only [pInner, hp, e1]
  simp [hasB, beqL]
theorem inner_nam {l : List T} {E : PS → Exp × PS} {a b : Nat} {d nm : S} (hp : (pPeek l ⟨a, false⟩).2.1 = d) (h : d = [114, 101, 97, 100] ∨ d = [103, 101, 116] ∨ d = [99, 111, 117, 110, 116]) (e1 : pName l ⟨a + 1, false⟩ = (nm, ⟨b, false⟩)) : pInner l E ⟨a, false⟩ = (.mk d nm 0 [], ⟨b, false⟩) := by
  simp only [pInner, hp, e1]
  rcases h with rfl | rfl | rfl <;> simp [hasB, beqL]
theorem inner_num {l : List T} {E : PS → Exp × PS} {a b c : Nat} {d nm : S} {n : Int} (hp : (pPeek l ⟨a, false⟩).2.1 = d) (h : d = [108, 111, 119] ∨ d = [104, 105, 103, 104]) (e1 : pName l ⟨a + 1, false⟩ = (nm, ⟨b, false⟩)) (e2 : pNum l ⟨b, false⟩ = (n, ⟨c, false⟩)) : pInner l E ⟨a, false⟩ = (.mk d nm n [], ⟨c, false⟩) := by
  simp only [pInner, hp, e1, e2]
  rcases h with rfl | rfl <;> simp [hasB, beqL]
theorem inner_oh {l : List T} {E : PS → Exp × PS} {a b c e : Nat} {d nm : S} {xs : List Exp} (hp : (pPeek l ⟨a, false⟩).2.1 = d) (h : d = [111, 114, 100] ∨ d = [104, 97, 115]) (e1 : pName l ⟨a + 1, false⟩ = (nm, ⟨b, false⟩)) (e2 : pMust l ⟨b, false⟩ [91] = ⟨c, false⟩) (e3 : pExps l E [93] ⟨c, false⟩ = (xs, ⟨e, false⟩)) : pInner l E ⟨a, false⟩ = (.mk d nm 0 xs, ⟨e, false⟩) := by
  simp only [pInner, hp, e1, e2, e3]
  rcases h with rfl | rfl <;> simp [hasB, beqL]
theorem inner_nth {l : List T} {E : PS → Exp × PS} {a b c e : Nat} {nm : S} {n : Int} {x : Exp} (hp : (pPeek l ⟨a, false⟩).2.1 = [110, 116, 104]) (e1 : pName l ⟨a + 1, false⟩ = (nm, ⟨b, false⟩)) (e2 : pNum l ⟨b, false⟩ = (n, ⟨c, false⟩)) (e3 : E ⟨c, false⟩ = (x, ⟨e, false⟩)) : pInner l E ⟨a, false⟩ = (.mk [110, 116, 104] nm n [x], ⟨e, false⟩) := by
  simp only [pInner, hp, e1, e2, e3]
  simp [hasB, beqL]
theorem inner_bin {l : List T} {E : PS → Exp × PS} {a b e : Nat} {c nm : S} {x y : Exp} (hp : (pPeek l ⟨a, false⟩).2.1 = c) (h : (kw c = [110, 97, 109, 101] ∨ kw c = [105, 110, 116]) ∨ c = [40] ∨ c = [116, 114, 117, 101] ∨ c = [102, 97, 108, 115, 101]) (e1 : E ⟨a, false⟩ = (x, ⟨b, false⟩)) (e2 : (pNext l ⟨b, false⟩).1.2.1 = nm) (e3 : pBin l ⟨b, false⟩ = ⟨b + 1, false⟩) (e4 : E ⟨b + 1, false⟩ = (y, ⟨e, false⟩)) : pInner l E ⟨a, false⟩ = (.mk [111, 112] nm 0 [x, y], ⟨e, false⟩) := by
  have g1 : hasB c [[109, 105, 110], [109, 97, 120]] = false := hasB_first h (by decide +kernel)
  have g2 : hasB c [[33], [105, 110, 116]] = false := hasB_first h (by decide +kernel)
  have g3 : hasB c [[110, 111, 110, 101]] = false := hasB_first h (by decide +kernel)
  have g4 : hasB c [[114, 101, 97, 100], [103, 101, 116], [99, 111, 117, 110, 116]] = false := hasB_first h (by decide +kernel)
  have g5 : hasB c [[108, 111, 119], [104, 105, 103, 104]] = false := hasB_first h (by decide +kernel)
  have g6 : hasB c [[111, 114, 100], [104, 97, 115]] = false := hasB_first h (by decide +kernel)
  have g7 : hasB c [[110, 116, 104]] = false := hasB_first h (by decide +kernel)
  simp only [pInner, hp, g1, g2, g3, g4, g5, g6, g7, cond_false, e1, e2, e3, e4]
theorem step_int {l : List T} {E : PS → Exp × PS} {s : PS} {a : Nat} {w : S} (h : (pNext l s).1.1 = [105, 110, 116] ∧ (pNext l s).1.2.1 = w ∧ (pNext l s).2 = ⟨a, false⟩) : pStep l E s = (.mk [105, 110, 116] [] (numV w) [], ⟨a, false⟩) := by
  obtain ⟨h1, h2, h3⟩ := h
  simp [pStep, h1, h2, h3, beqL]
theorem step_var {l : List T} {E : PS → Exp × PS} {s : PS} {a : Nat} {w : S} (h : (pNext l s).1.1 = [110, 97, 109, 101] ∧ (pNext l s).1.2.1 = w ∧ (pNext l s).2 = ⟨a, false⟩) (h1 : (pHas l ⟨a, false⟩ [91]).1 = false) (h2 : pIsCall l ⟨a, false⟩ = false) : pStep l E s = (.mk [118, 97, 114] w 0 [], ⟨a, false⟩) := by
  obtain ⟨g1, g2, g3⟩ := h
  simp [pStep, g1, g2, g3, h1, h2, beqL]
theorem step_at {l : List T} {E : PS → Exp × PS} {s : PS} {a b c : Nat} {w : S} {xs : List Exp} (h : (pNext l s).1.1 = [110, 97, 109, 101] ∧ (pNext l s).1.2.1 = w ∧ (pNext l s).2 = ⟨a, false⟩) (h1 : pHas l ⟨a, false⟩ [91] = (true, ⟨b, false⟩)) (h2 : pExps l E [93] ⟨b, false⟩ = (xs, ⟨c, false⟩)) : pStep l E s = (.mk [97, 116] w 0 xs, ⟨c, false⟩) := by
  obtain ⟨g1, g2, g3⟩ := h
  simp [pStep, g1, g2, g3, h1, h2, beqL]
theorem step_call {l : List T} {E : PS → Exp × PS} {s : PS} {a b c : Nat} {w : S} {xs : List Exp} (h : (pNext l s).1.1 = [110, 97, 109, 101] ∧ (pNext l s).1.2.1 = w ∧ (pNext l s).2 = ⟨a, false⟩) (h1 : (pHas l ⟨a, false⟩ [91]).1 = false) (h2 : pIsCall l ⟨a, false⟩ = true) (h3 : pMust l ⟨a, false⟩ [40] = ⟨b, false⟩) (h4 : pExps l E [41] ⟨b, false⟩ = (xs, ⟨c, false⟩)) : pStep l E s = (.mk [99, 97, 108, 108] w 0 xs, ⟨c, false⟩) := by
  obtain ⟨g1, g2, g3⟩ := h
  simp [pStep, g1, g2, g3, h1, h2, h3, h4, beqL]
theorem step_par {l : List T} {E : PS → Exp × PS} {a b : Nat} {r : List S} {x : Exp} (h : AtW l a ([40] :: r)) (h1 : pInner l E ⟨a + 1, false⟩ = (x, ⟨b, false⟩)) (h2 : pMust l ⟨b, false⟩ [41] = ⟨b + 1, false⟩) : pStep l E ⟨a, false⟩ = (x, ⟨b + 1, false⟩) := by
  obtain ⟨g1, g2, g3⟩ := h.next (by decide +kernel)
  have k : kw [40] = [115, 105, 103, 110] := by decide +kernel
  rw [k] at g1
  simp [pStep, g1, g2, g3, h1, h2, beqL]
theorem pair_eq {x : Exp} {b c : Nat} (h : b = c) : ((x, ⟨b, false⟩) : Exp × PS) = (x, ⟨c, false⟩) := by rw [h]
/-- one step of the reader -/
theorem step_ok {l : List T} {E : PS → Exp × PS} {x : Exp} (hw : wellE x = true) (hE : ∀ y ∈ kids x, Rb l E y) : Rb l (pStep l E) x := by
  obtain ⟨sh, wk⟩ := well_head hw
  have wm := well_mem wk
  intro a r h hN
  have must41 : ∀ {b : Nat} {r : List S}, AtW l b ([41] :: r) → pMust l ⟨b, false⟩ [41] = ⟨b + 1, false⟩ := fun h => h.must (by decide +kernel)
  have nf41 : ∀ {b : Nat} {r : List S}, AtW l b ([41] :: r) → NotF l b := fun h => notF_w h (by decide) (by decide)
  cases sh with
  | int n h0 h1 =>
    rw [wE_int] at h ⊢
    obtain ⟨ok, k, v, _⟩ := num_ok h0 h1
    have g := h.next ok
    rw [k] at g
    rw [step_int g, v]; rfl
  | bool n h0 =>
    rw [wE_bool] at h ⊢
    rcases h0 with rfl | rfl
    · obtain ⟨g1, g2, g3⟩ := h.next (w := [102, 97, 108, 115, 101]) (by decide +kernel)
      have k : kw [102, 97, 108, 115, 101] = [107, 101, 121] := by decide +kernel
      rw [k] at g1
      simp [pStep, g1, g2, g3, beqL, truthW]
    · obtain ⟨g1, g2, g3⟩ := h.next (w := [116, 114, 117, 101]) (by decide +kernel)
      have k : kw [116, 114, 117, 101] = [107, 101, 121] := by decide +kernel
      rw [k] at g1
      simp [pStep, g1, g2, g3, beqL, truthW]
  | var nm h0 =>
    rw [wE_var] at h hN ⊢
    obtain ⟨ok, k⟩ := name_ok h0
    have g := h.next ok
    rw [k] at g
    rw [step_var g hN.1 hN.2]; rfl
  | un nm x h0 =>
    rw [wE_un] at h ⊢
    have h1 : AtW l (a + 1) (nm :: (wE x ++ ([41] :: r))) := by simpa using AtW.tail (w := [40]) h
    have h2 : AtW l (a + 1 + 1 + (wE x).length) ([41] :: r) := h1.tail.app
    have e := hE x (by simp [kids]) _ _ h1.tail (nf41 h2)
    rw [step_par (r := nm :: (wE x ++ ([41] :: r))) (by simpa using h) (inner_un h1.peek.2 h0 e) (must41 h2)]
    exact pair_eq (by simp [kids]; omega)
  | mm nm x y h0 =>
    rw [wE_mm h0] at h ⊢
    have h1 : AtW l (a + 1) (nm :: (wE x ++ (wE y ++ ([41] :: r)))) := by simpa using AtW.tail (w := [40]) h
    have h2 : AtW l (a + 1 + 1 + (wE x).length) (wE y ++ ([41] :: r)) := h1.tail.app
    have h3 : AtW l (a + 1 + 1 + (wE x).length + (wE y).length) ([41] :: r) := h2.app
    have e := hE x (by simp [kids]) _ _ h1.tail (notF_wE (wm y (by simp [kids])) h2)
    have e2 := hE y (by simp [kids]) _ _ h2 (nf41 h3)
    rw [step_par (r := nm :: (wE x ++ (wE y ++ ([41] :: r)))) (by simpa using h) (inner_mm h1.peek.2 h0 e e2) (must41 h3)]
    exact pair_eq (by simp [kids]; omega)
  | bin nm x y h0 =>
    rw [wE_bin h0] at h ⊢
    obtain ⟨_, _, kn, okn, o2, _, n40, n91⟩ := bin_ne h0
    have h1 : AtW l (a + 1) (wE x ++ (nm :: (wE y ++ ([41] :: r)))) := by simpa using AtW.tail (w := [40]) h
    have h2 : AtW l (a + 1 + (wE x).length) (nm :: (wE y ++ ([41] :: r))) := h1.app
    have h3 : AtW l (a + 1 + (wE x).length + 1 + (wE y).length) ([41] :: r) := h2.tail.app
    have e := hE x (by simp [kids]) _ _ h1 (notF_w h2 n91 n40)
    have e2 := hE y (by simp [kids]) _ _ h2.tail (nf41 h3)
    obtain ⟨c, t, ew, hf⟩ := first_wE (well_head (wm x (by simp [kids]))).1
    have h1' : AtW l (a + 1) (c :: (t ++ (nm :: (wE y ++ ([41] :: r))))) := by rw [ew] at h1; simpa using h1
    rw [step_par (r := wE x ++ (nm :: (wE y ++ ([41] :: r)))) (by simpa using h) (inner_bin h1'.peek.2 hf e (h2.next okn).2.1 (h2.bin okn kn o2) e2) (must41 h3)]
    exact pair_eq (by simp [kids]; omega)
  | none nm h0 =>
    rw [wE_none] at h ⊢
    have okn : okW nm ∧ kw nm ≠ [110, 97, 109, 101] := by
      have hm := hasB_mem.1 h0
      simp only [List.mem_cons, List.not_mem_nil, or_false] at hm
      rcases hm with rfl | rfl | rfl | rfl | rfl | rfl <;> decide +kernel
    have h1 := AtW.tail (w := [40]) h
    have h2 := AtW.tail h1
    have h3 := AtW.tail h2
    rw [step_par h (inner_none h1.peek.2 (h2.op okn.1 okn.2 h0)) (must41 h3)]; rfl
  | nam d nm hd h0 =>
    rw [wE_nam hd] at h ⊢
    have h1 := AtW.tail (w := [40]) h
    have h2 := AtW.tail h1
    have h3 := AtW.tail h2
    obtain ⟨ok, k⟩ := name_ok h0
    rw [step_par h (inner_nam h1.peek.2 hd (h2.name ok k)) (must41 h3)]; rfl
  | num d nm n hd h0 hn0 hn1 =>
    rw [wE_num hd] at h ⊢
    have h1 := AtW.tail (w := [40]) h
    have h2 := AtW.tail h1
    have h3 := AtW.tail h2
    have h4 := AtW.tail h3
    obtain ⟨ok, k⟩ := name_ok h0
    obtain ⟨okn, _, v, vc⟩ := num_ok hn0 (by omega : n ≤ 999999999)
    have e := h3.num okn vc
    rw [v] at e
    rw [step_par h (inner_num h1.peek.2 hd (h2.name ok k) e) (must41 h4)]; rfl
  | at_ nm l' h0 hne =>
    rw [wE_at] at h ⊢
    obtain ⟨ok, k⟩ := name_ok h0
    have h0' : AtW l a (nm :: [91] :: (commaJ (wEs l') ++ [93] :: r)) := by simpa using h
    have g := h0'.next ok
    rw [k] at g
    rw [step_at g (h0'.tail.has_t (by decide +kernel)) (exps_ok (.inl rfl) wk hE h0'.tail.tail)]
    exact pair_eq (by simp [kids]; omega)
  | oh d nm l' hd h0 hne =>
    rw [wE_oh hd] at h ⊢
    obtain ⟨ok, k⟩ := name_ok h0
    have h0' : AtW l a ([40] :: d :: nm :: [91] :: (commaJ (wEs l') ++ [93] :: [41] :: r)) := by simpa using h
    have h1 := h0'.tail
    have h2 := h1.tail
    have h3 := h2.tail
    have h4 := h3.tail
    have h5 : AtW l (a + 1 + 1 + 1 + 1 + (commaJ (wEs l')).length + 1) ([41] :: r) := h4.app.tail
    rw [step_par h0' (inner_oh h1.peek.2 hd (h2.name ok k) (h3.must (by decide +kernel)) (exps_ok (.inl rfl) wk hE h4)) (must41 h5)]
    exact pair_eq (by simp [kids]; omega)
  | nth nm n x h0 hn0 hn1 =>
    rw [wE_nth] at h ⊢
    obtain ⟨ok, k⟩ := name_ok h0
    obtain ⟨okn, _, v, vc⟩ := num_ok hn0 (by omega : n ≤ 999999999)
    have h0' : AtW l a ([40] :: [110, 116, 104] :: nm :: Go.Lib.itoa n :: (wE x ++ [41] :: r)) := by simpa using h
    have h1 := h0'.tail
    have h2 := h1.tail
    have h3 := h2.tail
    have h4 := h3.tail
    have h5 : AtW l (a + 1 + 1 + 1 + 1 + (wE x).length) ([41] :: r) := h4.app
    have e := h3.num okn vc
    rw [v] at e
    have ex := hE x (by simp [kids]) _ _ h4 (nf41 h5)
    rw [step_par h0' (inner_nth h1.peek.2 (h2.name ok k) e ex) (must41 h5)]
    exact pair_eq (by simp [kids]; omega)
  | call nm l' h0 =>
    rw [wE_call] at h ⊢
    obtain ⟨ok, k⟩ := name_ok h0
    have h0' : AtW l a (nm :: [40] :: (commaJ (wEs l') ++ [41] :: r)) := by simpa using h
    have g := h0'.next ok
    rw [k] at g
    have hp : pHas l ⟨a + 1, false⟩ [91] = (false, ⟨a + 1, false⟩) := h0'.tail.has_f (by decide)
    rw [step_call g (by rw [hp]) (isCall_args wk h0'.tail) (h0'.tail.must (by decide +kernel)) (exps_ok (.inr rfl) wk hE h0'.tail.tail)]
    exact pair_eq (by simp [kids]; omega)
theorem cE_kid {x y : Exp} (h : y ∈ kids x) : cE y < cE x := by
  cases x with | mk a b n l =>
  have := cL_mem h
  simp only [kids] at this
  simp only [cE]; omega
/-- the reader reads an expression back -/
theorem pExp_ok (l : List T) : ∀ (n : Nat) (x : Exp), wellE x = true → cE x < n → Rb l (pExp l n) x
  | 0, _, _, h => absurd h (Nat.not_lt_zero _)
  | n + 1, x, hw, hn => by
    have : Rb l (pStep l (pExp l n)) x := step_ok hw (fun y hy => pExp_ok l n y (well_mem (well_head hw).2 y hy) (by have := cE_kid hy; omega))
    intro a r h hN
    exact this a r h hN
end Go.Abs

set_option maxRecDepth 100000
namespace Go.Abs
open Go.Proofs
def AllOk (ws : List S) : Prop := ∀ w ∈ ws, okW w
theorem AllOk.cons {w : S} {r : List S} (h : okW w) (hr : AllOk r) : AllOk (w :: r) := by
  intro v hv
  rcases List.mem_cons.1 hv with rfl | hv
  · exact h
  · exact hr v hv
theorem AllOk.nil : AllOk [] := fun _ h => by simp at h
theorem AllOk.app {a b : List S} (ha : AllOk a) (hb : AllOk b) : AllOk (a ++ b) := by
  intro v hv
  rcases List.mem_append.1 hv with h | h
  · exact ha v h
  · exact hb v h
end Go.Abs
