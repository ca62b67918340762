/- Texts cut at a byte, and numerals: plain laws. -/
import Derived.Lib.SplitLaws
import Derived.Lib.AtoiAll
import Derived.Lib.ItoaNum
import Derived.Test.YthhfalbeafocoaaGreatDoorMc
import Derived.WalkKit
import Derived.Deep.DeepFit
import Derived.Test.YthhfalbeafocoaaGreatDoorMd
namespace Go.Abs
open Go
/-- a text cut at each c -/
def spl (c : UInt8) : List UInt8 → List (List UInt8)
  | [] => [[]]
  | b :: r => match decide (b = c) with
    | true => [] :: spl c r
    | false => (match spl c r with | [] => [[b]] | x :: l => (b :: x) :: l)
theorem spl_ne (c : UInt8) : ∀ s, spl c s ≠ []
  | [] => by simp [spl]
  | b :: r => by
    unfold spl
    split
    · simp
    · split <;> simp
theorem spl_cons_eq (c : UInt8) (r : List UInt8) : spl c (c :: r) = [] :: spl c r := by simp [spl]
theorem spl_cons_ne {b c : UInt8} (h : b ≠ c) (r x : List UInt8) (l : List (List UInt8)) (hr : spl c r = x :: l) : spl c (b :: r) = (b :: x) :: l := by simp [spl, h, hr]
theorem index_ne {b c : UInt8} (h : b ≠ c) (l : List UInt8) : Lib.index (b :: l) [c] = if Lib.index l [c] == -1 then -1 else Lib.index l [c] + 1 := by
  have hp : ([c] : List UInt8).isPrefixOf (b :: l) = false := by simp [List.isPrefixOf, Ne.symm h]
  rw [Lib.index, hp]; simp
theorem index_eq (c : UInt8) (l : List UInt8) : Lib.index (c :: l) [c] = 0 := by rw [Lib.index]; simp [List.isPrefixOf]
theorem splitK_spl (c : UInt8) : ∀ s : List UInt8, Lib.splitK [c] 0 (s.count c) s = spl c s
  | [] => by simp [Lib.splitK, spl]
  | b :: r => by
    by_cases h : b = c
    · subst h
      rw [List.count_cons_self, Lib.splitK, index_eq]
      simp only [spl_cons_eq]
      rw [← splitK_spl b r]
      simp
    · rw [List.count_cons_of_ne (by simpa using h)]
      have ih := splitK_spl c r
      cases hk : r.count c with
      | zero =>
        rw [hk] at ih
        simp only [Lib.splitK] at ih ⊢
        rw [spl_cons_ne h r r [] ih.symm]
      | succ k =>
        rw [hk] at ih
        rw [Lib.splitK] at ih ⊢
        rw [index_ne h]
        by_cases hm : Lib.index r [c] = -1
        · simp only [hm, beq_self_eq_true, if_true] at ih ⊢
          rw [spl_cons_ne h r r [] ih.symm]
        · have hge := Lib.index_ge r [c]
          have hb : (Lib.index r [c] == -1) = false := by simpa using hm
          have hb2 : (Lib.index r [c] + 1 == -1) = false := by simp; omega
          simp only [hb, hb2, Bool.false_eq_true, if_false] at ih ⊢
          rw [spl_cons_ne h r _ _ ih.symm]
          have e : (Lib.index r [c] + 1).toNat = (Lib.index r [c]).toNat + 1 := by omega
          simp [e, List.take_succ_cons, Nat.add_right_comm]
theorem split_spl (c : UInt8) (s : List UInt8) : Lib.split s [c] = spl c s := by
  unfold Lib.split
  rw [Lib.count_one, splitK_spl]
theorem cut_nil (c : UInt8) : Lib.cut [] [c] = ([], [], false) := by simp [Lib.cut, Lib.index]
theorem cut_eq (c : UInt8) (r : List UInt8) : Lib.cut (c :: r) [c] = ([], r, true) := by simp [Lib.cut, index_eq]
theorem cut_ne {b c : UInt8} (h : b ≠ c) (r : List UInt8) : Lib.cut (b :: r) [c] = (b :: (Lib.cut r [c]).1, (Lib.cut r [c]).2.1, (Lib.cut r [c]).2.2) := by
  unfold Lib.cut
  rw [index_ne h]
  have hge := Lib.index_ge r [c]
  by_cases hm : Lib.index r [c] = -1
  · simp [hm]
  · have hb : (Lib.index r [c] == -1) = false := by simpa using hm
    have h0 : 0 ≤ Lib.index r [c] := by omega
    have h1 : 0 ≤ Lib.index r [c] + 1 := by omega
    have e : (Lib.index r [c] + 1).toNat = (Lib.index r [c]).toNat + 1 := by omega
    simp [hb, h0, h1, e, Nat.add_right_comm]
/-- a text, cut at the first c -/
theorem spl_cut (c : UInt8) : ∀ s : List UInt8, spl c s = match (Lib.cut s [c]).2.2 with
    | true => (Lib.cut s [c]).1 :: spl c (Lib.cut s [c]).2.1
    | false => [(Lib.cut s [c]).1]
  | [] => by simp [cut_nil, spl]
  | b :: r => by
    by_cases h : b = c
    · subst h; simp [cut_eq, spl_cons_eq]
    · rw [cut_ne h]
      have ih := spl_cut c r
      cases hf : (Lib.cut r [c]).2.2 with
      | true => rw [hf] at ih; simp only at ih ⊢; exact spl_cons_ne h _ _ _ ih
      | false => rw [hf] at ih; simp only at ih ⊢; exact spl_cons_ne h _ _ _ ih
theorem cut_false (c : UInt8) : ∀ {s : List UInt8}, (Lib.cut s [c]).2.2 = false → (Lib.cut s [c]).1 = s ∧ (Lib.cut s [c]).2.1 = []
  | [], _ => by simp [cut_nil]
  | b :: r, hf => by
    by_cases h : b = c
    · subst h; simp [cut_eq] at hf
    · rw [cut_ne h] at hf ⊢
      obtain ⟨h1, h2⟩ := cut_false c (s := r) hf
      exact ⟨by simp [h1], h2⟩
theorem spl_length (c : UInt8) : ∀ s : List UInt8, (spl c s).length = s.count c + 1
  | [] => by simp [spl]
  | b :: r => by
    by_cases h : b = c
    · subst h; simp [spl_cons_eq, spl_length b r]
    · have ih := spl_length c r
      cases hx : spl c r with
      | nil => exact absurd hx (spl_ne c r)
      | cons x l =>
        rw [hx] at ih
        rw [spl_cons_ne h r x l hx, List.count_cons_of_ne (by simpa using h)]
        simpa using ih
theorem spl_one (c : UInt8) {s : List UInt8} (h : (spl c s).length = 1) : spl c s = [s] := by
  have h1 := spl_cut c s
  cases hf : (Lib.cut s [c]).2.2 with
  | true =>
    rw [hf] at h1
    simp only at h1
    rw [h1] at h
    have := List.length_pos_iff.2 (spl_ne c (Lib.cut s [c]).2.1)
    simp only [List.length_cons] at h
    omega
  | false =>
    rw [hf] at h1
    simp only at h1
    rw [h1, (cut_false c hf).1]
theorem spl_notin (c : UInt8) {s : List UInt8} (h : c ∉ s) : spl c s = [s] := by
  refine spl_one c ?_
  rw [spl_length, List.count_eq_zero_of_not_mem h]
/-- what stands in a text, and is no c, stands in a piece -/
theorem spl_mem {b c : UInt8} (hb : b ≠ c) : ∀ {s : List UInt8}, b ∈ s → ∃ x, x ∈ spl c s ∧ b ∈ x
  | [], h => by simp at h
  | d :: r, h => by
    cases hx : spl c r with
    | nil => exact absurd hx (spl_ne c r)
    | cons x l =>
      by_cases hd : d = c
      · subst hd
        rcases List.mem_cons.1 h with rfl | h
        · exact absurd rfl hb
        · obtain ⟨y, h1, h2⟩ := spl_mem hb h
          exact ⟨y, by rw [spl_cons_eq]; exact List.mem_cons_of_mem _ h1, h2⟩
      · rw [spl_cons_ne hd r x l hx]
        rcases List.mem_cons.1 h with rfl | h
        · exact ⟨b :: x, by simp, by simp⟩
        · obtain ⟨y, h1, h2⟩ := spl_mem hb h
          rw [hx] at h1
          rcases List.mem_cons.1 h1 with rfl | h1
          · exact ⟨d :: y, by simp, List.mem_cons_of_mem _ h2⟩
          · exact ⟨y, List.mem_cons_of_mem _ h1, h2⟩
end Go.Abs

namespace Go.Abs
open Go
def digB (b : UInt8) : Bool := decide (48 ≤ b.toNat) && decide (b.toNat ≤ 57)
theorem dec_dig (u : Nat) : (Lib.decDigits u).all digB = true := by
  induction u using Nat.strongRecOn with
  | _ u ih =>
    rw [Lib.decDigits]
    split
    · rename_i h
      have e : (UInt8.ofNat (48 + u)).toNat = 48 + u := by rw [UInt8.toNat_ofNat']; omega
      simp only [List.all_cons, List.all_nil, Bool.and_true, digB, e]
      simp; omega
    · rename_i h
      have e : (UInt8.ofNat (48 + u % 10)).toNat = 48 + u % 10 := by rw [UInt8.toNat_ofNat']; omega
      rw [List.all_append, ih (u / 10) (by omega)]
      simp only [List.all_cons, List.all_nil, Bool.and_true, digB, e, Bool.true_and]
      simp; omega
theorem dec_ne (u : Nat) : Lib.decDigits u ≠ [] := by
  rw [Lib.decDigits]
  split <;> simp
theorem itoa_dig {v : Int} (h : 0 ≤ v) : (Lib.itoa v).all digB = true ∧ Lib.itoa v ≠ [] := by
  unfold Lib.itoa
  rw [if_neg (by omega)]
  exact ⟨dec_dig _, dec_ne _⟩
theorem parse_dig : ∀ (l : List UInt8) (acc k : Nat), l.all digB = true → acc < 10 ^ k → k + l.length ≤ 18 → ∃ u, Lib.parseUint10 acc l = .ok u ∧ u < 10 ^ (k + l.length)
  | [], acc, k, _, ha, _ => ⟨acc, rfl, by simpa using ha⟩
  | c :: r, acc, k, hd, ha, hk => by
    simp only [List.all_cons, Bool.and_eq_true, digB, decide_eq_true_eq] at hd
    simp only [List.length_cons] at hk
    have hp : (10 : Nat) ^ k ≤ 10 ^ 17 := Nat.pow_le_pow_right (by omega) (by omega)
    have h17 : (10 : Nat) ^ 17 = 100000000000000000 := by decide
    obtain ⟨u, h1, h2⟩ := parse_dig r (acc * 10 + (c.toNat - 48)) (k + 1) hd.2 (by rw [Nat.pow_succ]; omega) (by omega)
    refine ⟨u, ?_, by rw [show k + (c :: r).length = k + 1 + r.length by simp; omega]; exact h2⟩
    rw [Lib.parseUint10, if_pos hd.1, if_neg (by omega), if_neg (by omega)]
    exact h1
theorem atoi_dig {s : List UInt8} (hd : s.all digB = true) (h0 : s ≠ []) (hl : s.length ≤ 18) : ∃ u : Nat, Lib.atoiAll s = .ok (u : Int) ∧ u < 10 ^ s.length := by
  obtain ⟨c, r, rfl⟩ := List.exists_cons_of_ne_nil h0
  obtain ⟨u, h1, h2⟩ := parse_dig (c :: r) 0 0 hd (by omega) (by omega)
  have hc : digB c = true := by simp only [List.all_cons, Bool.and_eq_true] at hd; exact hd.1
  simp only [digB, Bool.and_eq_true, decide_eq_true_eq] at hc
  have hp : (10 : Nat) ^ (c :: r).length ≤ 10 ^ 18 := Nat.pow_le_pow_right (by omega) hl
  have h18 : (10 : Nat) ^ 18 = 1000000000000000000 := by decide
  rw [Nat.zero_add] at h2
  refine ⟨u, ?_, h2⟩
  simp only [Lib.atoiAll]
  have e1 : ¬ (c.toNat = 43 ∨ c.toNat = 45) := by omega
  have e2 : ¬ c.toNat = 45 := by omega
  rw [if_neg e1]
  simp only [Lib.parseMag, reduceCtorEq, if_false, h1, e2, not_false_eq_true, true_and, false_and]
  rw [if_neg (by omega)]
/-- the number beside Atoi's error -/
def atoiN (s : List UInt8) : Int := match Lib.atoiAll s with | .ok v => v | .range => Lib.atoiSat s | _ => 0
/-- the desk's number -/
def numP (s : List UInt8) : Bool := match Lib.atoiAll s with
  | .ok v => decide (s.length ≤ 5) && (decide (Lib.itoa v = s) && decide (0 ≤ v))
  | _ => false
/-- the reference's -/
def numR' (s : List UInt8) : Bool := decide (1 ≤ s.length) && (decide (s.length ≤ 5) && (s.all digB && decide (Lib.itoa (atoiN s) = s)))
theorem num_eq (s : List UInt8) : numP s = numR' s := by
  rw [Bool.eq_iff_iff]
  constructor
  · intro h
    unfold numP at h
    split at h
    · rename_i v hv
      simp only [Bool.and_eq_true, decide_eq_true_eq] at h
      obtain ⟨h1, h2, h3⟩ := h
      obtain ⟨h4, h5⟩ := itoa_dig h3
      rw [h2] at h4 h5
      have := List.length_pos_iff.2 h5
      simp only [numR', atoiN, hv, Bool.and_eq_true, decide_eq_true_eq]
      exact ⟨by omega, h1, h4, h2⟩
    · cases h
  · intro h
    simp only [numR', Bool.and_eq_true, decide_eq_true_eq] at h
    obtain ⟨h0, h1, h2, h3⟩ := h
    obtain ⟨u, hu, _⟩ := atoi_dig h2 (List.length_pos_iff.1 (by omega)) (by omega)
    simp only [atoiN, hu] at h3
    simp only [numP, hu, Bool.and_eq_true, decide_eq_true_eq]
    exact ⟨h1, h3, by omega⟩
theorem num_dig {s : List UInt8} (h : numP s = true) : s.all digB = true := by
  rw [num_eq] at h
  simp only [numR', Bool.and_eq_true] at h
  exact h.2.2.1
theorem num_notin {s : List UInt8} {c : UInt8} (hc : digB c = false) (h : numP s = true) : c ∉ s := fun hm => by
  have := List.all_eq_true.1 (num_dig h) c hm
  rw [hc] at this
  cases this
/-- the numbers of a schedule -/
def lstP (s : List UInt8) : Bool := match decide (s = [45]) with
  | true => true
  | false => (spl 44 s).all numP && decide ((spl 44 s).length ≤ 200)
theorem lst_notin {s : List UInt8} (h : lstP s = true) : (32 : UInt8) ∉ s := by
  intro hm
  unfold lstP at h
  split at h
  · rename_i hs
    have hs := of_decide_eq_true hs
    subst hs
    simp at hm
  · simp only [Bool.and_eq_true] at h
    obtain ⟨x, h1, h2⟩ := spl_mem (b := 32) (c := 44) (by decide) hm
    exact num_notin (by decide) (List.all_eq_true.1 h.1 x h1) h2
/-- what stands behind a word, by the letters of what it needs: the program's way -/
def behP (nm : List UInt8 → Bool) (k : UInt8) (x : List UInt8) : Bool := match decide (k = 110), decide (k = 108) with
  | true, _ => numP x
  | false, true => lstP x
  | false, false => nm x
def loopP (nm : List UInt8 → Bool) : List UInt8 → List (List UInt8) → Bool
  | [], _ => true
  | _ :: _, [] => false
  | k :: ks, x :: l => behP nm k x && loopP nm ks l
/-- the shape behind the word, in the program's way: as many pieces as letters, each as it must be -/
def restP (nm : List UInt8 → Bool) (need line : List UInt8) : Bool := decide ((spl 32 line).length = 1 + need.length) && loopP nm need (spl 32 line).tail
theorem restP_none (nm : List UInt8 → Bool) (line : List UInt8) : restP nm [] line = !(Lib.cut line [32]).2.2 := by
  unfold restP
  rw [spl_cut]
  cases (Lib.cut line [32]).2.2 with
  | false => simp [loopP]
  | true =>
    have := List.length_pos_iff.2 (spl_ne 32 (Lib.cut line [32]).2.1)
    have e : ¬ ((Lib.cut line [32]).1 :: spl 32 (Lib.cut line [32]).2.1).length = 1 + ([] : List UInt8).length := by simp only [List.length_cons, List.length_nil]; omega
    simp only [decide_eq_false e, Bool.false_and, Bool.not_true]
theorem restP_one (nm : List UInt8 → Bool) (k : UInt8) (line : List UInt8) (hn : ∀ x, behP nm k x = true → (32 : UInt8) ∉ x) : restP nm [k] line = ((Lib.cut line [32]).2.2 && behP nm k (Lib.cut line [32]).2.1) := by
  unfold restP
  rw [spl_cut]
  cases (Lib.cut line [32]).2.2 with
  | false => simp
  | true =>
    simp only [List.length_cons, List.length_nil, List.tail_cons, Bool.true_and]
    by_cases h : (32 : UInt8) ∈ (Lib.cut line [32]).2.1
    · have e : ¬ (spl 32 (Lib.cut line [32]).2.1).length + 1 = 1 + (0 + 1) := by
        rw [spl_length]
        have := List.count_pos_iff.2 h
        omega
      rw [decide_eq_false e, Bool.false_and]
      cases hb : behP nm k (Lib.cut line [32]).2.1 with
      | false => rfl
      | true => exact absurd h (hn _ hb)
    · rw [spl_notin 32 h]
      simp [loopP]
theorem restP_two (nm : List UInt8 → Bool) (line : List UInt8) : restP nm [110, 110] line = ((Lib.cut line [32]).2.2 && ((Lib.cut (Lib.cut line [32]).2.1 [32]).2.2 && (numP (Lib.cut (Lib.cut line [32]).2.1 [32]).1 && numP (Lib.cut (Lib.cut line [32]).2.1 [32]).2.1))) := by
  unfold restP
  rw [spl_cut]
  cases (Lib.cut line [32]).2.2 with
  | false => simp
  | true =>
    simp only [List.length_cons, List.length_nil, List.tail_cons, Bool.true_and]
    generalize (Lib.cut line [32]).2.1 = r
    rw [spl_cut]
    cases (Lib.cut r [32]).2.2 with
    | false => simp
    | true =>
      simp only [List.length_cons, Bool.true_and]
      by_cases h : (32 : UInt8) ∈ (Lib.cut r [32]).2.1
      · have e : ¬ (spl 32 (Lib.cut r [32]).2.1).length + 1 + 1 = 1 + (0 + 1 + 1) := by
          rw [spl_length]
          have := List.count_pos_iff.2 h
          omega
        rw [decide_eq_false e, Bool.false_and]
        cases hb : numP (Lib.cut r [32]).2.1 with
        | false => simp
        | true => exact absurd h (num_notin (by decide) hb)
      · rw [spl_notin 32 h]
        simp [loopP, behP]
end Go.Abs

set_option maxRecDepth 10000
namespace Go.Proofs
open Go.RowKit Go
/-- a variable that holds an error, or none -/
def ErrV (w : World) (g : Nat) : Prop := ∃ ev, w.cell? ⟨g, 0, none⟩ = some ev ∧ (ev = .nilIface ∨ ∃ te pe, ev = .iface te pe)
theorem bytesW_below {w w1 : World} {t : Nat} (h : w1 = w ∨ ∃ k, w1 = Lib.bytesWorld w t k) : Below w.heap.size w w1 := by
  rcases h with rfl | ⟨k, rfl⟩
  · exact Below.refl _ _
  · exact Lib.bytesWorld_below _ _ _
theorem tab_below {P : Program} {w w1 : World} {n : String} {k : IntKind} {zs : List Int} (hb : Below w.heap.size w w1) (h : Lib.TabIs P w n k zs) : Lib.TabIs P w1 n k zs := by
  unfold Lib.TabIs at h ⊢
  unfold World.var? at h ⊢
  cases hg : P.globalNamed n with
  | none => rw [hg] at h; cases h
  | some g =>
    rw [hg] at h
    simp only [Option.bind_some] at h ⊢
    by_cases hlt : g < w.heap.size
    · rw [hb.block g hlt]; exact h
    · rw [Array.getElem?_eq_none (by omega)] at h; cases h
theorem byteList (s : ByteArray) : s.toList = s.data.toList := ByteArray.toList_eq s
set_option maxHeartbeats 2000000 in
theorem Tryz.number_call (s : ByteArray) (hlim : s.size ≤ 281474976710656) (w : World) (htab : Lib.TabIs Tryz.prog w "internal/strconv.uint64pow10" .u64 Lib.pow10Tab) (h2 : ErrV w 2) (h3 : ErrV w 3) :
    Calls Tryz.prog 24 #[.string s] w fun e w' => e = .returned (.tuple #[.int .i64 (Abs.atoiN s.data.toList), .bool (Abs.numP s.data.toList)]) ∧ Below w.heap.size w w' := by
  cases hA : Lib.atoiAll s.data.toList
  · rename_i v
    have cA := Tryz.strconv_Atoi_ok s (by omega) v hA w
    have hv := Lib.atoiAll_bounds hA
    have hsz : s.data.toList.length = s.size := Array.length_toList
    rw [show Abs.atoiN s.data.toList = v by simp only [Abs.atoiN, hA], show Abs.numP s.data.toList = (decide (s.size ≤ 5) && (decide (Lib.itoa v = s.data.toList) && decide (0 ≤ v))) by simp only [Abs.numP, hA, hsz]]
    go_enter Tryz.func24, Tryz.ntmps24
    go_wp2_with (first
      | (go_at_call 54; go_fit cA; rintro e w1 ⟨rfl, hw⟩)
      | (go_at_call 13; refine (Tryz.strconv_Itoa v hv.1 hv.2 _ (tab_below (bytesW_below (by assumption)) htab)).mono ?_; rintro e w2 ⟨rfl, k, os, rfl⟩))
    · go_ret2
      rename_i h1 h2
      rw [byteList] at h2
      refine ⟨?_, ?_⟩
      · rw [decide_eq_true (show s.size ≤ 5 by omega), decide_eq_true h2]; rfl
      · exact (bytesW_below hw).trans ⟨rfl, rfl, rfl, by simp [Go.Sort.grow], fun b hb' => by
          have hb'' : b < (w1.drewN k).heap.size := Nat.lt_of_lt_of_le hb' (bytesW_below hw).size
          show ((w1.drewN k).heap ++ os)[b]? = _
          rw [Array.getElem?_append_left hb'']; rfl⟩
    · go_ret2
      rename_i h1 h2
      rw [byteList] at h2
      refine ⟨?_, ?_⟩
      · rw [decide_eq_true (show s.size ≤ 5 by omega), decide_eq_false h2]; rfl
      · exact (bytesW_below hw).trans ⟨rfl, rfl, rfl, by simp [Go.Sort.grow], fun b hb' => by
          have hb'' : b < (w1.drewN k).heap.size := Nat.lt_of_lt_of_le hb' (bytesW_below hw).size
          show ((w1.drewN k).heap ++ os)[b]? = _
          rw [Array.getElem?_append_left hb'']; rfl⟩
    · go_ret2
      rename_i h1
      exact ⟨by rw [decide_eq_false (show ¬ s.size ≤ 5 by omega)]; rfl, bytesW_below hw⟩
  · obtain ⟨ev, h2, hev⟩ := h2
    have cA := Any.strconv_Atoi_syntax Tryz.laysC172 s hlim hA ev w h2 hev
    simp only [Abs.numP, Abs.atoiN, hA]
    go_enter Tryz.func24, Tryz.ntmps24
    go_wp2_with (go_at_call 54; go_fit cA; rintro e w1 ⟨N, rfl, hN0, hN, hb⟩)
    go_ret2
    exact ⟨rfl, hb⟩
  · obtain ⟨ev, h3, hev⟩ := h3
    have cA := Tryz.strconv_Atoi_range s hlim hA ev w h3 hev
    simp only [Abs.numP, Abs.atoiN, hA]
    go_enter Tryz.func24, Tryz.ntmps24
    go_wp2_with (go_at_call 54; go_fit cA; rintro e w1 ⟨N, rfl, hN0, hN, hb⟩)
    go_ret2
    exact ⟨rfl, hb⟩
end Go.Proofs
namespace Go.Abs
open Go.Proofs Go.RowKit
theorem errV_of {W0 : World} {κ : Gh} {σ : Log} {a : Act} {w : World} (hs : RepS W0 κ σ a w) {g : Nat} (h : ErrV W0 g) : ErrV w g := by
  obtain ⟨ev, h1, h2⟩ := h
  refine ⟨ev, ?_, h2⟩
  have hlt : g < W0.heap.size := by
    cases h : W0.heap[g]? with
    | none => simp [Go.World.cell?, h] at h1
    | some x => exact (Array.getElem?_eq_some_iff.1 h).1
  rw [hs.oldcell hlt]; exact h1
/-- THE DESK'S NUMBER -/
theorem c24 (W0 : Go.World) (hpow : Go.Lib.TabIs Tryz.prog W0 "internal/strconv.uint64pow10" .u64 Go.Lib.pow10Tab) (h2 : ErrV W0 2) (h3 : ErrV W0 3) (s : List UInt8) (hl : s.length ≤ 281474976710656) :
    Ctr Tryz.prog W0 24 [.sc (.s s)] [] (.tup [.sc (.i .i64 (atoiN s)), .sc (.b (numP s))]) [] := by
  refine ctr_lib (by kernel_rfl) rfl fun κ w vals hsz hs => ?_
  have h0 := (hs.arg (n := 0) rfl).sc_inv
  rw [vals1 hsz, h0]
  refine (Tryz.number_call ⟨s.toArray⟩ (by simpa [ByteArray.size] using hl) w (hs.tab hpow) (errV_of hs h2) (errV_of hs h3)).mono ?_
  rintro e w' ⟨rfl, hb⟩
  refine ⟨_, rfl, hb, .tup _ _ rfl fun j v hj => ?_⟩
  match j, hj with
  | 0, hj => simp at hj; subst hj; exact .sc (.i .i64 (atoiN s))
  | 1, hj => simp at hj; subst hj; exact .sc (.b (numP s))
  | j + 2, hj => simp at hj
theorem atoi_ok (W0 : Go.World) (s : List UInt8) (hl : s.length ≤ 281474976710656) (v : Int) (h : Go.Lib.atoiAll s = .ok v) : Ctr Tryz.prog W0 54 [.sc (.s s)] [] (.tup [.sc (.i .i64 v), .sc .ni]) [] := by
  refine ctr_lib (by kernel_rfl) rfl fun κ w vals hsz hs => ?_
  have h0 := (hs.arg (n := 0) rfl).sc_inv
  rw [vals1 hsz, h0]
  refine (Tryz.strconv_Atoi_ok ⟨s.toArray⟩ (by have : (⟨s.toArray⟩ : ByteArray).size = s.length := by simp [ByteArray.size]
                                               omega) v h w).mono ?_
  rintro e w' ⟨rfl, hw⟩
  refine ⟨_, rfl, bytesW_below hw, .tup _ _ rfl fun j v hj => ?_⟩
  match j, hj with
  | 0, hj => simp at hj; subst hj; exact .sc (.i .i64 _)
  | 1, hj => simp at hj; subst hj; exact .sc .ni
  | j + 2, hj => simp at hj
theorem cut_ctr (W0 : Go.World) (hm : ∃ m, W0.cell? ⟨0, 0, none⟩ = some (.int .i64 m)) (s sep : List UInt8) (hl : s.length < 4294967281) :
    Ctr Tryz.prog W0 17 [.sc (.s s), .sc (.s sep)] [] (.tup [.sc (.s (Go.Lib.cut s sep).1), .sc (.s (Go.Lib.cut s sep).2.1), .sc (.b (Go.Lib.cut s sep).2.2)]) [] := by
  refine ctr_lib (by kernel_rfl) rfl fun κ w vals hsz hs => ?_
  have h0 := (hs.arg (n := 0) rfl).sc_inv
  have h1' := (hs.arg (n := 1) rfl).sc_inv
  rw [vals2 hsz, h0, h1']
  obtain ⟨m, hm⟩ := hm
  have hm' : w.cell? ⟨0, 0, none⟩ = some (.int .i64 m) := by
    have hlt : 0 < W0.heap.size := by
      cases h : W0.heap[0]? with
      | none => simp [Go.World.cell?, h] at hm
      | some x => exact (Array.getElem?_eq_some_iff.1 h).1
    rw [hs.oldcell hlt]; exact hm
  refine (Tryz.strings_Cut ⟨s.toArray⟩ ⟨sep.toArray⟩ m w (by simpa [ByteArray.size] using hl) hm').mono ?_
  rintro e w' ⟨rfl, n, rfl⟩
  refine ⟨_, rfl, ⟨rfl, rfl, rfl, Nat.le_refl _, fun _ _ => rfl⟩, .tup _ _ rfl fun j v hj => ?_⟩
  match j, hj with
  | 0, hj => simp at hj; subst hj; exact .sc (.s _)
  | 1, hj => simp at hj; subst hj; exact .sc (.s _)
  | 2, hj => simp at hj; subst hj; exact .sc (.b _)
  | j + 3, hj => simp at hj
/-- split at one byte -/
theorem split1_ctr (W0 : Go.World) (hm : ∃ m, W0.cell? ⟨0, 0, none⟩ = some (.int .i64 m)) (s : List UInt8) (c : UInt8) (hl : s.length < 4294967281) :
    Ctr Tryz.prog W0 22 [.sc (.s s), .sc (.s [c])] [] (.sl 1 (strsD (spl c s)) .full) [] := by
  have e : (Go.Lib.splitB ⟨[c].toArray⟩ 0 (Go.Lib.countB ⟨s.toArray⟩ ⟨[c].toArray⟩) ⟨s.toArray⟩).map (·.data.toList) = spl c s := by
    rw [Go.Lib.splitB_data, ← split_spl]; rfl
  refine split_ctr W0 hm s [c] hl (Nat.le_refl _) _ e ?_
  rw [← e, List.length_map]
  exact Go.Lib.splitB_all _ (Nat.le_refl _) 0 _ _ rfl
end Go.Abs

set_option maxRecDepth 100000
namespace Go.Abs
open Go.Proofs
def F20_ : Fn := ⟨.seq (.reg [⟨none, .mv 2 (.c (.sc (.i .i64 0)))⟩, ⟨none, .mv 3 (.c (.sc (.b false)))⟩]) (.seq (.seq (.reg [⟨none, .mv 7 (.t 0)⟩, ⟨none, .lenS 8 (.t 7)⟩, ⟨none, .bin 9 .lss (.t 8) (.c (.sc (.i .i64 1)))⟩, ⟨none, .mv 10 (.t 9)⟩, ⟨some ((10, false)), .mv 11 (.t 0)⟩, ⟨some ((10, false)), .lenS 12 (.t 11)⟩, ⟨some ((10, false)), .bin 13 .gtr (.t 12) (.c (.sc (.i .i64 5)))⟩, ⟨none, .pick 14 (.t 10) (.c (.sc (.b true))) (.t 13)⟩]) (.cond (.t 14) (.seq (.reg [⟨none, .mv 2 (.c (.sc (.i .i64 0)))⟩, ⟨none, .mv 3 (.c (.sc (.b false)))⟩]) .ret) .skip)) (.seq (.seq (.reg [⟨none, .mv 4 (.c (.sc (.i .i64 0)))⟩]) (.block 0 (.loop (.seq (.seq (.reg [⟨none, .mv 15 (.t 4)⟩, ⟨none, .mv 16 (.t 0)⟩, ⟨none, .lenS 17 (.t 16)⟩, ⟨none, .bin 18 .lss (.t 15) (.t 17)⟩]) (.cond (.t 18) .skip (.exit 0))) (.seq (.block 1 (.seq (.reg [⟨none, .mv 21 (.t 0)⟩, ⟨none, .mv 22 (.t 4)⟩, ⟨none, .ix 23 (.t 21) (.t 22)⟩, ⟨none, .bin 24 .lss (.t 23) (.c (.sc (.i .u8 48)))⟩, ⟨none, .mv 25 (.t 24)⟩, ⟨some ((25, false)), .mv 26 (.t 0)⟩, ⟨some ((25, false)), .mv 27 (.t 4)⟩, ⟨some ((25, false)), .ix 28 (.t 26) (.t 27)⟩, ⟨some ((25, false)), .bin 29 .gtr (.t 28) (.c (.sc (.i .u8 57)))⟩, ⟨none, .pick 30 (.t 25) (.c (.sc (.b true))) (.t 29)⟩]) (.cond (.t 30) (.seq (.reg [⟨none, .mv 2 (.c (.sc (.i .i64 0)))⟩, ⟨none, .mv 3 (.c (.sc (.b false)))⟩]) .ret) .skip))) (.reg [⟨none, .mv 19 (.t 4)⟩, ⟨none, .bin 20 .add (.t 19) (.c (.sc (.i .i64 1)))⟩, ⟨none, .mv 4 (.t 20)⟩])))))) (.seq (.reg [⟨none, .mv 32 (.t 0)⟩, ⟨none, .call (some 33) (.c (.fn 54 [])) [.t 32]⟩, ⟨none, .mv 31 (.t 33)⟩, ⟨none, .ext 34 (.t 31) 0⟩, ⟨none, .ext 35 (.t 31) 1⟩, ⟨none, .mv 5 (.t 34)⟩, ⟨none, .mv 6 (.t 35)⟩]) (.seq (.reg [⟨none, .mv 36 (.t 5)⟩, ⟨none, .mv 37 (.t 5)⟩, ⟨none, .call (some 38) (.c (.fn 13 [])) [.t 37]⟩, ⟨none, .mv 39 (.t 0)⟩, ⟨none, .bin 40 .eql (.t 38) (.t 39)⟩, ⟨none, .mv 2 (.t 36)⟩, ⟨none, .mv 3 (.t 40)⟩]) .ret)))), [(2, 0), (3, 0)], 41, []⟩
theorem F20_ok : compT Tryz.prog (fun _ => an0) 20 = some F20_ := by kernel_rfl
def F18_ : Fn := ⟨.seq (.reg [⟨none, .mv 2 (.c (.sl 1 [] .full))⟩, ⟨none, .mv 3 (.c (.sc (.b false)))⟩]) (.seq (.seq (.reg [⟨none, .mv 9 (.t 0)⟩, ⟨none, .bin 10 .eql (.t 9) (.c (.sc (.s [45])))⟩]) (.cond (.t 10) (.seq (.reg [⟨none, .mv 2 (.c (.sl 1 [] .full))⟩, ⟨none, .mv 3 (.c (.sc (.b true)))⟩]) .ret) .skip)) (.seq (.reg [⟨none, .mv 11 (.t 0)⟩, ⟨none, .call (some 12) (.c (.fn 22 [])) [.t 11, .c (.sc (.s [44]))]⟩, ⟨none, .mv 4 (.t 12)⟩]) (.seq (.reg [⟨none, .mv 5 (.c (.sl 1 [] .full))⟩]) (.seq (.seq (.reg [⟨none, .mv 6 (.c (.sc (.i .i64 0)))⟩]) (.block 0 (.loop (.seq (.seq (.reg [⟨none, .mv 13 (.t 6)⟩, ⟨none, .mv 14 (.t 4)⟩, ⟨none, .len 15 (.t 14)⟩, ⟨none, .bin 16 .lss (.t 13) (.t 15)⟩]) (.cond (.t 16) .skip (.exit 0))) (.seq (.block 1 (.seq (.reg [⟨none, .mv 20 (.t 4)⟩, ⟨none, .mv 21 (.t 6)⟩, ⟨none, .ia 22 1 (.t 20) (.t 21)⟩, ⟨none, .ld 23 1 false (.t 22)⟩, ⟨none, .call (some 24) (.c (.fn 20 [])) [.t 23]⟩, ⟨none, .mv 19 (.t 24)⟩, ⟨none, .ext 25 (.t 19) 0⟩, ⟨none, .ext 26 (.t 19) 1⟩, ⟨none, .mv 7 (.t 25)⟩, ⟨none, .mv 8 (.t 26)⟩]) (.seq (.seq (.reg [⟨none, .mv 27 (.t 8)⟩, ⟨none, .no 28 (.t 27)⟩]) (.cond (.t 28) (.seq (.reg [⟨none, .mv 2 (.c (.sl 1 [] .full))⟩, ⟨none, .mv 3 (.c (.sc (.b false)))⟩]) .ret) .skip)) (.reg [⟨none, .mv 29 (.t 5)⟩, ⟨none, .mv 30 (.t 7)⟩, ⟨none, .bsl 31 1 [.t 30]⟩, ⟨none, .app 32 1 8 (.t 29) (.t 31)⟩, ⟨none, .mv 5 (.t 32)⟩])))) (.reg [⟨none, .mv 17 (.t 6)⟩, ⟨none, .bin 18 .add (.t 17) (.c (.sc (.i .i64 1)))⟩, ⟨none, .mv 6 (.t 18)⟩])))))) (.seq (.reg [⟨none, .mv 33 (.t 5)⟩, ⟨none, .mv 34 (.t 5)⟩, ⟨none, .len 35 (.t 34)⟩, ⟨none, .bin 36 .leq (.t 35) (.c (.sc (.i .i64 200)))⟩, ⟨none, .mv 2 (.t 33)⟩, ⟨none, .mv 3 (.t 36)⟩]) .ret))))), [(2, 0), (3, 0)], 37, []⟩
theorem F18_ok : compT Tryz.prog (fun _ => an0) 18 = some F18_ := by kernel_rfl
def F11_ : Fn := ⟨.seq (.reg [⟨none, .mv 2 (.c (.sl 1 [] .full))⟩, ⟨none, .mv 3 (.c (.sc (.b false)))⟩]) (.seq (.seq (.reg [⟨none, .mv 9 (.t 0)⟩, ⟨none, .bin 10 .eql (.t 9) (.c (.sc (.s [45])))⟩]) (.cond (.t 10) (.seq (.reg [⟨none, .mv 2 (.c (.sl 1 [] .full))⟩, ⟨none, .mv 3 (.c (.sc (.b true)))⟩]) .ret) .skip)) (.seq (.reg [⟨none, .mv 4 (.c (.sl 1 [] .full))⟩]) (.seq (.seq (.reg [⟨none, .mv 11 (.t 0)⟩, ⟨none, .call (some 12) (.c (.fn 22 [])) [.t 11, .c (.sc (.s [44]))]⟩, ⟨none, .len 13 (.t 12)⟩, ⟨none, .mv 14 (.c (.sc (.i .i64 0)))⟩]) (.block 0 (.loop (.seq (.reg [⟨none, .bin 15 .lss (.t 14) (.t 13)⟩]) (.seq (.cond (.t 15) .skip (.exit 0)) (.seq (.block 1 (.seq (.reg [⟨none, .ia 16 1 (.t 12) (.t 14)⟩, ⟨none, .ld 17 1 false (.t 16)⟩, ⟨none, .mv 6 (.t 17)⟩]) (.seq (.reg [⟨none, .mv 19 (.t 6)⟩, ⟨none, .call (some 20) (.c (.fn 24 [])) [.t 19]⟩, ⟨none, .mv 18 (.t 20)⟩, ⟨none, .ext 21 (.t 18) 0⟩, ⟨none, .ext 22 (.t 18) 1⟩, ⟨none, .mv 7 (.t 21)⟩, ⟨none, .mv 8 (.t 22)⟩]) (.seq (.seq (.reg [⟨none, .mv 23 (.t 8)⟩, ⟨none, .no 24 (.t 23)⟩]) (.cond (.t 24) (.seq (.reg [⟨none, .mv 2 (.c (.sl 1 [] .full))⟩, ⟨none, .mv 3 (.c (.sc (.b false)))⟩]) .ret) .skip)) (.reg [⟨none, .mv 25 (.t 4)⟩, ⟨none, .mv 26 (.t 7)⟩, ⟨none, .bsl 27 1 [.t 26]⟩, ⟨none, .app 28 1 8 (.t 25) (.t 27)⟩, ⟨none, .mv 4 (.t 28)⟩]))))) (.reg [⟨none, .bin 29 .add (.t 14) (.c (.sc (.i .i64 1)))⟩, ⟨none, .mv 14 (.t 29)⟩]))))))) (.seq (.reg [⟨none, .mv 30 (.t 4)⟩, ⟨none, .mv 31 (.t 4)⟩, ⟨none, .len 32 (.t 31)⟩, ⟨none, .bin 33 .leq (.t 32) (.c (.sc (.i .i64 200)))⟩, ⟨none, .mv 2 (.t 30)⟩, ⟨none, .mv 3 (.t 33)⟩]) .ret)))), [(2, 0), (3, 0)], 34, []⟩
theorem F11_ok : compT Tryz.prog (fun _ => an0) 11 = some F11_ := by kernel_rfl
def F21_ : Fn := ⟨.seq (.reg [⟨none, .mv 2 (.c (.sc (.s [])))⟩, ⟨none, .mv 3 (.c (.sc (.b false)))⟩]) (.seq (.seq (.reg [⟨none, .mv 4 (.t 0)⟩]) (.block 0 (.seq (.reg [⟨none, .bin 6 .eql (.t 4) (.c (.sc (.s [116, 101, 120, 116])))⟩, ⟨none, .mv 5 (.t 6)⟩]) (.cond (.t 5) (.seq (.reg [⟨none, .mv 2 (.c (.sc (.s [114])))⟩, ⟨none, .mv 3 (.c (.sc (.b true)))⟩]) .ret) (.seq (.seq (.reg [⟨none, .bin 8 .eql (.t 4) (.c (.sc (.s [112, 108, 97, 99, 101, 115])))⟩, ⟨none, .mv 7 (.t 8)⟩]) (.cond (.t 7) .skip (.seq (.reg [⟨none, .bin 9 .eql (.t 4) (.c (.sc (.s [102, 117, 101, 108])))⟩, ⟨none, .mv 7 (.t 9)⟩]) (.cond (.t 7) .skip (.reg [⟨none, .bin 10 .eql (.t 4) (.c (.sc (.s [99, 117, 116])))⟩, ⟨none, .mv 7 (.t 10)⟩]))))) (.cond (.t 7) (.seq (.reg [⟨none, .mv 2 (.c (.sc (.s [110])))⟩, ⟨none, .mv 3 (.c (.sc (.b true)))⟩]) .ret) (.seq (.reg [⟨none, .bin 12 .eql (.t 4) (.c (.sc (.s [115, 99, 104, 101, 100, 117, 108, 101])))⟩, ⟨none, .mv 11 (.t 12)⟩]) (.cond (.t 11) (.seq (.reg [⟨none, .mv 2 (.c (.sc (.s [108])))⟩, ⟨none, .mv 3 (.c (.sc (.b true)))⟩]) .ret) (.seq (.seq (.reg [⟨none, .bin 14 .eql (.t 4) (.c (.sc (.s [108, 111, 111, 107])))⟩, ⟨none, .mv 13 (.t 14)⟩]) (.cond (.t 13) .skip (.reg [⟨none, .bin 15 .eql (.t 4) (.c (.sc (.s [111, 119, 110, 115])))⟩, ⟨none, .mv 13 (.t 15)⟩]))) (.cond (.t 13) (.seq (.reg [⟨none, .mv 2 (.c (.sc (.s [119])))⟩, ⟨none, .mv 3 (.c (.sc (.b true)))⟩]) .ret) (.seq (.reg [⟨none, .bin 17 .eql (.t 4) (.c (.sc (.s [114, 101, 115, 117, 109, 101])))⟩, ⟨none, .mv 16 (.t 17)⟩]) (.cond (.t 16) (.seq (.reg [⟨none, .mv 2 (.c (.sc (.s [110, 110])))⟩, ⟨none, .mv 3 (.c (.sc (.b true)))⟩]) .ret) (.seq (.seq (.reg [⟨none, .bin 19 .eql (.t 4) (.c (.sc (.s [116, 111, 107, 101, 110, 115])))⟩, ⟨none, .mv 18 (.t 19)⟩]) (.cond (.t 18) .skip (.seq (.reg [⟨none, .bin 20 .eql (.t 4) (.c (.sc (.s [116, 114, 101, 101])))⟩, ⟨none, .mv 18 (.t 20)⟩]) (.cond (.t 18) .skip (.seq (.reg [⟨none, .bin 21 .eql (.t 4) (.c (.sc (.s [99, 104, 101, 99, 107])))⟩, ⟨none, .mv 18 (.t 21)⟩]) (.cond (.t 18) .skip (.seq (.reg [⟨none, .bin 22 .eql (.t 4) (.c (.sc (.s [99, 111, 114, 101])))⟩, ⟨none, .mv 18 (.t 22)⟩]) (.cond (.t 18) .skip (.seq (.reg [⟨none, .bin 23 .eql (.t 4) (.c (.sc (.s [111, 112, 116, 105, 109, 105, 115, 101, 100])))⟩, ⟨none, .mv 18 (.t 23)⟩]) (.cond (.t 18) .skip (.seq (.reg [⟨none, .bin 24 .eql (.t 4) (.c (.sc (.s [112, 108, 97, 105, 110])))⟩, ⟨none, .mv 18 (.t 24)⟩]) (.cond (.t 18) .skip (.seq (.reg [⟨none, .bin 25 .eql (.t 4) (.c (.sc (.s [114, 117, 110])))⟩, ⟨none, .mv 18 (.t 25)⟩]) (.cond (.t 18) .skip (.seq (.reg [⟨none, .bin 26 .eql (.t 4) (.c (.sc (.s [102, 97, 115, 116])))⟩, ⟨none, .mv 18 (.t 26)⟩]) (.cond (.t 18) .skip (.seq (.reg [⟨none, .bin 27 .eql (.t 4) (.c (.sc (.s [102, 114, 101, 101])))⟩, ⟨none, .mv 18 (.t 27)⟩]) (.cond (.t 18) .skip (.seq (.reg [⟨none, .bin 28 .eql (.t 4) (.c (.sc (.s [114, 97, 99, 101])))⟩, ⟨none, .mv 18 (.t 28)⟩]) (.cond (.t 18) .skip (.seq (.reg [⟨none, .bin 29 .eql (.t 4) (.c (.sc (.s [108, 111, 99, 97, 108])))⟩, ⟨none, .mv 18 (.t 29)⟩]) (.cond (.t 18) .skip (.seq (.reg [⟨none, .bin 30 .eql (.t 4) (.c (.sc (.s [99, 111, 117, 110, 116, 115])))⟩, ⟨none, .mv 18 (.t 30)⟩]) (.cond (.t 18) .skip (.reg [⟨none, .bin 31 .eql (.t 4) (.c (.sc (.s [115, 97, 118, 101, 100])))⟩, ⟨none, .mv 18 (.t 31)⟩]))))))))))))))))))))))))) (.cond (.t 18) (.seq (.reg [⟨none, .mv 2 (.c (.sc (.s [])))⟩, ⟨none, .mv 3 (.c (.sc (.b true)))⟩]) .ret) .skip)))))))))))))) (.seq (.reg [⟨none, .mv 2 (.c (.sc (.s [])))⟩, ⟨none, .mv 3 (.c (.sc (.b false)))⟩]) .ret)), [(2, 0), (3, 0)], 32, []⟩
theorem F21_ok : compT Tryz.prog (fun _ => an0) 21 = some F21_ := by kernel_rfl
def F9_ : Fn := ⟨.seq (.reg [⟨none, .mv 2 (.c (.sl 1 [] .full))⟩, ⟨none, .mv 3 (.c (.sc (.b false)))⟩]) (.seq (.seq (.reg [⟨none, .mv 13 (.t 0)⟩, ⟨none, .lenS 14 (.t 13)⟩, ⟨none, .bin 15 .gtr (.t 14) (.c (.sc (.i .i64 10000)))⟩]) (.cond (.t 15) (.seq (.reg [⟨none, .mv 2 (.c (.sl 1 [] .full))⟩, ⟨none, .mv 3 (.c (.sc (.b false)))⟩]) .ret) .skip)) (.seq (.reg [⟨none, .mv 17 (.t 0)⟩, ⟨none, .call (some 18) (.c (.fn 17 [])) [.t 17, .c (.sc (.s [32]))]⟩, ⟨none, .mv 16 (.t 18)⟩, ⟨none, .ext 19 (.t 16) 0⟩, ⟨none, .ext 20 (.t 16) 1⟩, ⟨none, .ext 21 (.t 16) 2⟩, ⟨none, .mv 4 (.t 19)⟩, ⟨none, .mv 5 (.t 20)⟩, ⟨none, .mv 6 (.t 21)⟩]) (.seq (.reg [⟨none, .mv 23 (.t 4)⟩, ⟨none, .call (some 24) (.c (.fn 21 [])) [.t 23]⟩, ⟨none, .mv 22 (.t 24)⟩, ⟨none, .ext 25 (.t 22) 0⟩, ⟨none, .ext 26 (.t 22) 1⟩, ⟨none, .mv 7 (.t 25)⟩, ⟨none, .mv 8 (.t 26)⟩]) (.seq (.seq (.reg [⟨none, .mv 27 (.t 8)⟩, ⟨none, .no 28 (.t 27)⟩]) (.cond (.t 28) (.seq (.reg [⟨none, .mv 2 (.c (.sl 1 [] .full))⟩, ⟨none, .mv 3 (.c (.sc (.b false)))⟩]) .ret) .skip)) (.seq (.seq (.reg [⟨none, .mv 29 (.t 7)⟩, ⟨none, .bin 30 .eql (.t 29) (.c (.sc (.s [114])))⟩]) (.cond (.t 30) (.seq (.reg [⟨none, .mv 31 (.t 4)⟩, ⟨none, .mv 32 (.t 5)⟩, ⟨none, .bsl 33 1 [.t 31, .t 32]⟩, ⟨none, .mv 34 (.t 5)⟩, ⟨none, .bin 35 .neq (.t 34) (.c (.sc (.s [])))⟩, ⟨none, .mv 2 (.t 33)⟩, ⟨none, .mv 3 (.t 35)⟩]) .ret) .skip)) (.seq (.reg [⟨none, .mv 36 (.t 0)⟩, ⟨none, .call (some 37) (.c (.fn 22 [])) [.t 36, .c (.sc (.s [32]))]⟩, ⟨none, .mv 9 (.t 37)⟩]) (.seq (.seq (.reg [⟨none, .mv 38 (.t 9)⟩, ⟨none, .len 39 (.t 38)⟩, ⟨none, .mv 40 (.t 7)⟩, ⟨none, .lenS 41 (.t 40)⟩, ⟨none, .bin 42 .add (.c (.sc (.i .i64 1))) (.t 41)⟩, ⟨none, .bin 43 .neq (.t 39) (.t 42)⟩]) (.cond (.t 43) (.seq (.reg [⟨none, .mv 2 (.c (.sl 1 [] .full))⟩, ⟨none, .mv 3 (.c (.sc (.b false)))⟩]) .ret) .skip)) (.seq (.seq (.reg [⟨none, .mv 44 (.t 7)⟩, ⟨none, .rngS 45 (.t 44)⟩]) (.block 0 (.loop (.seq (.reg [⟨none, .nxtS 46 (.t 45)⟩, ⟨none, .ext 47 (.t 46) 0⟩]) (.seq (.cond (.t 47) .skip (.exit 0)) (.block 1 (.seq (.reg [⟨none, .ext 48 (.t 46) 1⟩, ⟨none, .ext 49 (.t 46) 2⟩, ⟨none, .mv 10 (.t 48)⟩, ⟨none, .mv 11 (.t 49)⟩]) (.seq (.reg [⟨none, .mv 50 (.t 9)⟩, ⟨none, .mv 51 (.t 10)⟩, ⟨none, .bin 52 .add (.t 51) (.c (.sc (.i .i64 1)))⟩, ⟨none, .ia 53 1 (.t 50) (.t 52)⟩, ⟨none, .ld 54 1 false (.t 53)⟩, ⟨none, .call (some 55) (.c (.fn 23 [])) [.t 54]⟩, ⟨none, .mv 12 (.t 55)⟩]) (.seq (.seq (.reg [⟨none, .mv 56 (.t 11)⟩]) (.block 2 (.seq (.reg [⟨none, .bin 58 .eql (.t 56) (.c (.sc (.i .i32 110)))⟩, ⟨none, .mv 57 (.t 58)⟩]) (.cond (.t 57) (.reg [⟨none, .mv 60 (.t 9)⟩, ⟨none, .mv 61 (.t 10)⟩, ⟨none, .bin 62 .add (.t 61) (.c (.sc (.i .i64 1)))⟩, ⟨none, .ia 63 1 (.t 60) (.t 62)⟩, ⟨none, .ld 64 1 false (.t 63)⟩, ⟨none, .call (some 65) (.c (.fn 24 [])) [.t 64]⟩, ⟨none, .mv 59 (.t 65)⟩, ⟨none, .ext 66 (.t 59) 0⟩, ⟨none, .ext 67 (.t 59) 1⟩, ⟨none, .mv 12 (.t 67)⟩]) (.seq (.reg [⟨none, .bin 69 .eql (.t 56) (.c (.sc (.i .i32 108)))⟩, ⟨none, .mv 68 (.t 69)⟩]) (.cond (.t 68) (.reg [⟨none, .mv 71 (.t 9)⟩, ⟨none, .mv 72 (.t 10)⟩, ⟨none, .bin 73 .add (.t 72) (.c (.sc (.i .i64 1)))⟩, ⟨none, .ia 74 1 (.t 71) (.t 73)⟩, ⟨none, .ld 75 1 false (.t 74)⟩, ⟨none, .call (some 76) (.c (.fn 11 [])) [.t 75]⟩, ⟨none, .mv 70 (.t 76)⟩, ⟨none, .ext 77 (.t 70) 0⟩, ⟨none, .ext 78 (.t 70) 1⟩, ⟨none, .mv 12 (.t 78)⟩]) .skip)))))) (.seq (.reg [⟨none, .mv 79 (.t 12)⟩, ⟨none, .no 80 (.t 79)⟩]) (.cond (.t 80) (.seq (.reg [⟨none, .mv 2 (.c (.sl 1 [] .full))⟩, ⟨none, .mv 3 (.c (.sc (.b false)))⟩]) .ret) .skip))))))))))) (.seq (.reg [⟨none, .mv 81 (.t 9)⟩, ⟨none, .mv 2 (.t 81)⟩, ⟨none, .mv 3 (.c (.sc (.b true)))⟩]) .ret))))))))), [(2, 0), (3, 0)], 82, []⟩
theorem F9_ok : compT Tryz.prog (fun _ => an0) 9 = some F9_ := by kernel_rfl
def F8_ : Fn := ⟨.seq (.reg [⟨none, .mv 2 (.c (.sc (.b false)))⟩]) (.seq (.reg [⟨none, .mv 6 (.t 0)⟩, ⟨none, .call (some 7) (.c (.fn 9 [])) [.t 6]⟩, ⟨none, .mv 5 (.t 7)⟩, ⟨none, .ext 8 (.t 5) 0⟩, ⟨none, .ext 9 (.t 5) 1⟩, ⟨none, .mv 3 (.t 8)⟩, ⟨none, .mv 4 (.t 9)⟩]) (.seq (.reg [⟨none, .mv 10 (.t 4)⟩, ⟨none, .mv 2 (.t 10)⟩]) .ret)), [(2, 0)], 11, []⟩
theorem F8_ok : compT Tryz.prog (fun _ => an0) 8 = some F8_ := by kernel_rfl
def F7_ : Fn := ⟨.seq (.reg [⟨none, .alloc 2 [.sc (.s []), .sc (.s []), .sl 1 [] .full]⟩, ⟨none, .mv 3 (.c (.sc (.b false)))⟩]) (.seq (.seq (.reg [⟨none, .mv 19 (.t 0)⟩, ⟨none, .lenS 20 (.t 19)⟩, ⟨none, .bin 21 .gtr (.t 20) (.c (.sc (.i .i64 10000)))⟩]) (.cond (.t 21) (.seq (.reg [⟨none, .build 22 [.sc (.s []), .sc (.s []), .sl 1 [] .full] []⟩, ⟨none, .st (.t 2) 3 (.t 22)⟩, ⟨none, .mv 3 (.c (.sc (.b false)))⟩]) .ret) .skip)) (.seq (.reg [⟨none, .mv 24 (.t 0)⟩, ⟨none, .call (some 25) (.c (.fn 17 [])) [.t 24, .c (.sc (.s [32]))]⟩, ⟨none, .mv 23 (.t 25)⟩, ⟨none, .ext 26 (.t 23) 0⟩, ⟨none, .ext 27 (.t 23) 1⟩, ⟨none, .ext 28 (.t 23) 2⟩, ⟨none, .mv 4 (.t 26)⟩, ⟨none, .mv 5 (.t 27)⟩, ⟨none, .mv 6 (.t 28)⟩]) (.seq (.reg [⟨none, .mv 29 (.t 4)⟩, ⟨none, .build 30 [.sc (.s []), .sc (.s []), .sl 1 [] .full] [(0, (1, .t 29))]⟩, ⟨none, .alloc 7 [.sc (.s []), .sc (.s []), .sl 1 [] .full]⟩, ⟨none, .st (.t 7) 3 (.t 30)⟩]) (.seq (.seq (.reg [⟨none, .mv 31 (.t 4)⟩]) (.block 0 (.seq (.reg [⟨none, .bin 33 .eql (.t 31) (.c (.sc (.s [116, 101, 120, 116])))⟩, ⟨none, .mv 32 (.t 33)⟩]) (.cond (.t 32) (.seq (.reg [⟨none, .mv 34 (.t 5)⟩, ⟨none, .fa 35 (.t 7) 1⟩, ⟨none, .st (.t 35) 1 (.t 34)⟩]) (.seq (.reg [⟨none, .ld 36 3 true (.t 7)⟩, ⟨none, .mv 37 (.t 6)⟩, ⟨none, .mv 38 (.t 37)⟩, ⟨some ((38, true)), .mv 39 (.t 5)⟩, ⟨some ((38, true)), .bin 40 .neq (.t 39) (.c (.sc (.s [])))⟩, ⟨none, .pick 41 (.t 38) (.t 40) (.c (.sc (.b false)))⟩, ⟨none, .st (.t 2) 3 (.t 36)⟩, ⟨none, .mv 3 (.t 41)⟩]) .ret)) (.seq (.reg [⟨none, .bin 43 .eql (.t 31) (.c (.sc (.s [115, 99, 104, 101, 100, 117, 108, 101])))⟩, ⟨none, .mv 42 (.t 43)⟩]) (.cond (.t 42) (.seq (.reg [⟨none, .mv 45 (.t 5)⟩, ⟨none, .call (some 46) (.c (.fn 18 [])) [.t 45]⟩, ⟨none, .mv 44 (.t 46)⟩, ⟨none, .ext 47 (.t 44) 0⟩, ⟨none, .ext 48 (.t 44) 1⟩, ⟨none, .mv 8 (.t 47)⟩, ⟨none, .mv 9 (.t 48)⟩]) (.seq (.reg [⟨none, .mv 49 (.t 8)⟩, ⟨none, .fa 50 (.t 7) 2⟩, ⟨none, .st (.t 50) 1 (.t 49)⟩]) (.seq (.reg [⟨none, .ld 51 3 true (.t 7)⟩, ⟨none, .mv 52 (.t 6)⟩, ⟨none, .mv 53 (.t 52)⟩, ⟨some ((53, true)), .mv 54 (.t 9)⟩, ⟨none, .pick 55 (.t 53) (.t 54) (.c (.sc (.b false)))⟩, ⟨none, .st (.t 2) 3 (.t 51)⟩, ⟨none, .mv 3 (.t 55)⟩]) .ret))) (.seq (.seq (.reg [⟨none, .bin 57 .eql (.t 31) (.c (.sc (.s [108, 111, 111, 107])))⟩, ⟨none, .mv 56 (.t 57)⟩]) (.cond (.t 56) .skip (.reg [⟨none, .bin 58 .eql (.t 31) (.c (.sc (.s [111, 119, 110, 115])))⟩, ⟨none, .mv 56 (.t 58)⟩]))) (.cond (.t 56) (.seq (.reg [⟨none, .mv 59 (.t 5)⟩, ⟨none, .fa 60 (.t 7) 1⟩, ⟨none, .st (.t 60) 1 (.t 59)⟩]) (.seq (.regD [⟨none, .ld 61 3 true (.t 7)⟩, ⟨none, .mv 62 (.t 6)⟩, ⟨none, .mv 63 (.t 62)⟩, ⟨some ((63, true)), .mv 64 (.t 5)⟩, ⟨some ((63, true)), .call (some 65) (.c (.fn 19 [])) [.t 64]⟩, ⟨none, .pick 66 (.t 63) (.t 65) (.c (.sc (.b false)))⟩, ⟨none, .st (.t 2) 3 (.t 61)⟩, ⟨none, .mv 3 (.t 66)⟩] [0, 0, 2, 6, 14, 30, 31, 127]) .ret)) (.seq (.seq (.reg [⟨none, .bin 68 .eql (.t 31) (.c (.sc (.s [112, 108, 97, 99, 101, 115])))⟩, ⟨none, .mv 67 (.t 68)⟩]) (.cond (.t 67) .skip (.seq (.reg [⟨none, .bin 69 .eql (.t 31) (.c (.sc (.s [102, 117, 101, 108])))⟩, ⟨none, .mv 67 (.t 69)⟩]) (.cond (.t 67) .skip (.reg [⟨none, .bin 70 .eql (.t 31) (.c (.sc (.s [99, 117, 116])))⟩, ⟨none, .mv 67 (.t 70)⟩]))))) (.cond (.t 67) (.seq (.reg [⟨none, .mv 72 (.t 5)⟩, ⟨none, .call (some 73) (.c (.fn 20 [])) [.t 72]⟩, ⟨none, .mv 71 (.t 73)⟩, ⟨none, .ext 74 (.t 71) 0⟩, ⟨none, .ext 75 (.t 71) 1⟩, ⟨none, .mv 10 (.t 74)⟩, ⟨none, .mv 11 (.t 75)⟩]) (.seq (.reg [⟨none, .mv 76 (.t 10)⟩, ⟨none, .bsl 77 1 [.t 76]⟩, ⟨none, .fa 78 (.t 7) 2⟩, ⟨none, .st (.t 78) 1 (.t 77)⟩]) (.seq (.reg [⟨none, .ld 79 3 true (.t 7)⟩, ⟨none, .mv 80 (.t 6)⟩, ⟨none, .mv 81 (.t 80)⟩, ⟨some ((81, true)), .mv 82 (.t 11)⟩, ⟨none, .pick 83 (.t 81) (.t 82) (.c (.sc (.b false)))⟩, ⟨none, .st (.t 2) 3 (.t 79)⟩, ⟨none, .mv 3 (.t 83)⟩]) .ret))) (.seq (.reg [⟨none, .bin 85 .eql (.t 31) (.c (.sc (.s [114, 101, 115, 117, 109, 101])))⟩, ⟨none, .mv 84 (.t 85)⟩]) (.cond (.t 84) (.seq (.reg [⟨none, .mv 87 (.t 5)⟩, ⟨none, .call (some 88) (.c (.fn 17 [])) [.t 87, .c (.sc (.s [32]))]⟩, ⟨none, .mv 86 (.t 88)⟩, ⟨none, .ext 89 (.t 86) 0⟩, ⟨none, .ext 90 (.t 86) 1⟩, ⟨none, .ext 91 (.t 86) 2⟩, ⟨none, .mv 12 (.t 89)⟩, ⟨none, .mv 13 (.t 90)⟩, ⟨none, .mv 14 (.t 91)⟩]) (.seq (.reg [⟨none, .mv 93 (.t 12)⟩, ⟨none, .call (some 94) (.c (.fn 20 [])) [.t 93]⟩, ⟨none, .mv 92 (.t 94)⟩, ⟨none, .ext 95 (.t 92) 0⟩, ⟨none, .ext 96 (.t 92) 1⟩, ⟨none, .mv 15 (.t 95)⟩, ⟨none, .mv 16 (.t 96)⟩]) (.seq (.reg [⟨none, .mv 98 (.t 13)⟩, ⟨none, .call (some 99) (.c (.fn 20 [])) [.t 98]⟩, ⟨none, .mv 97 (.t 99)⟩, ⟨none, .ext 100 (.t 97) 0⟩, ⟨none, .ext 101 (.t 97) 1⟩, ⟨none, .mv 17 (.t 100)⟩, ⟨none, .mv 18 (.t 101)⟩]) (.seq (.reg [⟨none, .mv 102 (.t 15)⟩, ⟨none, .mv 103 (.t 17)⟩, ⟨none, .bsl 104 1 [.t 102, .t 103]⟩, ⟨none, .fa 105 (.t 7) 2⟩, ⟨none, .st (.t 105) 1 (.t 104)⟩]) (.seq (.reg [⟨none, .ld 106 3 true (.t 7)⟩, ⟨none, .mv 107 (.t 6)⟩, ⟨none, .mv 108 (.t 107)⟩, ⟨some ((108, true)), .mv 109 (.t 14)⟩, ⟨none, .pick 110 (.t 108) (.t 109) (.c (.sc (.b false)))⟩, ⟨none, .mv 111 (.t 110)⟩, ⟨some ((111, true)), .mv 112 (.t 16)⟩, ⟨none, .pick 113 (.t 111) (.t 112) (.c (.sc (.b false)))⟩, ⟨none, .mv 114 (.t 113)⟩, ⟨some ((114, true)), .mv 115 (.t 18)⟩, ⟨none, .pick 116 (.t 114) (.t 115) (.c (.sc (.b false)))⟩, ⟨none, .st (.t 2) 3 (.t 106)⟩, ⟨none, .mv 3 (.t 116)⟩]) .ret))))) (.seq (.seq (.reg [⟨none, .bin 118 .eql (.t 31) (.c (.sc (.s [116, 111, 107, 101, 110, 115])))⟩, ⟨none, .mv 117 (.t 118)⟩]) (.cond (.t 117) .skip (.seq (.reg [⟨none, .bin 119 .eql (.t 31) (.c (.sc (.s [116, 114, 101, 101])))⟩, ⟨none, .mv 117 (.t 119)⟩]) (.cond (.t 117) .skip (.seq (.reg [⟨none, .bin 120 .eql (.t 31) (.c (.sc (.s [99, 104, 101, 99, 107])))⟩, ⟨none, .mv 117 (.t 120)⟩]) (.cond (.t 117) .skip (.seq (.reg [⟨none, .bin 121 .eql (.t 31) (.c (.sc (.s [99, 111, 114, 101])))⟩, ⟨none, .mv 117 (.t 121)⟩]) (.cond (.t 117) .skip (.seq (.reg [⟨none, .bin 122 .eql (.t 31) (.c (.sc (.s [111, 112, 116, 105, 109, 105, 115, 101, 100])))⟩, ⟨none, .mv 117 (.t 122)⟩]) (.cond (.t 117) .skip (.seq (.reg [⟨none, .bin 123 .eql (.t 31) (.c (.sc (.s [112, 108, 97, 105, 110])))⟩, ⟨none, .mv 117 (.t 123)⟩]) (.cond (.t 117) .skip (.seq (.reg [⟨none, .bin 124 .eql (.t 31) (.c (.sc (.s [114, 117, 110])))⟩, ⟨none, .mv 117 (.t 124)⟩]) (.cond (.t 117) .skip (.seq (.reg [⟨none, .bin 125 .eql (.t 31) (.c (.sc (.s [102, 97, 115, 116])))⟩, ⟨none, .mv 117 (.t 125)⟩]) (.cond (.t 117) .skip (.seq (.reg [⟨none, .bin 126 .eql (.t 31) (.c (.sc (.s [102, 114, 101, 101])))⟩, ⟨none, .mv 117 (.t 126)⟩]) (.cond (.t 117) .skip (.seq (.reg [⟨none, .bin 127 .eql (.t 31) (.c (.sc (.s [114, 97, 99, 101])))⟩, ⟨none, .mv 117 (.t 127)⟩]) (.cond (.t 117) .skip (.seq (.reg [⟨none, .bin 128 .eql (.t 31) (.c (.sc (.s [108, 111, 99, 97, 108])))⟩, ⟨none, .mv 117 (.t 128)⟩]) (.cond (.t 117) .skip (.seq (.reg [⟨none, .bin 129 .eql (.t 31) (.c (.sc (.s [99, 111, 117, 110, 116, 115])))⟩, ⟨none, .mv 117 (.t 129)⟩]) (.cond (.t 117) .skip (.reg [⟨none, .bin 130 .eql (.t 31) (.c (.sc (.s [115, 97, 118, 101, 100])))⟩, ⟨none, .mv 117 (.t 130)⟩]))))))))))))))))))))))))) (.cond (.t 117) (.seq (.reg [⟨none, .ld 131 3 true (.t 7)⟩, ⟨none, .mv 132 (.t 6)⟩, ⟨none, .no 133 (.t 132)⟩, ⟨none, .st (.t 2) 3 (.t 131)⟩, ⟨none, .mv 3 (.t 133)⟩]) .ret) .skip)))))))))))))) (.seq (.reg [⟨none, .build 134 [.sc (.s []), .sc (.s []), .sl 1 [] .full] []⟩, ⟨none, .st (.t 2) 3 (.t 134)⟩, ⟨none, .mv 3 (.c (.sc (.b false)))⟩]) .ret))))), [(2, 3), (3, 0)], 135, []⟩
theorem F7_ok : compT Tryz.prog (fun _ => an0) 7 = some F7_ := by kernel_rfl
def F4_ : Fn := ⟨.seq (.reg [⟨none, .mv 2 (.c (.sc (.b false)))⟩]) (.seq (.reg [⟨none, .mv 6 (.t 0)⟩, ⟨none, .call (some 7) (.c (.fn 7 [])) [.t 6]⟩, ⟨none, .mv 5 (.t 7)⟩, ⟨none, .ext 8 (.t 5) 0⟩, ⟨none, .ext 9 (.t 5) 1⟩, ⟨none, .alloc 3 [.sc (.s []), .sc (.s []), .sl 1 [] .full]⟩, ⟨none, .st (.t 3) 3 (.t 8)⟩, ⟨none, .mv 4 (.t 9)⟩]) (.seq (.reg [⟨none, .mv 10 (.t 0)⟩, ⟨none, .call (some 11) (.c (.fn 8 [])) [.t 10]⟩, ⟨none, .mv 12 (.t 4)⟩, ⟨none, .binB 13 false (.t 11) (.t 12)⟩, ⟨none, .mv 14 (.t 13)⟩, ⟨some ((14, true)), .call (some 15) (.c (.fn 6 [])) []⟩, ⟨none, .pick 16 (.t 14) (.t 15) (.c (.sc (.b false)))⟩, ⟨none, .mv 2 (.t 16)⟩]) .ret)), [(2, 0)], 17, []⟩
theorem F4_ok : compT Tryz.prog (fun _ => an0) 4 = some F4_ := by kernel_rfl

/-- the reference's number: what it hands back -/
def numV' (s : S) : Int := match decide (1 ≤ s.length) && (decide (s.length ≤ 5) && s.all digB) with | true => atoiN s | false => 0
theorem all_drop {s : S} {k : Nat} {x : UInt8} (h : s[k]? = some x) : (s.drop k).all digB = (digB x && (s.drop (k+1)).all digB) := by rw [drop_get h]; rfl
theorem fin_ib {σ : Log} {n n' : Int} {b b' : Bool} (h1 : n' = n) (h2 : b' = b) : FinOK σ (.tup [.sc (.i .i64 n'), .sc (.b b')]) 0 0 (.tup [.sc (.i .i64 n), .sc (.b b)]) [] := by
  subst h1; subst h2; exact fin0 rfl ⟨rfl, rfl, trivial⟩ rfl
set_option maxHeartbeats 2000000 in
theorem b20 (W0 : Go.World) (hpow : Go.Lib.TabIs Tryz.prog W0 "internal/strconv.uint64pow10" .u64 Go.Lib.pow10Tab) (s : S) (hl : s.length ≤ 140737488355328) : Body (Ctr Tryz.prog W0) F20_.ac F20_.rs [.sc (.s s)] [] (.tup [.sc (.i .i64 (numV' s)), .sc (.b (numR' s))]) [] := by
  conv => whnf
  refine brec (fun h1 => ?_) (fun h1 => ?_)
  · conv => whnf
    simp only [decide_eq_false_iff_not] at h1
    refine brec (fun h2 => ?_) (fun h2 => ?_)
    · simp only [decide_eq_false_iff_not] at h2
      have e1 : 1 ≤ s.length := by omega
      have e2 : s.length ≤ 5 := by omega
      conv => whnf
      refine .st 1000 (fun k => s.length - k) (fun k => [(.s 0, .av (.sc (.s s))), (.s 4, .av (.sc (.i .i64 (k : Nat))))])
        (fun k => k ≤ s.length ∧ s.all digB = (s.drop k).all digB) 0 ?_ ⟨by simp, by simp⟩ ?_
      · (refine le_of rfl rfl ?_; repeat' (first | exact rfl | exact trivial | refine ⟨?_, ?_⟩))
      · rintro k ⟨hk, he⟩
        conv => whnf
        refine brec (fun h3 => ?_) (fun h3 => ?_)
        · conv => whnf
          simp only [decide_eq_false_iff_not] at h3
          have e3 : s.drop k = [] := by rw [List.drop_eq_nil_iff]; omega
          have hd : s.all digB = true := by rw [he, e3]; rfl
          obtain ⟨u, hu, hub⟩ := atoi_dig hd (List.length_pos_iff.1 (by omega)) (by omega)
          have hu5 : u < 100000 := Nat.lt_of_lt_of_le hub (Nat.pow_le_pow_right (by omega) e2)
          refine callP.pure _ (atoi_ok W0 s (by omega) u hu) ⟨rfl, rfl⟩ ?_
          conv => whnf
          refine callP.pure _ (itoa_ctr W0 hpow u ⟨by omega, by omega⟩) ⟨rfl, rfl⟩ ?_
          conv => whnf
          refine fin_ib ?_ ?_
          · simp [numV', e1, e2, hd, atoiN, hu]
          · simp [numR', e1, e2, hd, atoiN, hu, beqL]
        · simp only [decide_eq_true_eq] at h3
          obtain ⟨x, hx⟩ := get_of_lt (l := s) (k := k) (by omega)
          rw [all_drop hx] at he
          conv => whnf
          refine ⟨x, ⟨Int.natCast_nonneg _, hx⟩, ?_⟩
          conv => whnf
          refine brec (fun h4 => ?_) (fun h4 => ?_)
          · simp only [decide_eq_false_iff_not] at h4
            conv => whnf
            refine ⟨x, ⟨Int.natCast_nonneg _, hx⟩, ?_⟩
            conv => whnf
            refine brec (fun h5 => ?_) (fun h5 => ?_)
            · simp only [decide_eq_false_iff_not] at h5
              conv => whnf
              refine ⟨?_, ?_⟩
              · constructor <;> omega
              · conv => whnf
                have hx1 : digB x = true := by simp only [digB, Bool.and_eq_true, decide_eq_true_eq]; omega
                refine nxt (k + 1) ⟨by omega, by omega, by rw [he, hx1, Bool.true_and]⟩ ?_
                (refine le_of rfl rfl ?_; repeat' (first | exact rfl | exact trivial | refine ⟨?_, ?_⟩))
            · simp only [decide_eq_true_eq] at h5
              conv => whnf
              have hx1 : digB x = false := by simp only [digB, Bool.and_eq_false_iff, decide_eq_false_iff_not]; omega
              have hd : s.all digB = false := by rw [he, hx1, Bool.false_and]
              exact fin_ib (by simp [numV', hd]) (by simp [numR', hd])
          · simp only [decide_eq_true_eq] at h4
            conv => whnf
            have hx1 : digB x = false := by simp only [digB, Bool.and_eq_false_iff, decide_eq_false_iff_not]; omega
            have hd : s.all digB = false := by rw [he, hx1, Bool.false_and]
            exact fin_ib (by simp [numV', hd]) (by simp [numR', hd])
    · simp only [decide_eq_true_eq] at h2
      conv => whnf
      have e2 : ¬ s.length ≤ 5 := by omega
      exact fin_ib (by simp [numV', e2]) (by simp [numR', e2])
  · simp only [decide_eq_true_eq] at h1
    conv => whnf
    have e1 : ¬ 1 ≤ s.length := by omega
    exact fin_ib (by simp [numV', e1]) (by simp [numR', e1])
theorem c20 (W0 : Go.World) (hpow : Go.Lib.TabIs Tryz.prog W0 "internal/strconv.uint64pow10" .u64 Go.Lib.pow10Tab) (s : S) (hl : s.length ≤ 140737488355328) : Ctr Tryz.prog W0 20 [.sc (.s s)] [] (.tup [.sc (.i .i64 (numV' s)), .sc (.b (numR' s))]) [] :=
  ctr_body follows F20_ok rfl (fun _ _ h => by cases h) rfl (by rfl) (b20 W0 hpow s hl)
theorem le_tok9 {σ σ' : Log} {N : Nat} (k : Nat) (h1 : Nat.ble 1000 N = true) (h2 : belowC N σ' = true) (h4 : (lowToks σ').all (fun j => !([k] : List Nat).contains j) = true) (h5 : nodupB [k] = true) (h3 : leP [(9000, k)] σ σ') : Le σ N σ' := ⟨[(9000, k)], ⟨h5, h4, h1, h2⟩, h3⟩
def numsD (f : S → Int) (l : List S) : List (List Data) := l.map fun x => [.sc (.i .i64 (f x))]
theorem numsD_length (f : S → Int) (l : List S) : (numsD f l).length = l.length := by simp [numsD]
theorem numsD_take {f : S → Int} {l : List S} {k : Nat} {x : S} (h : l[k]? = some x) : numsD f (l.take (k + 1)) = numsD f (l.take k) ++ [[.sc (.i .i64 (f x))]] := by
  obtain ⟨h1, h2⟩ := List.getElem?_eq_some_iff.1 h
  subst h2
  rw [List.take_succ_eq_append_getElem h1]
  simp only [numsD, List.map_append, List.map_cons, List.map_nil]
def lstG (fb : S → Bool) (s : S) : Bool := match decide (s = [45]) with | true => true | false => (spl 44 s).all fb && decide ((spl 44 s).length ≤ 200)
def lstV (fv : S → Int) (fb : S → Bool) (s : S) : List (List Data) := match decide (s = [45]) with | true => [] | false => (match (spl 44 s).all fb with | true => numsD fv (spl 44 s) | false => [])
theorem fin_lb {σ : Log} {e e' : List (List Data)} {t : Tok} {b b' : Bool} (h1 : e' = e) (h2 : b' = b) : FinOK σ (.tup [.sl 1 e' t, .sc (.b b')]) 0 0 (.tup [.sl 1 e .none, .sc (.b b)]) [] := by
  subst h1; subst h2; exact fin0 rfl ⟨⟨rfl, rfl, .inl rfl⟩, rfl, trivial⟩ rfl
theorem spl_len_le (c : UInt8) (s : S) : (spl c s).length ≤ s.length + 1 := by rw [spl_length]; exact Nat.succ_le_succ List.count_le_length
theorem spl_mem_le (c : UInt8) : ∀ (s x : S), x ∈ spl c s → x.length ≤ s.length
  | [], x, h => by simp [spl] at h; subst h; simp
  | b :: r, x, h => by
    by_cases hb : b = c
    · subst hb
      rw [spl_cons_eq] at h
      rcases List.mem_cons.1 h with rfl | h
      · simp
      · have := spl_mem_le b r x h; simp; omega
    · cases hr : spl c r with
      | nil => exact absurd hr (spl_ne c r)
      | cons y l =>
        rw [spl_cons_ne hb r y l hr] at h
        rcases List.mem_cons.1 h with rfl | h
        · have := spl_mem_le c r y (by rw [hr]; simp); simp; omega
        · have := spl_mem_le c r x (by rw [hr]; exact List.mem_cons_of_mem _ h); simp; omega
set_option maxHeartbeats 4000000 in
theorem b18 (W0 : Go.World) (hpow : Go.Lib.TabIs Tryz.prog W0 "internal/strconv.uint64pow10" .u64 Go.Lib.pow10Tab) (h2 : ErrV W0 2) (h3 : ErrV W0 3) (hm : ∃ m, W0.cell? ⟨0, 0, none⟩ = some (.int .i64 m)) (s : S) (hl : s.length < 4294967281) :
    Body (Ctr Tryz.prog W0) F18_.ac F18_.rs [.sc (.s s)] [] (.tup [.sl 1 (lstV numV' numR' s) .none, .sc (.b (lstG numR' s))]) [] := by
  conv => whnf
  refine brec (fun h1 => ?_) (fun h1 => ?_)
  · have h1' : ¬ s = [45] := by simpa [beqL] using h1
    conv => whnf
    refine callP.pure _ (split1_ctr W0 hm s 44 hl) ⟨rfl, rfl⟩ ?_
    conv => whnf
    have hL1 := spl_len_le 44 s
    have hL2 := spl_mem_le 44 s
    have eV : lstV numV' numR' s = (match (spl 44 s).all numR' with | true => numsD numV' (spl 44 s) | false => []) := by simp [lstV, h1']
    have eB : lstG numR' s = ((spl 44 s).all numR' && decide ((spl 44 s).length ≤ 200)) := by simp [lstG, h1']
    rw [eV, eB]
    clear eV eB
    generalize spl 44 s = L at hL1 hL2 ⊢
    refine .st 10000 (fun k => L.length - k) (fun k => [(.s 4, .av (strL L)), (.s 6, .av (.sc (.i .i64 (k : Nat)))), (.s 5, .av (.sl 1 (numsD numV' (L.take k)) (.t 9000))), (.t 9000, .tk true)])
      (fun k => k ≤ L.length ∧ L.all numR' = (L.drop k).all numR') 0 ?_ ⟨Nat.zero_le _, rfl⟩ ?_
    · (refine le_of rfl rfl ?_; repeat' (first | exact rfl | exact trivial | refine ⟨?_, ?_⟩))
    · rintro k ⟨hk, he⟩
      conv => whnf
      refine brec (fun h4 => ?_) (fun h4 => ?_)
      · simp only [strsD_length, decide_eq_false_iff_not] at h4
        have e1 : k = L.length := by omega
        have hd : L.all numR' = true := by rw [he, e1, List.drop_length]; rfl
        conv => whnf
        refine fin_lb ?_ ?_
        · rw [hd, e1, List.take_length]
        · rw [hd, e1, List.take_length, Bool.true_and, numsD_length]
          rw [Bool.eq_iff_iff]; simp only [decide_eq_true_eq]; omega
      · simp only [strsD_length, decide_eq_true_eq] at h4
        obtain ⟨x, hx⟩ := get_of_lt (l := L) (k := k) (by omega)
        have dx := strsD_get hx
        have hxl := hL2 x (List.mem_of_getElem? hx)
        rw [drop_get hx, List.all_cons] at he
        conv => whnf
        refine ⟨_, ⟨Int.natCast_nonneg _, dx⟩, ?_⟩
        conv => whnf
        refine callP.pure _ (c20 W0 hpow x (by omega)) ⟨rfl, rfl⟩ ?_
        conv => whnf
        refine brec (fun h5 => ?_) (fun h5 => ?_)
        · have hf : numR' x = true := by simpa using h5
          conv => whnf
          refine And.intro (by rw [numsD_length, List.length_take]; constructor <;> simp <;> omega) ?_
          conv => whnf
          refine And.intro (by constructor <;> omega) ?_
          conv => whnf
          refine nxt (k + 1) ⟨by omega, by omega, by rw [he, hf, Bool.true_and]⟩ ?_
          rw [numsD_take hx]
          (apply le_tok9 (h1 := rfl); (case h3 => repeat' (first | exact rfl | exact trivial | refine ⟨?_, ?_⟩)); all_goals exact rfl)
        · have hf : numR' x = false := by simpa using h5
          have hd : L.all numR' = false := by rw [he, hf, Bool.false_and]
          conv => whnf
          refine fin_lb ?_ ?_
          · rw [hd]
          · rw [hd, Bool.false_and]
  · have h1' : s = [45] := by simpa [beqL] using h1
    subst h1'
    conv => whnf
    exact fin_lb rfl rfl
theorem c18 (W0 : Go.World) (hpow : Go.Lib.TabIs Tryz.prog W0 "internal/strconv.uint64pow10" .u64 Go.Lib.pow10Tab) (h2 : ErrV W0 2) (h3 : ErrV W0 3) (hm : ∃ m, W0.cell? ⟨0, 0, none⟩ = some (.int .i64 m)) (s : S) (hl : s.length < 4294967281) :
    Ctr Tryz.prog W0 18 [.sc (.s s)] [] (.tup [.sl 1 (lstV numV' numR' s) .none, .sc (.b (lstG numR' s))]) [] :=
  ctr_body follows F18_ok rfl (fun _ _ h => by cases h) rfl (by rfl) (b18 W0 hpow h2 h3 hm s hl)
set_option maxHeartbeats 4000000 in
theorem b11 (W0 : Go.World) (hpow : Go.Lib.TabIs Tryz.prog W0 "internal/strconv.uint64pow10" .u64 Go.Lib.pow10Tab) (h2 : ErrV W0 2) (h3 : ErrV W0 3) (hm : ∃ m, W0.cell? ⟨0, 0, none⟩ = some (.int .i64 m)) (s : S) (hl : s.length < 4294967281) :
    Body (Ctr Tryz.prog W0) F11_.ac F11_.rs [.sc (.s s)] [] (.tup [.sl 1 (lstV atoiN numP s) .none, .sc (.b (lstG numP s))]) [] := by
  conv => whnf
  refine brec (fun h1 => ?_) (fun h1 => ?_)
  · have h1' : ¬ s = [45] := by simpa [beqL] using h1
    conv => whnf
    refine callP.pure _ (split1_ctr W0 hm s 44 hl) ⟨rfl, rfl⟩ ?_
    conv => whnf
    have hL1 := spl_len_le 44 s
    have hL2 := spl_mem_le 44 s
    have eV : lstV atoiN numP s = (match (spl 44 s).all numP with | true => numsD atoiN (spl 44 s) | false => []) := by simp [lstV, h1']
    have eB : lstG numP s = ((spl 44 s).all numP && decide ((spl 44 s).length ≤ 200)) := by simp [lstG, h1']
    rw [eV, eB]
    clear eV eB
    generalize spl 44 s = L at hL1 hL2 ⊢
    refine .st 10000 (fun k => L.length - k) (fun k => [(.s 12, .av (strL L)), (.s 13, .av (.sc (.i .i64 ((strsD L).length : Nat)))), (.s 14, .av (.sc (.i .i64 (k : Nat)))), (.s 4, .av (.sl 1 (numsD atoiN (L.take k)) (.t 9000))), (.t 9000, .tk true)])
      (fun k => k ≤ L.length ∧ L.all numP = (L.drop k).all numP) 0 ?_ ⟨Nat.zero_le _, rfl⟩ ?_
    · (refine le_of rfl rfl ?_; repeat' (first | exact rfl | exact trivial | refine ⟨?_, ?_⟩))
    · rintro k ⟨hk, he⟩
      conv => whnf
      refine brec (fun h4 => ?_) (fun h4 => ?_)
      · simp only [strsD_length, decide_eq_false_iff_not] at h4
        have e1 : k = L.length := by omega
        have hd : L.all numP = true := by rw [he, e1, List.drop_length]; rfl
        conv => whnf
        refine fin_lb ?_ ?_
        · rw [hd, e1, List.take_length]
        · rw [hd, e1, List.take_length, Bool.true_and, numsD_length]
          rw [Bool.eq_iff_iff]; simp only [decide_eq_true_eq]; omega
      · simp only [strsD_length, decide_eq_true_eq] at h4
        obtain ⟨x, hx⟩ := get_of_lt (l := L) (k := k) (by omega)
        have dx := strsD_get hx
        have hxl := hL2 x (List.mem_of_getElem? hx)
        rw [drop_get hx, List.all_cons] at he
        conv => whnf
        refine ⟨_, ⟨Int.natCast_nonneg _, dx⟩, ?_⟩
        conv => whnf
        refine callP.pure _ (c24 W0 hpow h2 h3 x (by omega)) ⟨rfl, rfl⟩ ?_
        conv => whnf
        refine brec (fun h5 => ?_) (fun h5 => ?_)
        · have hf : numP x = true := by simpa using h5
          conv => whnf
          refine And.intro (by rw [numsD_length, List.length_take]; constructor <;> simp <;> omega) ?_
          conv => whnf
          refine And.intro (by constructor <;> omega) ?_
          conv => whnf
          refine nxt (k + 1) ⟨by omega, by omega, by rw [he, hf, Bool.true_and]⟩ ?_
          rw [numsD_take hx]
          (apply le_tok9 (h1 := rfl); (case h3 => repeat' (first | exact rfl | exact trivial | refine ⟨?_, ?_⟩)); all_goals exact rfl)
        · have hf : numP x = false := by simpa using h5
          have hd : L.all numP = false := by rw [he, hf, Bool.false_and]
          conv => whnf
          refine fin_lb ?_ ?_
          · rw [hd]
          · rw [hd, Bool.false_and]
  · have h1' : s = [45] := by simpa [beqL] using h1
    subst h1'
    conv => whnf
    exact fin_lb rfl rfl
theorem c11 (W0 : Go.World) (hpow : Go.Lib.TabIs Tryz.prog W0 "internal/strconv.uint64pow10" .u64 Go.Lib.pow10Tab) (h2 : ErrV W0 2) (h3 : ErrV W0 3) (hm : ∃ m, W0.cell? ⟨0, 0, none⟩ = some (.int .i64 m)) (s : S) (hl : s.length < 4294967281) :
    Ctr Tryz.prog W0 11 [.sc (.s s)] [] (.tup [.sl 1 (lstV atoiN numP s) .none, .sc (.b (lstG numP s))]) [] :=
  ctr_body follows F11_ok rfl (fun _ _ h => by cases h) rfl (by rfl) (b11 W0 hpow h2 h3 hm s hl)
end Go.Abs
