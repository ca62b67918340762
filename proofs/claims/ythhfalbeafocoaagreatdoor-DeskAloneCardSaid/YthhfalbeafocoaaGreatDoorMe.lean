/- Texts cut at a byte, and numerals: plain laws. -/
import Derived.Lib.SplitLaws
import Derived.Lib.AtoiAll
import Derived.Lib.ItoaNum
import Derived.Test.YthhfalbeafocoaaGreatDoorMc
import Derived.WalkKit
import Derived.Deep.DeepFit
namespace Go.Abs
open Go
/-- a text cut at each c -/
def spl (c : UInt8) : List UInt8 → List (List UInt8)
  | [] => [[]]
  | b :: r => match decide (b = c) with
    | true => [] :: spl c r
    | false => (match spl c r with | [] => [[b]] | x :: l => (b :: x) :: l)
theorem spl_ne (c : UInt8) : ∀ s, spl c s ≠ []
  | [] => by simp [spl]
  | b :: r => by
    unfold spl
    split
    · simp
    · split <;> simp
theorem spl_cons_eq (c : UInt8) (r : List UInt8) : spl c (c :: r) = [] :: spl c r := by simp [spl]
theorem spl_cons_ne {b c : UInt8} (h : b ≠ c) (r x : List UInt8) (l : List (List UInt8)) (hr : spl c r = x :: l) : spl c (b :: r) = (b :: x) :: l := by simp [spl, h, hr]
theorem index_ne {b c : UInt8} (h : b ≠ c) (l : List UInt8) : Lib.index (b :: l) [c] = if Lib.index l [c] == -1 then -1 else Lib.index l [c] + 1 := by
  have hp : ([c] : List UInt8).isPrefixOf (b :: l) = false := by simp [List.isPrefixOf, Ne.symm h]
  rw [Lib.index, hp]; simp
theorem index_eq (c : UInt8) (l : List UInt8) : Lib.index (c :: l) [c] = 0 := by rw [Lib.index]; simp [List.isPrefixOf]
theorem splitK_spl (c : UInt8) : ∀ s : List UInt8, Lib.splitK [c] 0 (s.count c) s = spl c s
  | [] => by simp [Lib.splitK, spl]
  | b :: r => by
    by_cases h : b = c
    · subst h
      rw [List.count_cons_self, Lib.splitK, index_eq]
      simp only [spl_cons_eq]
      rw [← splitK_spl b r]
      simp
    · rw [List.count_cons_of_ne (by simpa using h)]
      have ih := splitK_spl c r
      cases hk : r.count c with
      | zero =>
        rw [hk] at ih
        simp only [Lib.splitK] at ih ⊢
        rw [spl_cons_ne h r r [] ih.symm]
      | succ k =>
        rw [hk] at ih
        rw [Lib.splitK] at ih ⊢
        rw [index_ne h]
        by_cases hm : Lib.index r [c] = -1
        · simp only [hm, beq_self_eq_true, if_true] at ih ⊢
          rw [spl_cons_ne h r r [] ih.symm]
        · have hge := Lib.index_ge r [c]
          have hb : (Lib.index r [c] == -1) = false := by simpa using hm
          have hb2 : (Lib.index r [c] + 1 == -1) = false := by simp; omega
          simp only [hb, hb2, Bool.false_eq_true, if_false] at ih ⊢
          rw [spl_cons_ne h r _ _ ih.symm]
          have e : (Lib.index r [c] + 1).toNat = (Lib.index r [c]).toNat + 1 := by omega
          simp [e, List.take_succ_cons, Nat.add_right_comm]
theorem split_spl (c : UInt8) (s : List UInt8) : Lib.split s [c] = spl c s := by
  unfold Lib.split
  rw [Lib.count_one, splitK_spl]
theorem cut_nil (c : UInt8) : Lib.cut [] [c] = ([], [], false) := by simp [Lib.cut, Lib.index]
theorem cut_eq (c : UInt8) (r : List UInt8) : Lib.cut (c :: r) [c] = ([], r, true) := by simp [Lib.cut, index_eq]
theorem cut_ne {b c : UInt8} (h : b ≠ c) (r : List UInt8) : Lib.cut (b :: r) [c] = (b :: (Lib.cut r [c]).1, (Lib.cut r [c]).2.1, (Lib.cut r [c]).2.2) := by
  unfold Lib.cut
  rw [index_ne h]
  have hge := Lib.index_ge r [c]
  by_cases hm : Lib.index r [c] = -1
  · simp [hm]
  · have hb : (Lib.index r [c] == -1) = false := by simpa using hm
    have h0 : 0 ≤ Lib.index r [c] := by omega
    have h1 : 0 ≤ Lib.index r [c] + 1 := by omega
    have e : (Lib.index r [c] + 1).toNat = (Lib.index r [c]).toNat + 1 := by omega
    simp [hb, h0, h1, e, Nat.add_right_comm]
/-- a text, cut at the first c -/
theorem spl_cut (c : UInt8) : ∀ s : List UInt8, spl c s = match (Lib.cut s [c]).2.2 with
    | true => (Lib.cut s [c]).1 :: spl c (Lib.cut s [c]).2.1
    | false => [(Lib.cut s [c]).1]
  | [] => by simp [cut_nil, spl]
  | b :: r => by
    by_cases h : b = c
    · subst h; simp [cut_eq, spl_cons_eq]
    · rw [cut_ne h]
      have ih := spl_cut c r
      cases hf : (Lib.cut r [c]).2.2 with
      | true => rw [hf] at ih; simp only at ih ⊢; exact spl_cons_ne h _ _ _ ih
      | false => rw [hf] at ih; simp only at ih ⊢; exact spl_cons_ne h _ _ _ ih
theorem cut_false (c : UInt8) : ∀ {s : List UInt8}, (Lib.cut s [c]).2.2 = false → (Lib.cut s [c]).1 = s ∧ (Lib.cut s [c]).2.1 = []
  | [], _ => by simp [cut_nil]
  | b :: r, hf => by
    by_cases h : b = c
    · subst h; simp [cut_eq] at hf
    · rw [cut_ne h] at hf ⊢
      obtain ⟨h1, h2⟩ := cut_false c (s := r) hf
      exact ⟨by simp [h1], h2⟩
theorem spl_length (c : UInt8) : ∀ s : List UInt8, (spl c s).length = s.count c + 1
  | [] => by simp [spl]
  | b :: r => by
    by_cases h : b = c
    · subst h; simp [spl_cons_eq, spl_length b r]
    · have ih := spl_length c r
      cases hx : spl c r with
      | nil => exact absurd hx (spl_ne c r)
      | cons x l =>
        rw [hx] at ih
        rw [spl_cons_ne h r x l hx, List.count_cons_of_ne (by simpa using h)]
        simpa using ih
theorem spl_one (c : UInt8) {s : List UInt8} (h : (spl c s).length = 1) : spl c s = [s] := by
  have h1 := spl_cut c s
  cases hf : (Lib.cut s [c]).2.2 with
  | true =>
    rw [hf] at h1
    simp only at h1
    rw [h1] at h
    have := List.length_pos_iff.2 (spl_ne c (Lib.cut s [c]).2.1)
    simp only [List.length_cons] at h
    omega
  | false =>
    rw [hf] at h1
    simp only at h1
    rw [h1, (cut_false c hf).1]
theorem spl_notin (c : UInt8) {s : List UInt8} (h : c ∉ s) : spl c s = [s] := by
  refine spl_one c ?_
  rw [spl_length, List.count_eq_zero_of_not_mem h]
/-- what stands in a text, and is no c, stands in a piece -/
theorem spl_mem {b c : UInt8} (hb : b ≠ c) : ∀ {s : List UInt8}, b ∈ s → ∃ x, x ∈ spl c s ∧ b ∈ x
  | [], h => by simp at h
  | d :: r, h => by
    cases hx : spl c r with
    | nil => exact absurd hx (spl_ne c r)
    | cons x l =>
      by_cases hd : d = c
      · subst hd
        rcases List.mem_cons.1 h with rfl | h
        · exact absurd rfl hb
        · obtain ⟨y, h1, h2⟩ := spl_mem hb h
          exact ⟨y, by rw [spl_cons_eq]; exact List.mem_cons_of_mem _ h1, h2⟩
      · rw [spl_cons_ne hd r x l hx]
        rcases List.mem_cons.1 h with rfl | h
        · exact ⟨b :: x, by simp, by simp⟩
        · obtain ⟨y, h1, h2⟩ := spl_mem hb h
          rw [hx] at h1
          rcases List.mem_cons.1 h1 with rfl | h1
          · exact ⟨d :: y, by simp, List.mem_cons_of_mem _ h2⟩
          · exact ⟨y, List.mem_cons_of_mem _ h1, h2⟩
end Go.Abs

namespace Go.Abs
open Go
def digB (b : UInt8) : Bool := decide (48 ≤ b.toNat) && decide (b.toNat ≤ 57)
theorem dec_dig (u : Nat) : (Lib.decDigits u).all digB = true := by
  induction u using Nat.strongRecOn with
  | _ u ih =>
    rw [Lib.decDigits]
    split
    · rename_i h
      have e : (UInt8.ofNat (48 + u)).toNat = 48 + u := by rw [UInt8.toNat_ofNat']; omega
      simp only [List.all_cons, List.all_nil, Bool.and_true, digB, e]
      simp; omega
    · rename_i h
      have e : (UInt8.ofNat (48 + u % 10)).toNat = 48 + u % 10 := by rw [UInt8.toNat_ofNat']; omega
      rw [List.all_append, ih (u / 10) (by omega)]
      simp only [List.all_cons, List.all_nil, Bool.and_true, digB, e, Bool.true_and]
      simp; omega
theorem dec_ne (u : Nat) : Lib.decDigits u ≠ [] := by
  rw [Lib.decDigits]
  split <;> simp
theorem itoa_dig {v : Int} (h : 0 ≤ v) : (Lib.itoa v).all digB = true ∧ Lib.itoa v ≠ [] := by
  unfold Lib.itoa
  rw [if_neg (by omega)]
  exact ⟨dec_dig _, dec_ne _⟩
theorem parse_dig : ∀ (l : List UInt8) (acc k : Nat), l.all digB = true → acc < 10 ^ k → k + l.length ≤ 18 → ∃ u, Lib.parseUint10 acc l = .ok u ∧ u < 10 ^ (k + l.length)
  | [], acc, k, _, ha, _ => ⟨acc, rfl, by simpa using ha⟩
  | c :: r, acc, k, hd, ha, hk => by
    simp only [List.all_cons, Bool.and_eq_true, digB, decide_eq_true_eq] at hd
    simp only [List.length_cons] at hk
    have hp : (10 : Nat) ^ k ≤ 10 ^ 17 := Nat.pow_le_pow_right (by omega) (by omega)
    have h17 : (10 : Nat) ^ 17 = 100000000000000000 := by decide
    obtain ⟨u, h1, h2⟩ := parse_dig r (acc * 10 + (c.toNat - 48)) (k + 1) hd.2 (by rw [Nat.pow_succ]; omega) (by omega)
    refine ⟨u, ?_, by rw [show k + (c :: r).length = k + 1 + r.length by simp; omega]; exact h2⟩
    rw [Lib.parseUint10, if_pos hd.1, if_neg (by omega), if_neg (by omega)]
    exact h1
theorem atoi_dig {s : List UInt8} (hd : s.all digB = true) (h0 : s ≠ []) (hl : s.length ≤ 18) : ∃ u : Nat, Lib.atoiAll s = .ok (u : Int) ∧ u < 10 ^ s.length := by
  obtain ⟨c, r, rfl⟩ := List.exists_cons_of_ne_nil h0
  obtain ⟨u, h1, h2⟩ := parse_dig (c :: r) 0 0 hd (by omega) (by omega)
  have hc : digB c = true := by simp only [List.all_cons, Bool.and_eq_true] at hd; exact hd.1
  simp only [digB, Bool.and_eq_true, decide_eq_true_eq] at hc
  have hp : (10 : Nat) ^ (c :: r).length ≤ 10 ^ 18 := Nat.pow_le_pow_right (by omega) hl
  have h18 : (10 : Nat) ^ 18 = 1000000000000000000 := by decide
  rw [Nat.zero_add] at h2
  refine ⟨u, ?_, h2⟩
  simp only [Lib.atoiAll]
  have e1 : ¬ (c.toNat = 43 ∨ c.toNat = 45) := by omega
  have e2 : ¬ c.toNat = 45 := by omega
  rw [if_neg e1]
  simp only [Lib.parseMag, reduceCtorEq, if_false, h1, e2, not_false_eq_true, true_and, false_and]
  rw [if_neg (by omega)]
/-- the number beside Atoi's error -/
def atoiN (s : List UInt8) : Int := match Lib.atoiAll s with | .ok v => v | .range => Lib.atoiSat s | _ => 0
/-- the desk's number -/
def numP (s : List UInt8) : Bool := match Lib.atoiAll s with
  | .ok v => decide (s.length ≤ 5) && (decide (Lib.itoa v = s) && decide (0 ≤ v))
  | _ => false
/-- the reference's -/
def numR' (s : List UInt8) : Bool := decide (1 ≤ s.length) && (decide (s.length ≤ 5) && (s.all digB && decide (Lib.itoa (atoiN s) = s)))
theorem num_eq (s : List UInt8) : numP s = numR' s := by
  rw [Bool.eq_iff_iff]
  constructor
  · intro h
    unfold numP at h
    split at h
    · rename_i v hv
      simp only [Bool.and_eq_true, decide_eq_true_eq] at h
      obtain ⟨h1, h2, h3⟩ := h
      obtain ⟨h4, h5⟩ := itoa_dig h3
      rw [h2] at h4 h5
      have := List.length_pos_iff.2 h5
      simp only [numR', atoiN, hv, Bool.and_eq_true, decide_eq_true_eq]
      exact ⟨by omega, h1, h4, h2⟩
    · cases h
  · intro h
    simp only [numR', Bool.and_eq_true, decide_eq_true_eq] at h
    obtain ⟨h0, h1, h2, h3⟩ := h
    obtain ⟨u, hu, _⟩ := atoi_dig h2 (List.length_pos_iff.1 (by omega)) (by omega)
    simp only [atoiN, hu] at h3
    simp only [numP, hu, Bool.and_eq_true, decide_eq_true_eq]
    exact ⟨h1, h3, by omega⟩
theorem num_dig {s : List UInt8} (h : numP s = true) : s.all digB = true := by
  rw [num_eq] at h
  simp only [numR', Bool.and_eq_true] at h
  exact h.2.2.1
theorem num_notin {s : List UInt8} {c : UInt8} (hc : digB c = false) (h : numP s = true) : c ∉ s := fun hm => by
  have := List.all_eq_true.1 (num_dig h) c hm
  rw [hc] at this
  cases this
/-- the numbers of a schedule -/
def lstP (s : List UInt8) : Bool := match decide (s = [45]) with
  | true => true
  | false => (spl 44 s).all numP && decide ((spl 44 s).length ≤ 200)
theorem lst_notin {s : List UInt8} (h : lstP s = true) : (32 : UInt8) ∉ s := by
  intro hm
  unfold lstP at h
  split at h
  · rename_i hs
    have hs := of_decide_eq_true hs
    subst hs
    simp at hm
  · simp only [Bool.and_eq_true] at h
    obtain ⟨x, h1, h2⟩ := spl_mem (b := 32) (c := 44) (by decide) hm
    exact num_notin (by decide) (List.all_eq_true.1 h.1 x h1) h2
/-- what stands behind a word, by the letters of what it needs: the program's way -/
def behP (nm : List UInt8 → Bool) (k : UInt8) (x : List UInt8) : Bool := match decide (k = 110), decide (k = 108) with
  | true, _ => numP x
  | false, true => lstP x
  | false, false => nm x
def loopP (nm : List UInt8 → Bool) : List UInt8 → List (List UInt8) → Bool
  | [], _ => true
  | _ :: _, [] => false
  | k :: ks, x :: l => behP nm k x && loopP nm ks l
/-- the shape behind the word, in the program's way: as many pieces as letters, each as it must be -/
def restP (nm : List UInt8 → Bool) (need line : List UInt8) : Bool := decide ((spl 32 line).length = 1 + need.length) && loopP nm need (spl 32 line).tail
theorem restP_none (nm : List UInt8 → Bool) (line : List UInt8) : restP nm [] line = !(Lib.cut line [32]).2.2 := by
  unfold restP
  rw [spl_cut]
  cases (Lib.cut line [32]).2.2 with
  | false => simp [loopP]
  | true =>
    have := List.length_pos_iff.2 (spl_ne 32 (Lib.cut line [32]).2.1)
    have e : ¬ ((Lib.cut line [32]).1 :: spl 32 (Lib.cut line [32]).2.1).length = 1 + ([] : List UInt8).length := by simp only [List.length_cons, List.length_nil]; omega
    simp only [decide_eq_false e, Bool.false_and, Bool.not_true]
theorem restP_one (nm : List UInt8 → Bool) (k : UInt8) (line : List UInt8) (hn : ∀ x, behP nm k x = true → (32 : UInt8) ∉ x) : restP nm [k] line = ((Lib.cut line [32]).2.2 && behP nm k (Lib.cut line [32]).2.1) := by
  unfold restP
  rw [spl_cut]
  cases (Lib.cut line [32]).2.2 with
  | false => simp
  | true =>
    simp only [List.length_cons, List.length_nil, List.tail_cons, Bool.true_and]
    by_cases h : (32 : UInt8) ∈ (Lib.cut line [32]).2.1
    · have e : ¬ (spl 32 (Lib.cut line [32]).2.1).length + 1 = 1 + (0 + 1) := by
        rw [spl_length]
        have := List.count_pos_iff.2 h
        omega
      rw [decide_eq_false e, Bool.false_and]
      cases hb : behP nm k (Lib.cut line [32]).2.1 with
      | false => rfl
      | true => exact absurd h (hn _ hb)
    · rw [spl_notin 32 h]
      simp [loopP]
theorem restP_two (nm : List UInt8 → Bool) (line : List UInt8) : restP nm [110, 110] line = ((Lib.cut line [32]).2.2 && ((Lib.cut (Lib.cut line [32]).2.1 [32]).2.2 && (numP (Lib.cut (Lib.cut line [32]).2.1 [32]).1 && numP (Lib.cut (Lib.cut line [32]).2.1 [32]).2.1))) := by
  unfold restP
  rw [spl_cut]
  cases (Lib.cut line [32]).2.2 with
  | false => simp
  | true =>
    simp only [List.length_cons, List.length_nil, List.tail_cons, Bool.true_and]
    generalize (Lib.cut line [32]).2.1 = r
    rw [spl_cut]
    cases (Lib.cut r [32]).2.2 with
    | false => simp
    | true =>
      simp only [List.length_cons, Bool.true_and]
      by_cases h : (32 : UInt8) ∈ (Lib.cut r [32]).2.1
      · have e : ¬ (spl 32 (Lib.cut r [32]).2.1).length + 1 + 1 = 1 + (0 + 1 + 1) := by
          rw [spl_length]
          have := List.count_pos_iff.2 h
          omega
        rw [decide_eq_false e, Bool.false_and]
        cases hb : numP (Lib.cut r [32]).2.1 with
        | false => simp
        | true => exact absurd h (num_notin (by decide) hb)
      · rw [spl_notin 32 h]
        simp [loopP, behP]
end Go.Abs

set_option maxRecDepth 10000
namespace Go.Proofs
open Go.RowKit Go
/-- a variable that holds an error, or none -/
def ErrV (w : World) (g : Nat) : Prop := ∃ ev, w.cell? ⟨g, 0, none⟩ = some ev ∧ (ev = .nilIface ∨ ∃ te pe, ev = .iface te pe)
theorem bytesW_below {w w1 : World} {t : Nat} (h : w1 = w ∨ ∃ k, w1 = Lib.bytesWorld w t k) : Below w.heap.size w w1 := by
  rcases h with rfl | ⟨k, rfl⟩
  · exact Below.refl _ _
  · exact Lib.bytesWorld_below _ _ _
theorem tab_below {P : Program} {w w1 : World} {n : String} {k : IntKind} {zs : List Int} (hb : Below w.heap.size w w1) (h : Lib.TabIs P w n k zs) : Lib.TabIs P w1 n k zs := by
  unfold Lib.TabIs at h ⊢
  unfold World.var? at h ⊢
  cases hg : P.globalNamed n with
  | none => rw [hg] at h; cases h
  | some g =>
    rw [hg] at h
    simp only [Option.bind_some] at h ⊢
    by_cases hlt : g < w.heap.size
    · rw [hb.block g hlt]; exact h
    · rw [Array.getElem?_eq_none (by omega)] at h; cases h
theorem byteList (s : ByteArray) : s.toList = s.data.toList := ByteArray.toList_eq s
set_option maxHeartbeats 2000000 in
theorem Tryz.number_call (s : ByteArray) (hlim : s.size ≤ 281474976710656) (w : World) (htab : Lib.TabIs Tryz.prog w "internal/strconv.uint64pow10" .u64 Lib.pow10Tab) (h2 : ErrV w 2) (h3 : ErrV w 3) :
    Calls Tryz.prog 24 #[.string s] w fun e w' => e = .returned (.tuple #[.int .i64 (Abs.atoiN s.data.toList), .bool (Abs.numP s.data.toList)]) ∧ Below w.heap.size w w' := by
  cases hA : Lib.atoiAll s.data.toList
  · rename_i v
    have cA := Tryz.strconv_Atoi_ok s (by omega) v hA w
    have hv := Lib.atoiAll_bounds hA
    have hsz : s.data.toList.length = s.size := Array.length_toList
    rw [show Abs.atoiN s.data.toList = v by simp only [Abs.atoiN, hA], show Abs.numP s.data.toList = (decide (s.size ≤ 5) && (decide (Lib.itoa v = s.data.toList) && decide (0 ≤ v))) by simp only [Abs.numP, hA, hsz]]
    go_enter Tryz.func24, Tryz.ntmps24
    go_wp2_with (first
      | (go_at_call 54; go_fit cA; rintro e w1 ⟨rfl, hw⟩)
      | (go_at_call 13; refine (Tryz.strconv_Itoa v hv.1 hv.2 _ (tab_below (bytesW_below (by assumption)) htab)).mono ?_; rintro e w2 ⟨rfl, k, os, rfl⟩))
    · go_ret2
      rename_i h1 h2
      rw [byteList] at h2
      refine ⟨?_, ?_⟩
      · rw [decide_eq_true (show s.size ≤ 5 by omega), decide_eq_true h2]; rfl
      · exact (bytesW_below hw).trans ⟨rfl, rfl, rfl, by simp [Go.Sort.grow], fun b hb' => by
          have hb'' : b < (w1.drewN k).heap.size := Nat.lt_of_lt_of_le hb' (bytesW_below hw).size
          show ((w1.drewN k).heap ++ os)[b]? = _
          rw [Array.getElem?_append_left hb'']; rfl⟩
    · go_ret2
      rename_i h1 h2
      rw [byteList] at h2
      refine ⟨?_, ?_⟩
      · rw [decide_eq_true (show s.size ≤ 5 by omega), decide_eq_false h2]; rfl
      · exact (bytesW_below hw).trans ⟨rfl, rfl, rfl, by simp [Go.Sort.grow], fun b hb' => by
          have hb'' : b < (w1.drewN k).heap.size := Nat.lt_of_lt_of_le hb' (bytesW_below hw).size
          show ((w1.drewN k).heap ++ os)[b]? = _
          rw [Array.getElem?_append_left hb'']; rfl⟩
    · go_ret2
      rename_i h1
      exact ⟨by rw [decide_eq_false (show ¬ s.size ≤ 5 by omega)]; rfl, bytesW_below hw⟩
  · obtain ⟨ev, h2, hev⟩ := h2
    have cA := Any.strconv_Atoi_syntax Tryz.laysC172 s hlim hA ev w h2 hev
    simp only [Abs.numP, Abs.atoiN, hA]
    go_enter Tryz.func24, Tryz.ntmps24
    go_wp2_with (go_at_call 54; go_fit cA; rintro e w1 ⟨N, rfl, hN0, hN, hb⟩)
    go_ret2
    exact ⟨rfl, hb⟩
  · obtain ⟨ev, h3, hev⟩ := h3
    have cA := Tryz.strconv_Atoi_range s hlim hA ev w h3 hev
    simp only [Abs.numP, Abs.atoiN, hA]
    go_enter Tryz.func24, Tryz.ntmps24
    go_wp2_with (go_at_call 54; go_fit cA; rintro e w1 ⟨N, rfl, hN0, hN, hb⟩)
    go_ret2
    exact ⟨rfl, hb⟩
end Go.Proofs
namespace Go.Abs
open Go.Proofs Go.RowKit
theorem errV_of {W0 : World} {κ : Gh} {σ : Log} {a : Act} {w : World} (hs : RepS W0 κ σ a w) {g : Nat} (h : ErrV W0 g) : ErrV w g := by
  obtain ⟨ev, h1, h2⟩ := h
  refine ⟨ev, ?_, h2⟩
  have hlt : g < W0.heap.size := by
    cases h : W0.heap[g]? with
    | none => simp [Go.World.cell?, h] at h1
    | some x => exact (Array.getElem?_eq_some_iff.1 h).1
  rw [hs.oldcell hlt]; exact h1
/-- THE DESK'S NUMBER -/
theorem c24 (W0 : Go.World) (hpow : Go.Lib.TabIs Tryz.prog W0 "internal/strconv.uint64pow10" .u64 Go.Lib.pow10Tab) (h2 : ErrV W0 2) (h3 : ErrV W0 3) (s : List UInt8) (hl : s.length ≤ 281474976710656) :
    Ctr Tryz.prog W0 24 [.sc (.s s)] [] (.tup [.sc (.i .i64 (atoiN s)), .sc (.b (numP s))]) [] := by
  refine ctr_lib (by kernel_rfl) rfl fun κ w vals hsz hs => ?_
  have h0 := (hs.arg (n := 0) rfl).sc_inv
  rw [vals1 hsz, h0]
  refine (Tryz.number_call ⟨s.toArray⟩ (by simpa [ByteArray.size] using hl) w (hs.tab hpow) (errV_of hs h2) (errV_of hs h3)).mono ?_
  rintro e w' ⟨rfl, hb⟩
  refine ⟨_, rfl, hb, .tup _ _ rfl fun j v hj => ?_⟩
  match j, hj with
  | 0, hj => simp at hj; subst hj; exact .sc (.i .i64 (atoiN s))
  | 1, hj => simp at hj; subst hj; exact .sc (.b (numP s))
  | j + 2, hj => simp at hj
theorem atoi_ok (W0 : Go.World) (s : List UInt8) (hl : s.length ≤ 281474976710656) (v : Int) (h : Go.Lib.atoiAll s = .ok v) : Ctr Tryz.prog W0 54 [.sc (.s s)] [] (.tup [.sc (.i .i64 v), .sc .ni]) [] := by
  refine ctr_lib (by kernel_rfl) rfl fun κ w vals hsz hs => ?_
  have h0 := (hs.arg (n := 0) rfl).sc_inv
  rw [vals1 hsz, h0]
  refine (Tryz.strconv_Atoi_ok ⟨s.toArray⟩ (by have : (⟨s.toArray⟩ : ByteArray).size = s.length := by simp [ByteArray.size]
                                               omega) v h w).mono ?_
  rintro e w' ⟨rfl, hw⟩
  refine ⟨_, rfl, bytesW_below hw, .tup _ _ rfl fun j v hj => ?_⟩
  match j, hj with
  | 0, hj => simp at hj; subst hj; exact .sc (.i .i64 _)
  | 1, hj => simp at hj; subst hj; exact .sc .ni
  | j + 2, hj => simp at hj
theorem cut_ctr (W0 : Go.World) (hm : ∃ m, W0.cell? ⟨0, 0, none⟩ = some (.int .i64 m)) (s sep : List UInt8) (hl : s.length < 4294967281) :
    Ctr Tryz.prog W0 17 [.sc (.s s), .sc (.s sep)] [] (.tup [.sc (.s (Go.Lib.cut s sep).1), .sc (.s (Go.Lib.cut s sep).2.1), .sc (.b (Go.Lib.cut s sep).2.2)]) [] := by
  refine ctr_lib (by kernel_rfl) rfl fun κ w vals hsz hs => ?_
  have h0 := (hs.arg (n := 0) rfl).sc_inv
  have h1' := (hs.arg (n := 1) rfl).sc_inv
  rw [vals2 hsz, h0, h1']
  obtain ⟨m, hm⟩ := hm
  have hm' : w.cell? ⟨0, 0, none⟩ = some (.int .i64 m) := by
    have hlt : 0 < W0.heap.size := by
      cases h : W0.heap[0]? with
      | none => simp [Go.World.cell?, h] at hm
      | some x => exact (Array.getElem?_eq_some_iff.1 h).1
    rw [hs.oldcell hlt]; exact hm
  refine (Tryz.strings_Cut ⟨s.toArray⟩ ⟨sep.toArray⟩ m w (by simpa [ByteArray.size] using hl) hm').mono ?_
  rintro e w' ⟨rfl, n, rfl⟩
  refine ⟨_, rfl, ⟨rfl, rfl, rfl, Nat.le_refl _, fun _ _ => rfl⟩, .tup _ _ rfl fun j v hj => ?_⟩
  match j, hj with
  | 0, hj => simp at hj; subst hj; exact .sc (.s _)
  | 1, hj => simp at hj; subst hj; exact .sc (.s _)
  | 2, hj => simp at hj; subst hj; exact .sc (.b _)
  | j + 3, hj => simp at hj
/-- split at one byte -/
theorem split1_ctr (W0 : Go.World) (hm : ∃ m, W0.cell? ⟨0, 0, none⟩ = some (.int .i64 m)) (s : List UInt8) (c : UInt8) (hl : s.length < 4294967281) :
    Ctr Tryz.prog W0 22 [.sc (.s s), .sc (.s [c])] [] (.sl 1 (strsD (spl c s)) .full) [] := by
  have e : (Go.Lib.splitB ⟨[c].toArray⟩ 0 (Go.Lib.countB ⟨s.toArray⟩ ⟨[c].toArray⟩) ⟨s.toArray⟩).map (·.data.toList) = spl c s := by
    rw [Go.Lib.splitB_data, ← split_spl]; rfl
  refine split_ctr W0 hm s [c] hl (Nat.le_refl _) _ e ?_
  rw [← e, List.length_map]
  exact Go.Lib.splitB_all _ (Nat.le_refl _) 0 _ _ rfl
end Go.Abs
