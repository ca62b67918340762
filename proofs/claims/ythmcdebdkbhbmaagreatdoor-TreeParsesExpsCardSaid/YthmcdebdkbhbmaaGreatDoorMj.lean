/- Which expressions are valid, and what their words are: the two answer the same. -/
import Derived.Test.YthmcdebdkbhbmaaGreatDoorMi
import Derived.Test.YthmcdebdkbhbmaaGreatDoorC4
set_option maxRecDepth 100000
namespace Go.Abs
theorem beqL_iff {a b : S} : beqL a b = true ↔ a = b := by simp [beqL]
theorem small_inner {n : Int} (h : smallI n = true) : innerI n = true := by simp [innerI, h]
theorem kindS_name (s : S) : beqL (kindS s) [110, 97, 109, 101] = !hasB s keyList := by
  unfold kindS
  cases hasB s keyList <;> decide
theorem nameR_eq (s : S) : nameR s = isNameB s := by
  unfold isNameB validT nameR
  cases s with
  | nil => decide +kernel
  | cons c r =>
    have hw := wordN_le (c :: r)
    simp only [wordR]
    cases hs : smallI c.toNat with
    | false =>
      simp only [Bool.false_and]
      have hw0 : wordN (c :: r) = 0 := by simp [wordN, hs]
      have : beqL (firstT (c :: r)).1 [110, 97, 109, 101] = false ∨ (firstT (c :: r)).2.2 = false := by
        unfold firstT
        rw [hw0]
        simp only
        split
        · left; show beqL [105, 110, 116] [110, 97, 109, 101] = false; decide
        · split
          · left; show beqL [115, 105, 103, 110] [110, 97, 109, 101] = false; decide
          · right; rfl
      rcases this with h | h <;> rw [h] <;> simp
    | true =>
      have hi := small_inner hs
      have hwn : wordN (c :: r) = innN r + 1 := by simp [wordN, hs]
      have hin : innN (c :: r) = innN r + 1 := by simp [innN, hi]
      have hf : firstT (c :: r) = (kindS ((c :: r).take (innN r + 1)), (c :: r).take (innN r + 1), true) := by unfold firstT; rw [hwn]
      rw [hf, hin]
      simp only [Bool.true_and]
      rw [hwn] at hw
      by_cases hl : innN r + 1 = (c :: r).length
      · rw [hl, List.take_length, kindS_name, beqL_refl]
        simp
      · have h1 : beqL ((c :: r).take (innN r + 1)) (c :: r) = false := by
          simp only [beqL, decide_eq_false_iff_not]
          intro e
          have := congrArg List.length e
          rw [List.length_take] at this
          omega
        rw [h1, show decide (innN r + 1 = (c :: r).length) = false from decide_eq_false hl]
        simp
theorem betw13 (k : Nat) : betwB 1 (k : Int) 3 = (decide (1 ≤ k) && decide (k ≤ 3)) := by
  simp only [betwB]
  congr 1 <;> (rw [decide_eq_decide]; omega)
theorem arity_eq (nm : S) (k : Nat) : decide ((k : Int) = arityR nm) = (decide (k ≠ 0) && decide (operandsN nm = (k : Int))) := by
  have e1 : ws1 = [[43], [45], [42], [47], [37], [60], [60, 61], [61, 61], [38], [124], [109, 105, 110], [109, 97, 120]] := rfl
  have e2 : ws2 = [[33], [105, 110, 116]] := rfl
  rw [Bool.eq_iff_iff]
  simp only [Bool.and_eq_true, decide_eq_true_eq]
  simp only [arityR, operandsN, e1, e2]
  cases hasB nm [[43], [45], [42], [47], [37], [60], [60, 61], [61, 61], [38], [124], [109, 105, 110], [109, 97, 120]] <;> cases hasB nm [[33], [105, 110, 116]] <;> simp only <;> constructor <;> intro h <;> omega
theorem headR_eq (d nm : S) (n : Int) (k : Nat) : headR d nm n k = headE d nm n k := by
  by_cases hd : d = [105, 110, 116] ∨ d = [98, 111, 111, 108] ∨ d = [118, 97, 114] ∨ d = [111, 112] ∨ d = [110, 111, 110, 101] ∨ d = [114, 101, 97, 100] ∨ d = [103, 101, 116] ∨ d = [99, 111, 117, 110, 116] ∨ d = [97, 116] ∨ d = [99, 97, 108, 108] ∨ d = [108, 111, 119] ∨ d = [104, 105, 103, 104] ∨ d = [111, 114, 100] ∨ d = [104, 97, 115] ∨ d = [110, 116, 104]
  · rcases hd with rfl | rfl | rfl | rfl | rfl | rfl | rfl | rfl | rfl | rfl | rfl | rfl | rfl | rfl | rfl
    all_goals simp only [headR, headE, hasB, beqL, nameR_eq]
    all_goals first
      | (simp [betwB, isFoldR, isOpB, ws0, hasB, beqL, arityR, operandsN, ws1, ws2]; done)
      | (simp [betwB, isFoldR, isOpB, ws0, hasB, beqL, arityR, operandsN, ws1, ws2, Bool.and_assoc, Bool.and_comm, Bool.and_left_comm]; done)
      | (simp only [betw13, arity_eq]; simp; done)
      | skip
  · simp only [not_or] at hd
    obtain ⟨h0, h1, h2, h3, h4, h5, h6, h7, h8, h9, h10, h11, h12, h13, h14⟩ := hd
    simp [headR, headE, hasB, beqL, h0, h1, h2, h3, h4, h5, h6, h7, h8, h9, h10, h11, h12, h13, h14]
mutual
theorem shE_eq : ∀ x, shE x = wellE x | .mk a b n l => by simp only [shE, wellE, headR_eq, shL_eq l]
theorem shL_eq : ∀ l, shL l = wellL l | [] => rfl | x :: r => by simp only [shL, wellL, shE_eq x, shL_eq r]
end
end Go.Abs
