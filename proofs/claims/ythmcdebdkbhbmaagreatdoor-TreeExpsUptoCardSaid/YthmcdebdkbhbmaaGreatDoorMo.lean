/- How long the words of an expression are. -/
import Derived.Test.YthmcdebdkbhbmaaGreatDoorMn
import Derived.Test.YthmcdebdkbhbmaaGreatDoorR6
import Derived.Test.YthmcdebdkbhbmaaGreatDoorC4
import Derived.Test.YthmcdebdkbhbmaaGreatDoorMd
import Derived.Test.YthmcdebdkbhbmaaGreatDoorMh
import Derived.Test.YthmcdebdkbhbmaaGreatDoorMi
import Derived.Test.YthmcdebdkbhbmaaGreatDoorMj
import Derived.Test.YthmcdebdkbhbmaaGreatDoorMm
set_option maxRecDepth 100000
namespace Go.Abs
open Go.Proofs
def Sm (B : Nat) (ws : List S) : Prop := ∀ w ∈ ws, w.length ≤ B
theorem Sm.mono {B C : Nat} {ws : List S} (h : Sm B ws) (hc : B ≤ C) : Sm C ws := fun w hw => Nat.le_trans (h w hw) hc
theorem Sm.nil {B : Nat} : Sm B [] := fun _ h => by simp at h
theorem Sm.cons {B : Nat} {w : S} {r : List S} (h : w.length ≤ B) (hr : Sm B r) : Sm B (w :: r) := by
  intro v hv
  rcases List.mem_cons.1 hv with rfl | hv
  · exact h
  · exact hr v hv
theorem Sm.app {B : Nat} {a b : List S} (ha : Sm B a) (hb : Sm B b) : Sm B (a ++ b) := by
  intro v hv
  rcases List.mem_append.1 hv with h | h
  · exact ha v h
  · exact hb v h
theorem Sm.around {B : Nat} {o c : S} {ws : List S} (ho : o.length ≤ B) (h : Sm B ws) (hc : c.length ≤ B) : Sm B (aroundW o ws c) := by
  rw [aroundW_eq]; exact .cons ho (h.app (.cons hc .nil))
theorem sm_commaT {B : Nat} (hB : 1 ≤ B) : ∀ (ws : List (List S)), (∀ w ∈ ws, Sm B w) → Sm B (commaT ws)
  | [], _ => Sm.nil
  | w :: r, h => by
    have e : commaT (w :: r) = [44] :: (w ++ commaT r) := by simp [commaT]
    rw [e]
    exact .cons hB ((h w (by simp)).app (sm_commaT hB r (fun v hv => h v (by simp [hv]))))
theorem sm_commaJ {B : Nat} (hB : 1 ≤ B) : ∀ (ws : List (List S)), (∀ w ∈ ws, Sm B w) → Sm B (commaJ ws)
  | [], _ => Sm.nil
  | w :: r, h => (h w (by simp)).app (sm_commaT hB r (fun v hv => h v (by simp [hv])))
theorem sm_cond {B : Nat} {c : Bool} {a b : List S} (ha : Sm B a) (hb : Sm B b) : Sm B (bif c then a else b) := by cases c <;> assumption
theorem sm_opW {B : Nat} {nm : S} (hn : nm.length ≤ B) : ∀ (ws : List (List S)), (∀ w ∈ ws, Sm B w) → Sm B (opW nm ws)
  | [], _ => Sm.nil
  | [w], h => by
    have e : opW nm [w] = nm :: w := by simp [opW]
    rw [e]; exact .cons hn (h w (by simp))
  | w :: v :: r, h => by
    refine sm_cond ?_ ?_
    · have e : [[nm], w, v].flatten = nm :: (w ++ v) := by simp
      rw [e]; exact .cons hn ((h w (by simp)).app (h v (by simp)))
    · have e : [w, [nm], v].flatten = w ++ (nm :: v) := by simp
      rw [e]; exact (h w (by simp)).app (.cons hn (h v (by simp)))
theorem itoa_len {n : Int} (h : Fits .i64 n) : (Go.Lib.itoa n).length ≤ 20 := by
  have hf : -9223372036854775808 ≤ n ∧ n < 9223372036854775808 := by
    have h2 : -9223372036854775808 ≤ n ∧ n ≤ 9223372036854775807 := by simpa [Fits] using h
    omega
  have hd : ∀ u : Nat, u < 10000000000000000000 → (Go.Lib.decDigits u).length ≤ 19 := fun u hu => by rw [Go.Lib.decDigits_length]; exact nDigits_le 18 u hu
  unfold Go.Lib.itoa
  split
  · rw [List.length_cons]; have := hd n.natAbs (by omega); omega
  · have := hd n.toNat (by omega); omega
mutual
theorem wE_sm : ∀ (x : Exp), x.ok → Sm (bulkL x.d + 20) (wE x)
  | .mk d nm n l, h => by
    have hb : bulkL (Exp.d (.mk d nm n l)) = d.length + 1 + (nm.length + 1 + (1 + (bulkLL (expsD l) + 1 + 0))) := rfl
    have hl := wEs_sm l h.2.2
    rw [hb]
    generalize hB : d.length + 1 + (nm.length + 1 + (1 + (bulkLL (expsD l) + 1 + 0))) + 20 = B
    have hw : ∀ w ∈ wEs l, Sm B w := fun w hw => (hl w hw).mono (by omega)
    have hh : Sm B ((wEs l).headD []) := by
      cases e : wEs l with
      | nil => exact .nil
      | cons w r => exact hw w (by simp [e])
    have hn := itoa_len h.1.2.2
    have k1 : ∀ {c : UInt8}, [c].length ≤ B := by intro c; simp; omega
    have h1 : 1 ≤ B := by omega
    simp only [wE]
    refine sm_cond (.cons (by omega) .nil) (sm_cond (.cons ?_ .nil) (sm_cond (.cons (by omega) .nil) (sm_cond (.around k1 (sm_opW (by omega) _ hw) k1) (sm_cond (.cons k1 (.cons (by omega) (.cons (by omega) (.cons k1 .nil)))) (sm_cond ?_ (sm_cond ?_ (sm_cond (.cons k1 (.cons (by omega) (.cons (by omega) (.cons (by omega) (.cons k1 .nil))))) (sm_cond (.around k1 ?_ k1) (.around k1 ?_ k1)))))))))
    · cases hz : decide (n = 0) <;> simp [truthW, hz] <;> omega
    · have e : [[nm], aroundW [91] (commaJ (wEs l)) [93]].flatten = nm :: aroundW [91] (commaJ (wEs l)) [93] := by simp
      rw [e]; exact .cons (by omega) (.around k1 (sm_commaJ h1 _ hw) k1)
    · have e : [[nm], aroundW [40] (commaJ (wEs l)) [41]].flatten = nm :: aroundW [40] (commaJ (wEs l)) [41] := by simp
      rw [e]; exact .cons (by omega) (.around k1 (sm_commaJ h1 _ hw) k1)
    · have e : [[d, nm, Go.Lib.itoa n], (wEs l).headD []].flatten = d :: nm :: Go.Lib.itoa n :: (wEs l).headD [] := by simp
      rw [e]; exact .cons (by omega) (.cons (by omega) (.cons (by omega) hh))
    · have e : [[d, nm], aroundW [91] (commaJ (wEs l)) [93]].flatten = d :: nm :: aroundW [91] (commaJ (wEs l)) [93] := by simp
      rw [e]; exact .cons (by omega) (.cons (by omega) (.around k1 (sm_commaJ h1 _ hw) k1))
theorem wEs_sm : ∀ (l : List Exp), oksE l → ∀ w ∈ wEs l, Sm (bulkLL (expsD l) + 20) w
  | [], _, w, hw => by simp [wEs] at hw
  | x :: r, h, w, hw => by
    have hb : bulkLL (expsD (x :: r)) = bulkL x.d + bulkLL (expsD r) := rfl
    rw [hb]
    simp only [wEs, List.mem_cons] at hw
    rcases hw with rfl | hw
    · exact (wE_sm x h.1).mono (by omega)
    · exact (wEs_sm r h.2 w hw).mono (by omega)
end
mutual
theorem cE_bulk : ∀ x, cE x ≤ bulkL x.d
  | .mk d nm n l => by
    have hb : bulkL (Exp.d (.mk d nm n l)) = d.length + 1 + (nm.length + 1 + (1 + (bulkLL (expsD l) + 1 + 0))) := rfl
    have := cL_bulk l
    rw [hb]; simp only [cE]; omega
theorem cL_bulk : ∀ l, cL l ≤ bulkLL (expsD l)
  | [] => Nat.le_refl _
  | x :: r => by
    have hb : bulkLL (expsD (x :: r)) = bulkL x.d + bulkLL (expsD r) := rfl
    have := cE_bulk x; have := cL_bulk r
    rw [hb]; simp only [cL]; omega
end
theorem join_sm {B : Nat} : ∀ (ws : List S), Sm B ws → (Go.Lib.join ws [32]).length ≤ ws.length * (B + 1)
  | [], _ => by simp [Go.Lib.join, List.intercalate, List.intersperse]
  | [w], h => by rw [join_one]; have := h w (by simp); simp; omega
  | w :: v :: r, h => by
    have := join_sm (v :: r) (fun u hu => h u (by simp at hu ⊢; exact .inr hu))
    have hw := h w (by simp)
    rw [join_two]
    simp only [List.length_append, List.length_cons] at this ⊢
    have e : (r.length + 1 + 1) * (B + 1) = (r.length + 1) * (B + 1) + (B + 1) := Nat.succ_mul _ _
    omega
/-- bounds of a text by the bulk -/
theorem bulk_facts {x : Exp} (hx : x.ok) (hb : bulkL x.d ≤ 1048576) : cE x ≤ 1048576 ∧ (Go.Lib.join (wE x) [32]).length ≤ 140737488355328 := by
  have h1 := cE_bulk x
  have h2 := join_sm _ (wE_sm x hx)
  have h3 := wE_len x
  refine ⟨by omega, ?_⟩
  have h4 : (wE x).length * (bulkL x.d + 20 + 1) ≤ 10485760 * 1048597 := Nat.mul_le_mul (by omega) (by omega)
  omega
end Go.Abs

set_option maxRecDepth 100000
namespace Go.Abs
open Go.Proofs
def F7 : Fn := ⟨.seq (.reg [⟨none, .box 1 (.t 0)⟩, ⟨none, .mv 2 (.c (.sc (.b false)))⟩]) (.seq (.reg [⟨none, .ld 10 4 true (.t 1)⟩, ⟨none, .call (some 11) (.c (.fn 24 [])) [.t 10]⟩, ⟨none, .mv 9 (.t 11)⟩, ⟨none, .ext 12 (.t 9) 0⟩, ⟨none, .ext 13 (.t 9) 1⟩, ⟨none, .mv 3 (.t 12)⟩, ⟨none, .mv 4 (.t 13)⟩]) (.seq (.reg [⟨none, .ld 15 4 true (.t 1)⟩, ⟨none, .call (some 16) (.c (.fn 25 [])) [.t 15]⟩, ⟨none, .mv 14 (.t 16)⟩, ⟨none, .ext 17 (.t 14) 0⟩, ⟨none, .ext 18 (.t 14) 1⟩, ⟨none, .mv 5 (.t 17)⟩, ⟨none, .mv 6 (.t 18)⟩]) (.seq (.seq (.regD [⟨none, .mv 19 (.t 3)⟩, ⟨none, .mv 20 (.t 5)⟩, ⟨none, .bin 21 .neq (.t 19) (.t 20)⟩, ⟨none, .mv 22 (.t 21)⟩, ⟨some ((22, false)), .mv 23 (.t 4)⟩, ⟨some ((22, false)), .mv 24 (.t 6)⟩, ⟨some ((22, false)), .bin 25 .neq (.t 23) (.t 24)⟩, ⟨none, .pick 26 (.t 22) (.c (.sc (.b true))) (.t 25)⟩, ⟨none, .mv 27 (.t 26)⟩, ⟨some ((27, false)), .ld 28 4 true (.t 1)⟩, ⟨some ((27, false)), .call (some 29) (.c (.fn 26 [])) [.t 28]⟩, ⟨some ((27, false)), .ld 30 4 true (.t 1)⟩, ⟨some ((27, false)), .call (some 31) (.c (.fn 27 [])) [.t 30]⟩, ⟨some ((27, false)), .binB 32 true (.t 29) (.t 31)⟩, ⟨none, .pick 33 (.t 27) (.c (.sc (.b true))) (.t 32)⟩] [0, 0, 3, 7, 15, 15, 63, 127, 255, 511, 1023, 511, 4095, 8191, 16383]) (.cond (.t 33) (.seq (.reg [⟨none, .mv 2 (.c (.sc (.b false)))⟩]) .ret) .skip)) (.seq (.seq (.reg [⟨none, .mv 34 (.t 4)⟩, ⟨none, .bin 35 .neq (.t 34) (.c (.sc (.i .i64 0)))⟩, ⟨none, .mv 36 (.t 35)⟩, ⟨some ((36, false)), .mv 37 (.t 3)⟩, ⟨some ((36, false)), .lenS 38 (.t 37)⟩, ⟨some ((36, false)), .bin 39 .gtr (.t 38) (.c (.sc (.i .i64 10000)))⟩, ⟨none, .pick 40 (.t 36) (.c (.sc (.b true))) (.t 39)⟩]) (.cond (.t 40) (.seq (.reg [⟨none, .call (some 41) (.c (.fn 13 [])) []⟩, ⟨none, .mv 2 (.t 41)⟩]) .ret) .skip)) (.seq (.reg [⟨none, .mv 43 (.t 3)⟩, ⟨none, .call (some 44) (.c (.fn 28 [])) [.t 43]⟩, ⟨none, .mv 42 (.t 44)⟩, ⟨none, .ext 45 (.t 42) 0⟩, ⟨none, .ext 46 (.t 42) 1⟩, ⟨none, .alloc 7 [.sc (.s []), .sc (.s []), .sc (.i .i64 0), .sl 4 [] .full]⟩, ⟨none, .st (.t 7) 4 (.t 45)⟩, ⟨none, .mv 8 (.t 46)⟩]) (.seq (.reg [⟨none, .mv 47 (.t 8)⟩, ⟨none, .bin 48 .eql (.t 47) (.c (.sc (.i .i64 0)))⟩, ⟨none, .mv 49 (.t 48)⟩, ⟨some ((49, true)), .ld 50 4 true (.t 1)⟩, ⟨some ((49, true)), .ld 51 4 true (.t 7)⟩, ⟨some ((49, true)), .call (some 52) (.c (.fn 12 [])) [.t 50, .t 51]⟩, ⟨none, .pick 53 (.t 49) (.t 52) (.c (.sc (.b false)))⟩, ⟨none, .mv 54 (.t 53)⟩, ⟨some ((54, true)), .call (some 55) (.c (.fn 13 [])) []⟩, ⟨none, .pick 56 (.t 54) (.t 55) (.c (.sc (.b false)))⟩, ⟨none, .mv 2 (.t 56)⟩]) .ret)))))), [(2, 0)], 57⟩
theorem F7_ok : compT Tryz.prog (fun _ => an0) 7 = some F7 := by kernel_rfl
set_option maxHeartbeats 4000000 in
theorem b7_bad (W0 : Go.World) (htab : Go.Lib.TabIs Tryz.prog W0 "strings.asciiSpace" .u8 Go.Lib.asciiSpaceTab) (x : Exp)
    (h24 : Ctr Tryz.prog W0 24 [eE x] [] (txtA [] 20) []) (h25 : Ctr Tryz.prog W0 25 [eE x] [] (txtA [] 20) []) (h26 : Ctr Tryz.prog W0 26 [eE x] [] (.sc (.b false)) []) (h27 : Ctr Tryz.prog W0 27 [eE x] [] (.sc (.b false)) []) :
    Body (Ctr Tryz.prog W0) F7.ac F7.rs [eE x] [] (.sc (.b true)) [] := by
  have h13 := c13 W0 htab
  obtain ⟨a, b, n, l⟩ := x
  repeat' ((conv => whnf); (first | with_reducible refine brec (fun _ => ?_) (fun _ => ?_) | refine callP.pure _ h24 ⟨rfl, rfl⟩ ?_ | refine callP.pure _ h25 ⟨rfl, rfl⟩ ?_ | refine callP.pure _ h26 ⟨rfl, rfl⟩ ?_ | refine callP.pure _ h27 ⟨rfl, rfl⟩ ?_ | refine callP.pure _ h13 ⟨rfl, rfl⟩ ?_ | fail))
  all_goals (conv => whnf)
  all_goals (first | exact fin_b rfl | (exfalso; simp_all [beqL]; done) | (exfalso; simp [beqL] at hq; done))
set_option maxHeartbeats 4000000 in
theorem b7_good (W0 : Go.World) (htab : Go.Lib.TabIs Tryz.prog W0 "strings.asciiSpace" .u8 Go.Lib.asciiSpaceTab) (x : Exp) (s : S)
    (h24 : Ctr Tryz.prog W0 24 [eE x] [] (txtA s 0) []) (h25 : Ctr Tryz.prog W0 25 [eE x] [] (txtA s 0) []) (h26 : Ctr Tryz.prog W0 26 [eE x] [] (.sc (.b true)) []) (h27 : Ctr Tryz.prog W0 27 [eE x] [] (.sc (.b true)) [])
    (h28 : s.length ≤ 10000 → Ctr Tryz.prog W0 28 [.sc (.s s)] [] (txtX x 0) []) (h12 : Ctr Tryz.prog W0 12 [eE x, eE x] [] (.sc (.b true)) []) :
    Body (Ctr Tryz.prog W0) F7.ac F7.rs [eE x] [] (.sc (.b true)) [] := by
  have h13 := c13 W0 htab
  obtain ⟨a, b, n, l⟩ := x
  repeat' ((conv => whnf); (first | with_reducible refine brec (fun hq => ?_) (fun hq => ?_) | refine callP.pure _ h24 ⟨rfl, rfl⟩ ?_ | refine callP.pure _ h25 ⟨rfl, rfl⟩ ?_ | refine callP.pure _ h26 ⟨rfl, rfl⟩ ?_ | refine callP.pure _ h27 ⟨rfl, rfl⟩ ?_ | refine callP.pure _ h13 ⟨rfl, rfl⟩ ?_ | refine callP.pure _ h12 ⟨rfl, rfl⟩ ?_ | refine callP.pure _ (h28 (by simp at hq; omega)) ⟨rfl, rfl⟩ ?_ | fail))
  all_goals (conv => whnf)
  all_goals (first | exact fin_b rfl | (exfalso; simp_all [beqL]; done) | (exfalso; simp [beqL] at hq; done))
theorem c7 (W0 : Go.World) (hk : Wk W0) (x : Exp) (hx : x.ok) (hb : bulkL x.d ≤ 1048576) : Ctr Tryz.prog W0 7 [eE x] [] (.sc (.b true)) [] := by
  obtain ⟨hc, hj⟩ := bulk_facts hx hb
  have htab := hk.sp
  have hn : nE x ≤ 1152921504606846976 := by rw [nE_cE]; omega
  have h24 := c24 W0 hk x hx hc hj
  have h25 := c25 W0 hk x hx hc hj
  have h26 := c26 W0 hk x hx hn
  have h27 := c27 W0 hk x hx hn
  have h12 := c12 W0 x x hx hx
  rw [sameE_refl] at h12
  rw [validER_eq] at h27
  refine ctr_body follows F7_ok rfl (fun _ _ h => by cases h) rfl (by cases x; rfl) ?_
  cases hv : validE x with
  | false =>
    simp only [fmtT, fmtC, hv, cond_false] at h24 h25
    rw [hv] at h26 h27
    exact b7_bad W0 htab x h24 h25 h26 h27
  | true =>
    simp only [fmtT, fmtC, hv, cond_true] at h24 h25
    rw [hv] at h26 h27
    have hv' : ((decide (nE x ≤ 1500) && decide (dpE x ≤ 60)) && wellE x) = true := hv
    rw [Bool.and_eq_true] at hv'
    obtain ⟨hf, hw⟩ := hv'
    refine b7_good W0 htab x _ h24 h25 h26 h27 (fun hs => ?_) h12
    obtain ⟨l, n, t1, t2, t3, t4, t5⟩ := readBack x hw hs
    exact c28 W0 hk _ l n x hs t1 t2 t3 t4 hx t5 hw hn hf
end Go.Abs
