/- The library for the run. -/
import Derived.Test.YteihidcjmfckeaaGreatDoorMe
import Derived.Test.YteihidcjmfckeaaGreatDoorMf
import Derived.Test.YteihidcjmfckeaaGreatDoorU6
import Derived.Test.YteihidcjmfckeaaGreatDoorMq
set_option linter.all false
set_option maxRecDepth 1000000
namespace Go.Abs
open Go Go.Proofs Go.Shelf Go.RowKit Go.Lib
def mP : List AV → Option (List (List UInt8))
 | [] => some []
 | .sc (.s s) :: r => (match mP r with | some l => some (s :: l) | none => none)
 | _ => none
theorem gH : ∀ {l : List AV} {ss : List (List UInt8)}, mP l = some ss → l = gj ss
 | [], ss, h => by simp only [mP, Option.some.injEq] at h; subst h; rfl
 | x :: r, ss, h => by
   unfold mP at h
   split at h
   ·rename_i e; cases e
   ·rename_i s r' e
    cases e
    split at h
    ·rename_i l hl
     cases h
     rw [gH hl]; rfl
    ·cases h
   ·cases h
def strsE : List (List Abs.Data) → Option (List (List UInt8))
 | [] => some []
 | [.sc (.s s)] :: r => (match strsE r with | some l => some (s :: l) | none => none)
 | _ => none
theorem kD : ∀ {l : List (List Abs.Data)} {ss : List (List UInt8)}, strsE l = some ss → l = cH ss
 | [], ss, h => by simp only [strsE, Option.some.injEq] at h; subst h; rfl
 | x :: r, ss, h => by
   unfold strsE at h
   split at h
   ·rename_i e; cases e
   ·rename_i s r' e
    cases e
    split at h
    ·rename_i l hl
     cases h
     rw [kD hl]; rfl
    ·cases h
   ·cases h
def noTok : List AV → Bool
 | [] => true
 | v :: r => match aZ v with | [] => noTok r | _ => false
theorem pF : ∀ {l : List AV}, noTok l = true → l.flatMap aZ = []
 | [], _ => rfl
 | v :: r, h => by
   unfold noTok at h
   split at h
   ·rename_i hv; rw [List.flatMap_cons, hv, pF h]; rfl
   ·cases h
/- sorting that the kernel can walk -/
def insS (x : List UInt8) : List (List UInt8) → List (List UInt8)
 | [] => [x]
 | y :: r => match Op.bytesLess y x with | true => y :: insS x r | false => x :: y :: r
def jk : List (List UInt8) → List (List UInt8)
 | [] => []
 | x :: r => insS x (jk r)
theorem jl (x : List UInt8) : ∀ l : List (List UInt8), (insS x l).Perm (x :: l)
 | [] => .refl _
 | y :: r => by
   simp only [insS]
   split
   ·exact ((jl x r).cons y).trans (.swap x y r)
   ·exact .refl _
theorem jG : ∀ l : List (List UInt8), (jk l).Perm l
 | [] => .refl _
 | x :: r => (jl x (jk r)).trans ((jG r).cons x)
theorem o4 (x : List UInt8) : ∀ {l : List (List UInt8)}, l.Pairwise (fun a b => a ≤ b) → (insS x l).Pairwise (fun a b => a ≤ b)
 | [], _ => by simp [insS]
 | y :: r, h => by
   rw [List.pairwise_cons] at h
   simp only [insS]
   split
   ·rename_i hb
    rw [bytesLess_eq, decide_eq_true_eq] at hb
    rw [List.pairwise_cons]
    refine ⟨fun a ha => ?_, o4 x h.2⟩
    rcases List.mem_cons.1 ((jl x r).mem_iff.1 ha) with rfl | ha
    ·exact List.le_of_lt hb
    ·exact h.1 a ha
   ·rename_i hb
    rw [bytesLess_eq, decide_eq_false_iff_not] at hb
    have hxy : x ≤ y := List.not_lt.1 hb
    rw [List.pairwise_cons, List.pairwise_cons]
    refine ⟨fun a ha => ?_, h⟩
    rcases List.mem_cons.1 ha with rfl | ha
    ·exact hxy
    ·exact List.le_trans hxy (h.1 a ha)
theorem jH : ∀ l : List (List UInt8), (jk l).Pairwise (fun a b => a ≤ b)
 | [] => .nil
 | x :: r => o4 x (jH r)
theorem isortS_eq (l : List (List UInt8)) : jk l = l.mergeSort fun x y => decide (x ≤ y) := by
 refine List.Perm.eq_of_pairwise (le := fun a b => a ≤ b) (fun a b _ _ h1 h2 => List.le_antisymm h1 h2) (jH l) ?_ ((jG l).trans (List.mergeSort_perm l _).symm)
 have := List.pairwise_mergeSort (le := fun x y : List UInt8 => decide (x ≤ y)) (fun a b c h1 h2 => by
  simp only [decide_eq_true_eq] at h1 h2 ⊢; exact List.le_trans h1 h2) (fun a b => by
  simp only [Bool.or_eq_true, decide_eq_true_eq]; exact List.le_total a b) l
 exact this.imp fun h => by simpa using h
def pJ (args : List AV) (H : List (List AV)) : Option (AV × List (List AV)) := match args, H with
 | [.sl 1 [] .none], [] => some (.tup [], [])
 | [.cs 1 0 o n c t], [L] => (match isM L, Nat.ble n 100000, sub L o n with
   | false, true, some V => (match mP V with
     | some ss => (match aT o (gj (jk ss)) L with
       | some L' => (match noTok L' with | true => some (.tup [], [L']) | false => none)
       | none => none)
     | none => none)
   | _, _, _ => none)
 | _, _ => none
theorem libSort_ok (W0 : Go.World) {args : List AV} {H : List (List AV)} {res : AV} {H' : List (List AV)} (h : pJ args H = some (res, H')) : Ctr Tryz.prog W0 20 args H res H' := by
 unfold pJ at h
 split at h
 ·cases h; exact sort0_ctr W0
 ·rename_i o n c t L
  split at h
  ·rename_i V hm hn hs
   split at h
   ·rename_i ss hv
    split at h
    ·rename_i L' hsp
     split at h
     ·rename_i ht
      cases h
      have := gH hv
      subst this
      rw [isortS_eq] at hsp
      exact sort_ctr W0 (Nat.le_trans (Nat.le_of_ble_eq_true hn) (by omega)) hm hs hsp (pF ht)
     ·cases h
    ·cases h
   ·cases h
  ·cases h
 ·cases h
def gO (args : List AV) (H : List (List AV)) : Option (AV × List (List AV)) := match args, H with
 | [.sl 1 [] .none], [] => some (.sl 1 [] .none, [])
 | [.cs 1 0 o n c t], [L] => (match isM L, Nat.ble n 100000, sub L o n with
   | false, true, some V => (match mP V with
     | some ss => (match Lib.compact ss with
       | cc => (match Nat.ble cc.length ss.length, aT o (gj (cc ++ List.replicate (ss.length - cc.length) [])) L with
         | true, some L' => (match noTok L' with | true => some (.cs 1 0 o cc.length c t, [L']) | false => none)
         | _, _ => none))
     | none => none)
   | _, _, _ => none)
 | _, _ => none
theorem mI (W0 : Go.World) {args : List AV} {H : List (List AV)} {res : AV} {H' : List (List AV)} (h : gO args H = some (res, H')) : Ctr Tryz.prog W0 21 args H res H' := by
 unfold gO at h
 split at h
 ·cases h; exact pZ W0
 ·rename_i o n c t L
  split at h
  ·rename_i V hm hn hs
   split at h
   ·rename_i ss hv
    dsimp only at h
    split at h
    ·rename_i L' hle hsp
     split at h
     ·rename_i ht
      cases h
      have := gH hv
      subst this
      exact compact_ctr W0 (Nat.le_trans (Nat.le_of_ble_eq_true hn) (by omega)) hm hs hsp (Nat.le_of_ble_eq_true hle) (pF ht)
     ·cases h
    ·cases h
   ·cases h
  ·cases h
 ·cases h
def ek (sz : Nat) (args : List AV) (H : List (List AV)) : Option (AV × List (List AV)) := match args, H with
 | [.sl z els .none], [] => (match Nat.beq z sz, Nat.ble els.length 100000 with
   | true, true => some (.sl z els (.t 0), [])
   | _, _ => none)
 | _, _ => none
theorem dR {W0 : Go.World} {f sz : Nat} (hc : ∀ els : List (List Abs.Data), els.length ≤ 100000 → Ctr Tryz.prog W0 f [.sl sz els .none] [] (.sl sz els (.t 0)) []) {args : List AV} {H : List (List AV)} {res : AV} {H' : List (List AV)} (h : ek sz args H = some (res, H')) : Ctr Tryz.prog W0 f args H res H' := by
 unfold ek at h
 split at h
 ·rename_i z els
  split at h
  ·rename_i hz hn
   cases h
   have := Nat.eq_of_beq_eq_true hz
   subst this
   exact hc els (Nat.le_of_ble_eq_true hn)
  ·cases h
 ·cases h
def libMul (args : List AV) (H : List (List AV)) : Option (AV × List (List AV)) := match args, H with
 | [.sc (.i .u64 (.ofNat a)), .sc (.i .u64 (.ofNat b))], [] => (match Nat.blt a 18446744073709551616, Nat.blt b 18446744073709551616 with
   | true, true => some (.tup [.sc (.i .u64 (a * b / 18446744073709551616 : Nat)), .sc (.i .u64 (a * b % 18446744073709551616 : Nat))], [])
   | _, _ => none)
 | _, _ => none
theorem libMul_ok (W0 : Go.World) {args : List AV} {H : List (List AV)} {res : AV} {H' : List (List AV)} (h : libMul args H = some (res, H')) : Ctr Tryz.prog W0 387 args H res H' := by
 unfold libMul at h
 split at h
 ·rename_i a b
  split at h
  ·rename_i h1 h2
   cases h
   exact mul64_ctr W0 a b (by simpa [Nat.blt_eq] using h1) (by simpa [Nat.blt_eq] using h2)
  ·cases h
 ·cases h
def pL (args : List AV) (H : List (List AV)) : Option (AV × List (List AV)) := match args, H with
 | [.sl 1 els .none, .sc (.s sep)], [] => (match strsE els with
   | some l => (match Nat.ble l.length 100000, Nat.ble (Lib.join l sep).length 140737488355328 with
     | true, true => some (.sc (.s (Lib.join l sep)), [])
     | _, _ => none)
   | none => none)
 | _, _ => none
theorem libJoin_ok (W0 : Go.World) {args : List AV} {H : List (List AV)} {res : AV} {H' : List (List AV)} (h : pL args H = some (res, H')) : Ctr Tryz.prog W0 29 args H res H' := by
 unfold pL at h
 split at h
 ·rename_i els sep
  split at h
  ·rename_i l hl
   split at h
   ·rename_i h1 h2
    cases h
    have := kD hl
    subst this
    exact join_ctr W0 l sep (Nat.le_trans (Nat.le_of_ble_eq_true h1) (by omega)) (Nat.le_of_ble_eq_true h2)
   ·cases h
  ·cases h
 ·cases h
def libCF0 (args : List AV) (H : List (List AV)) : Option (AV × List (List AV)) := match args, H with
 | [.ptr 0 0, .sc (.s _)], (x0 :: x1 :: x2 :: x3 :: .sl 6 [] t :: xr) :: Ht => some (.tup [.agg e0E.c, .sc (.b false)], (x0 :: x1 :: x2 :: x3 :: .sl 6 [] t :: xr) :: Ht)
 | a, H => libCF a H
theorem libCF0_ok (W0 : Go.World) {args : List AV} {H : List (List AV)} {res : AV} {H' : List (List AV)} (h : libCF0 args H = some (res, H')) : Ctr Tryz.prog W0 476 args H res H' := by
 unfold libCF0 at h
 split at h
 ·cases h; exact find476_nil W0 _ _ _ _ _ _ _ _
 ·exact libCF_ok W0 h
def libEF0 (args : List AV) (H : List (List AV)) : Option (AV × List (List AV)) := match args, H with
 | [.ptr 0 0, .sc (.s s)], (x0 :: x1 :: .sl 3 [] t :: xr) :: Ht => some (.agg [.sc (.s s), .sc (.i .i64 (-1)), .sc (.b false)], (x0 :: x1 :: .sl 3 [] t :: xr) :: Ht)
 | a, H => libEF a H
theorem libEF0_ok (W0 : Go.World) {args : List AV} {H : List (List AV)} {res : AV} {H' : List (List AV)} (h : libEF0 args H = some (res, H')) : Ctr Tryz.prog W0 131 args H res H' := by
 unfold libEF0 at h
 split at h
 ·cases h; exact find131_nil W0 _ _ _ _ _ _
 ·exact libEF_ok W0 h
end Go.Abs
namespace Go.Abs
open Go Go.Proofs Go.Shelf Go.RowKit Go.Lib
def coreP : Prg := ⟨[⟨[116, 111, 116, 97, 108], [105, 110, 116], [⟨[97], [97, 114, 114, 97, 121], 1⟩], [⟨[118, 97, 114], [120], [], 0, [], [⟨[105, 110, 116], [], 0, []⟩], [], []⟩, ⟨[115, 101, 116], [120], [], 0, [], [⟨[110, 111, 110, 101], [43], 0, []⟩], [], []⟩, ⟨[102, 111, 114, 97, 108, 108], [], [97], 0, [[116, 95, 48]], [], [⟨[43], [120]⟩], [[⟨[115, 101, 116], [120], [], 0, [], [⟨[97, 116], [97], 0, [⟨[118, 97, 114], [116, 95, 48], 0, []⟩]⟩], [], []⟩]]⟩, ⟨[114, 101, 116, 117, 114, 110], [], [], 0, [], [⟨[118, 97, 114], [120], 0, []⟩], [], []⟩]⟩], [⟨[100, 111, 109], [100], [99, 121, 99, 108, 105, 99], 0, [], [⟨[105, 110, 116], [], 0, []⟩, ⟨[105, 110, 116], [], 2, []⟩, ⟨[105, 110, 116], [], 1, []⟩], [], []⟩, ⟨[97, 114, 114], [97], [100], 0, [], [⟨[105, 110, 116], [], 5, []⟩], [], []⟩, ⟨[119, 114, 105, 116, 101], [], [], 0, [], [⟨[99, 97, 108, 108], [116, 111, 116, 97, 108], 0, [⟨[118, 97, 114], [97], 0, []⟩]⟩], [], []⟩]⟩
def l7 : Nat → Nat → List UInt8
 | 0, _ => []
 | k + 1, u => match Nat.blt u 10 with | true => [UInt8.ofNat (48 + u)] | false => l7 k (u / 10) ++ [UInt8.ofNat (48 + u % 10)]
theorem digsF_eq : ∀ (k u : Nat), u < 10 ^ (k + 1) → l7 (k + 1) u = decDigits u
 | 0, u, h => by
   rw [decDigits, dif_pos (by simpa using h)]
   have : Nat.blt u 10 = true := by simpa [Nat.blt_eq] using h
   simp only [l7, this]
 | k + 1, u, h => by
   rw [decDigits]
   by_cases hu : u < 10
   ·have : Nat.blt u 10 = true := by simpa [Nat.blt_eq] using hu
    rw [dif_pos hu]
    simp only [l7, this]
   ·have : Nat.blt u 10 = false := by
     cases hb : Nat.blt u 10 with
     | false => rfl
     | true => exact absurd (by simpa [Nat.blt_eq] using hb) hu
    rw [dif_neg hu, ← digsF_eq k (u / 10) (by rw [Nat.pow_succ] at h; omega)]
    show (match Nat.blt u 10 with | true => [UInt8.ofNat (48 + u)] | false => l7 (k + 1) (u / 10) ++ [UInt8.ofNat (48 + u % 10)]) = _
    rw [this]
def pM (args : List AV) (H : List (List AV)) : Option (AV × List (List AV)) := match args, H with
 | [.sc (.i .i64 (.ofNat n))], [] => (match Nat.ble n 9223372036854775807 with
   | true => some (.sc (.s (l7 20 n)), [])
   | false => none)
 | _, _ => none
theorem libItoa_ok {W0 : Go.World} (hk : Wk W0) {args : List AV} {H : List (List AV)} {res : AV} {H' : List (List AV)} (h : pM args H = some (res, H')) : Ctr Tryz.prog W0 98 args H res H' := by
 unfold pM at h
 split at h
 ·rename_i n
  split at h
  ·rename_i hn
   cases h
   have hn' := Nat.le_of_ble_eq_true hn
   have e : l7 20 n = Lib.itoa (Int.ofNat n) := by
    rw [digsF_eq 19 n (by omega)]
    unfold Lib.itoa
    rw [if_neg (by have : (0:Int) ≤ Int.ofNat n := Int.natCast_nonneg n; omega)]
    rfl
   rw [e]
   exact itoa_ctr W0 hk.pow _ (by have : Int.ofNat n = (n : Int) := rfl; rw [this]; constructor <;> omega)
  ·cases h
 ·cases h
def pK (args : List AV) (H : List (List AV)) : Option (AV × List (List AV)) := match args, H with
 | [.sc (.s s)], [] => (match Nat.ble s.length 100000 with
   | true => some (.sc (.b (bq s)), [])
   | false => none)
 | _, _ => none
theorem libName_ok {W0 : Go.World} (hk : Wk W0) {args : List AV} {H : List (List AV)} {res : AV} {H' : List (List AV)} (h : pK args H = some (res, H')) : Ctr Tryz.prog W0 99 args H res H' := by
 unfold pK at h
 split at h
 ·split at h
  ·rename_i hn
   cases h
   exact c168 W0 hk _ (Nat.le_trans (Nat.le_of_ble_eq_true hn) (by omega))
  ·cases h
 ·cases h
theorem aw_valid : kv ⟨cG, awS⟩ = true := by kernel_rfl
theorem core_valid : kv coreP = true := by kernel_rfl
theorem core_good : okGb coreP = true := by kernel_rfl
theorem core_n : decide (nG coreP ≤ 1152921504606846976) = true := by kernel_rfl
def lD (args : List AV) (H : List (List AV)) : Option (AV × List (List AV)) := match args, H with
 | [x], [] => (match fi 3 x (eG coreP) with
   | true => some (.sc (.b true), [])
   | false => (match fi 3 x (eG ⟨cG, awS⟩) with
     | true => some (.sc (.b true), [])
     | false => none))
 | _, _ => none
theorem libValid_ok {W0 : Go.World} (hk : Wk W0) {args : List AV} {H : List (List AV)} {res : AV} {H' : List (List AV)} (h : lD args H = some (res, H')) : Ctr Tryz.prog W0 186 args H res H' := by
 unfold lD at h
 split at h
 ·rename_i x
  split at h
  ·rename_i hx
   cases h
   have := dH _ _ _ hx
   subst this
   have := c18 W0 hk coreP (je core_good) (of_decide_eq_true core_n)
   rwa [core_valid] at this
  ·split at h
   ·rename_i hx
    cases h
    have := dH _ _ _ hx
    subst this
    have := c18 W0 hk ⟨cG, awS⟩ (je p8) (of_decide_eq_true aw_n)
    rwa [aw_valid] at this
   ·cases h
 ·cases h
def lE (args : List AV) (H : List (List AV)) : Option (AV × List (List AV)) := match args, H with
 | [.sc (.s s)], [] => (match aD s srcB with
   | true => some (.tup [eG ⟨cG, []⟩, .sc (.i .i64 0)], [])
   | false => (match aD s (srcB ++ [32] ++ awB) with
     | true => some (.tup [eG ⟨cG, awS⟩, .sc (.i .i64 0)], [])
     | false => none))
 | _, _ => none
theorem libParse_ok {W0 : Go.World} (hk : Wk W0) {args : List AV} {H : List (List AV)} {res : AV} {H' : List (List AV)} (h : lE args H = some (res, H')) : Ctr Tryz.prog W0 30 args H res H' := by
 unfold lE at h
 split at h
 ·rename_i s
  split at h
  ·rename_i hx
   cases h
   have : s = srcB := of_decide_eq_true hx
   subst this
   exact src_parse W0 hk
  ·split at h
   ·rename_i hx
    cases h
    have : s = srcB ++ [32] ++ awB := of_decide_eq_true hx
    subst this
    exact aw_parse W0 hk
   ·cases h
 ·cases h
def aE (f : FuncId) (args : List AV) (H : List (List AV)) : Option (AV × List (List AV)) :=
 match Nat.beq f 476 with
 | true => libCF0 args H
 | false => match Nat.beq f 131 with
 | true => libEF0 args H
 | false => match Nat.beq f 373 with
 | true => libTO args H
 | false => match Nat.beq f 20 with
 | true => pJ args H
 | false => match Nat.beq f 21 with
 | true => gO args H
 | false => match Nat.beq f 316 with
 | true => ek 3 args H
 | false => match Nat.beq f 368 with
 | true => ek 6 args H
 | false => match Nat.beq f 92 with
 | true => ek 1 args H
 | false => match Nat.beq f 329 with
 | true => ek 1 args H
 | false => match Nat.beq f 387 with
 | true => libMul args H
 | false => match Nat.beq f 29 with
 | true => pL args H
 | false => match Nat.beq f 98 with
 | true => pM args H
 | false => match Nat.beq f 99 with
 | true => pK args H
 | false => match Nat.beq f 186 with
 | true => lD args H
 | false => match Nat.beq f 30 with
 | true => lE args H
 | false => none
theorem dQ {W0 : Go.World} (hk : Wk W0) : ∀ f args H res H', aE f args H = some (res, H') → Ctr Tryz.prog W0 f args H res H' := by
 intro f args H res H' h
 unfold aE at h
 split at h
 ·rename_i e; have := Nat.eq_of_beq_eq_true e; subst this; exact libCF0_ok W0 h
 split at h
 ·rename_i e; have := Nat.eq_of_beq_eq_true e; subst this; exact libEF0_ok W0 h
 split at h
 ·rename_i e; have := Nat.eq_of_beq_eq_true e; subst this; exact libTO_ok W0 h
 split at h
 ·rename_i e; have := Nat.eq_of_beq_eq_true e; subst this; exact libSort_ok W0 h
 split at h
 ·rename_i e; have := Nat.eq_of_beq_eq_true e; subst this; exact mI W0 h
 split at h
 ·rename_i e; have := Nat.eq_of_beq_eq_true e; subst this; exact dR (clone316 W0) h
 split at h
 ·rename_i e; have := Nat.eq_of_beq_eq_true e; subst this; exact dR (clone368 W0) h
 split at h
 ·rename_i e; have := Nat.eq_of_beq_eq_true e; subst this; exact dR (clone92 W0) h
 split at h
 ·rename_i e; have := Nat.eq_of_beq_eq_true e; subst this; exact dR (clone329 W0) h
 split at h
 ·rename_i e; have := Nat.eq_of_beq_eq_true e; subst this; exact libMul_ok W0 h
 split at h
 ·rename_i e; have := Nat.eq_of_beq_eq_true e; subst this; exact libJoin_ok W0 h
 split at h
 ·rename_i e; have := Nat.eq_of_beq_eq_true e; subst this; exact libItoa_ok hk h
 split at h
 ·rename_i e; have := Nat.eq_of_beq_eq_true e; subst this; exact libName_ok hk h
 split at h
 ·rename_i e; have := Nat.eq_of_beq_eq_true e; subst this; exact libValid_ok hk h
 split at h
 ·rename_i e; have := Nat.eq_of_beq_eq_true e; subst this; exact libParse_ok hk h
 ·cases h
end Go.Abs
namespace Go.Abs
open Go Go.Proofs
theorem recOK {W0 : Go.World} (hk : Wk W0) {cs : List RecC} (hc : ∀ c ∈ cs, ak Tryz.prog W0 c) {c : RecC} (h : ar (ab Tryz.prog ax) (bE cs aE) 60 c.f c.a c.H = some c.r) : ak Tryz.prog W0 c :=
 RunOK.ok (lib := bE cs aE) h follows (b9 cS) (fH hc (dQ hk))
theorem az {W0 : Go.World} (hk : Wk W0) {c : RecC} (h : ar (ab Tryz.prog ax) aE 60 c.f c.a c.H = some c.r) : ak Tryz.prog W0 c :=
 RunOK.ok (lib := aE) h follows (b9 cS) (dQ hk)
end Go.Abs
namespace Go.Abs.R
def i (n : Int) : AV := .sc (.i .i64 n)
def t : AV := .sc (.b true)
def F : AV := .sc (.b false)
def N : AV := .sc .np
def Q : AV := .sc .nf
def s (l : List UInt8) : AV := .sc (.s l)
def v (c : Sc) : AV := .sc c
def z : AV := .sc (.i .i64 0)
def u : AV := .sc (.s [])
def p (b o : Nat) : AV := .ptr b o
def e (k : Nat) : AV := .sl k [] .full
def y (k : Nat) (l : List (List Data)) : AV := .sl k l .full
def l (k : Nat) (l : List (List Data)) : AV := .sl k l .none
def x (k : Nat) (l : List (List Data)) (t : Nat) : AV := .sl k l (.t t)
def c (a b o n m : Nat) : AV := .cs a b o n m .full
def k (a b o n m t : Nat) : AV := .cs a b o n m (.t t)
def I (n : Int) : Data := .sc (.i .i64 n)
def d (l : List UInt8) : Data := .sc (.s l)
def V (c : Sc) : Data := .sc c
def L (k : Nat) (l : List (List Data)) : Data := .lst k l
def E (k : Nat) : Data := .lst k []
def Z : Data := .sc (.i .i64 0)
def U : Data := .sc (.s [])
def w (l : List UInt8) : Sc := .s l
end Go.Abs.R
namespace Go.Abs.RN
open Go.Abs Go.Abs.R
def a0 : Data := (d [100])
def a1 : Data := (E 1)
def a2 : Data := (d [105, 110, 116])
def a3 : Data := (E 4)
def a4 : List Data := [a2, U, Z, a3]
def a5 : List Data := [a2, U, (I 1), a3]
def a6 : Data := (E 2)
def a7 : Data := (d [97])
def a8 : Data := (V (w [99, 97, 108, 108]))
def a9 : Data := (d [118, 97, 114])
def a10 : Data := (L 4 [[a9, a7, Z, a3]])
def a11 : AV := (s [100])
def a12 : AV := (s [97])
def a13 : AV := (v (w [116, 111, 116, 97, 108]))
def a14 : Data := (d [120])
def a15 : Data := (L 4 [a4])
def a16 : Data := (d [43])
def a17 : Data := (V (w [114, 101, 116, 117, 114, 110]))
def a18 : List Data := [a9, a14, Z, a3]
def a19 : Data := (L 4 [a18])
def a20 : AV := (s [120])
def a21 : AV := (v (w [103, 114, 101, 97, 116, 101, 115, 116]))
def a22 : List AV := [a11, a11, a12, a13, a12, a13, a12, a20, a20, a12, a20, a21]
def a23 : Data := (d [105, 102])
def a24 : Data := (d [111, 112])
def a25 : Data := (d [61, 61])
def a26 : Data := (V (w [99, 111, 117, 110, 116]))
def a27 : List Data := [a26, a7, Z, a3]
def a28 : Data := (d [98])
def a29 : List Data := [(E 8)]
def a30 : Data := (L 1 [a29, [(L 8 [[(V (w [104, 97, 108, 116])), U, (V (w [115, 105, 122, 101])), Z, a1, a3, a6, a1]])]])
def a31 : Data := (d [115])
def a32 : List Data := [a9, a31, U, Z, a1, a15, a6, a1]
def a33 : Data := (V (w [102, 111, 114, 97, 108, 108]))
def a34 : Data := (L 1 [[(d [105])]])
def a35 : Data := (d [115, 101, 116])
def a36 : Data := (d [42])
def a37 : Data := (d [97, 116])
def a38 : List Data := [a9, (d [105]), Z, a3]
def a39 : Data := (L 4 [a38])
def a40 : Data := (d [110, 116, 104])
def a41 : Data := (d [111, 114, 100])
def a42 : List Data := [a9, a31, Z, a3]
def a43 : AV := (s [98])
def a44 : AV := (s [115])
def a45 : List AV := [a12, a20, a20, a12, a20, (s [100, 111, 116]), a12, a43, a12, a43, a44, a12]
def a46 : AV := (s [105])
def a47 : Data := (d [111, 107])
def a48 : Data := (d [38])
def a49 : List AV := [a46, a44, a44, a12, a46, a43, a43, a12, a46, a44, (v (w [115, 97, 109, 101])), a12]
def a50 : AV := (s [111, 107])
def a51 : List AV := [a43, a50, a12, a43, a50, a12, a46, a50, a50, a12, a46, a43]
def a52 : Data := (d [112])
def a53 : Data := (d [107])
def a54 : List Data := [a9, a53, Z, a3]
def a55 : List Data := [a9, a52, Z, a3]
def a56 : Data := (d [60])
def a57 : Data := (d [112, 117, 116])
def a58 : AV := (v (w [115, 104, 105, 102, 116]))
def a59 : AV := (s [107])
def a60 : AV := (s [112])
def a61 : List AV := [a43, a12, a46, a50, a58, a12, a43, a59, a12, a46, a60, a12]
def a62 : List AV := [a46, a59, a60, a60, a43, a12, a46, a43, a43, a60, a12, a46]
def a63 : List Data := [a9, (d [113]), Z, a3]
def a64 : Data := (d [106])
def a65 : List Data := [a9, a64, Z, a3]
def a66 : AV := (s [113])
def a67 : List AV := [(s [114, 101, 118]), a12, a12, a46, a60, a12, a46, a66, a12, a60, a60, a66]
def a68 : AV := (s [106])
def a69 : List AV := [a68, a12, a66, a20, a12, a46, a12, a46, a12, a68, a12, a68]
def a70 : Data := (d [102, 111, 114])
def a71 : AV := (v (w [112, 114, 101, 102, 105, 120]))
def a72 : List AV := [a20, a71, a12, a44, a12, a46, a44, a44, a12, a46, a12, a46]
def a73 : Data := (d [110])
def a74 : Data := (V (w [119, 104, 105, 108, 101]))
def a75 : List Data := [a9, a73, Z, a3]
def a76 : Data := (d [37])
def a77 : List Data := [a9, (d [121]), Z, a3]
def a78 : AV := (v (w [115, 111, 114, 116]))
def a79 : AV := (s [110])
def a80 : List AV := [a44, a78, a12, a79, a12, a59, a59, a79, a12, a46, a60, a12]
def a81 : AV := (s [121])
def a82 : List AV := [a46, a60, a59, a60, a79, a68, a12, a60, a20, a12, a46, a81]
def a83 : List AV := [a12, a68, a81, a20, a12, a46, a81, a12, a68, a20, a59, a59]
def a84 : Data := (d [104])
def a85 : List Data := [a9, (d [118]), Z, a3]
def a86 : AV := (v (w [104, 105, 115, 116]))
def a87 : AV := (s [104])
def a88 : AV := (s [118])
def a89 : List AV := [a86, a87, a12, a87, a46, a87, a46, a12, a46, a88, a12, a46]
def a90 : Data := (L 1 [[(d [105])], [a64]])
def a91 : AV := (v (w [99, 111, 108, 117, 109, 110, 115]))
def a92 : List AV := [a88, a88, a87, a68, a87, a88, a87, a68, a87, a68, a91, a12]
def a93 : AV := (v (w [102, 105, 114, 115, 116]))
def a94 : List AV := [a79, a12, a93, a12, a12, a46, a68, a46, a93, a79, a79, a79]
def a95 : Data := (V (w [99, 111, 108, 117, 109, 110, 115]))
def a96 : List Data := [a9, a73, U, Z, a1, (L 4 [[a8, a95, Z, a10]]), a6, a1]
def a97 : Data := (d [114])
def a98 : AV := (v (w [114, 111, 119, 115]))
def a99 : AV := (s [114])
def a100 : List Data := [a9, a28, Z, a3]
def a101 : Data := (V (w [114, 111, 119, 115]))
def a102 : List Data := [a9, (d [109]), Z, a3]
def a103 : List AV := [a98, a12, a79, a91, a12, a99, a79, a99, a12, a79, a99, (v (w [109, 97, 116, 109, 117, 108]))]
def a104 : AV := (s [99])
def a105 : AV := (s [109])
def a106 : List AV := [a104, a12, a43, a79, a91, a12, a105, a91, a43, a98, a104, a98]
def a107 : List AV := [a12, a79, a98, a43, a105, a91, a104, a104, a46, a68, a60, a104]
def a108 : List AV := [a46, a68, a44, a59, a59, a79, a20, a60, a105, a79, a59, a81]
def a109 : List AV := [a59, a105, a60, a105, a44, a44, a12, a12, a20, a12, a20, a43]
def a110 : List AV := [a43, a81, a43, a81, a59, a59, a104, a46, a68, a44, (v (w [116, 117, 114, 110])), a43]
def a111 : List AV := [a12, a79, a91, a12, a105, a91, a43, a98, a43, a79, a98, a12]
def a112 : List AV := [a105, a43, a46, a68, a60, a43, a46, a68, a20, a60, a105, a79]
def a113 : AV := (v (w [112, 111, 119, 101, 114]))
def a114 : List AV := [a60, a105, a43, a46, a68, a12, a12, a20, a12, a20, a113, a20]
def a115 : List AV := [a79, a105, a99, a105, a43, a20, a105, a105, a105, a59, a79, a59]
def a116 : List AV := [a59, a99, a99, a43, a105, a43, a43, a43, a105, a59, a59, a99]
def a117 : List Data := [a2, U, (I 97), a3]
def a118 : AV := (v (w [102, 111, 117, 114, 105, 101, 114]))
def a119 : List AV := [a118, a43, a12, (s [119]), a79, a12, a79, a43, a43, a46, a59, a43]
def a120 : List AV := [a46, a44, a68, a68, a79, a44, a44, a12, a12, a68, a113, (s [119])]
def a121 : Data := (d [103])
def a122 : List Data := [a9, (d [108]), Z, a3]
def a123 : AV := (v (w [114, 101, 97, 99, 104]))
def a124 : AV := (s [103])
def a125 : AV := (s [108])
def a126 : Data := (V (w [97, 114, 114, 97, 121]))
def a127 : List Data := [a7, a126, (I 1)]
def a128 : Data := (V (w [110, 111, 110, 101]))
def a129 : List (List Data) := [[(V (w [116, 111, 116, 97, 108])), a2, (L 3 [[a7, a126, Z]]), (L 8 [[a9, a14, U, Z, a1, a15, a6, a1], [(V (w [114, 101, 100, 117, 99, 101])), a14, a16, Z, (L 1 [[a7]]), a3, a6, a1], [a17, U, U, Z, a1, a19, a6, a1]])], [(V (w [103, 114, 101, 97, 116, 101, 115, 116])), a2, (L 3 [[a7, a126, Z]]), (L 8 [[a9, a14, U, Z, a1, a15, a6, a1], [(V (w [114, 101, 100, 117, 99, 101])), a14, (d [109, 97, 120]), Z, (L 1 [[a7]]), a3, a6, a1], [a17, U, U, Z, a1, a19, a6, a1]])], [(d [100, 111, 116]), a2, (L 3 [a127, [a28, a126, (I 1)]]), (L 8 [[a23, U, U, Z, a1, (L 4 [[a24, a25, Z, (L 4 [a27, [a26, a28, Z, a3]])]]), a6, a30], a32, [a33, U, a7, Z, a34, a3, (L 2 [[a16, a31]]), (L 1 [[(L 8 [[a35, a31, U, Z, a1, (L 4 [[a24, a36, Z, (L 4 [[a37, a7, Z, a39], [a37, a28, Z, (L 4 [[a40, a28, Z, (L 4 [[a41, a7, Z, a39]])]])]])]]), a6, a1]])]])], [a17, U, U, Z, a1, (L 4 [a42]), a6, a1]])], [(V (w [115, 97, 109, 101])), (V (w [98, 111, 111, 108])), (L 3 [a127, [a28, a126, (I 1)]]), (L 8 [[a9, a47, U, Z, a1, (L 4 [[a24, a25, Z, (L 4 [a27, [a26, a28, Z, a3]])]]), a6, a1], [a23, U, U, Z, a1, (L 4 [[a9, a47, Z, a3]]), a6, (L 1 [[(L 8 [[a33, U, a7, Z, a34, a3, (L 2 [[a48, a47]]), (L 1 [[(L 8 [[a35, a47, U, Z, a1, (L 4 [[a24, a25, Z, (L 4 [[a37, a7, Z, a39], [a37, a28, Z, (L 4 [[a40, a28, Z, (L 4 [[a41, a7, Z, a39]])]])]])]]), a6, a1]])]])]])], a29])], [a17, U, U, Z, a1, (L 4 [[a9, a47, Z, a3]]), a6, a1]])], [(V (w [115, 104, 105, 102, 116])), a128, (L 3 [a127, [a28, a126, (I 1)], [a53, a2, Z]]), (L 8 [[a33, U, a7, Z, a34, a3, a6, (L 1 [[(L 8 [[a9, a52, U, Z, a1, (L 4 [[a24, (d [45]), Z, (L 4 [[a41, a7, Z, a39], a54])]]), a6, a1], [a23, U, U, Z, a1, (L 4 [[a24, a48, Z, (L 4 [[a24, (d [60, 61]), Z, (L 4 [a4, a55])], [a24, a56, Z, (L 4 [a55, [a26, a28, Z, a3]])]])]]), a6, (L 1 [[(L 8 [[a57, a7, U, Z, a1, (L 4 [a38, [a37, a28, Z, (L 4 [[a40, a28, Z, (L 4 [a55])]])]]), a6, a1]])], [(L 8 [[a57, a7, U, Z, a1, (L 4 [a38, a4]), a6, a1]])]])]])]])]])], [(d [114, 101, 118]), a128, (L 3 [a127]), (L 8 [[a33, U, a7, Z, a34, a3, a6, (L 1 [[(L 8 [[a9, a52, U, Z, a1, (L 4 [[a41, a7, Z, a39]]), a6, a1], [a9, (d [113]), U, Z, a1, (L 4 [[a24, (d [45]), Z, (L 4 [[a24, (d [45]), Z, (L 4 [a27, a5])], a55])]]), a6, a1], [a23, U, U, Z, a1, (L 4 [[a24, a56, Z, (L 4 [a55, a63])]]), a6, (L 1 [[(L 8 [[a9, a64, U, Z, a1, (L 4 [[a40, a7, Z, (L 4 [a63])]]), a6, a1], [a9, a14, U, Z, a1, (L 4 [[a37, a7, Z, a39]]), a6, a1], [a57, a7, U, Z, a1, (L 4 [a38, [a37, a7, Z, (L 4 [a65])]]), a6, a1], [a57, a7, U, Z, a1, (L 4 [a65, a18]), a6, a1]])], a29])]])]])]])], [(V (w [112, 114, 101, 102, 105, 120])), a128, (L 3 [a127]), (L 8 [a32, [a70, U, a7, Z, a34, a3, a6, (L 1 [[(L 8 [[a35, a31, U, Z, a1, (L 4 [[a24, a16, Z, (L 4 [a42, [a37, a7, Z, a39]])]]), a6, a1], [a57, a7, U, Z, a1, (L 4 [a38, a42]), a6, a1]])]])]])], [(V (w [115, 111, 114, 116])), a128, (L 3 [a127]), (L 8 [[a9, a73, U, Z, a1, (L 4 [a27]), a6, a1], [a9, a53, U, Z, a1, a15, a6, a1], [a74, U, U, Z, a1, (L 4 [[a24, a56, Z, (L 4 [a54, a75])]]), a6, (L 1 [[(L 8 [[a33, U, a7, Z, a34, a3, a6, (L 1 [[(L 8 [[a9, a52, U, Z, a1, (L 4 [[a41, a7, Z, a39]]), a6, a1], [a23, U, U, Z, a1, (L 4 [[a24, a48, Z, (L 4 [[a24, a25, Z, (L 4 [[a24, a76, Z, (L 4 [[a24, a16, Z, (L 4 [a55, a54])], [a2, U, (I 2), a3]])], a4])], [a24, a56, Z, (L 4 [[a24, a16, Z, (L 4 [a55, a5])], a75])]])]]), a6, (L 1 [[(L 8 [[a9, a64, U, Z, a1, (L 4 [[a40, a7, Z, (L 4 [[a24, a16, Z, (L 4 [a55, a5])]])]]), a6, a1], [a9, a14, U, Z, a1, (L 4 [[a37, a7, Z, a39]]), a6, a1], [a9, (d [121]), U, Z, a1, (L 4 [[a37, a7, Z, (L 4 [a65])]]), a6, a1], [a23, U, U, Z, a1, (L 4 [[a24, a56, Z, (L 4 [a77, a18])]]), a6, (L 1 [[(L 8 [[a57, a7, U, Z, a1, (L 4 [a38, a77]), a6, a1], [a57, a7, U, Z, a1, (L 4 [a65, a18]), a6, a1]])], a29])]])], a29])]])]])], [a35, a53, U, Z, a1, (L 4 [[a24, a16, Z, (L 4 [a54, a5])]]), a6, a1]])]])]])], [(V (w [104, 105, 115, 116])), a128, (L 3 [[a84, a126, (I 1)], a127]), (L 8 [[a33, U, a84, Z, a34, a3, a6, (L 1 [[(L 8 [[a57, a84, U, Z, a1, (L 4 [a38, a4]), a6, a1]])]])], [a70, U, a7, Z, a34, a3, a6, (L 1 [[(L 8 [[a9, (d [118]), U, Z, a1, (L 4 [[a37, a7, Z, a39]]), a6, a1], [a23, U, U, Z, a1, (L 4 [[a24, a48, Z, (L 4 [[a24, (d [60, 61]), Z, (L 4 [a4, a85])], [a24, a56, Z, (L 4 [a85, [a26, a84, Z, a3]])]])]]), a6, (L 1 [[(L 8 [[a9, a64, U, Z, a1, (L 4 [[a40, a84, Z, (L 4 [a85])]]), a6, a1], [a57, a84, U, Z, a1, (L 4 [a65, [a24, a16, Z, (L 4 [[a37, a84, Z, (L 4 [a65])], a5])]]), a6, a1]])], a29])]])]])]])], [a95, a2, (L 3 [[a7, a126, (I 2)]]), (L 8 [[a9, a73, U, Z, a1, a15, a6, a1], [a23, U, U, Z, a1, (L 4 [[a24, a56, Z, (L 4 [a4, a27])]]), a6, (L 1 [[(L 8 [[a9, (V (w [102, 105, 114, 115, 116])), U, Z, a1, (L 4 [[a40, a7, Z, a15]]), a6, a1], [a70, U, a7, Z, a90, a3, a6, (L 1 [[(L 8 [[a23, U, U, Z, a1, (L 4 [[a24, a25, Z, (L 4 [a38, [a9, (V (w [102, 105, 114, 115, 116])), Z, a3]])]]), a6, (L 1 [[(L 8 [[a35, a73, U, Z, a1, (L 4 [[a24, a16, Z, (L 4 [a75, a5])]]), a6, a1]])], a29])]])]])]])], a29])], [a17, U, U, Z, a1, (L 4 [a75]), a6, a1]])], [a101, a2, (L 3 [[a7, a126, (I 2)]]), (L 8 [a96, [a9, a97, U, Z, a1, a15, a6, a1], [a23, U, U, Z, a1, (L 4 [[a24, a56, Z, (L 4 [a4, a75])]]), a6, (L 1 [[(L 8 [[a35, a97, U, Z, a1, (L 4 [[a24, (d [47]), Z, (L 4 [a27, a75])]]), a6, a1]])], a29])], [a17, U, U, Z, a1, (L 4 [[a9, a97, Z, a3]]), a6, a1]])], [(V (w [109, 97, 116, 109, 117, 108])), a128, (L 3 [[(d [99]), a126, (I 2)], [a7, a126, (I 2)], [a28, a126, (I 2)]]), (L 8 [a96, [a9, (d [109]), U, Z, a1, (L 4 [[a8, a95, Z, (L 4 [a100])]]), a6, a1], [a23, U, U, Z, a1, (L 4 [[a24, a48, Z, (L 4 [[a24, a48, Z, (L 4 [[a24, a25, Z, (L 4 [[a8, a101, Z, (L 4 [[a9, (d [99]), Z, a3]])], [a8, a101, Z, a10]])], [a24, a25, Z, (L 4 [a75, [a8, a101, Z, (L 4 [a100])]])]])], [a24, a25, Z, (L 4 [a102, [a8, a95, Z, (L 4 [[a9, (d [99]), Z, a3]])]])]])]]), a6, a30], [a33, U, (d [99]), Z, a90, a3, a6, (L 1 [[(L 8 [[a9, a52, U, Z, a1, (L 4 [[a41, (d [99]), Z, (L 4 [a38, a65])]]), a6, a1], a32, [a9, a53, U, Z, a1, a15, a6, a1], [a74, U, U, Z, a1, (L 4 [[a24, a56, Z, (L 4 [a54, a75])]]), a6, (L 1 [[(L 8 [[a9, a14, U, Z, a1, (L 4 [[a24, a16, Z, (L 4 [[a24, a36, Z, (L 4 [[a24, (d [47]), Z, (L 4 [a55, a102])], a75])], a54])]]), a6, a1], [a9, (d [121]), U, Z, a1, (L 4 [[a24, a16, Z, (L 4 [[a24, a36, Z, (L 4 [a54, a102])], [a24, a76, Z, (L 4 [a55, a102])]])]]), a6, a1], [a35, a31, U, Z, a1, (L 4 [[a24, a16, Z, (L 4 [a42, [a24, a36, Z, (L 4 [[a37, a7, Z, (L 4 [[a40, a7, Z, a19], [a40, a7, (I 1), a19]])], [a37, a28, Z, (L 4 [[a40, a28, Z, (L 4 [a77])], [a40, a28, (I 1), (L 4 [a77])]])]])]])]]), a6, a1], [a35, a53, U, Z, a1, (L 4 [[a24, a16, Z, (L 4 [a54, a5])]]), a6, a1]])]])], [a57, (d [99]), U, Z, a1, (L 4 [a38, a65, a42]), a6, a1]])]])]])], [(V (w [116, 117, 114, 110])), a128, (L 3 [[a28, a126, (I 2)], [a7, a126, (I 2)]]), (L 8 [a96, [a9, (d [109]), U, Z, a1, (L 4 [[a8, a95, Z, (L 4 [a100])]]), a6, a1], [a23, U, U, Z, a1, (L 4 [[a24, a48, Z, (L 4 [[a24, a25, Z, (L 4 [[a8, a101, Z, (L 4 [a100])], a75])], [a24, a25, Z, (L 4 [[a8, a101, Z, a10], a102])]])]]), a6, a30], [a33, U, a28, Z, a90, a3, a6, (L 1 [[(L 8 [[a9, a52, U, Z, a1, (L 4 [[a41, a28, Z, (L 4 [a38, a65])]]), a6, a1], [a9, a14, U, Z, a1, (L 4 [[a24, a16, Z, (L 4 [[a24, a36, Z, (L 4 [[a24, a76, Z, (L 4 [a55, a102])], a75])], [a24, (d [47]), Z, (L 4 [a55, a102])]])]]), a6, a1], [a57, a28, U, Z, a1, (L 4 [a38, a65, [a37, a7, Z, (L 4 [[a40, a7, Z, a19], [a40, a7, (I 1), a19]])]]), a6, a1]])]])]])], [(V (w [112, 111, 119, 101, 114])), a2, (L 3 [[a14, a2, Z], [a73, a2, Z], [(d [109]), a2, Z]]), (L 8 [[a9, a97, U, Z, a1, (L 4 [[a24, a76, Z, (L 4 [a5, a102])]]), a6, a1], [a9, a28, U, Z, a1, (L 4 [[a24, a76, Z, (L 4 [[a24, a16, Z, (L 4 [[a24, a76, Z, (L 4 [a18, a102])], a102])], a102])]]), a6, a1], [a9, a53, U, Z, a1, (L 4 [a75]), a6, a1], [a74, U, U, Z, a1, (L 4 [[a24, a56, Z, (L 4 [a4, a54])]]), a6, (L 1 [[(L 8 [[a23, U, U, Z, a1, (L 4 [[a24, a25, Z, (L 4 [[a24, a76, Z, (L 4 [a54, [a2, U, (I 2), a3]])], a5])]]), a6, (L 1 [[(L 8 [[a35, a97, U, Z, a1, (L 4 [[a24, a76, Z, (L 4 [[a24, a36, Z, (L 4 [[a9, a97, Z, a3], a100])], a102])]]), a6, a1]])], a29])], [a35, a28, U, Z, a1, (L 4 [[a24, a76, Z, (L 4 [[a24, a36, Z, (L 4 [a100, a100])], a102])]]), a6, a1], [a35, a53, U, Z, a1, (L 4 [[a24, (d [47]), Z, (L 4 [a54, [a2, U, (I 2), a3]])]]), a6, a1]])]])], [a17, U, U, Z, a1, (L 4 [[a9, a97, Z, a3]]), a6, a1]])], [(V (w [102, 111, 117, 114, 105, 101, 114])), a128, (L 3 [[a28, a126, (I 1)], a127, [(d [119]), a2, Z]]), (L 8 [[a9, a73, U, Z, a1, (L 4 [a27]), a6, a1], [a23, U, U, Z, a1, (L 4 [[a24, a25, Z, (L 4 [a75, [a26, a28, Z, a3]])]]), a6, a30], [a33, U, a28, Z, a34, a3, a6, (L 1 [[(L 8 [[a9, a53, U, Z, a1, (L 4 [[a41, a28, Z, a39]]), a6, a1], a32, [a9, a64, U, Z, a1, a15, a6, a1], [a74, U, U, Z, a1, (L 4 [[a24, a56, Z, (L 4 [a65, a75])]]), a6, (L 1 [[(L 8 [[a35, a31, U, Z, a1, (L 4 [[a24, a76, Z, (L 4 [[a24, a16, Z, (L 4 [a42, [a24, a36, Z, (L 4 [[a24, a76, Z, (L 4 [[a37, a7, Z, (L 4 [[a40, a7, Z, (L 4 [a65])]])], a117])], [a8, (V (w [112, 111, 119, 101, 114])), Z, (L 4 [[a9, (d [119]), Z, a3], [a24, a36, Z, (L 4 [a65, a54])], a117])]])]])], a117])]]), a6, a1], [a35, a64, U, Z, a1, (L 4 [[a24, a16, Z, (L 4 [a65, a5])]]), a6, a1]])]])], [a57, a28, U, Z, a1, (L 4 [a38, [a24, a76, Z, (L 4 [[a24, a16, Z, (L 4 [a42, a117])], a117])]]), a6, a1]])]])]])], [(V (w [114, 101, 97, 99, 104])), a128, (L 3 [[a0, a126, (I 1)], [a121, a126, (I 2)], [a31, a2, Z]]), (L 8 [[a9, a73, U, Z, a1, (L 4 [[a26, a0, Z, a3]]), a6, a1], [a23, U, U, Z, a1, (L 4 [[a24, a48, Z, (L 4 [[a24, a25, Z, (L 4 [[a8, a101, Z, (L 4 [[a9, a121, Z, a3]])], a75])], [a24, a25, Z, (L 4 [[a8, a95, Z, (L 4 [[a9, a121, Z, a3]])], a75])]])]]), a6, a30], [a33, U, a0, Z, a34, a3, a6, (L 1 [[(L 8 [[a57, a0, U, Z, a1, (L 4 [a38, [a24, (d [45]), Z, (L 4 [a4, a5])]]), a6, a1]])]])], [a57, a0, U, Z, a1, (L 4 [[a40, a0, Z, (L 4 [a42])], a4]), a6, a1], [a9, (d [108]), U, Z, a1, a15, a6, a1], [a74, U, U, Z, a1, (L 4 [[a24, a56, Z, (L 4 [a122, a75])]]), a6, (L 1 [[(L 8 [[a70, U, a0, Z, a34, a3, a6, (L 1 [[(L 8 [[a23, U, U, Z, a1, (L 4 [[a24, a25, Z, (L 4 [[a37, a0, Z, a39], a122])]]), a6, (L 1 [[(L 8 [[a9, (d [113]), U, Z, a1, a15, a6, a1], [a74, U, U, Z, a1, (L 4 [[a24, a56, Z, (L 4 [a63, a75])]]), a6, (L 1 [[(L 8 [[a9, a14, U, Z, a1, (L 4 [[a24, a16, Z, (L 4 [[a24, a36, Z, (L 4 [[a41, a0, Z, a39], a75])], a63])]]), a6, a1], [a9, a64, U, Z, a1, (L 4 [[a40, a0, Z, (L 4 [a63])]]), a6, a1], [a23, U, U, Z, a1, (L 4 [[a24, a48, Z, (L 4 [[a24, (d [33]), Z, (L 4 [[a24, a25, Z, (L 4 [[a37, a121, Z, (L 4 [[a40, a121, Z, a19], [a40, a121, (I 1), a19]])], a4])]])], [a24, a25, Z, (L 4 [[a37, a0, Z, (L 4 [a65])], [a24, (d [45]), Z, (L 4 [a4, a5])]])]])]]), a6, (L 1 [[(L 8 [[a57, a0, U, Z, a1, (L 4 [a65, [a24, a16, Z, (L 4 [a122, a5])]]), a6, a1]])], a29])], [a35, (d [113]), U, Z, a1, (L 4 [[a24, a16, Z, (L 4 [a63, a5])]]), a6, a1]])]])]])], a29])]])]])], [a35, (d [108]), U, Z, a1, (L 4 [[a24, a16, Z, (L 4 [a122, a5])]]), a6, a1]])]])]])]]
def a130 : List AV := [u, u, u, u, u, u, u, u, u, u, u, u]
end Go.Abs.RN
namespace Go.Abs
open Go.Abs.R Go.Abs.RN
def oL : List AV := [(l 8 [[(d [100, 111, 109]), a0, (V (w [99, 121, 99, 108, 105, 99])), Z, a1, (L 4 [a4, [a2, U, (I 2), a3], a5]), a6, a1], [(d [97, 114, 114]), a7, a0, Z, a1, (L 4 [[a2, U, (I 5), a3]]), a6, a1], [(V (w [119, 114, 105, 116, 101])), U, U, Z, a1, (L 4 [[a8, (V (w [116, 111, 116, 97, 108])), Z, a10]]), a6, a1]]), (e 1)]
def oA : List (List AV) := []
def og : AV × List (List AV) := ((k 1 0 0 5 5 0), [[a11, a11, a12, a13, a12]])
def oK : List AV := [(l 8 [[a9, a14, U, Z, a1, a15, a6, a1], [(V (w [114, 101, 100, 117, 99, 101])), a14, a16, Z, (L 1 [[a7]]), a3, a6, a1], [a17, U, U, Z, a1, a19, a6, a1]]), (k 1 0 0 7 7 0)]
def oz : List (List AV) := [[a11, a11, a12, a13, a12, a13, a12]]
def oe : AV × List (List AV) := ((k 1 1 0 11 11 1), [[], [a11, a11, a12, a13, a12, a13, a12, a20, a20, a12, a20]])
def oJ : List AV := [(l 8 [[a9, a14, U, Z, a1, a15, a6, a1], [(V (w [114, 101, 100, 117, 99, 101])), a14, (d [109, 97, 120]), Z, (L 1 [[a7]]), a3, a6, a1], [a17, U, U, Z, a1, a19, a6, a1]]), (k 1 0 0 13 13 0)]
def ow : List (List AV) := [[a11, a11, a12, a13, a12, a13, a12, a20, a20, a12, a20, a21, a12]]
def od : AV × List (List AV) := ((k 1 1 0 17 17 1), [[], (a22 ++ [a12, a20, a20, a12, a20])])
def oI : List AV := [(l 8 [[a23, U, U, Z, a1, (L 4 [[a24, a25, Z, (L 4 [a27, [a26, a28, Z, a3]])]]), a6, a30], a32, [a33, U, a7, Z, a34, a3, (L 2 [[a16, a31]]), (L 1 [[(L 8 [[a35, a31, U, Z, a1, (L 4 [[a24, a36, Z, (L 4 [[a37, a7, Z, a39], [a37, a28, Z, (L 4 [[a40, a28, Z, (L 4 [[a41, a7, Z, a39]])]])]])]]), a6, a1]])]])], [a17, U, U, Z, a1, (L 4 [a42]), a6, a1]]), (k 1 0 0 20 20 0)]
def ov : List (List AV) := [(a22 ++ [a12, a20, a20, a12, a20, (s [100, 111, 116]), a12, a43])]
def oc : AV × List (List AV) := ((k 1 1 0 34 34 1), [[], (a22 ++ a45 ++ [a46, a44, a44, a12, a46, a43, a43, a12, a46, a44])])
def oH : List AV := [(l 8 [[a9, a47, U, Z, a1, (L 4 [[a24, a25, Z, (L 4 [a27, [a26, a28, Z, a3]])]]), a6, a1], [a23, U, U, Z, a1, (L 4 [[a9, a47, Z, a3]]), a6, (L 1 [[(L 8 [[a33, U, a7, Z, a34, a3, (L 2 [[a48, a47]]), (L 1 [[(L 8 [[a35, a47, U, Z, a1, (L 4 [[a24, a25, Z, (L 4 [[a37, a7, Z, a39], [a37, a28, Z, (L 4 [[a40, a28, Z, (L 4 [[a41, a7, Z, a39]])]])]])]]), a6, a1]])]])]])], a29])], [a17, U, U, Z, a1, (L 4 [[a9, a47, Z, a3]]), a6, a1]]), (k 1 0 0 37 37 0)]
def ou : List (List AV) := [(a22 ++ a45 ++ a49 ++ [a43])]
def oa : AV × List (List AV) := ((k 1 1 0 52 52 1), [[], (a22 ++ a45 ++ a49 ++ a51 ++ [a43, a12, a46, a50])])
def oG : List AV := [(l 8 [[a33, U, a7, Z, a34, a3, a6, (L 1 [[(L 8 [[a9, a52, U, Z, a1, (L 4 [[a24, (d [45]), Z, (L 4 [[a41, a7, Z, a39], a54])]]), a6, a1], [a23, U, U, Z, a1, (L 4 [[a24, a48, Z, (L 4 [[a24, (d [60, 61]), Z, (L 4 [a4, a55])], [a24, a56, Z, (L 4 [a55, [a26, a28, Z, a3]])]])]]), a6, (L 1 [[(L 8 [[a57, a7, U, Z, a1, (L 4 [a38, [a37, a28, Z, (L 4 [[a40, a28, Z, (L 4 [a55])]])]]), a6, a1]])], [(L 8 [[a57, a7, U, Z, a1, (L 4 [a38, a4]), a6, a1]])]])]])]])]]), (k 1 0 0 56 56 0)]
def ot : List (List AV) := [(a22 ++ a45 ++ a49 ++ a51 ++ [a43, a12, a46, a50, a58, a12, a43, a59])]
def n9 : AV × List (List AV) := ((k 1 1 0 72 72 1), [[], (a22 ++ a45 ++ a49 ++ a51 ++ a61 ++ a62)])
def oF : List AV := [(l 8 [[a33, U, a7, Z, a34, a3, a6, (L 1 [[(L 8 [[a9, a52, U, Z, a1, (L 4 [[a41, a7, Z, a39]]), a6, a1], [a9, (d [113]), U, Z, a1, (L 4 [[a24, (d [45]), Z, (L 4 [[a24, (d [45]), Z, (L 4 [a27, a5])], a55])]]), a6, a1], [a23, U, U, Z, a1, (L 4 [[a24, a56, Z, (L 4 [a55, a63])]]), a6, (L 1 [[(L 8 [[a9, a64, U, Z, a1, (L 4 [[a40, a7, Z, (L 4 [a63])]]), a6, a1], [a9, a14, U, Z, a1, (L 4 [[a37, a7, Z, a39]]), a6, a1], [a57, a7, U, Z, a1, (L 4 [a38, [a37, a7, Z, (L 4 [a65])]]), a6, a1], [a57, a7, U, Z, a1, (L 4 [a65, a18]), a6, a1]])], a29])]])]])]]), (k 1 0 0 74 74 0)]
def oq : List (List AV) := [(a22 ++ a45 ++ a49 ++ a51 ++ a61 ++ a62 ++ [(s [114, 101, 118]), a12])]
def n8 : AV × List (List AV) := ((k 1 1 0 97 97 1), [[], (a22 ++ a45 ++ a49 ++ a51 ++ a61 ++ a62 ++ a67 ++ a69 ++ [a20])])
def oE : List AV := [(l 8 [a32, [a70, U, a7, Z, a34, a3, a6, (L 1 [[(L 8 [[a35, a31, U, Z, a1, (L 4 [[a24, a16, Z, (L 4 [a42, [a37, a7, Z, a39]])]]), a6, a1], [a57, a7, U, Z, a1, (L 4 [a38, a42]), a6, a1]])]])]]), (k 1 0 0 99 99 0)]
def om : List (List AV) := [(a22 ++ a45 ++ a49 ++ a51 ++ a61 ++ a62 ++ a67 ++ a69 ++ [a20, a71, a12])]
def n7 : AV × List (List AV) := ((k 1 1 0 109 109 1), [[], (a22 ++ a45 ++ a49 ++ a51 ++ a61 ++ a62 ++ a67 ++ a69 ++ a72 ++ [a44])])
def oD : List AV := [(l 8 [[a9, a73, U, Z, a1, (L 4 [a27]), a6, a1], [a9, a53, U, Z, a1, a15, a6, a1], [a74, U, U, Z, a1, (L 4 [[a24, a56, Z, (L 4 [a54, a75])]]), a6, (L 1 [[(L 8 [[a33, U, a7, Z, a34, a3, a6, (L 1 [[(L 8 [[a9, a52, U, Z, a1, (L 4 [[a41, a7, Z, a39]]), a6, a1], [a23, U, U, Z, a1, (L 4 [[a24, a48, Z, (L 4 [[a24, a25, Z, (L 4 [[a24, a76, Z, (L 4 [[a24, a16, Z, (L 4 [a55, a54])], [a2, U, (I 2), a3]])], a4])], [a24, a56, Z, (L 4 [[a24, a16, Z, (L 4 [a55, a5])], a75])]])]]), a6, (L 1 [[(L 8 [[a9, a64, U, Z, a1, (L 4 [[a40, a7, Z, (L 4 [[a24, a16, Z, (L 4 [a55, a5])]])]]), a6, a1], [a9, a14, U, Z, a1, (L 4 [[a37, a7, Z, a39]]), a6, a1], [a9, (d [121]), U, Z, a1, (L 4 [[a37, a7, Z, (L 4 [a65])]]), a6, a1], [a23, U, U, Z, a1, (L 4 [[a24, a56, Z, (L 4 [a77, a18])]]), a6, (L 1 [[(L 8 [[a57, a7, U, Z, a1, (L 4 [a38, a77]), a6, a1], [a57, a7, U, Z, a1, (L 4 [a65, a18]), a6, a1]])], a29])]])], a29])]])]])], [a35, a53, U, Z, a1, (L 4 [[a24, a16, Z, (L 4 [a54, a5])]]), a6, a1]])]])]]), (k 1 0 0 111 111 0)]
def oj : List (List AV) := [(a22 ++ a45 ++ a49 ++ a51 ++ a61 ++ a62 ++ a67 ++ a69 ++ a72 ++ [a44, a78, a12])]
def nZ : AV × List (List AV) := ((k 1 1 0 144 144 1), [[], (a22 ++ a45 ++ a49 ++ a51 ++ a61 ++ a62 ++ a67 ++ a69 ++ a72 ++ a80 ++ a82 ++ a83)])
def oC : List AV := [(l 8 [[a33, U, a84, Z, a34, a3, a6, (L 1 [[(L 8 [[a57, a84, U, Z, a1, (L 4 [a38, a4]), a6, a1]])]])], [a70, U, a7, Z, a34, a3, a6, (L 1 [[(L 8 [[a9, (d [118]), U, Z, a1, (L 4 [[a37, a7, Z, a39]]), a6, a1], [a23, U, U, Z, a1, (L 4 [[a24, a48, Z, (L 4 [[a24, (d [60, 61]), Z, (L 4 [a4, a85])], [a24, a56, Z, (L 4 [a85, [a26, a84, Z, a3]])]])]]), a6, (L 1 [[(L 8 [[a9, a64, U, Z, a1, (L 4 [[a40, a84, Z, (L 4 [a85])]]), a6, a1], [a57, a84, U, Z, a1, (L 4 [a65, [a24, a16, Z, (L 4 [[a37, a84, Z, (L 4 [a65])], a5])]]), a6, a1]])], a29])]])]])]]), (k 1 0 0 147 147 0)]
def oi : List (List AV) := [(a22 ++ a45 ++ a49 ++ a51 ++ a61 ++ a62 ++ a67 ++ a69 ++ a72 ++ a80 ++ a82 ++ a83 ++ [a86, a87, a12])]
def nY : AV × List (List AV) := ((k 1 1 0 166 166 1), [[], (a22 ++ a45 ++ a49 ++ a51 ++ a61 ++ a62 ++ a67 ++ a69 ++ a72 ++ a80 ++ a82 ++ a83 ++ a89 ++ [a88, a88, a87, a68, a87, a88, a87, a68, a87, a68])])
def lh : List AV := [(l 8 [[a9, a73, U, Z, a1, a15, a6, a1], [a23, U, U, Z, a1, (L 4 [[a24, a56, Z, (L 4 [a4, a27])]]), a6, (L 1 [[(L 8 [[a9, (V (w [102, 105, 114, 115, 116])), U, Z, a1, (L 4 [[a40, a7, Z, a15]]), a6, a1], [a70, U, a7, Z, a90, a3, a6, (L 1 [[(L 8 [[a23, U, U, Z, a1, (L 4 [[a24, a25, Z, (L 4 [a38, [a9, (V (w [102, 105, 114, 115, 116])), Z, a3]])]]), a6, (L 1 [[(L 8 [[a35, a73, U, Z, a1, (L 4 [[a24, a16, Z, (L 4 [a75, a5])]]), a6, a1]])], a29])]])]])]])], a29])], [a17, U, U, Z, a1, (L 4 [a75]), a6, a1]]), (k 1 0 0 168 168 0)]
def kZ : List (List AV) := [(a22 ++ a45 ++ a49 ++ a51 ++ a61 ++ a62 ++ a67 ++ a69 ++ a72 ++ a80 ++ a82 ++ a83 ++ a89 ++ a92)]
def kR : AV × List (List AV) := ((k 1 1 0 180 180 1), [[], (a22 ++ a45 ++ a49 ++ a51 ++ a61 ++ a62 ++ a67 ++ a69 ++ a72 ++ a80 ++ a82 ++ a83 ++ a89 ++ a92 ++ a94)])
def lg : List AV := [(l 8 [a96, [a9, a97, U, Z, a1, a15, a6, a1], [a23, U, U, Z, a1, (L 4 [[a24, a56, Z, (L 4 [a4, a75])]]), a6, (L 1 [[(L 8 [[a35, a97, U, Z, a1, (L 4 [[a24, (d [47]), Z, (L 4 [a27, a75])]]), a6, a1]])], a29])], [a17, U, U, Z, a1, (L 4 [[a9, a97, Z, a3]]), a6, a1]]), (k 1 0 0 182 182 0)]
def kY : List (List AV) := [(a22 ++ a45 ++ a49 ++ a51 ++ a61 ++ a62 ++ a67 ++ a69 ++ a72 ++ a80 ++ a82 ++ a83 ++ a89 ++ a92 ++ a94 ++ [a98, a12])]
def kQ : AV × List (List AV) := ((k 1 1 0 191 191 1), [[], (a22 ++ a45 ++ a49 ++ a51 ++ a61 ++ a62 ++ a67 ++ a69 ++ a72 ++ a80 ++ a82 ++ a83 ++ a89 ++ a92 ++ a94 ++ [a98, a12, a79, a91, a12, a99, a79, a99, a12, a79, a99])])
def lc : List AV := [(l 8 [a96, [a9, (d [109]), U, Z, a1, (L 4 [[a8, a95, Z, (L 4 [a100])]]), a6, a1], [a23, U, U, Z, a1, (L 4 [[a24, a48, Z, (L 4 [[a24, a48, Z, (L 4 [[a24, a25, Z, (L 4 [[a8, a101, Z, (L 4 [[a9, (d [99]), Z, a3]])], [a8, a101, Z, a10]])], [a24, a25, Z, (L 4 [a75, [a8, a101, Z, (L 4 [a100])]])]])], [a24, a25, Z, (L 4 [a102, [a8, a95, Z, (L 4 [[a9, (d [99]), Z, a3]])]])]])]]), a6, a30], [a33, U, (d [99]), Z, a90, a3, a6, (L 1 [[(L 8 [[a9, a52, U, Z, a1, (L 4 [[a41, (d [99]), Z, (L 4 [a38, a65])]]), a6, a1], a32, [a9, a53, U, Z, a1, a15, a6, a1], [a74, U, U, Z, a1, (L 4 [[a24, a56, Z, (L 4 [a54, a75])]]), a6, (L 1 [[(L 8 [[a9, a14, U, Z, a1, (L 4 [[a24, a16, Z, (L 4 [[a24, a36, Z, (L 4 [[a24, (d [47]), Z, (L 4 [a55, a102])], a75])], a54])]]), a6, a1], [a9, (d [121]), U, Z, a1, (L 4 [[a24, a16, Z, (L 4 [[a24, a36, Z, (L 4 [a54, a102])], [a24, a76, Z, (L 4 [a55, a102])]])]]), a6, a1], [a35, a31, U, Z, a1, (L 4 [[a24, a16, Z, (L 4 [a42, [a24, a36, Z, (L 4 [[a37, a7, Z, (L 4 [[a40, a7, Z, a19], [a40, a7, (I 1), a19]])], [a37, a28, Z, (L 4 [[a40, a28, Z, (L 4 [a77])], [a40, a28, (I 1), (L 4 [a77])]])]])]])]]), a6, a1], [a35, a53, U, Z, a1, (L 4 [[a24, a16, Z, (L 4 [a54, a5])]]), a6, a1]])]])], [a57, (d [99]), U, Z, a1, (L 4 [a38, a65, a42]), a6, a1]])]])]]), (k 1 0 0 195 195 0)]
def kX : List (List AV) := [(a22 ++ a45 ++ a49 ++ a51 ++ a61 ++ a62 ++ a67 ++ a69 ++ a72 ++ a80 ++ a82 ++ a83 ++ a89 ++ a92 ++ a94 ++ a103 ++ [a104, a12, a43])]
def kP : AV × List (List AV) := ((k 1 1 0 250 250 1), [[], (a22 ++ a45 ++ a49 ++ a51 ++ a61 ++ a62 ++ a67 ++ a69 ++ a72 ++ a80 ++ a82 ++ a83 ++ a89 ++ a92 ++ a94 ++ a103 ++ a106 ++ a107 ++ a108 ++ a109 ++ [a43, a81, a43, a81, a59, a59, a104, a46, a68, a44])])
def la : List AV := [(l 8 [a96, [a9, (d [109]), U, Z, a1, (L 4 [[a8, a95, Z, (L 4 [a100])]]), a6, a1], [a23, U, U, Z, a1, (L 4 [[a24, a48, Z, (L 4 [[a24, a25, Z, (L 4 [[a8, a101, Z, (L 4 [a100])], a75])], [a24, a25, Z, (L 4 [[a8, a101, Z, a10], a102])]])]]), a6, a30], [a33, U, a28, Z, a90, a3, a6, (L 1 [[(L 8 [[a9, a52, U, Z, a1, (L 4 [[a41, a28, Z, (L 4 [a38, a65])]]), a6, a1], [a9, a14, U, Z, a1, (L 4 [[a24, a16, Z, (L 4 [[a24, a36, Z, (L 4 [[a24, a76, Z, (L 4 [a55, a102])], a75])], [a24, (d [47]), Z, (L 4 [a55, a102])]])]]), a6, a1], [a57, a28, U, Z, a1, (L 4 [a38, a65, [a37, a7, Z, (L 4 [[a40, a7, Z, a19], [a40, a7, (I 1), a19]])]]), a6, a1]])]])]]), (k 1 0 0 253 253 0)]
def kW : List (List AV) := [(a22 ++ a45 ++ a49 ++ a51 ++ a61 ++ a62 ++ a67 ++ a69 ++ a72 ++ a80 ++ a82 ++ a83 ++ a89 ++ a92 ++ a94 ++ a103 ++ a106 ++ a107 ++ a108 ++ a109 ++ a110 ++ [a12])]
def kO : AV × List (List AV) := ((k 1 1 0 286 286 1), [[], (a22 ++ a45 ++ a49 ++ a51 ++ a61 ++ a62 ++ a67 ++ a69 ++ a72 ++ a80 ++ a82 ++ a83 ++ a89 ++ a92 ++ a94 ++ a103 ++ a106 ++ a107 ++ a108 ++ a109 ++ a110 ++ a111 ++ a112 ++ [a60, a105, a43, a46, a68, a12, a12, a20, a12, a20])])
def k9 : List AV := [(l 8 [[a9, a97, U, Z, a1, (L 4 [[a24, a76, Z, (L 4 [a5, a102])]]), a6, a1], [a9, a28, U, Z, a1, (L 4 [[a24, a76, Z, (L 4 [[a24, a16, Z, (L 4 [[a24, a76, Z, (L 4 [a18, a102])], a102])], a102])]]), a6, a1], [a9, a53, U, Z, a1, (L 4 [a75]), a6, a1], [a74, U, U, Z, a1, (L 4 [[a24, a56, Z, (L 4 [a4, a54])]]), a6, (L 1 [[(L 8 [[a23, U, U, Z, a1, (L 4 [[a24, a25, Z, (L 4 [[a24, a76, Z, (L 4 [a54, [a2, U, (I 2), a3]])], a5])]]), a6, (L 1 [[(L 8 [[a35, a97, U, Z, a1, (L 4 [[a24, a76, Z, (L 4 [[a24, a36, Z, (L 4 [[a9, a97, Z, a3], a100])], a102])]]), a6, a1]])], a29])], [a35, a28, U, Z, a1, (L 4 [[a24, a76, Z, (L 4 [[a24, a36, Z, (L 4 [a100, a100])], a102])]]), a6, a1], [a35, a53, U, Z, a1, (L 4 [[a24, (d [47]), Z, (L 4 [a54, [a2, U, (I 2), a3]])]]), a6, a1]])]])], [a17, U, U, Z, a1, (L 4 [[a9, a97, Z, a3]]), a6, a1]]), (k 1 0 0 290 290 0)]
def kV : List (List AV) := [(a22 ++ a45 ++ a49 ++ a51 ++ a61 ++ a62 ++ a67 ++ a69 ++ a72 ++ a80 ++ a82 ++ a83 ++ a89 ++ a92 ++ a94 ++ a103 ++ a106 ++ a107 ++ a108 ++ a109 ++ a110 ++ a111 ++ a112 ++ a114 ++ [a79, a105])]
def kM : AV × List (List AV) := ((k 1 1 0 312 312 1), [[], (a22 ++ a45 ++ a49 ++ a51 ++ a61 ++ a62 ++ a67 ++ a69 ++ a72 ++ a80 ++ a82 ++ a83 ++ a89 ++ a92 ++ a94 ++ a103 ++ a106 ++ a107 ++ a108 ++ a109 ++ a110 ++ a111 ++ a112 ++ a114 ++ a115 ++ a116)])
def k8 : List AV := [(l 8 [[a9, a73, U, Z, a1, (L 4 [a27]), a6, a1], [a23, U, U, Z, a1, (L 4 [[a24, a25, Z, (L 4 [a75, [a26, a28, Z, a3]])]]), a6, a30], [a33, U, a28, Z, a34, a3, a6, (L 1 [[(L 8 [[a9, a53, U, Z, a1, (L 4 [[a41, a28, Z, a39]]), a6, a1], a32, [a9, a64, U, Z, a1, a15, a6, a1], [a74, U, U, Z, a1, (L 4 [[a24, a56, Z, (L 4 [a65, a75])]]), a6, (L 1 [[(L 8 [[a35, a31, U, Z, a1, (L 4 [[a24, a76, Z, (L 4 [[a24, a16, Z, (L 4 [a42, [a24, a36, Z, (L 4 [[a24, a76, Z, (L 4 [[a37, a7, Z, (L 4 [[a40, a7, Z, (L 4 [a65])]])], a117])], [a8, (V (w [112, 111, 119, 101, 114])), Z, (L 4 [[a9, (d [119]), Z, a3], [a24, a36, Z, (L 4 [a65, a54])], a117])]])]])], a117])]]), a6, a1], [a35, a64, U, Z, a1, (L 4 [[a24, a16, Z, (L 4 [a65, a5])]]), a6, a1]])]])], [a57, a28, U, Z, a1, (L 4 [a38, [a24, a76, Z, (L 4 [[a24, a16, Z, (L 4 [a42, a117])], a117])]]), a6, a1]])]])]]), (k 1 0 0 316 316 0)]
def kU : List (List AV) := [(a22 ++ a45 ++ a49 ++ a51 ++ a61 ++ a62 ++ a67 ++ a69 ++ a72 ++ a80 ++ a82 ++ a83 ++ a89 ++ a92 ++ a94 ++ a103 ++ a106 ++ a107 ++ a108 ++ a109 ++ a110 ++ a111 ++ a112 ++ a114 ++ a115 ++ a116 ++ [a118, a43, a12, (s [119])])]
def kL : AV × List (List AV) := ((k 1 1 0 343 343 1), [[], (a22 ++ a45 ++ a49 ++ a51 ++ a61 ++ a62 ++ a67 ++ a69 ++ a72 ++ a80 ++ a82 ++ a83 ++ a89 ++ a92 ++ a94 ++ a103 ++ a106 ++ a107 ++ a108 ++ a109 ++ a110 ++ a111 ++ a112 ++ a114 ++ a115 ++ a116 ++ a119 ++ a120 ++ [a68, a59, a68, a68, a43, a46, a44])])
def k7 : List AV := [(l 8 [[a9, a73, U, Z, a1, (L 4 [[a26, a0, Z, a3]]), a6, a1], [a23, U, U, Z, a1, (L 4 [[a24, a48, Z, (L 4 [[a24, a25, Z, (L 4 [[a8, a101, Z, (L 4 [[a9, a121, Z, a3]])], a75])], [a24, a25, Z, (L 4 [[a8, a95, Z, (L 4 [[a9, a121, Z, a3]])], a75])]])]]), a6, a30], [a33, U, a0, Z, a34, a3, a6, (L 1 [[(L 8 [[a57, a0, U, Z, a1, (L 4 [a38, [a24, (d [45]), Z, (L 4 [a4, a5])]]), a6, a1]])]])], [a57, a0, U, Z, a1, (L 4 [[a40, a0, Z, (L 4 [a42])], a4]), a6, a1], [a9, (d [108]), U, Z, a1, a15, a6, a1], [a74, U, U, Z, a1, (L 4 [[a24, a56, Z, (L 4 [a122, a75])]]), a6, (L 1 [[(L 8 [[a70, U, a0, Z, a34, a3, a6, (L 1 [[(L 8 [[a23, U, U, Z, a1, (L 4 [[a24, a25, Z, (L 4 [[a37, a0, Z, a39], a122])]]), a6, (L 1 [[(L 8 [[a9, (d [113]), U, Z, a1, a15, a6, a1], [a74, U, U, Z, a1, (L 4 [[a24, a56, Z, (L 4 [a63, a75])]]), a6, (L 1 [[(L 8 [[a9, a14, U, Z, a1, (L 4 [[a24, a16, Z, (L 4 [[a24, a36, Z, (L 4 [[a41, a0, Z, a39], a75])], a63])]]), a6, a1], [a9, a64, U, Z, a1, (L 4 [[a40, a0, Z, (L 4 [a63])]]), a6, a1], [a23, U, U, Z, a1, (L 4 [[a24, a48, Z, (L 4 [[a24, (d [33]), Z, (L 4 [[a24, a25, Z, (L 4 [[a37, a121, Z, (L 4 [[a40, a121, Z, a19], [a40, a121, (I 1), a19]])], a4])]])], [a24, a25, Z, (L 4 [[a37, a0, Z, (L 4 [a65])], [a24, (d [45]), Z, (L 4 [a4, a5])]])]])]]), a6, (L 1 [[(L 8 [[a57, a0, U, Z, a1, (L 4 [a65, [a24, a16, Z, (L 4 [a122, a5])]]), a6, a1]])], a29])], [a35, (d [113]), U, Z, a1, (L 4 [[a24, a16, Z, (L 4 [a63, a5])]]), a6, a1]])]])]])], a29])]])]])], [a35, (d [108]), U, Z, a1, (L 4 [[a24, a16, Z, (L 4 [a122, a5])]]), a6, a1]])]])]]), (k 1 0 0 347 347 0)]
def kT : List (List AV) := [(a22 ++ a45 ++ a49 ++ a51 ++ a61 ++ a62 ++ a67 ++ a69 ++ a72 ++ a80 ++ a82 ++ a83 ++ a89 ++ a92 ++ a94 ++ a103 ++ a106 ++ a107 ++ a108 ++ a109 ++ a110 ++ a111 ++ a112 ++ a114 ++ a115 ++ a116 ++ a119 ++ a120 ++ [a68, a59, a68, a68, a43, a46, a44, a123, a11, a124, a44])]
def kJ : AV × List (List AV) := ((k 1 1 0 395 395 1), [[], (a22 ++ a45 ++ a49 ++ a51 ++ a61 ++ a62 ++ a67 ++ a69 ++ a72 ++ a80 ++ a82 ++ a83 ++ a89 ++ a92 ++ a94 ++ a103 ++ a106 ++ a107 ++ a108 ++ a109 ++ a110 ++ a111 ++ a112 ++ a114 ++ a115 ++ a116 ++ a119 ++ a120 ++ [a68, a59, a68, a68, a43, a46, a44, a123, a11, a124, a44, a79] ++ [a11, a98, a124, a79, a91, a124, a79, a11, a46, a11, a46, a11] ++ [a11, a44, a125, a125, a79, a11, a46, a11, a46, a125, a66, a66] ++ [a79, a20, a11, a46, a79, a66, a68, a11, a66, a124, a124, a20] ++ [a124, a20, a11, a68, a11, a68, a125, a66, a66, a125, a125])])
def oM : List AV := [(.agg [(l 4 a129), (l 8 [[(d [100, 111, 109]), a0, (V (w [99, 121, 99, 108, 105, 99])), Z, a1, (L 4 [a4, [a2, U, (I 2), a3], a5]), a6, a1], [(d [97, 114, 114]), a7, a0, Z, a1, (L 4 [[a2, U, (I 5), a3]]), a6, a1], [(V (w [119, 114, 105, 116, 101])), U, U, Z, a1, (L 4 [[a8, (V (w [116, 111, 116, 97, 108])), Z, a10]]), a6, a1]])])]
def oB : List (List AV) := []
def oh : AV × List (List AV) := ((.tup [(.cs 1 0 0 38 395 .none), z]), [([a12, a43, a104, a91, a11, (s [100, 111, 116]), a93, a118, a124, a21, a87, a86] ++ [a46, a68, a59, a125, a105, (v (w [109, 97, 116, 109, 117, 108])), a79, a50, a60, a113, a71, a66] ++ [a99, a123, (s [114, 101, 118]), a98, a44, (v (w [115, 97, 109, 101])), a58, a78, a13, (v (w [116, 117, 114, 110])), a88, (s [119])] ++ [a20, a81, u, u, u, u, u, u, u, u, u, u] ++ a130 ++ a130 ++ a130 ++ a130 ++ a130 ++ a130 ++ a130 ++ a130 ++ a130 ++ a130 ++ a130 ++ a130 ++ a130 ++ a130 ++ a130 ++ a130 ++ a130 ++ a130 ++ a130 ++ a130 ++ a130 ++ a130 ++ a130 ++ a130 ++ a130 ++ a130 ++ a130 ++ a130 ++ [u, u, u, u, u, u, u, u, u, u, u])])
end Go.Abs
namespace Go.Abs.RT
open Go.Abs Go.Abs.R
def a0 : AV := (p 1 0)
def a1 : List AV := [(p 0 0), a0]
def a2 : AV := (p 2 0)
def a3 : AV := (i 1)
def a4 : AV := (i 20000)
def a5 : AV := (e 1)
def a6 : AV := (c 1 3 0 1 1)
def a7 : Data := (E 1)
def a8 : AV := (y 1 [[a7]])
def a9 : AV := (.mr 4)
def a10 : AV := (.mr 5)
def a11 : AV := (.mr 6)
def a12 : AV := (.mr 7)
def a13 : AV := (.mr 8)
def a14 : AV := (.mr 9)
def a15 : AV := (.mx 1 [] 10 1 .full)
def a16 : AV := (.mx 1 [] 11 1 .full)
def a17 : AV := (e 4)
def a18 : List AV := [a13, a5, a5, a14, a15, z, z, a16, a0, F, a17, F]
def a19 : AV := (i (-1))
def a20 : List AV := [z, z, a19, F]
def a21 : AV := (p 12 0)
def a22 : AV := (.mx 4 [] 13 0 .full)
def a23 : AV := (e 9)
def a24 : List AV := [F, z, z, F, u, z, z, N, N, N]
def a25 : Sc := (w [116, 111, 116, 97, 108])
def a26 : Data := (d [105, 110, 116])
def a27 : Data := (d [97])
def a28 : Data := (d [118, 97, 114])
def a29 : Data := (d [120])
def a30 : AV := (l 4 [[(V a25), a26, (L 3 [[a27, (V (w [97, 114, 114, 97, 121])), (I 1)]]), (L 8 [[a28, a29, U, Z, a7, (L 4 [[a26, U, Z, (E 4)]]), (E 2), a7], [(d [115, 101, 116]), a29, U, Z, a7, (L 4 [[(V (w [110, 111, 110, 101])), (d [43]), Z, (E 4)]]), (E 2), a7], [(V (w [102, 111, 114, 97, 108, 108])), U, a27, Z, (L 1 [[(d [116, 95, 48])]]), (E 4), (L 2 [[(d [43]), a29]]), (L 1 [[(L 8 [[(d [115, 101, 116]), a29, U, Z, a7, (L 4 [[(d [97, 116]), a27, Z, (L 4 [[a28, (d [116, 95, 48]), Z, (E 4)]])]]), (E 2), a7]])]])], [(V (w [114, 101, 116, 117, 114, 110])), U, U, Z, a7, (L 4 [[a28, a29, Z, (E 4)]]), (E 2), a7]])]])
def a31 : AV := (l 8 [[(d [100, 111, 109]), (d [100]), (V (w [99, 121, 99, 108, 105, 99])), Z, a7, (L 4 [[a26, U, Z, (E 4)], [a26, U, (I 2), (E 4)], [a26, U, (I 1), (E 4)]]), (E 2), a7], [(d [97, 114, 114]), a27, (d [100]), Z, a7, (L 4 [[a26, U, (I 5), (E 4)]]), (E 2), a7], [(V (w [119, 114, 105, 116, 101])), U, U, Z, a7, (L 4 [[(V (w [99, 97, 108, 108])), (V a25), Z, (L 4 [[a28, a27, Z, (E 4)]])]]), (E 2), a7]])
def a32 : List AV := [a21, (.mr 14), a30, a31, a3]
def a33 : List AV := [a0]
def a34 : List AV := [(.mm [] [])]
def a35 : List AV := [(.mpv (.m []))]
def a36 : List (List Data) := [[Z], [(I 9)], [(I 14)], [(I 21)]]
def a37 : List AV := [u, (k 9 15 0 23 23 0), z, u, u, (e 3), (e 8), (x 1 a36 1)]
def a38 : List AV := [(.mm [a25] [(p 16 0)])]
def a39 : AV := (v (w [109, 97, 114, 107]))
def a40 : AV := (e 5)
def a41 : AV := (v (w [115, 116, 101, 112]))
def a42 : List AV := [a39, u, z, z, a5, F, a40, a5, N, a41, u, z]
def a43 : List AV := [z, a5, F, a40, a5, N, a41, u, z, z, a5, F]
def a44 : AV := (s [105, 110, 116])
def a45 : List AV := [a40, a5, N, a44, u, z, z, a5, F, a40, a5, N]
def a46 : AV := (i 2)
def a47 : List AV := [a41, u, z, z, a5, F, a40, a5, N, a44, u, a46]
def a48 : List AV := [a40, a5, N, a44, u, a3, z, a5, F, a40, a5, N]
def a49 : AV := (s [100, 111, 109])
def a50 : AV := (s [100])
def a51 : AV := (y 1 [[(I 3)]])
def a52 : AV := (p 17 0)
def a53 : List AV := [a40, a5, N, a41, u, z, z, a5, F, a40, a5, N]
def a54 : AV := (s [97])
def a55 : List AV := [a44, u, (i 5), z, a5, F, a40, a5, N, (s [97, 114, 114]), a54, z]
def a56 : List AV := [a41, u, z, z, a5, F, a40, a5, N, a41, u, z]
def a57 : List AV := [z, a5, F, a40, a5, N, (v (w [112, 97, 115, 115])), a54, z, a19, a5, t]
def a58 : AV := (v (w [99, 97, 108, 108]))
def a59 : AV := (i 3)
def a60 : List AV := [(v (w [119, 114, 105, 116, 101])), u, z, z, a5, F, a40, a5, N, a39, u, a59]
def a61 : List AV := [z, a5, F, a40, a5, N, (s [101, 110, 100]), u, z, z, a5, F]
def a62 : List AV := [a40, a5, N]
def a63 : List AV := (a42 ++ a43 ++ a45 ++ a47 ++ a43 ++ a48 ++ [a49, a50, z, z, a51, F, a40, a5, a52, a39, u, a3] ++ a43 ++ a53 ++ a55 ++ [z, a5, F, a40, a5, (p 18 0), a39, u, a46, z, a5, F] ++ a53 ++ a56 ++ a57 ++ [a40, a5, N, a58, u, a3, z, a5, F, a40, a5, (p 16 0)] ++ a60 ++ a61 ++ a62)
def a64 : AV := (v a25)
def a65 : AV := (i 4)
def a66 : AV := (l 3 [[a27, (V (w [97, 114, 114, 97, 121])), (I 1)]])
def a67 : AV := (l 8 [[a28, a29, U, Z, a7, (L 4 [[a26, U, Z, (E 4)]]), (E 2), a7], [(d [115, 101, 116]), a29, U, Z, a7, (L 4 [[(V (w [110, 111, 110, 101])), (d [43]), Z, (E 4)]]), (E 2), a7], [(V (w [102, 111, 114, 97, 108, 108])), U, a27, Z, (L 1 [[(d [116, 95, 48])]]), (E 4), (L 2 [[(d [43]), a29]]), (L 1 [[(L 8 [[(d [115, 101, 116]), a29, U, Z, a7, (L 4 [[(d [97, 116]), a27, Z, (L 4 [[a28, (d [116, 95, 48]), Z, (E 4)]])]]), (E 2), a7]])]])], [(V (w [114, 101, 116, 117, 114, 110])), U, U, Z, a7, (L 4 [[a28, a29, Z, (E 4)]]), (E 2), a7]])
def a68 : List AV := [a64, (k 9 19 0 23 23 2), a65, a64, a44, a66, a67, a5]
def a69 : AV := (v (w [99, 121, 99, 108, 105, 99]))
def a70 : List AV := [a69, a23, z, u, u, (e 3), (e 8), a5]
def a71 : List AV := [a50, a23, z, u, u, (e 3), (e 8), a5]
def a72 : List AV := [z, a5, F, a40, a5, N, a44, u, z, z, a5, F]
def a73 : AV := (s [120])
def a74 : List AV := [a40, a5, N, (v (w [100, 101, 99, 108, 97, 114, 101])), a73, z, a3, a5, F, a40, a5, N]
def a75 : List AV := [z, a5, F, a40, a5, N, (v (w [110, 111, 110, 101])), (s [43]), z, z, a5, F]
def a76 : List AV := [a40, a5, N, (v (w [115, 116, 111, 114, 101])), a73, z, a3, a5, F, a40, a5, N]
def a77 : AV := (v (w [102, 111, 114, 97, 108, 108]))
def a78 : AV := (i 17)
def a79 : List AV := [a41, u, z, z, a5, F, a40, a5, N, a77, a54, a78]
def a80 : List (List Data) := [[(I 2)]]
def a81 : AV := (l 1 [[(d [116, 95, 48])]])
def a82 : List AV := [a41, u, z, z, a5, F, a40, a5, N, (v (w [108, 111, 97, 100])), (s [116, 95, 48]), z]
def a83 : List AV := [a46, a5, F, a40, a5, N, (s [97, 116]), a54, z, z, (y 1 [[(I 1)]]), F]
def a84 : List AV := [a40, a5, N, (v (w [115, 116, 111, 114, 101])), a73, z, a59, a5, F, a40, a5, N]
def a85 : List AV := [(v (w [110, 101, 120, 116])), u, z, z, a5, F, a40, a5, N, a41, u, z]
def a86 : List AV := [a40, a5, N, (v (w [108, 111, 97, 100])), a73, z, a3, a5, F, a40, a5, N]
def a87 : List AV := [(s [114, 101, 116]), u, z, z, a5, F, a40, a5, N, a44, u, z]
def a88 : List AV := [z, a5, F, a40, a5, N, (s [114, 101, 116]), u, z, z, a5, F]
def a89 : List AV := (a56 ++ a72 ++ a74 ++ a56 ++ a75 ++ a76 ++ a79 ++ [z, (x 1 a80 3), F, (k 5 20 0 1 1 4), a81, N, a41, u, z, z, a5, F] ++ a53 ++ a82 ++ a83 ++ a84 ++ a85 ++ a43 ++ a86 ++ a87 ++ a88 ++ a62)
def a90 : List AV := [(s [43]), a73, a3, a59, F]
def a91 : AV := (.tup [])
def a92 : List AV := [a21, (.mr 15), a30, a31, a3]
def a93 : List AV := [u, (k 9 16 0 23 23 1), z, u, u, (e 3), (e 8), (x 1 a36 2)]
def a94 : List AV := [(.mm [a25] [a52])]
def a95 : AV := (p 19 0)
def a96 : List AV := (a42 ++ a43 ++ a45 ++ a47 ++ a43 ++ a48 ++ [a49, a50, z, z, a51, F, a40, a5, (p 18 0), a39, u, a3] ++ a43 ++ a53 ++ a55 ++ [z, a5, F, a40, a5, a95, a39, u, a46, z, a5, F] ++ a53 ++ a56 ++ a57 ++ [a40, a5, N, a58, u, a3, z, a5, F, a40, a5, a52] ++ a60 ++ a61 ++ a62)
def a97 : List AV := [a64, (k 9 20 0 23 23 3), a65, a64, a44, a66, a67, a5]
def a98 : List AV := (a56 ++ a72 ++ a74 ++ a56 ++ a75 ++ a76 ++ a79 ++ [z, (x 1 a80 4), F, (k 5 21 0 1 1 5), a81, N, a41, u, z, z, a5, F] ++ a53 ++ a82 ++ a83 ++ a84 ++ a85 ++ a43 ++ a86 ++ a87 ++ a88 ++ a62)
def a99 : AV := (i 10)
def a100 : List AV := [z, a46, a3]
def a101 : List (List Data) := [[Z, (I 2), (I 1)]]
def a102 : AV := (.cs 1 14 0 0 3 .none)
def a103 : List AV := [(.mm [(w [100])] [(p 16 0)])]
def a104 : List AV := [a50, (x 3 a101 3), a69, z]
def a105 : AV := (p 20 0)
def a106 : AV := (i 15)
def a107 : List AV := [(i 5), a46, a3]
def a108 : AV := (y 1 [[(I 5)], [(I 5)], [(I 5)]])
def a109 : AV := (x 1 [[(d [100])], [a27]] 0)
def a110 : List AV := [a13, a109, a5, a14, a15, z, z, a16, a0, F, a17, F]
def a111 : List AV := [(.mm [(w [97])] [a52])]
def a112 : List (List AV) := [[u, (k 9 18 0 23 23 1), z, u, u, (e 3), (e 8), (x 1 a36 2)], [], a107, [(.mm [a25] [a95])], a104, [a54, (p 16 0), a108], (a42 ++ a43 ++ a45 ++ a47 ++ a43 ++ a48 ++ [a49, a50, z, z, a51, F, a40, a5, a105, a39, u, a3] ++ a43 ++ a53 ++ a55 ++ [z, a5, F, a40, a5, (p 21 0), a39, u, a46, z, a5, F] ++ a53 ++ a56 ++ a57 ++ [a40, a5, N, a58, u, a3, z, a5, F, a40, a5, a95] ++ a60 ++ a61 ++ a62), [a64, (k 9 22 0 23 23 4), a65, a64, a44, a66, a67, a5], a70, a71, (a56 ++ a72 ++ a74 ++ a56 ++ a75 ++ a76 ++ a79 ++ [z, (x 1 a80 5), F, (k 5 23 0 1 1 6), a81, N, a41, u, z, z, a5, F] ++ a53 ++ a82 ++ a83 ++ a84 ++ a85 ++ a43 ++ a86 ++ a87 ++ a88 ++ a62), a90]
def a113 : AV := (i 16)
def a114 : List AV := [F, z, z, F, u, a3, z, N, N, N]
def a115 : AV := (i 20)
def a116 : AV := (.mx 4 [] 13 4 .full)
def a117 : AV := (.cs 4 15 0 0 1 .none)
def a118 : AV := (k 9 16 0 1 1 1)
def a119 : List AV := [a52, (.mr 18), a30, a31, a3]
def a120 : List AV := [(.mm [(w [100])] [a95])]
def a121 : List AV := [(.mm [(w [97])] [a105])]
def a122 : List AV := [a64, (k 9 21 0 23 23 2), a65, a64, a44, a66, a67, a5]
def a123 : List AV := [N, a95, a105, F]
def a124 : List AV := [(.mm [a25] [a21])]
def a125 : List AV := [a50, (x 3 a101 5), a69, z]
def a126 : List AV := [a54, a95, a108]
def a127 : AV := (x 1 a80 6)
def a128 : List AV := [a40, a5, N, a58, u, a3, z, a5, F, a40, a5, a21]
def a129 : List AV := [z, z, (s [120, 35, 48]), F]
def a130 : AV := (p 22 0)
def a131 : List AV := [N, a95, a105, F, a130, N, N, F, N, N, N, F, N, N, N, F]
def a132 : AV := (.mx 4 [] 23 0 .full)
def a133 : List (List AV) := [a122, a131, a100, a123, [a58, a115, a52, a132, z, N, N, N, u], [u, (k 9 24 0 23 23 3), z, u, u, (e 3), (e 8), (x 1 a36 4)], a124, a125, a126, (a56 ++ a72 ++ a74 ++ a56 ++ a75 ++ a76 ++ a79 ++ [z, a127, F, (k 5 25 0 1 1 7), a81, N, a41, u, z, z, a5, F] ++ a53 ++ a82 ++ a83 ++ a84 ++ a85 ++ a43 ++ a86 ++ a87 ++ a88 ++ a62), a129, []]
def a134 : List (List AV) := [(a42 ++ a43 ++ a45 ++ a47 ++ a43 ++ a48 ++ [a49, a50, z, z, a51, F, a40, a5, (p 26 0), a39, u, a3] ++ a43 ++ a53 ++ a55 ++ [z, a5, F, a40, a5, (p 27 0), a39, u, a46, z, a5, F] ++ a53 ++ a56 ++ a57 ++ a128 ++ a60 ++ a61 ++ a62), a90, a70, a71]
def a135 : List AV := [F, z, z, F, u, a3, a3, N, N, N]
def a136 : List AV := [z, z, (v (w [116, 95, 48, 35, 49])), F]
def qe : AV := (y 1 [[Z], [(I 1)], [(I 2)]])
def qc : List AV := [a3, a46, a59]
def a139 : AV := (k 9 16 0 2 2 2)
def a140 : List AV := [a5, z, z, a21, a99, (k 4 13 0 4 4 1), a102, a117, a139, N, Q, F]
def a141 : List AV := [a64, (k 9 21 0 23 23 3), a65, a64, a44, a66, a67, a5]
def a142 : List AV := [N, a95, a105, F, a130, N, N, F, (p 23 0), N, N, F, (p 24 0), N, N, F]
def a143 : List AV := [a17, z, N, (p 26 0), N, u]
def a144 : List AV := ([a58, a115, a52, (.mx 4 [] 25 0 .full), z, N, N, N, u, (v (w [108, 111, 111, 112])), a113, N] ++ a143)
def a145 : List AV := [u, (k 9 27 0 23 23 4), z, u, u, (e 3), (e 8), (x 1 a36 5)]
def a146 : AV := (x 3 a101 6)
def a147 : List AV := [a50, a146, a69, z]
def a148 : AV := (k 5 28 0 1 1 8)
def a149 : List AV := (a56 ++ a72 ++ a74 ++ a56 ++ a75 ++ a76 ++ a79 ++ [z, (x 1 a80 7), F, a148, a81, N, a41, u, z, z, a5, F] ++ a53 ++ a82 ++ a83 ++ a84 ++ a85 ++ a43 ++ a86 ++ a87 ++ a88 ++ a62)
def a150 : List (List AV) := [a141, a142, a100, a123, a144, a145, a124, a147, a126, a149, a129, a136]
def a151 : AV := (.mx 4 [] 31 4 .full)
def a152 : List AV := [(p 29 0), (.cs 4 30 0 4 4 .none), a151, z, z, (k 1 32 0 3 3 9), a99, z]
def a153 : List AV := (a42 ++ a43 ++ a45 ++ a47 ++ a43 ++ a48 ++ [a49, a50, z, z, a51, F, a40, a5, (p 33 0), a39, u, a3] ++ a43 ++ a53 ++ a55 ++ [z, a5, F, a40, a5, (p 34 0), a39, u, a46, z, a5, F] ++ a53 ++ a56 ++ a57 ++ a128 ++ a60 ++ a61 ++ a62)
def a154 : List AV := [(.mr 35), (.mr 36), a59]
def a155 : List (List AV) := [[z, z, (s [120, 35, 50]), F], [], ([a77, a54, a78, z, (x 1 a80 7), F, a148, a81, N, qe, a146, z] ++ a152), a153, a90, a154, a131, a131, qc, a70, a71, a34]
def a156 : List AV := [a5, z, z, a21, (i 11), (k 4 13 0 4 4 1), a102, a117, a139, N, Q, F]
def a157 : List AV := [a5, z, z, a21, (i 12), (k 4 13 0 4 4 1), a102, a117, a139, N, Q, F]
def a158 : List AV := [a13, a109, a5, a14, a15, z, a3, a16, a0, F, a17, F]
def a159 : List AV := [F, z, z, F, u, a3, a46, N, N, N]
def qb : AV := (l 1 [[(I 5)]])
def a161 : List (List AV) := [a141, a142, a107, a123, a144, a145, a124, a147, a126, a149, a129, [a3, z, (v (w [116, 95, 48, 35, 51])), F]]
def a162 : List (List AV) := [[z, z, (s [120, 35, 52]), F], [], ([a77, a54, a78, z, (x 1 a80 7), F, a148, a81, N, qe, a146, a3] ++ a152), a153, a90, a154, a131, a131, qc, a70, a71, [(.mm [(.i .i64 0)] [qb])]]
def a163 : List AV := [a13, a109, a5, a14, a15, z, a46, a16, a0, F, a17, F]
def a164 : List AV := [(i 7), a59, a19, F]
def a165 : List AV := [F, z, z, F, u, a3, a59, N, N, N]
def a166 : List AV := [a46, z, (v (w [116, 95, 48, 35, 53])), F]
def a167 : List (List AV) := [a141, a142, a107, a123, a144, a145, a124, a147, a126, a149, a129, a166]
def a168 : List (List AV) := [[z, z, (s [120, 35, 54]), F], [], ([a77, a54, a78, z, (x 1 a80 7), F, a148, a81, N, qe, a146, a46] ++ a152), a153, a90, a154, a131, a131, qc, a70, a71, [(.mm [(.i .i64 0), (.i .i64 1)] [qb, qb])]]
def a169 : List AV := [a13, a109, a5, a14, a15, z, a59, a16, a0, F, a17, F]
def a170 : AV := (v (w [102, 111, 108, 100]))
def a171 : List AV := [a106, z, (s [120, 35, 48]), F]
def a172 : List AV := [(.mm [(.i .i64 0), (.i .i64 1), (.i .i64 2)] [qb, qb, qb])]
def a173 : List (List AV) := [([a77, a54, a78, z, a127, F, (k 5 26 0 1 1 7), a81, N, qe, (x 3 a101 5), a46] ++ [(p 27 0), (.cs 4 28 0 4 4 .none), a116, a106, z, (k 1 29 0 3 3 8), a99, z]), (a42 ++ a43 ++ a45 ++ a47 ++ a43 ++ a48 ++ [a49, a50, z, z, a51, F, a40, a5, (p 30 0), a39, u, a3] ++ a43 ++ a53 ++ a55 ++ [z, a5, F, a40, a5, (p 31 0), a39, u, a46, z, a5, F] ++ a53 ++ a56 ++ a57 ++ a128 ++ a60 ++ a61 ++ a62), a90, [(.mr 32), (.mr 33), a59], a131, qc, a70, a71, a172, a34]
def a174 : AV := (.mx 4 [] 14 0 .full)
end Go.Abs.RT
namespace Go.Abs
open Go.Abs.R Go.Abs.RT
def rcTA86_0 : List AV := a1
def rcTH86_0 : List (List AV) := ([([a2, a3, F, a4, z, a5, a6, a8, a9, a10, a11, a12] ++ a18 ++ a20), ([a5, z, z, a21, z, a22, a5, a17, a23, N, Q, F] ++ a24), a32, a33, a34, a34, a34, a34, a34, a35, [z], [z]] ++ [a37, [], a38, a63, a68, a70, a71, a89, a90])
def rcTR86_0 : AV × List (List AV) := (a91, ([([a2, a3, F, a4, a3, a5, a6, a8, a9, a10, a11, a12] ++ a18 ++ a20), ([a5, z, z, a21, a46, a22, a5, a17, a23, N, Q, F] ++ a24), a32, a33, a34, a34, a34, a34, a34, a35, [z], [a3]] ++ [a37, [], a38, a63, a68, a70, a71, a89, a90]))
def rcTA86_1 : List AV := a1
def rcTH86_1 : List (List AV) := ([([a2, a3, F, a4, a3, a5, a6, a8, a9, a10, a11, a12] ++ a18 ++ a20), ([a5, z, z, a21, a46, a22, a5, a17, a23, N, Q, F] ++ a24), a32, a33, a34, a34, a34, a34, a34, a35, [z], [a3]] ++ [a37, [], a38, a63, a68, a70, a71, a89, a90])
def rcTR86_1 : AV × List (List AV) := (a91, ([([a2, a3, F, a4, a46, a5, a6, a8, a9, a10, a11, a12] ++ a18 ++ a20), ([a5, z, z, a21, a65, a22, (k 1 21 0 1 1 5), a17, a23, N, Q, F] ++ a24), a32, a33, a34, a34, a34, a34, a34, a35, [z], [a46]] ++ [a37, [], a38, a63, a68, a70, a71, a89, a90, [z]]))
def rcTA86_2 : List AV := a1
def rcTH86_2 : List (List AV) := ([([a2, a3, F, a4, a46, a5, a6, a8, a9, a10, a11, a12] ++ a18 ++ a20), ([a5, z, z, a21, a65, a22, (k 1 14 0 1 1 0), a17, a23, N, Q, F] ++ a24), a92, a33, a34, a34, a34, a34, a34, a35, [z], [a46]] ++ [a93, [], [z], a94, a96, a97, a70, a71, a98, a90])
def rcTR86_2 : AV × List (List AV) := (a91, ([([a2, a3, F, a4, a59, a5, a6, a8, a9, a10, a11, a12] ++ a18 ++ a20), ([a5, z, z, a21, (i 6), a22, (k 1 22 0 2 2 6), a17, a23, N, Q, F] ++ a24), a92, a33, a34, a34, a34, a34, a34, a35, [z], [a59]] ++ [a93, [], [], a94, a96, a97, a70, a71, a98, a90, [z, a46]]))
def rcTA86_3 : List AV := a1
def rcTH86_3 : List (List AV) := ([([a2, a3, F, a4, a59, a5, a6, a8, a9, a10, a11, a12] ++ a18 ++ a20), ([a5, z, z, a21, (i 6), a22, (k 1 14 0 2 2 0), a17, a23, N, Q, F] ++ a24), a92, a33, a34, a34, a34, a34, a34, a35, [z], [a59]] ++ [a93, [], [z, a46], a94, a96, a97, a70, a71, a98, a90])
def rcTR86_3 : AV × List (List AV) := (a91, ([([a2, a3, F, a4, a65, a5, a6, a8, a9, a10, a11, a12] ++ [a13, (x 1 [[(d [100])]] 6), a5, a14, a15, z, z, a16, a0, F, a17, F] ++ a20), ([a5, z, z, a21, a99, a22, (.cs 1 22 0 0 3 .none), a17, a23, N, Q, F] ++ a24), a92, a33, [(.mm [(w [100])] [(p 23 0)])], a34, a34, a34, a34, a35, [z], [a65]] ++ [a93, [], [], a94, a96, a97, a70, a71, a98, a90, a100, [a50, (x 3 a101 7), a69, z]]))
def rcTA86_4 : List AV := a1
def rcTH86_4 : List (List AV) := ([([a2, a3, F, a4, a65, a5, a6, a8, a9, a10, a11, a12] ++ [a13, (x 1 [[(d [100])]] 0), a5, a14, a15, z, z, a16, a0, F, a17, F] ++ a20), ([a5, z, z, a21, a99, a22, a102, a17, a23, N, Q, F] ++ a24), a92, a33, a103, a34, a34, a34, a34, a35, [z], [a65]] ++ [[u, (k 9 17 0 23 23 1), z, u, u, (e 3), (e 8), (x 1 a36 2)], [], a100, [(.mm [a25] [(p 18 0)])], a104, (a42 ++ a43 ++ a45 ++ a47 ++ a43 ++ a48 ++ [a49, a50, z, z, a51, F, a40, a5, a95, a39, u, a3] ++ a43 ++ a53 ++ a55 ++ [z, a5, F, a40, a5, a105, a39, u, a46, z, a5, F] ++ a53 ++ a56 ++ a57 ++ [a40, a5, N, a58, u, a3, z, a5, F, a40, a5, (p 18 0)] ++ a60 ++ a61 ++ a62), [a64, (k 9 21 0 23 23 4), a65, a64, a44, a66, a67, a5], a70, a71, (a56 ++ a72 ++ a74 ++ a56 ++ a75 ++ a76 ++ a79 ++ [z, (x 1 a80 5), F, (k 5 22 0 1 1 6), a81, N, a41, u, z, z, a5, F] ++ a53 ++ a82 ++ a83 ++ a84 ++ a85 ++ a43 ++ a86 ++ a87 ++ a88 ++ a62), a90])
def rcTR86_4 : AV × List (List AV) := (a91, ([([a2, a3, F, a4, (i 5), a5, a6, a8, a9, a10, a11, a12] ++ [a13, (x 1 [[(d [100])]] 0), a5, a14, a15, z, z, a16, a0, F, a17, F] ++ a20), ([a5, z, z, a21, (i 11), a22, a102, a17, a23, N, Q, F] ++ a24), a92, a33, a103, a34, a34, a34, a34, a35, [z], [(i 5)]] ++ [[u, (k 9 17 0 23 23 1), z, u, u, (e 3), (e 8), (x 1 a36 2)], [], a100, [(.mm [a25] [(p 18 0)])], a104, (a42 ++ a43 ++ a45 ++ a47 ++ a43 ++ a48 ++ [a49, a50, z, z, a51, F, a40, a5, a95, a39, u, a3] ++ a43 ++ a53 ++ a55 ++ [z, a5, F, a40, a5, a105, a39, u, a46, z, a5, F] ++ a53 ++ a56 ++ a57 ++ [a40, a5, N, a58, u, a3, z, a5, F, a40, a5, (p 18 0)] ++ a60 ++ a61 ++ a62), [a64, (k 9 21 0 23 23 4), a65, a64, a44, a66, a67, a5], a70, a71, (a56 ++ a72 ++ a74 ++ a56 ++ a75 ++ a76 ++ a79 ++ [z, (x 1 a80 5), F, (k 5 22 0 1 1 6), a81, N, a41, u, z, z, a5, F] ++ a53 ++ a82 ++ a83 ++ a84 ++ a85 ++ a43 ++ a86 ++ a87 ++ a88 ++ a62), a90]))
def rcTA86_5 : List AV := a1
def rcTH86_5 : List (List AV) := ([([a2, a3, F, a4, (i 5), a5, a6, a8, a9, a10, a11, a12] ++ [a13, (x 1 [[(d [100])]] 0), a5, a14, a15, z, z, a16, a0, F, a17, F] ++ a20), ([a5, z, z, a21, (i 11), a22, a102, a17, a23, N, Q, F] ++ a24), a92, a33, a103, a34, a34, a34, a34, a35, [z], [(i 5)]] ++ [[u, (k 9 17 0 23 23 1), z, u, u, (e 3), (e 8), (x 1 a36 2)], [], a100, [(.mm [a25] [(p 18 0)])], a104, (a42 ++ a43 ++ a45 ++ a47 ++ a43 ++ a48 ++ [a49, a50, z, z, a51, F, a40, a5, a95, a39, u, a3] ++ a43 ++ a53 ++ a55 ++ [z, a5, F, a40, a5, a105, a39, u, a46, z, a5, F] ++ a53 ++ a56 ++ a57 ++ [a40, a5, N, a58, u, a3, z, a5, F, a40, a5, (p 18 0)] ++ a60 ++ a61 ++ a62), [a64, (k 9 21 0 23 23 4), a65, a64, a44, a66, a67, a5], a70, a71, (a56 ++ a72 ++ a74 ++ a56 ++ a75 ++ a76 ++ a79 ++ [z, (x 1 a80 5), F, (k 5 22 0 1 1 6), a81, N, a41, u, z, z, a5, F] ++ a53 ++ a82 ++ a83 ++ a84 ++ a85 ++ a43 ++ a86 ++ a87 ++ a88 ++ a62), a90])
def rcTR86_5 : AV × List (List AV) := (a91, ([([a2, a3, F, a4, (i 6), a5, a6, a8, a9, a10, a11, a12] ++ [a13, (x 1 [[(d [100])], [a27]] 7), a5, a14, a15, z, z, a16, a0, F, a17, F] ++ a20), ([a5, z, z, a21, a106, a22, a102, a17, a23, N, Q, F] ++ a24), a92, a33, a103, [(.mm [(w [97])] [(p 23 0)])], a34, a34, a34, a35, [z], [(i 6)]] ++ [[u, (k 9 17 0 23 23 1), z, u, u, (e 3), (e 8), (x 1 a36 2)], [], a107, [(.mm [a25] [(p 18 0)])], a104, (a42 ++ a43 ++ a45 ++ a47 ++ a43 ++ a48 ++ [a49, a50, z, z, a51, F, a40, a5, a95, a39, u, a3] ++ a43 ++ a53 ++ a55 ++ [z, a5, F, a40, a5, a105, a39, u, a46, z, a5, F] ++ a53 ++ a56 ++ a57 ++ [a40, a5, N, a58, u, a3, z, a5, F, a40, a5, (p 18 0)] ++ a60 ++ a61 ++ a62), [a64, (k 9 21 0 23 23 4), a65, a64, a44, a66, a67, a5], a70, a71, (a56 ++ a72 ++ a74 ++ a56 ++ a75 ++ a76 ++ a79 ++ [z, (x 1 a80 5), F, (k 5 22 0 1 1 6), a81, N, a41, u, z, z, a5, F] ++ a53 ++ a82 ++ a83 ++ a84 ++ a85 ++ a43 ++ a86 ++ a87 ++ a88 ++ a62), a90, [a54, (p 16 0), a108]]))
def rcTA86_6 : List AV := a1
def rcTH86_6 : List (List AV) := ([([a2, a3, F, a4, (i 6), a5, a6, a8, a9, a10, a11, a12] ++ a110 ++ a20), ([a5, z, z, a21, a106, a22, a102, a17, a23, N, Q, F] ++ a24), a92, a33, a103, a111, a34, a34, a34, a35, [z], [(i 6)]] ++ a112)
def rcTR86_6 : AV × List (List AV) := (a91, ([([a2, a3, F, a4, (i 7), a5, a6, a8, a9, a10, a11, a12] ++ a110 ++ a20), ([a5, z, z, a21, a113, a22, a102, a17, a23, N, Q, F] ++ a24), a92, a33, a103, a111, a34, a34, a34, a35, [z], [(i 7)]] ++ a112))
def rcTA86_7 : List AV := a1
def rcTH86_7 : List (List AV) := ([([a2, a3, F, a4, (i 7), a5, a6, a8, a9, a10, a11, a12] ++ a110 ++ a20), ([a5, z, z, a21, a113, a22, a102, a17, a23, N, Q, F] ++ a24), a92, a33, a103, a111, a34, a34, a34, a35, [z], [(i 7)]] ++ a112)
def rcTR86_7 : AV × List (List AV) := (a91, ([([a2, a3, F, a4, (i 8), a5, a6, a8, a9, a10, a11, a12] ++ a110 ++ a20), ([a5, z, z, a21, a78, a22, a102, a17, a23, N, Q, F] ++ a24), a92, a33, a103, a111, a34, a34, a34, a35, [z], [(i 8)]] ++ a112))
def rcTA86_8 : List AV := a1
def rcTH86_8 : List (List AV) := ([([a2, a3, F, a4, (i 8), a5, a6, a8, a9, a10, a11, a12] ++ a110 ++ a20), ([a5, z, z, a21, a78, a22, a102, a17, a23, N, Q, F] ++ a24), a92, a33, a103, a111, a34, a34, a34, a35, [z], [(i 8)]] ++ a112)
def rcTR86_8 : AV × List (List AV) := (a91, ([([a2, a3, F, a4, (i 9), a5, a6, a8, a9, a10, a11, a12] ++ a110 ++ a20), ([a5, z, z, a95, z, (.mx 4 [] 24 4 .full), a102, (.cs 4 25 0 0 1 .none), (k 9 26 0 1 1 7), N, Q, F] ++ a114), a92, a33, a103, a111, a34, a34, a34, a35, [z], [(i 9)]] ++ a112 ++ [[N, (p 16 0), a52, F, N, N, N, F, N, N, N, F, N, N, N, F], [N, (p 16 0), a52, F], [a58, a115, a21, a22, z, N, N, N, u]]))
def rcTA86_9 : List AV := a1
def rcTH86_9 : List (List AV) := ([([a2, a3, F, a4, (i 9), a5, a6, a8, a9, a10, a11, a12] ++ a110 ++ a20), ([a5, z, z, a21, z, a116, a102, a117, a118, N, Q, F] ++ a114), a119, a33, a120, a121, a34, a34, a34, a35, [z], [(i 9)]] ++ [a122, [N, a95, a105, F, N, N, N, F, N, N, N, F, N, N, N, F], a107, a123, [a58, a115, a52, (.mx 4 [] 22 0 .full), z, N, N, N, u], [u, (k 9 23 0 23 23 3), z, u, u, (e 3), (e 8), (x 1 a36 4)], a124, a125, a126, (a56 ++ a72 ++ a74 ++ a56 ++ a75 ++ a76 ++ a79 ++ [z, a127, F, (k 5 24 0 1 1 7), a81, N, a41, u, z, z, a5, F] ++ a53 ++ a82 ++ a83 ++ a84 ++ a85 ++ a43 ++ a86 ++ a87 ++ a88 ++ a62), [], (a42 ++ a43 ++ a45 ++ a47 ++ a43 ++ a48 ++ [a49, a50, z, z, a51, F, a40, a5, (p 25 0), a39, u, a3] ++ a43 ++ a53 ++ a55 ++ [z, a5, F, a40, a5, (p 26 0), a39, u, a46, z, a5, F] ++ a53 ++ a56 ++ a57 ++ a128 ++ a60 ++ a61 ++ a62)] ++ [a90, a70, a71])
def rcTR86_9 : AV × List (List AV) := (a91, ([([a2, a3, F, a4, a99, a5, a6, a8, a9, a10, a11, a12] ++ a110 ++ a20), ([a5, z, z, a21, a3, a116, a102, a117, a118, N, Q, F] ++ a114), a119, a33, a120, a121, a34, a34, a34, a35, [z], [a99]] ++ [a122, [N, a95, a105, F, N, N, N, F, N, N, N, F, N, N, N, F], a107, a123, [a58, a115, a52, (.mx 4 [] 22 0 .full), z, N, N, N, u], [u, (k 9 23 0 23 23 3), z, u, u, (e 3), (e 8), (x 1 a36 4)], a124, a125, a126, (a56 ++ a72 ++ a74 ++ a56 ++ a75 ++ a76 ++ a79 ++ [z, a127, F, (k 5 24 0 1 1 7), a81, N, a41, u, z, z, a5, F] ++ a53 ++ a82 ++ a83 ++ a84 ++ a85 ++ a43 ++ a86 ++ a87 ++ a88 ++ a62), [], (a42 ++ a43 ++ a45 ++ a47 ++ a43 ++ a48 ++ [a49, a50, z, z, a51, F, a40, a5, (p 25 0), a39, u, a3] ++ a43 ++ a53 ++ a55 ++ [z, a5, F, a40, a5, (p 26 0), a39, u, a46, z, a5, F] ++ a53 ++ a56 ++ a57 ++ a128 ++ a60 ++ a61 ++ a62)] ++ [a90, a70, a71]))
def nX : List AV := a1
def nF : List (List AV) := ([([a2, a3, F, a4, a99, a5, a6, a8, a9, a10, a11, a12] ++ a110 ++ a20), ([a5, z, z, a21, a3, a116, a102, a117, a118, N, Q, F] ++ a114), a119, a33, a120, a121, a34, a34, a34, a35, [z], [a99]] ++ [a122, [N, a95, a105, F, N, N, N, F, N, N, N, F, N, N, N, F], a107, a123, [a58, a115, a52, (.mx 4 [] 22 0 .full), z, N, N, N, u], [u, (k 9 23 0 23 23 3), z, u, u, (e 3), (e 8), (x 1 a36 4)], a124, a125, a126, (a56 ++ a72 ++ a74 ++ a56 ++ a75 ++ a76 ++ a79 ++ [z, a127, F, (k 5 24 0 1 1 7), a81, N, a41, u, z, z, a5, F] ++ a53 ++ a82 ++ a83 ++ a84 ++ a85 ++ a43 ++ a86 ++ a87 ++ a88 ++ a62), [], (a42 ++ a43 ++ a45 ++ a47 ++ a43 ++ a48 ++ [a49, a50, z, z, a51, F, a40, a5, (p 25 0), a39, u, a3] ++ a43 ++ a53 ++ a55 ++ [z, a5, F, a40, a5, (p 26 0), a39, u, a46, z, a5, F] ++ a53 ++ a56 ++ a57 ++ a128 ++ a60 ++ a61 ++ a62)] ++ [a90, a70, a71])
def ne : AV × List (List AV) := (a91, ([([a2, a3, F, a4, (i 11), a5, a6, a8, a9, a10, a11, a12] ++ a110 ++ [a3, z, a19, F]), ([a5, z, z, a21, a65, a116, a102, a117, a118, N, Q, F] ++ a114), a119, a33, a120, a121, a34, a34, a34, a35, [z], [(i 11)]] ++ [a122, [N, a95, a105, F, (p 27 0), N, N, F, N, N, N, F, N, N, N, F], a100, a123, [a58, a115, a52, (.mx 4 [] 22 0 .full), z, N, N, N, u], [u, (k 9 23 0 23 23 3), z, u, u, (e 3), (e 8), (x 1 a36 4)], a124, a125, a126, (a56 ++ a72 ++ a74 ++ a56 ++ a75 ++ a76 ++ a79 ++ [z, a127, F, (k 5 24 0 1 1 7), a81, N, a41, u, z, z, a5, F] ++ a53 ++ a82 ++ a83 ++ a84 ++ a85 ++ a43 ++ a86 ++ a87 ++ a88 ++ a62), [], (a42 ++ a43 ++ a45 ++ a47 ++ a43 ++ a48 ++ [a49, a50, z, z, a51, F, a40, a5, (p 25 0), a39, u, a3] ++ a43 ++ a53 ++ a55 ++ [z, a5, F, a40, a5, (p 26 0), a39, u, a46, z, a5, F] ++ a53 ++ a56 ++ a57 ++ a128 ++ a60 ++ a61 ++ a62)] ++ [a90, a70, a71, a129]))
def nW : List AV := a1
def nD : List (List AV) := ([([a2, a3, F, a4, (i 11), a5, a6, a8, a9, a10, a11, a12] ++ a110 ++ [a3, z, a19, F]), ([a5, z, z, a21, a65, a116, a102, a117, a118, N, Q, F] ++ a114), a119, a33, a120, a121, a34, a34, a34, a35, [z], [(i 11)]] ++ a133 ++ a134)
def na : AV × List (List AV) := (a91, ([([a2, a3, F, a4, (i 12), a5, a6, a8, a9, a10, a11, a12] ++ a110 ++ [a3, z, a19, F]), ([a5, z, z, a21, (i 5), a116, a102, a117, a118, N, Q, F] ++ a114), a119, a33, a120, a121, a34, a34, a34, a35, [z], [(i 12)]] ++ a133 ++ a134))
def nV : List AV := a1
def nC : List (List AV) := ([([a2, a3, F, a4, (i 12), a5, a6, a8, a9, a10, a11, a12] ++ a110 ++ [a3, z, a19, F]), ([a5, z, z, a21, (i 5), a116, a102, a117, a118, N, Q, F] ++ a114), a119, a33, a120, a121, a34, a34, a34, a35, [z], [(i 12)]] ++ a133 ++ a134)
def m9 : AV × List (List AV) := (a91, ([([a2, a3, F, a4, (i 13), a5, a6, a8, a9, a10, a11, a12] ++ a110 ++ [a3, z, a19, F]), ([a5, z, z, a21, (i 8), a116, a102, a117, a118, N, Q, F] ++ a114), a119, a33, a120, a121, a34, a34, a34, a35, [z], [(i 13)]] ++ a133 ++ a134))
def nU : List AV := a1
def nA : List (List AV) := ([([a2, a3, F, a4, (i 13), a5, a6, a8, a9, a10, a11, a12] ++ a110 ++ [a3, z, a19, F]), ([a5, z, z, a21, (i 8), a116, a102, a117, a118, N, Q, F] ++ a114), a119, a33, a120, a121, a34, a34, a34, a35, [z], [(i 13)]] ++ a133 ++ a134)
def m8 : AV × List (List AV) := (a91, ([([a2, a3, F, a4, (i 14), a5, a6, a8, a9, a10, a11, a12] ++ a110 ++ [a59, a59, a19, F]), ([a5, z, z, a21, a99, (k 4 28 0 4 4 8), a102, a117, (k 9 29 0 2 2 9), N, Q, F] ++ a135), a119, a33, a120, a121, a34, a34, a34, a35, [z], [(i 14)]] ++ [a122, a131, a100, a123, [], [u, (k 9 24 0 23 23 3), z, u, u, (e 3), (e 8), (x 1 a36 4)], a124, a125, a126, (a56 ++ a72 ++ a74 ++ a56 ++ a75 ++ a76 ++ a79 ++ [z, a127, F, (k 5 25 0 1 1 7), a81, N, a41, u, z, z, a5, F] ++ a53 ++ a82 ++ a83 ++ a84 ++ a85 ++ a43 ++ a86 ++ a87 ++ a88 ++ a62), a129, []] ++ [(a42 ++ a43 ++ a45 ++ a47 ++ a43 ++ a48 ++ [a49, a50, z, z, a51, F, a40, a5, (p 26 0), a39, u, a3] ++ a43 ++ a53 ++ a55 ++ [z, a5, F, a40, a5, (p 27 0), a39, u, a46, z, a5, F] ++ a53 ++ a56 ++ a57 ++ a128 ++ a60 ++ a61 ++ a62), a90, a70, a71, [N, a95, a105, F, a130, N, N, F, (p 30 0), N, N, F, (p 31 0), N, N, F], ([a58, a115, a52, a132, z, N, N, N, u, (v (w [108, 111, 111, 112])), a113, N] ++ [a17, z, N, (p 32 0), N, u]), a136, [z, z, (s [120, 35, 50]), F], ([a77, a54, a78, z, a127, F, (k 5 25 0 1 1 7), a81, N, qe, (x 3 a101 5), z] ++ [(p 33 0), (.cs 4 34 0 4 4 .none), a116, z, z, (k 1 35 0 3 3 10), a99, z]), [(.mr 36), (.mr 37), a59], a131, qc] ++ [a34, a34]))
def nT : List AV := a1
def nz : List (List AV) := ([([a2, a3, F, a4, (i 14), a5, a6, a8, a9, a10, a11, a12] ++ a110 ++ [a59, a59, a19, F]), (a140 ++ a135), a119, a33, a120, a121, a34, a34, a34, a35, [z], [(i 14)]] ++ a150 ++ a155 ++ [a34])
def m7 : AV × List (List AV) := (a91, ([([a2, a3, F, a4, a106, a5, a6, a8, a9, a10, a11, a12] ++ a110 ++ [a59, a59, a19, F]), (a156 ++ a135), a119, a33, a120, a121, a34, a34, a34, a35, [z], [a106]] ++ a150 ++ a155 ++ [a34]))
def nR : List AV := a1
def nw : List (List AV) := ([([a2, a3, F, a4, a106, a5, a6, a8, a9, a10, a11, a12] ++ a110 ++ [a59, a59, a19, F]), (a156 ++ a135), a119, a33, a120, a121, a34, a34, a34, a35, [z], [a106]] ++ a150 ++ a155 ++ [a34])
def m5 : AV × List (List AV) := (a91, ([([a2, a3, F, a4, a113, a5, a6, a8, a9, a10, a11, a12] ++ a110 ++ [a59, a59, a19, F]), (a157 ++ a135), a119, a33, a120, a121, a34, a34, a34, a35, [z], [a113]] ++ a150 ++ a155 ++ [a34]))
def nQ : List AV := a1
def nv : List (List AV) := ([([a2, a3, F, a4, a113, a5, a6, a8, a9, a10, a11, a12] ++ a110 ++ [a59, a59, a19, F]), (a157 ++ a135), a119, a33, a120, a121, a34, a34, a34, a35, [z], [a113]] ++ a150 ++ a155 ++ [a34])
def m4 : AV × List (List AV) := (a91, ([([a2, a3, F, a4, a78, a5, a6, a8, a9, a10, a11, a12] ++ a158 ++ [(i 5), a59, a19, F]), ([a5, z, z, a21, a99, (k 4 37 0 4 4 10), a102, a117, a139, N, Q, F] ++ a159), a119, a33, a120, a121, a34, a34, a34, a35, [z], [a78]] ++ [a141, a142, a107, a123, a144, a145, a124, a147, a126, a149, a129, a136] ++ [[(i 5), z, (s [120, 35, 50]), F], [], ([a77, a54, a78, z, (x 1 a80 7), F, a148, a81, N, qe, a146, a3] ++ a152), a153, a90, a154, a131, a131, qc, a70, a71, [(.mm [(.i .i64 0)] [qb])]] ++ [a34, [N, a95, a105, F, a130, N, N, F, (p 38 0), N, N, F, (p 39 0), N, N, F], [a3, z, (v (w [116, 95, 48, 35, 51])), F], [z, z, (s [120, 35, 52]), F]]))
def nP : List AV := a1
def nu : List (List AV) := ([([a2, a3, F, a4, a78, a5, a6, a8, a9, a10, a11, a12] ++ a158 ++ [(i 5), a59, a19, F]), (a140 ++ a159), a119, a33, a120, a121, a34, a34, a34, a35, [z], [a78]] ++ a161 ++ a162 ++ [a34])
def mZ : AV × List (List AV) := (a91, ([([a2, a3, F, a4, (i 18), a5, a6, a8, a9, a10, a11, a12] ++ a158 ++ [(i 5), a59, a19, F]), (a156 ++ a159), a119, a33, a120, a121, a34, a34, a34, a35, [z], [(i 18)]] ++ a161 ++ a162 ++ [a34]))
def nO : List AV := a1
def nr : List (List AV) := ([([a2, a3, F, a4, (i 18), a5, a6, a8, a9, a10, a11, a12] ++ a158 ++ [(i 5), a59, a19, F]), (a156 ++ a159), a119, a33, a120, a121, a34, a34, a34, a35, [z], [(i 18)]] ++ a161 ++ a162 ++ [a34])
def mY : AV × List (List AV) := (a91, ([([a2, a3, F, a4, (i 19), a5, a6, a8, a9, a10, a11, a12] ++ a158 ++ [(i 5), a59, a19, F]), (a157 ++ a159), a119, a33, a120, a121, a34, a34, a34, a35, [z], [(i 19)]] ++ a161 ++ a162 ++ [a34]))
def nN : List AV := a1
def nq : List (List AV) := ([([a2, a3, F, a4, (i 19), a5, a6, a8, a9, a10, a11, a12] ++ a158 ++ [(i 5), a59, a19, F]), (a157 ++ a159), a119, a33, a120, a121, a34, a34, a34, a35, [z], [(i 19)]] ++ a161 ++ a162 ++ [a34])
def mX : AV × List (List AV) := (a91, ([([a2, a3, F, a4, a115, a5, a6, a8, a9, a10, a11, a12] ++ a163 ++ a164), ([a5, z, z, a21, a99, (k 4 37 0 4 4 10), a102, a117, a139, N, Q, F] ++ a165), a119, a33, a120, a121, a34, a34, a34, a35, [z], [a115]] ++ a161 ++ [[(i 5), z, (s [120, 35, 52]), F], [], ([a77, a54, a78, z, (x 1 a80 7), F, a148, a81, N, qe, a146, a46] ++ a152), a153, a90, a154, a131, a131, qc, a70, a71, [(.mm [(.i .i64 0), (.i .i64 1)] [qb, qb])]] ++ [a34, [N, a95, a105, F, a130, N, N, F, (p 38 0), N, N, F, (p 39 0), N, N, F], a166, [z, z, (s [120, 35, 54]), F]]))
def nM : List AV := a1
def nn : List (List AV) := ([([a2, a3, F, a4, a115, a5, a6, a8, a9, a10, a11, a12] ++ a163 ++ a164), (a140 ++ a165), a119, a33, a120, a121, a34, a34, a34, a35, [z], [a115]] ++ a167 ++ a168 ++ [a34])
def mW : AV × List (List AV) := (a91, ([([a2, a3, F, a4, (i 21), a5, a6, a8, a9, a10, a11, a12] ++ a163 ++ a164), (a156 ++ a165), a119, a33, a120, a121, a34, a34, a34, a35, [z], [(i 21)]] ++ a167 ++ a168 ++ [a34]))
def nK : List AV := a1
def nl : List (List AV) := ([([a2, a3, F, a4, (i 21), a5, a6, a8, a9, a10, a11, a12] ++ a163 ++ a164), (a156 ++ a165), a119, a33, a120, a121, a34, a34, a34, a35, [z], [(i 21)]] ++ a167 ++ a168 ++ [a34])
def mV : AV × List (List AV) := (a91, ([([a2, a3, F, a4, (i 22), a5, a6, a8, a9, a10, a11, a12] ++ a163 ++ a164), (a157 ++ a165), a119, a33, a120, a121, a34, a34, a34, a35, [z], [(i 22)]] ++ a167 ++ a168 ++ [a34]))
def nJ : List AV := a1
def nk : List (List AV) := ([([a2, a3, F, a4, (i 22), a5, a6, a8, a9, a10, a11, a12] ++ a163 ++ a164), (a157 ++ a165), a119, a33, a120, a121, a34, a34, a34, a35, [z], [(i 22)]] ++ a167 ++ a168 ++ [a34])
def mU : AV × List (List AV) := (a91, ([([a2, a3, F, a4, (i 23), a5, a6, a8, a9, a10, a11, a12] ++ a169 ++ a164), ([a5, z, z, a21, a78, a151, a102, a117, (k 9 16 0 1 2 2), N, Q, F] ++ a114), a119, a33, a120, a121, a34, a34, a34, a35, [z], [(i 23)]] ++ [a141, a142, a107, a123, ([a58, a115, a52, (.mx 4 [] 25 0 .full), z, N, N, N, u, a170, a113, N] ++ a143), a145, a124, a147, a126, a149, a171, a166] ++ [[(i 5), z, (s [120, 35, 54]), F], [], ([a77, a54, a78, z, (x 1 a80 7), F, a148, a81, N, qe, a146, a46] ++ [(p 29 0), (.cs 4 30 0 4 4 .none), a151, a106, z, (k 1 32 0 3 3 9), a99, z]), a153, a90, a154, a131, a131, qc, a70, a71, a172] ++ [a34]))
def nI : List AV := a1
def nj : List (List AV) := ([([a2, a3, F, a4, (i 23), a5, a6, a8, a9, a10, a11, a12] ++ a169 ++ a164), ([a5, z, z, a21, a78, a116, a102, a117, (k 9 16 0 1 2 1), N, Q, F] ++ a114), a119, a33, a120, a121, a34, a34, a34, a35, [z], [(i 23)]] ++ [a122, a131, a107, a123, ([a58, a115, a52, a132, z, N, N, N, u, a170, a113, N] ++ [a17, z, N, (p 24 0), N, u]), [u, (k 9 25 0 23 23 3), z, u, u, (e 3), (e 8), (x 1 a36 4)], a124, a125, a126, (a56 ++ a72 ++ a74 ++ a56 ++ a75 ++ a76 ++ a79 ++ [z, a127, F, (k 5 26 0 1 1 7), a81, N, a41, u, z, z, a5, F] ++ a53 ++ a82 ++ a83 ++ a84 ++ a85 ++ a43 ++ a86 ++ a87 ++ a88 ++ a62), a171, []] ++ a173)
def mT : AV × List (List AV) := (a91, ([([a2, a3, F, a4, (i 24), a5, a6, a8, a9, a10, a11, a12] ++ a169 ++ a164), ([a5, z, z, a21, (i 18), a116, a102, a117, (k 9 16 0 1 2 1), N, Q, F] ++ a114), a119, a33, a120, a121, a34, a34, a34, a35, [z], [(i 24)]] ++ [a122, a131, a107, a123, ([a58, a115, a52, a132, z, N, N, N, u, a170, a113, N] ++ [a17, z, N, (p 24 0), N, u]), [u, (k 9 25 0 23 23 3), z, u, u, (e 3), (e 8), (x 1 a36 4)], a124, a125, a126, (a56 ++ a72 ++ a74 ++ a56 ++ a75 ++ a76 ++ a79 ++ [z, a127, F, (k 5 26 0 1 1 7), a81, N, a41, u, z, z, a5, F] ++ a53 ++ a82 ++ a83 ++ a84 ++ a85 ++ a43 ++ a86 ++ a87 ++ a88 ++ a62), a171, []] ++ a173))
def nH : List AV := a1
def nh : List (List AV) := ([([a2, a3, F, a4, (i 24), a5, a6, a8, a9, a10, a11, a12] ++ a169 ++ a164), ([a5, z, z, a21, (i 18), a116, a102, a117, (k 9 16 0 1 2 1), N, Q, F] ++ a114), a119, a33, a120, a121, a34, a34, a34, a35, [z], [(i 24)]] ++ [a122, a131, a107, a123, ([a58, a115, a52, a132, z, N, N, N, u, a170, a113, N] ++ [a17, z, N, (p 24 0), N, u]), [u, (k 9 25 0 23 23 3), z, u, u, (e 3), (e 8), (x 1 a36 4)], a124, a125, a126, (a56 ++ a72 ++ a74 ++ a56 ++ a75 ++ a76 ++ a79 ++ [z, a127, F, (k 5 26 0 1 1 7), a81, N, a41, u, z, z, a5, F] ++ a53 ++ a82 ++ a83 ++ a84 ++ a85 ++ a43 ++ a86 ++ a87 ++ a88 ++ a62), a171, []] ++ a173)
def mS : AV × List (List AV) := (a91, ([([a2, a3, F, a4, (i 25), (x 1 [[(d [49, 53])]] 9), (c 1 3 0 0 1), a8, a9, a10, a11, a12] ++ a169 ++ a164), ([a5, z, z, a52, (i 22), a132, a102, a117, (k 9 16 0 0 2 1), N, Q, F] ++ [F, z, z, t, u, z, z, N, N, N]), a119, [N], a120, a121, a34, a34, a34, a35, [z], [(i 25)]] ++ [a122, a131, [a106, a46, a3], a123, ([a58, a115, a52, a132, z, N, N, N, u, a170, a113, N] ++ [a17, z, N, (p 24 0), N, u]), [u, (k 9 25 0 23 23 3), z, u, u, (e 3), (e 8), (x 1 a36 4)], a124, a125, a126, (a56 ++ a72 ++ a74 ++ a56 ++ a75 ++ a76 ++ a79 ++ [z, a127, F, (k 5 26 0 1 1 7), a81, N, a41, u, z, z, a5, F] ++ a53 ++ a82 ++ a83 ++ a84 ++ a85 ++ a43 ++ a86 ++ a87 ++ a88 ++ a62), a171, []] ++ a173))
def rcTA38_0 : List AV := [(p 0 0)]
def rcTH38_0 : List (List AV) := ([([a0, a3, F, a4, z, a5, (c 1 2 0 1 1), a8, (.mr 3), a9, a10, a11] ++ [a12, a5, a5, a13, (.mx 1 [] 9 1 .full), z, z, a15, (p 11 0), F, a17, F] ++ a20), [a21, (.mr 13), a30, a31, a3], [(p 11 0)], a34, a34, a34, a34, a34, a35, [z], [z], ([a5, z, z, a21, z, a174, a5, a17, a23, N, Q, F] ++ a24)] ++ [a37, a38, [], a63, a68, a70, a71, a89, a90])
def rcTR38_0 : AV × List (List AV) := (a91, ([([a0, a3, F, a4, (i 25), (x 1 [[(d [49, 53])]] 5), (c 1 2 0 0 1), a8, (.mr 3), a9, a10, a11] ++ [a12, (x 1 [[(d [100])], [a27]] 6), a5, a13, (.mx 1 [] 9 1 .full), z, a59, a15, (p 11 0), F, a17, F] ++ a164), [a21, (.mr 13), a30, a31, a3], [N], [(.mm [(w [100])] [(p 21 0)])], [(.mm [(w [97])] [a130])], a34, a34, a34, a35, [z], [(i 25)], ([a5, z, z, a21, (i 22), a174, (.cs 1 23 0 0 3 .none), (.cs 4 24 0 0 1 .none), (k 9 25 0 0 2 7), N, Q, F] ++ [F, z, z, t, u, z, z, N, N, N])] ++ [a37, a38, [], a63, a68, a70, a71, a89, a90, [a50, (x 3 a101 8), a69, z], [a54, (p 21 0), a108], [a106, a46, a3]] ++ [[N, (p 21 0), a130, F], ([a58, a115, a21, a174, z, N, N, N, u, a170, a113, N] ++ a143), ([a77, a54, a78, z, (x 1 a80 3), F, (k 5 20 0 1 1 4), a81, N, qe, (x 3 a101 8), a46] ++ [(p 27 0), (.cs 4 28 0 4 4 .none), (.mx 4 [] 29 4 .full), a106, z, (k 1 30 0 3 3 9), a99, z]), [(.mr 31), (.mr 32), a59], [N, (p 21 0), a130, F, (p 33 0), N, N, F, N, N, N, F, N, N, N, F], [N, (p 21 0), a130, F, (p 33 0), N, N, F, N, N, N, F, N, N, N, F], qc, a172, a34, a171]))
end Go.Abs
namespace Go.Abs.RL
open Go.Abs Go.Abs.R
def a0 : Sc := (w [116, 111, 116, 97, 108])
def a1 : Data := (V (w [97, 114, 114, 97, 121]))
def a2 : Data := (d [105, 110, 116])
def a3 : Data := (I 1)
def a4 : List Data := [a1, a3]
def a5 : Data := (V (w [110, 111, 110, 101]))
def a6 : Data := (V (w [99, 111, 108, 117, 109, 110, 115]))
def a7 : List Data := [a1, (I 2)]
def a8 : Data := (V (w [114, 111, 119, 115]))
def a9 : Data := (V (w [112, 111, 119, 101, 114]))
def a10 : List (List Data) := [[(V a0), (L 2 [[a1, Z]]), a2], [(V (w [103, 114, 101, 97, 116, 101, 115, 116])), (L 2 [[a1, Z]]), a2], [(d [100, 111, 116]), (L 2 [a4, a4]), a2], [(V (w [115, 97, 109, 101])), (L 2 [a4, a4]), (V (w [98, 111, 111, 108]))], [(V (w [115, 104, 105, 102, 116])), (L 2 [a4, a4, [a2, Z]]), a5], [(d [114, 101, 118]), (L 2 [a4]), a5], [(V (w [112, 114, 101, 102, 105, 120])), (L 2 [a4]), a5], [(V (w [115, 111, 114, 116])), (L 2 [a4]), a5], [(V (w [104, 105, 115, 116])), (L 2 [a4, a4]), a5], [a6, (L 2 [a7]), a2], [a8, (L 2 [a7]), a2], [(V (w [109, 97, 116, 109, 117, 108])), (L 2 [a7, a7, a7]), a5], [(V (w [116, 117, 114, 110])), (L 2 [a7, a7]), a5], [a9, (L 2 [[a2, Z], [a2, Z], [a2, Z]]), a2], [(V (w [102, 111, 117, 114, 105, 101, 114])), (L 2 [a4, a4, [a2, Z]]), a5], [(V (w [114, 101, 97, 99, 104])), (L 2 [a4, a7, [a2, Z]]), a5]]
def a11 : AV := (v a0)
def a12 : Data := (d [97])
def a13 : Data := (d [118, 97, 114])
def a14 : Data := (d [120])
def a15 : Data := (E 1)
def a16 : Data := (E 4)
def a17 : List Data := [a2, U, Z, a16]
def a18 : Data := (L 4 [a17])
def a19 : Data := (E 2)
def a20 : List Data := [a13, a14, U, Z, a15, a18, a19, a15]
def a21 : Data := (d [43])
def a22 : Data := (V (w [114, 101, 116, 117, 114, 110]))
def a23 : List Data := [a13, a14, Z, a16]
def a24 : Data := (L 4 [a23])
def a25 : List Data := [a22, U, U, Z, a15, a24, a19, a15]
def a26 : List Data := [a12, a1, a3]
def a27 : Data := (d [98])
def a28 : Data := (d [105, 102])
def a29 : Data := (d [111, 112])
def a30 : Data := (d [61, 61])
def a31 : Data := (V (w [99, 111, 117, 110, 116]))
def a32 : List Data := [a31, a12, Z, a16]
def a33 : List Data := [(E 8)]
def a34 : Data := (L 1 [a33, [(L 8 [[(V (w [104, 97, 108, 116])), U, (V (w [115, 105, 122, 101])), Z, a15, a16, a19, a15]])]])
def a35 : Data := (d [115])
def a36 : List Data := [a13, a35, U, Z, a15, a18, a19, a15]
def a37 : Data := (V (w [102, 111, 114, 97, 108, 108]))
def a38 : Data := (L 1 [[(d [105])]])
def a39 : Data := (d [115, 101, 116])
def a40 : Data := (d [42])
def a41 : Data := (d [97, 116])
def a42 : List Data := [a13, (d [105]), Z, a16]
def a43 : Data := (L 4 [a42])
def a44 : Data := (d [110, 116, 104])
def a45 : Data := (d [111, 114, 100])
def a46 : List Data := [a13, a35, Z, a16]
def a47 : Data := (d [111, 107])
def a48 : Data := (d [38])
def a49 : Data := (d [107])
def a50 : Data := (d [112])
def a51 : List Data := [a13, a49, Z, a16]
def a52 : List Data := [a13, a50, Z, a16]
def a53 : Data := (d [60])
def a54 : Data := (d [112, 117, 116])
def a55 : List Data := [a2, U, a3, a16]
def a56 : List Data := [a13, (d [113]), Z, a16]
def a57 : Data := (d [106])
def a58 : List Data := [a13, a57, Z, a16]
def a59 : Data := (d [102, 111, 114])
def a60 : Data := (d [110])
def a61 : Data := (V (w [119, 104, 105, 108, 101]))
def a62 : List Data := [a13, a60, Z, a16]
def a63 : Data := (d [37])
def a64 : List Data := [a13, (d [121]), Z, a16]
def a65 : Data := (d [104])
def a66 : List Data := [a13, (d [118]), Z, a16]
def a67 : Data := (L 1 [[(d [105])], [a57]])
def a68 : Data := (V (w [99, 97, 108, 108]))
def a69 : Data := (L 4 [[a13, a12, Z, a16]])
def a70 : List Data := [a13, a60, U, Z, a15, (L 4 [[a68, a6, Z, a69]]), a19, a15]
def a71 : Data := (d [114])
def a72 : List Data := [a13, a27, Z, a16]
def a73 : List Data := [a13, (d [109]), Z, a16]
def a74 : List Data := [a2, U, (I 97), a16]
def a75 : Data := (d [100])
def a76 : Data := (d [103])
def a77 : List Data := [a13, (d [108]), Z, a16]
def a78 : List (List Data) := [[(V a0), a2, (L 3 [[a12, a1, Z]]), (L 8 [a20, [(V (w [114, 101, 100, 117, 99, 101])), a14, a21, Z, (L 1 [[a12]]), a16, a19, a15], a25])], [(V (w [103, 114, 101, 97, 116, 101, 115, 116])), a2, (L 3 [[a12, a1, Z]]), (L 8 [a20, [(V (w [114, 101, 100, 117, 99, 101])), a14, (d [109, 97, 120]), Z, (L 1 [[a12]]), a16, a19, a15], a25])], [(d [100, 111, 116]), a2, (L 3 [a26, [a27, a1, a3]]), (L 8 [[a28, U, U, Z, a15, (L 4 [[a29, a30, Z, (L 4 [a32, [a31, a27, Z, a16]])]]), a19, a34], a36, [a37, U, a12, Z, a38, a16, (L 2 [[a21, a35]]), (L 1 [[(L 8 [[a39, a35, U, Z, a15, (L 4 [[a29, a40, Z, (L 4 [[a41, a12, Z, a43], [a41, a27, Z, (L 4 [[a44, a27, Z, (L 4 [[a45, a12, Z, a43]])]])]])]]), a19, a15]])]])], [a22, U, U, Z, a15, (L 4 [a46]), a19, a15]])], [(V (w [115, 97, 109, 101])), (V (w [98, 111, 111, 108])), (L 3 [a26, [a27, a1, a3]]), (L 8 [[a13, a47, U, Z, a15, (L 4 [[a29, a30, Z, (L 4 [a32, [a31, a27, Z, a16]])]]), a19, a15], [a28, U, U, Z, a15, (L 4 [[a13, a47, Z, a16]]), a19, (L 1 [[(L 8 [[a37, U, a12, Z, a38, a16, (L 2 [[a48, a47]]), (L 1 [[(L 8 [[a39, a47, U, Z, a15, (L 4 [[a29, a30, Z, (L 4 [[a41, a12, Z, a43], [a41, a27, Z, (L 4 [[a44, a27, Z, (L 4 [[a45, a12, Z, a43]])]])]])]]), a19, a15]])]])]])], a33])], [a22, U, U, Z, a15, (L 4 [[a13, a47, Z, a16]]), a19, a15]])], [(V (w [115, 104, 105, 102, 116])), a5, (L 3 [a26, [a27, a1, a3], [a49, a2, Z]]), (L 8 [[a37, U, a12, Z, a38, a16, a19, (L 1 [[(L 8 [[a13, a50, U, Z, a15, (L 4 [[a29, (d [45]), Z, (L 4 [[a45, a12, Z, a43], a51])]]), a19, a15], [a28, U, U, Z, a15, (L 4 [[a29, a48, Z, (L 4 [[a29, (d [60, 61]), Z, (L 4 [a17, a52])], [a29, a53, Z, (L 4 [a52, [a31, a27, Z, a16]])]])]]), a19, (L 1 [[(L 8 [[a54, a12, U, Z, a15, (L 4 [a42, [a41, a27, Z, (L 4 [[a44, a27, Z, (L 4 [a52])]])]]), a19, a15]])], [(L 8 [[a54, a12, U, Z, a15, (L 4 [a42, a17]), a19, a15]])]])]])]])]])], [(d [114, 101, 118]), a5, (L 3 [a26]), (L 8 [[a37, U, a12, Z, a38, a16, a19, (L 1 [[(L 8 [[a13, a50, U, Z, a15, (L 4 [[a45, a12, Z, a43]]), a19, a15], [a13, (d [113]), U, Z, a15, (L 4 [[a29, (d [45]), Z, (L 4 [[a29, (d [45]), Z, (L 4 [a32, a55])], a52])]]), a19, a15], [a28, U, U, Z, a15, (L 4 [[a29, a53, Z, (L 4 [a52, a56])]]), a19, (L 1 [[(L 8 [[a13, a57, U, Z, a15, (L 4 [[a44, a12, Z, (L 4 [a56])]]), a19, a15], [a13, a14, U, Z, a15, (L 4 [[a41, a12, Z, a43]]), a19, a15], [a54, a12, U, Z, a15, (L 4 [a42, [a41, a12, Z, (L 4 [a58])]]), a19, a15], [a54, a12, U, Z, a15, (L 4 [a58, a23]), a19, a15]])], a33])]])]])]])], [(V (w [112, 114, 101, 102, 105, 120])), a5, (L 3 [a26]), (L 8 [a36, [a59, U, a12, Z, a38, a16, a19, (L 1 [[(L 8 [[a39, a35, U, Z, a15, (L 4 [[a29, a21, Z, (L 4 [a46, [a41, a12, Z, a43]])]]), a19, a15], [a54, a12, U, Z, a15, (L 4 [a42, a46]), a19, a15]])]])]])], [(V (w [115, 111, 114, 116])), a5, (L 3 [a26]), (L 8 [[a13, a60, U, Z, a15, (L 4 [a32]), a19, a15], [a13, a49, U, Z, a15, a18, a19, a15], [a61, U, U, Z, a15, (L 4 [[a29, a53, Z, (L 4 [a51, a62])]]), a19, (L 1 [[(L 8 [[a37, U, a12, Z, a38, a16, a19, (L 1 [[(L 8 [[a13, a50, U, Z, a15, (L 4 [[a45, a12, Z, a43]]), a19, a15], [a28, U, U, Z, a15, (L 4 [[a29, a48, Z, (L 4 [[a29, a30, Z, (L 4 [[a29, a63, Z, (L 4 [[a29, a21, Z, (L 4 [a52, a51])], [a2, U, (I 2), a16]])], a17])], [a29, a53, Z, (L 4 [[a29, a21, Z, (L 4 [a52, a55])], a62])]])]]), a19, (L 1 [[(L 8 [[a13, a57, U, Z, a15, (L 4 [[a44, a12, Z, (L 4 [[a29, a21, Z, (L 4 [a52, a55])]])]]), a19, a15], [a13, a14, U, Z, a15, (L 4 [[a41, a12, Z, a43]]), a19, a15], [a13, (d [121]), U, Z, a15, (L 4 [[a41, a12, Z, (L 4 [a58])]]), a19, a15], [a28, U, U, Z, a15, (L 4 [[a29, a53, Z, (L 4 [a64, a23])]]), a19, (L 1 [[(L 8 [[a54, a12, U, Z, a15, (L 4 [a42, a64]), a19, a15], [a54, a12, U, Z, a15, (L 4 [a58, a23]), a19, a15]])], a33])]])], a33])]])]])], [a39, a49, U, Z, a15, (L 4 [[a29, a21, Z, (L 4 [a51, a55])]]), a19, a15]])]])]])], [(V (w [104, 105, 115, 116])), a5, (L 3 [[a65, a1, a3], a26]), (L 8 [[a37, U, a65, Z, a38, a16, a19, (L 1 [[(L 8 [[a54, a65, U, Z, a15, (L 4 [a42, a17]), a19, a15]])]])], [a59, U, a12, Z, a38, a16, a19, (L 1 [[(L 8 [[a13, (d [118]), U, Z, a15, (L 4 [[a41, a12, Z, a43]]), a19, a15], [a28, U, U, Z, a15, (L 4 [[a29, a48, Z, (L 4 [[a29, (d [60, 61]), Z, (L 4 [a17, a66])], [a29, a53, Z, (L 4 [a66, [a31, a65, Z, a16]])]])]]), a19, (L 1 [[(L 8 [[a13, a57, U, Z, a15, (L 4 [[a44, a65, Z, (L 4 [a66])]]), a19, a15], [a54, a65, U, Z, a15, (L 4 [a58, [a29, a21, Z, (L 4 [[a41, a65, Z, (L 4 [a58])], a55])]]), a19, a15]])], a33])]])]])]])], [a6, a2, (L 3 [[a12, a1, (I 2)]]), (L 8 [[a13, a60, U, Z, a15, a18, a19, a15], [a28, U, U, Z, a15, (L 4 [[a29, a53, Z, (L 4 [a17, a32])]]), a19, (L 1 [[(L 8 [[a13, (V (w [102, 105, 114, 115, 116])), U, Z, a15, (L 4 [[a44, a12, Z, a18]]), a19, a15], [a59, U, a12, Z, a67, a16, a19, (L 1 [[(L 8 [[a28, U, U, Z, a15, (L 4 [[a29, a30, Z, (L 4 [a42, [a13, (V (w [102, 105, 114, 115, 116])), Z, a16]])]]), a19, (L 1 [[(L 8 [[a39, a60, U, Z, a15, (L 4 [[a29, a21, Z, (L 4 [a62, a55])]]), a19, a15]])], a33])]])]])]])], a33])], [a22, U, U, Z, a15, (L 4 [a62]), a19, a15]])], [a8, a2, (L 3 [[a12, a1, (I 2)]]), (L 8 [a70, [a13, a71, U, Z, a15, a18, a19, a15], [a28, U, U, Z, a15, (L 4 [[a29, a53, Z, (L 4 [a17, a62])]]), a19, (L 1 [[(L 8 [[a39, a71, U, Z, a15, (L 4 [[a29, (d [47]), Z, (L 4 [a32, a62])]]), a19, a15]])], a33])], [a22, U, U, Z, a15, (L 4 [[a13, a71, Z, a16]]), a19, a15]])], [(V (w [109, 97, 116, 109, 117, 108])), a5, (L 3 [[(d [99]), a1, (I 2)], [a12, a1, (I 2)], [a27, a1, (I 2)]]), (L 8 [a70, [a13, (d [109]), U, Z, a15, (L 4 [[a68, a6, Z, (L 4 [a72])]]), a19, a15], [a28, U, U, Z, a15, (L 4 [[a29, a48, Z, (L 4 [[a29, a48, Z, (L 4 [[a29, a30, Z, (L 4 [[a68, a8, Z, (L 4 [[a13, (d [99]), Z, a16]])], [a68, a8, Z, a69]])], [a29, a30, Z, (L 4 [a62, [a68, a8, Z, (L 4 [a72])]])]])], [a29, a30, Z, (L 4 [a73, [a68, a6, Z, (L 4 [[a13, (d [99]), Z, a16]])]])]])]]), a19, a34], [a37, U, (d [99]), Z, a67, a16, a19, (L 1 [[(L 8 [[a13, a50, U, Z, a15, (L 4 [[a45, (d [99]), Z, (L 4 [a42, a58])]]), a19, a15], a36, [a13, a49, U, Z, a15, a18, a19, a15], [a61, U, U, Z, a15, (L 4 [[a29, a53, Z, (L 4 [a51, a62])]]), a19, (L 1 [[(L 8 [[a13, a14, U, Z, a15, (L 4 [[a29, a21, Z, (L 4 [[a29, a40, Z, (L 4 [[a29, (d [47]), Z, (L 4 [a52, a73])], a62])], a51])]]), a19, a15], [a13, (d [121]), U, Z, a15, (L 4 [[a29, a21, Z, (L 4 [[a29, a40, Z, (L 4 [a51, a73])], [a29, a63, Z, (L 4 [a52, a73])]])]]), a19, a15], [a39, a35, U, Z, a15, (L 4 [[a29, a21, Z, (L 4 [a46, [a29, a40, Z, (L 4 [[a41, a12, Z, (L 4 [[a44, a12, Z, a24], [a44, a12, a3, a24]])], [a41, a27, Z, (L 4 [[a44, a27, Z, (L 4 [a64])], [a44, a27, a3, (L 4 [a64])]])]])]])]]), a19, a15], [a39, a49, U, Z, a15, (L 4 [[a29, a21, Z, (L 4 [a51, a55])]]), a19, a15]])]])], [a54, (d [99]), U, Z, a15, (L 4 [a42, a58, a46]), a19, a15]])]])]])], [(V (w [116, 117, 114, 110])), a5, (L 3 [[a27, a1, (I 2)], [a12, a1, (I 2)]]), (L 8 [a70, [a13, (d [109]), U, Z, a15, (L 4 [[a68, a6, Z, (L 4 [a72])]]), a19, a15], [a28, U, U, Z, a15, (L 4 [[a29, a48, Z, (L 4 [[a29, a30, Z, (L 4 [[a68, a8, Z, (L 4 [a72])], a62])], [a29, a30, Z, (L 4 [[a68, a8, Z, a69], a73])]])]]), a19, a34], [a37, U, a27, Z, a67, a16, a19, (L 1 [[(L 8 [[a13, a50, U, Z, a15, (L 4 [[a45, a27, Z, (L 4 [a42, a58])]]), a19, a15], [a13, a14, U, Z, a15, (L 4 [[a29, a21, Z, (L 4 [[a29, a40, Z, (L 4 [[a29, a63, Z, (L 4 [a52, a73])], a62])], [a29, (d [47]), Z, (L 4 [a52, a73])]])]]), a19, a15], [a54, a27, U, Z, a15, (L 4 [a42, a58, [a41, a12, Z, (L 4 [[a44, a12, Z, a24], [a44, a12, a3, a24]])]]), a19, a15]])]])]])], [a9, a2, (L 3 [[a14, a2, Z], [a60, a2, Z], [(d [109]), a2, Z]]), (L 8 [[a13, a71, U, Z, a15, (L 4 [[a29, a63, Z, (L 4 [a55, a73])]]), a19, a15], [a13, a27, U, Z, a15, (L 4 [[a29, a63, Z, (L 4 [[a29, a21, Z, (L 4 [[a29, a63, Z, (L 4 [a23, a73])], a73])], a73])]]), a19, a15], [a13, a49, U, Z, a15, (L 4 [a62]), a19, a15], [a61, U, U, Z, a15, (L 4 [[a29, a53, Z, (L 4 [a17, a51])]]), a19, (L 1 [[(L 8 [[a28, U, U, Z, a15, (L 4 [[a29, a30, Z, (L 4 [[a29, a63, Z, (L 4 [a51, [a2, U, (I 2), a16]])], a55])]]), a19, (L 1 [[(L 8 [[a39, a71, U, Z, a15, (L 4 [[a29, a63, Z, (L 4 [[a29, a40, Z, (L 4 [[a13, a71, Z, a16], a72])], a73])]]), a19, a15]])], a33])], [a39, a27, U, Z, a15, (L 4 [[a29, a63, Z, (L 4 [[a29, a40, Z, (L 4 [a72, a72])], a73])]]), a19, a15], [a39, a49, U, Z, a15, (L 4 [[a29, (d [47]), Z, (L 4 [a51, [a2, U, (I 2), a16]])]]), a19, a15]])]])], [a22, U, U, Z, a15, (L 4 [[a13, a71, Z, a16]]), a19, a15]])], [(V (w [102, 111, 117, 114, 105, 101, 114])), a5, (L 3 [[a27, a1, a3], a26, [(d [119]), a2, Z]]), (L 8 [[a13, a60, U, Z, a15, (L 4 [a32]), a19, a15], [a28, U, U, Z, a15, (L 4 [[a29, a30, Z, (L 4 [a62, [a31, a27, Z, a16]])]]), a19, a34], [a37, U, a27, Z, a38, a16, a19, (L 1 [[(L 8 [[a13, a49, U, Z, a15, (L 4 [[a45, a27, Z, a43]]), a19, a15], a36, [a13, a57, U, Z, a15, a18, a19, a15], [a61, U, U, Z, a15, (L 4 [[a29, a53, Z, (L 4 [a58, a62])]]), a19, (L 1 [[(L 8 [[a39, a35, U, Z, a15, (L 4 [[a29, a63, Z, (L 4 [[a29, a21, Z, (L 4 [a46, [a29, a40, Z, (L 4 [[a29, a63, Z, (L 4 [[a41, a12, Z, (L 4 [[a44, a12, Z, (L 4 [a58])]])], a74])], [a68, a9, Z, (L 4 [[a13, (d [119]), Z, a16], [a29, a40, Z, (L 4 [a58, a51])], a74])]])]])], a74])]]), a19, a15], [a39, a57, U, Z, a15, (L 4 [[a29, a21, Z, (L 4 [a58, a55])]]), a19, a15]])]])], [a54, a27, U, Z, a15, (L 4 [a42, [a29, a63, Z, (L 4 [[a29, a21, Z, (L 4 [a46, a74])], a74])]]), a19, a15]])]])]])], [(V (w [114, 101, 97, 99, 104])), a5, (L 3 [[a75, a1, a3], [a76, a1, (I 2)], [a35, a2, Z]]), (L 8 [[a13, a60, U, Z, a15, (L 4 [[a31, a75, Z, a16]]), a19, a15], [a28, U, U, Z, a15, (L 4 [[a29, a48, Z, (L 4 [[a29, a30, Z, (L 4 [[a68, a8, Z, (L 4 [[a13, a76, Z, a16]])], a62])], [a29, a30, Z, (L 4 [[a68, a6, Z, (L 4 [[a13, a76, Z, a16]])], a62])]])]]), a19, a34], [a37, U, a75, Z, a38, a16, a19, (L 1 [[(L 8 [[a54, a75, U, Z, a15, (L 4 [a42, [a29, (d [45]), Z, (L 4 [a17, a55])]]), a19, a15]])]])], [a54, a75, U, Z, a15, (L 4 [[a44, a75, Z, (L 4 [a46])], a17]), a19, a15], [a13, (d [108]), U, Z, a15, a18, a19, a15], [a61, U, U, Z, a15, (L 4 [[a29, a53, Z, (L 4 [a77, a62])]]), a19, (L 1 [[(L 8 [[a59, U, a75, Z, a38, a16, a19, (L 1 [[(L 8 [[a28, U, U, Z, a15, (L 4 [[a29, a30, Z, (L 4 [[a41, a75, Z, a43], a77])]]), a19, (L 1 [[(L 8 [[a13, (d [113]), U, Z, a15, a18, a19, a15], [a61, U, U, Z, a15, (L 4 [[a29, a53, Z, (L 4 [a56, a62])]]), a19, (L 1 [[(L 8 [[a13, a14, U, Z, a15, (L 4 [[a29, a21, Z, (L 4 [[a29, a40, Z, (L 4 [[a45, a75, Z, a43], a62])], a56])]]), a19, a15], [a13, a57, U, Z, a15, (L 4 [[a44, a75, Z, (L 4 [a56])]]), a19, a15], [a28, U, U, Z, a15, (L 4 [[a29, a48, Z, (L 4 [[a29, (d [33]), Z, (L 4 [[a29, a30, Z, (L 4 [[a41, a76, Z, (L 4 [[a44, a76, Z, a24], [a44, a76, a3, a24]])], a17])]])], [a29, a30, Z, (L 4 [[a41, a75, Z, (L 4 [a58])], [a29, (d [45]), Z, (L 4 [a17, a55])]])]])]]), a19, (L 1 [[(L 8 [[a54, a75, U, Z, a15, (L 4 [a58, [a29, a21, Z, (L 4 [a77, a55])]]), a19, a15]])], a33])], [a39, (d [113]), U, Z, a15, (L 4 [[a29, a21, Z, (L 4 [a56, a55])]]), a19, a15]])]])]])], a33])]])]])], [a39, (d [108]), U, Z, a15, (L 4 [[a29, a21, Z, (L 4 [a77, a55])]]), a19, a15]])]])]])]]
def a79 : AV := (l 4 a78)
def a80 : List (List Data) := [[(d [100, 111, 109]), a75, (V (w [99, 121, 99, 108, 105, 99])), Z, a15, (L 4 [a17, [a2, U, (I 2), a16], a55]), a19, a15], [(d [97, 114, 114]), a12, a75, Z, a15, (L 4 [[a2, U, (I 5), a16]]), a19, a15], [(V (w [119, 114, 105, 116, 101])), U, U, Z, a15, (L 4 [[a68, (V a0), Z, a69]]), a19, a15]]
def a81 : AV := (l 8 a80)
def a82 : AV := (e 1)
def a83 : Data := (.sc (.b false))
def a84 : AV := (s [100])
def a85 : AV := (i 1)
def a86 : AV := (s [97])
def a87 : AV := (s [105, 110, 116])
def a88 : AV := (.cs 3 1 0 1 1 .none)
def a89 : AV := (.cs 1 2 0 38 395 .none)
def a90 : AV := (s [120])
def a91 : List AV := [u, u, u, u, u, u, u, u, u, u, u, u]
def a92 : List AV := ([a86, (s [98]), (s [99]), (v (w [99, 111, 108, 117, 109, 110, 115])), a84, (s [100, 111, 116]), (v (w [102, 105, 114, 115, 116])), (v (w [102, 111, 117, 114, 105, 101, 114])), (s [103]), (v (w [103, 114, 101, 97, 116, 101, 115, 116])), (s [104]), (v (w [104, 105, 115, 116]))] ++ [(s [105]), (s [106]), (s [107]), (s [108]), (s [109]), (v (w [109, 97, 116, 109, 117, 108])), (s [110]), (s [111, 107]), (s [112]), (v (w [112, 111, 119, 101, 114])), (v (w [112, 114, 101, 102, 105, 120])), (s [113])] ++ [(s [114]), (v (w [114, 101, 97, 99, 104])), (s [114, 101, 118]), (v (w [114, 111, 119, 115])), (s [115]), (v (w [115, 97, 109, 101])), (v (w [115, 104, 105, 102, 116])), (v (w [115, 111, 114, 116])), a11, (v (w [116, 117, 114, 110])), (s [118]), (s [119])] ++ [a90, (s [121]), u, u, u, u, u, u, u, u, u, u] ++ a91 ++ a91 ++ a91 ++ a91 ++ a91 ++ a91 ++ a91 ++ a91 ++ a91 ++ a91 ++ a91 ++ a91 ++ a91 ++ a91 ++ a91 ++ a91 ++ a91 ++ a91 ++ a91 ++ a91 ++ a91 ++ a91 ++ a91 ++ a91 ++ a91 ++ a91 ++ a91 ++ a91 ++ [u, u, u, u, u, u, u, u, u, u, u])
def a93 : List (List Data) := [[(d [116, 95, 48])]]
def a94 : List (List Data) := [[(V a0), a2, (L 3 [a26]), (L 8 [a20, [a39, a14, U, Z, a15, (L 4 [[a5, a21, Z, a16]]), a19, a15], [a37, U, a12, Z, (L 1 a93), a16, (L 2 [[a21, a14]]), (L 1 [[(L 8 [[a39, a14, U, Z, a15, (L 4 [[a41, a12, Z, (L 4 [[a13, (d [116, 95, 48]), Z, a16]])]]), a19, a15]])]])], a25])]]
def a95 : AV := (v (w [109, 97, 114, 107]))
def a96 : AV := (e 5)
def a97 : AV := (v (w [115, 116, 101, 112]))
def a98 : List AV := [z, a82, F, a96, a82, N, a97, u, z, z, a82, F]
def a99 : List AV := [a96, a82, N, a97, u, z, z, a82, F, a96, a82, N]
def a100 : List AV := [a97, u, z, z, a82, F, a96, a82, N, a97, u, z]
end Go.Abs.RL
namespace Go.Abs
open Go.Abs.R Go.Abs.RL
def f0 : List AV := [(l 3 a10), a11, (l 2 [a4])]
def fY : List (List AV) := []
def fW : AV × List (List AV) := ((.tup [(x 1 [[Z]] 0), z]), [])
def fZ : List AV := [(l 3 [[(V a0), (L 2 [a4]), a2]]), a11, (l 2 [a4])]
def fX : List (List AV) := []
def fV : AV × List (List AV) := ((.tup [(x 1 [[Z]] 0), z]), [])
def rcLA245_0 : List AV := [(.agg [a79, a81])]
def rcLH245_0 : List (List AV) := []
def rcLR245_0 : AV × List (List AV) := ((p 0 0), [[a79, a81, (x 3 a10 0), (k 1 1 0 1 1 1), (.cs 6 2 0 0 2 .none), (.cs 1 3 0 0 1 .none), z, a82, z, (p 4 0), (p 5 0), (x 3 [[(L 1 [[Z]]), a83, a15], [(L 1 [[a3]]), a83, a15], [(L 1 [[(I 2)]]), a83, (L 1 [[Z], [Z]])]] 2), (x 6 [[a75, (V (w [100, 111, 109, 97, 105, 110])), (V (w [100, 111, 109, 97, 105, 110])), a3, a83, a83], [a12, a1, a1, a3, a83, a83]] 3), F], [(p 6 0)], [a84, (v (w [100, 111, 109, 97, 105, 110])), (v (w [100, 111, 109, 97, 105, 110])), a85, F, F, a86, (v (w [97, 114, 114, 97, 121])), (v (w [97, 114, 114, 97, 121])), a85, F, F], [(i 2)], [F, (x 1 [[Z], [Z]] 4)], [F, (x 1 [[Z], [Z]] 5)], [z, a11, (x 2 [a4] 6), a87, t, (x 1 [] 7)]])
def rcLA184_0 : List AV := [(.agg [a79, a81])]
def rcLH184_0 : List (List AV) := []
def rcLR184_0 : AV × List (List AV) := ((p 0 0), [[a79, a81, (x 3 a10 0), a88, a89, z, a82], [z, (x 2 [a4] 1), a11], a92])
def rcLA185_0 : List AV := [(p 0 0)]
def rcLH185_0 : List (List AV) := [[a79, a81, (x 3 a10 0), a88, a89, z, a82], [z, (x 2 [a4] 1), a11], a92]
def rcLR185_0 : AV × List (List AV) := ((.agg [(x 4 a94 2), (x 8 a80 3)]), [[a79, a81, (x 3 a10 0), a88, a89, a85, (x 1 a93 4)], [z, (x 2 [a4] 1), a11], a92])
def rcLA129_0 : List AV := [(.agg [a79, a81])]
def rcLH129_0 : List (List AV) := []
def rcLR129_0 : AV × List (List AV) := ((.tup [(p 0 0), (.agg [(x 4 a94 0), (x 8 a80 1)]), z]), [[a79, a81, (x 3 a10 2), a88, a89, a85, (x 1 a93 3)], [z, (x 2 [a4] 4), a11], a92])
def rcLA129_1 : List AV := [(.agg [(l 4 a94), a81])]
def rcLH129_1 : List (List AV) := []
def rcLR129_1 : AV × List (List AV) := ((.tup [(p 0 0), (.agg [(x 4 a94 0), (x 8 a80 1)]), z]), [[(l 4 a94), a81, (x 3 [[(V a0), (L 2 [a4]), a2]] 2), a88, (.cs 1 2 0 5 16 .none), z, a82], [z, (x 2 [a4] 3), a11], [a86, a84, (s [116, 95, 48]), a11, a90, u, u, u, u, u, u, u, u, u, u, u]])
def rcLA128_0 : List AV := [(.agg [(l 4 a94), a81]), (i 20000)]
def rcLH128_0 : List (List AV) := []
def rcLR128_0 : AV × List (List AV) := ((.tup [(p 0 0), z]), [[(p 1 0), (.mr 2), (l 4 a94), a81, a85], [u, (k 9 3 0 23 23 0), z, u, u, (e 3), (e 8), (x 1 [[Z], [(I 9)], [(I 14)], [(I 21)]] 1)], [(.mm [a0] [(p 4 0)])], ([a95, u, z, z, a82, F, a96, a82, N, a97, u, z] ++ a98 ++ [a96, a82, N, a87, u, z, z, a82, F, a96, a82, N] ++ [a97, u, z, z, a82, F, a96, a82, N, a87, u, (i 2)] ++ a98 ++ [a96, a82, N, a87, u, a85, z, a82, F, a96, a82, N] ++ [(s [100, 111, 109]), a84, z, z, (y 1 [[(I 3)]]), F, a96, a82, (p 5 0), a95, u, a85] ++ a98 ++ a99 ++ [a87, u, (i 5), z, a82, F, a96, a82, N, (s [97, 114, 114]), a86, z] ++ [z, a82, F, a96, a82, (p 6 0), a95, u, (i 2), z, a82, F] ++ a99 ++ a100 ++ [z, a82, F, a96, a82, N, (v (w [112, 97, 115, 115])), a86, z, (i (-1)), a82, t] ++ [a96, a82, N, (v (w [99, 97, 108, 108])), u, a85, z, a82, F, a96, a82, (p 4 0)] ++ [(v (w [119, 114, 105, 116, 101])), u, z, z, a82, F, a96, a82, N, a95, u, (i 3)] ++ [z, a82, F, a96, a82, N, (s [101, 110, 100]), u, z, z, a82, F] ++ [a96, a82, N]), [a11, (k 9 7 0 23 23 2), (i 4), a11, a87, (l 3 [a26]), (l 8 [a20, [a39, a14, U, Z, a15, (L 4 [[a5, a21, Z, a16]]), a19, a15], [a37, U, a12, Z, (L 1 a93), a16, (L 2 [[a21, a14]]), (L 1 [[(L 8 [[a39, a14, U, Z, a15, (L 4 [[a41, a12, Z, (L 4 [[a13, (d [116, 95, 48]), Z, a16]])]]), a19, a15]])]])], a25]), a82], [(v (w [99, 121, 99, 108, 105, 99])), (e 9), z, u, u, (e 3), (e 8), a82], [a84, (e 9), z, u, u, (e 3), (e 8), a82], (a100 ++ [z, a82, F, a96, a82, N, a87, u, z, z, a82, F] ++ [a96, a82, N, (v (w [100, 101, 99, 108, 97, 114, 101])), a90, z, a85, a82, F, a96, a82, N] ++ a100 ++ [z, a82, F, a96, a82, N, (v (w [110, 111, 110, 101])), (s [43]), z, z, a82, F] ++ [a96, a82, N, (v (w [115, 116, 111, 114, 101])), a90, z, a85, a82, F, a96, a82, N] ++ [a97, u, z, z, a82, F, a96, a82, N, (v (w [102, 111, 114, 97, 108, 108])), a86, (i 17)] ++ [z, (x 1 [[(I 2)]] 3), F, (k 5 8 0 1 1 4), (l 1 a93), N, a97, u, z, z, a82, F] ++ a99 ++ [a97, u, z, z, a82, F, a96, a82, N, (v (w [108, 111, 97, 100])), (s [116, 95, 48]), z] ++ [(i 2), a82, F, a96, a82, N, (s [97, 116]), a86, z, z, (y 1 [[a3]]), F] ++ [a96, a82, N, (v (w [115, 116, 111, 114, 101])), a90, z, (i 3), a82, F, a96, a82, N] ++ [(v (w [110, 101, 120, 116])), u, z, z, a82, F, a96, a82, N, a97, u, z] ++ a98 ++ [a96, a82, N, (v (w [108, 111, 97, 100])), a90, z, a85, a82, F, a96, a82, N] ++ [(s [114, 101, 116]), u, z, z, a82, F, a96, a82, N, a87, u, z] ++ [z, a82, F, a96, a82, N, (s [114, 101, 116]), u, z, z, a82, F] ++ [a96, a82, N]), [(s [43]), a90, a85, (i 3), F]])
end Go.Abs
namespace Go.Abs
def kc : List RecC := [⟨483, f0, fY, fW⟩, ⟨483, fZ, fX, fV⟩]
def rcLC245 : RecC := ⟨245, rcLA245_0, rcLH245_0, rcLR245_0⟩
def pC : RecC := ⟨246, oM, oB, oh⟩
def rcLC184 : RecC := ⟨184, rcLA184_0, rcLH184_0, rcLR184_0⟩
def rcLC185 : RecC := ⟨185, rcLA185_0, rcLH185_0, rcLR185_0⟩
def rcLC129a : RecC := ⟨129, rcLA129_0, rcLH129_0, rcLR129_0⟩
def rcLC129b : RecC := ⟨129, rcLA129_1, rcLH129_1, rcLR129_1⟩
def rcLC128 : RecC := ⟨128, rcLA128_0, rcLH128_0, rcLR128_0⟩
end Go.Abs
namespace Go.Abs.RR
open Go.Abs Go.Abs.R
def a0 : Data := (d [105, 110, 116])
def a1 : Data := (d [118, 97, 114])
def a2 : Data := (d [120])
def a3 : Data := (E 1)
end Go.Abs.RR
namespace Go.Abs
open Go.Abs.R Go.Abs.RR
def rcRA34_0 : List AV := [(.agg [(l 4 [[(V (w [116, 111, 116, 97, 108])), a0, (L 3 [[(d [97]), (V (w [97, 114, 114, 97, 121])), (I 1)]]), (L 8 [[a1, a2, U, Z, a3, (L 4 [[a0, U, Z, (E 4)]]), (E 2), a3], [(d [115, 101, 116]), a2, U, Z, a3, (L 4 [[(V (w [110, 111, 110, 101])), (d [43]), Z, (E 4)]]), (E 2), a3], [(V (w [102, 111, 114, 97, 108, 108])), U, (d [97]), Z, (L 1 [[(d [116, 95, 48])]]), (E 4), (L 2 [[(d [43]), a2]]), (L 1 [[(L 8 [[(d [115, 101, 116]), a2, U, Z, a3, (L 4 [[(d [97, 116]), (d [97]), Z, (L 4 [[a1, (d [116, 95, 48]), Z, (E 4)]])]]), (E 2), a3]])]])], [(V (w [114, 101, 116, 117, 114, 110])), U, U, Z, a3, (L 4 [[a1, a2, Z, (E 4)]]), (E 2), a3]])]]), (l 8 [[(d [100, 111, 109]), (d [100]), (V (w [99, 121, 99, 108, 105, 99])), Z, a3, (L 4 [[a0, U, Z, (E 4)], [a0, U, (I 2), (E 4)], [a0, U, (I 1), (E 4)]]), (E 2), a3], [(d [97, 114, 114]), (d [97]), (d [100]), Z, a3, (L 4 [[a0, U, (I 5), (E 4)]]), (E 2), a3], [(V (w [119, 114, 105, 116, 101])), U, U, Z, a3, (L 4 [[(V (w [99, 97, 108, 108])), (V (w [116, 111, 116, 97, 108])), Z, (L 4 [[a1, (d [97]), Z, (E 4)]])]]), (E 2), a3]])]), (i 20000)]
def rcRH34_0 : List (List AV) := []
def rcRR34_0 : AV × List (List AV) := ((.tup [(.agg [(x 1 [[(d [49, 53])]] 0), (s [101, 110, 100]), u, (i 25)]), z]), [])
end Go.Abs
namespace Go.Abs
def rcRC38 : RecC := ⟨38, rcTA38_0, rcTH38_0, rcTR38_0⟩
def rcRC34 : RecC := ⟨34, rcRA34_0, rcRH34_0, rcRR34_0⟩
end Go.Abs
namespace Go.Abs.RS
open Go.Abs Go.Abs.R
def a0 : Data := (V (w [97, 114, 114, 97, 121]))
def a1 : Data := (d [105, 110, 116])
def a2 : List Data := [a0, (I 1)]
def a3 : Data := (V (w [110, 111, 110, 101]))
def a4 : List Data := [a0, (I 2)]
end Go.Abs.RS
namespace Go.Abs
open Go.Abs.R Go.Abs.RS
def rcSR7_0 : AV × List (List AV) := ((.cs 1 0 0 16 16 .none), [[(v (w [99, 111, 108, 117, 109, 110, 115])), (s [100, 111, 116]), (v (w [102, 111, 117, 114, 105, 101, 114])), (v (w [103, 114, 101, 97, 116, 101, 115, 116])), (v (w [104, 105, 115, 116])), (v (w [109, 97, 116, 109, 117, 108])), (v (w [112, 111, 119, 101, 114])), (v (w [112, 114, 101, 102, 105, 120])), (v (w [114, 101, 97, 99, 104])), (s [114, 101, 118]), (v (w [114, 111, 119, 115])), (v (w [115, 97, 109, 101])), (v (w [115, 104, 105, 102, 116])), (v (w [115, 111, 114, 116])), (v (w [116, 111, 116, 97, 108])), (v (w [116, 117, 114, 110]))]])
def rcSA9_0 : List AV := [(v (w [116, 111, 116, 97, 108]))]
def rcSR9_0 : AV × List (List AV) := ((.tup [(x 3 [[(V (w [116, 111, 116, 97, 108])), (L 2 [[a0, Z]]), a1]] 0), z]), [])
def rcSA9_1 : List AV := [(v (w [103, 114, 101, 97, 116, 101, 115, 116]))]
def rcSR9_1 : AV × List (List AV) := ((.tup [(x 3 [[(V (w [103, 114, 101, 97, 116, 101, 115, 116])), (L 2 [[a0, Z]]), a1]] 0), z]), [])
def rcSA9_2 : List AV := [(s [100, 111, 116])]
def rcSR9_2 : AV × List (List AV) := ((.tup [(x 3 [[(d [100, 111, 116]), (L 2 [a2, a2]), a1]] 0), z]), [])
def rcSA9_3 : List AV := [(v (w [115, 97, 109, 101]))]
def rcSR9_3 : AV × List (List AV) := ((.tup [(x 3 [[(V (w [115, 97, 109, 101])), (L 2 [a2, a2]), (V (w [98, 111, 111, 108]))]] 0), z]), [])
def rcSA9_4 : List AV := [(v (w [115, 104, 105, 102, 116]))]
def rcSR9_4 : AV × List (List AV) := ((.tup [(x 3 [[(V (w [115, 104, 105, 102, 116])), (L 2 [a2, a2, [a1, Z]]), a3]] 0), z]), [])
def rcSA9_5 : List AV := [(s [114, 101, 118])]
def rcSR9_5 : AV × List (List AV) := ((.tup [(x 3 [[(d [114, 101, 118]), (L 2 [a2]), a3]] 0), z]), [])
def rcSA9_6 : List AV := [(v (w [112, 114, 101, 102, 105, 120]))]
def rcSR9_6 : AV × List (List AV) := ((.tup [(x 3 [[(V (w [112, 114, 101, 102, 105, 120])), (L 2 [a2]), a3]] 0), z]), [])
def rcSA9_7 : List AV := [(v (w [115, 111, 114, 116]))]
def rcSR9_7 : AV × List (List AV) := ((.tup [(x 3 [[(V (w [115, 111, 114, 116])), (L 2 [a2]), a3]] 0), z]), [])
def rcSA9_8 : List AV := [(v (w [104, 105, 115, 116]))]
def rcSR9_8 : AV × List (List AV) := ((.tup [(x 3 [[(V (w [104, 105, 115, 116])), (L 2 [a2, a2]), a3]] 0), z]), [])
def rcSA9_9 : List AV := [(v (w [109, 97, 116, 109, 117, 108]))]
def rcSR9_9 : AV × List (List AV) := ((.tup [(x 3 [[(V (w [109, 97, 116, 109, 117, 108])), (L 2 [a4, a4, a4]), a3]] 0), z]), [])
def rcSA9_10 : List AV := [(v (w [116, 117, 114, 110]))]
def rcSR9_10 : AV × List (List AV) := ((.tup [(x 3 [[(V (w [116, 117, 114, 110])), (L 2 [a4, a4]), a3]] 0), z]), [])
def rcSA9_11 : List AV := [(v (w [112, 111, 119, 101, 114]))]
def rcSR9_11 : AV × List (List AV) := ((.tup [(x 3 [[(V (w [112, 111, 119, 101, 114])), (L 2 [[a1, Z], [a1, Z], [a1, Z]]), a1]] 0), z]), [])
def rcSA9_12 : List AV := [(v (w [102, 111, 117, 114, 105, 101, 114]))]
def rcSR9_12 : AV × List (List AV) := ((.tup [(x 3 [[(V (w [102, 111, 117, 114, 105, 101, 114])), (L 2 [a2, a2, [a1, Z]]), a3]] 0), z]), [])
def rcSA9_13 : List AV := [(v (w [114, 101, 97, 99, 104]))]
def rcSR9_13 : AV × List (List AV) := ((.tup [(x 3 [[(V (w [114, 101, 97, 99, 104])), (L 2 [a2, a4, [a1, Z]]), a3]] 0), z]), [])
end Go.Abs
namespace Go.Abs
open Go Go.Proofs
def ez (f : FuncId) : Ann := match f with | 7 => { ax 7 with cs := List.range 200 } | f => ax f
theorem qa {W0 : Go.World} : ∀ f g cells, (ez f).gl g = some cells → df W0 g cells := by
 intro f g cells h
 unfold ez at h
 split at h
 ·exact cS 7 g cells h
 ·exact cS _ g cells h
def rcSC19 : RecC := ⟨19, [], [], (.sl 4 (ip cG) .none, [])⟩
def rcSC7 : RecC := ⟨7, [], [], rcSR7_0⟩
def rcSC9_0 : RecC := ⟨9, rcSA9_0, [], rcSR9_0⟩
def rcSC9_1 : RecC := ⟨9, rcSA9_1, [], rcSR9_1⟩
def rcSC9_2 : RecC := ⟨9, rcSA9_2, [], rcSR9_2⟩
def rcSC9_3 : RecC := ⟨9, rcSA9_3, [], rcSR9_3⟩
def rcSC9_4 : RecC := ⟨9, rcSA9_4, [], rcSR9_4⟩
def rcSC9_5 : RecC := ⟨9, rcSA9_5, [], rcSR9_5⟩
def rcSC9_6 : RecC := ⟨9, rcSA9_6, [], rcSR9_6⟩
def rcSC9_7 : RecC := ⟨9, rcSA9_7, [], rcSR9_7⟩
def rcSC9_8 : RecC := ⟨9, rcSA9_8, [], rcSR9_8⟩
def rcSC9_9 : RecC := ⟨9, rcSA9_9, [], rcSR9_9⟩
def rcSC9_10 : RecC := ⟨9, rcSA9_10, [], rcSR9_10⟩
def rcSC9_11 : RecC := ⟨9, rcSA9_11, [], rcSR9_11⟩
def rcSC9_12 : RecC := ⟨9, rcSA9_12, [], rcSR9_12⟩
def rcSC9_13 : RecC := ⟨9, rcSA9_13, [], rcSR9_13⟩
def rcSCs : List RecC := [rcSC9_0, rcSC9_1, rcSC9_2, rcSC9_3, rcSC9_4, rcSC9_5, rcSC9_6, rcSC9_7, rcSC9_8, rcSC9_9, rcSC9_10, rcSC9_11, rcSC9_12, rcSC9_13]
end Go.Abs
