/- Parse of the library's text, and of it with Awake's statements. -/
import Derived.Test.YteihidcjmfckeaaGreatDoorU5src0
import Derived.Test.YteihidcjmfckeaaGreatDoorU5src1
import Derived.Test.YteihidcjmfckeaaGreatDoorU5src2
import Derived.Test.YteihidcjmfckeaaGreatDoorU5src3
import Derived.Test.YteihidcjmfckeaaGreatDoorU5aw0
import Derived.Test.YteihidcjmfckeaaGreatDoorU5aw1
import Derived.Test.YteihidcjmfckeaaGreatDoorU5aw2
import Derived.Test.YteihidcjmfckeaaGreatDoorU5aw3
import Derived.Test.YteihidcjmfckeaaGreatDoorMg
import Derived.Test.YteihidcjmfckeaaGreatDoorMq
set_option linter.all false
set_option maxRecDepth 1000000
namespace Go.Abs
open Go Go.Proofs
def libPz (f : FuncId) (args : List AV) (H : List (List AV)) : Option (AV × List (List AV)) :=
 match Nat.beq f 58 with
 | true => (match args, H with
   | [.sc (.s s)], [] => (match aD s srcB with
     | true => some (.tup [.ptr 0 0, .sc (.i .i64 0)], [pbx srcT ⟨0, false⟩])
     | false => (match aD s (srcB ++ [32] ++ awB) with
       | true => some (.tup [.ptr 0 0, .sc (.i .i64 0)], [pbx awT ⟨0, false⟩])
       | false => none))
   | _, _ => none)
 | false => match Nat.beq f 63 with
 | true => (match args, H with
   | [x], [] => (match fi 3 x (eG ⟨cG, []⟩) with
     | true => some (.sc (.b true), [])
     | false => (match fi 3 x (eG ⟨cG, awS⟩) with
       | true => some (.sc (.b true), [])
       | false => none))
   | _, _ => none)
 | false => match Nat.beq f 64 with
 | true => (match args, H with
   | [x], [] => (match fi 3 x (eG ⟨cG, []⟩) with
     | true => some (bZ (nG ⟨cG, []⟩) (dpG ⟨cG, []⟩), [])
     | false => (match fi 3 x (eG ⟨cG, awS⟩) with
       | true => some (bZ (nG ⟨cG, awS⟩) (dpG ⟨cG, awS⟩), [])
       | false => none))
   | _, _ => none)
 | false => none
theorem src_well : prgB ⟨cG, []⟩ = true := by kernel_rfl
theorem aw_well : prgB ⟨cG, awS⟩ = true := by kernel_rfl
theorem srcB_len : Nat.ble srcB.length 100000 = true := by kernel_rfl
theorem awB_len : Nat.ble (srcB ++ [32] ++ awB).length 100000 = true := by kernel_rfl
theorem libPz_ok {W0 : Go.World} (hk : Wk W0) : ∀ f args H res H', libPz f args H = some (res, H') → Ctr Tryz.prog W0 f args H res H' := by
 intro f args H res H' h
 unfold libPz at h
 split at h
 ·rename_i e
  have := Nat.eq_of_beq_eq_true e
  subst this
  split at h
  ·rename_i s
   split at h
   ·rename_i hx
    cases h
    have : s = srcB := of_decide_eq_true hx
    subst this
    have := c58j W0 hk srcB (Nat.le_trans (Nat.le_of_ble_eq_true srcB_len) (by omega))
    rwa [src_tok, src_ok] at this
   ·split at h
    ·rename_i hx
     cases h
     have : s = srcB ++ [32] ++ awB := of_decide_eq_true hx
     subst this
     have := c58j W0 hk (srcB ++ [32] ++ awB) (Nat.le_trans (Nat.le_of_ble_eq_true awB_len) (by omega))
     rwa [aw_tok, aw_ok] at this
    ·cases h
  ·cases h
 split at h
 ·rename_i e
  have := Nat.eq_of_beq_eq_true e
  subst this
  split at h
  ·rename_i x
   split at h
   ·rename_i hx
    cases h
    have := dH _ _ _ hx
    subst this
    have := c52 W0 hk ⟨cG, []⟩ (je src_good)
    rwa [src_well] at this
   ·split at h
    ·rename_i hx
     cases h
     have := dH _ _ _ hx
     subst this
     have := c52 W0 hk ⟨cG, awS⟩ (je p8)
     rwa [aw_well] at this
    ·cases h
  ·cases h
 split at h
 ·rename_i e
  have := Nat.eq_of_beq_eq_true e
  subst this
  split at h
  ·rename_i x
   split at h
   ·rename_i hx
    cases h
    have := dH _ _ _ hx
    subst this
    exact c50 W0 ⟨cG, []⟩ (je src_good) (of_decide_eq_true src_n)
   ·split at h
    ·rename_i hx
     cases h
     have := dH _ _ _ hx
     subst this
     exact c50 W0 ⟨cG, awS⟩ (je p8) (of_decide_eq_true aw_n)
    ·cases h
  ·cases h
 cases h
def ji (l : List T) (f : FuncId) (args : List AV) (H : List (List AV)) : Option (AV × List (List AV)) :=
 match libPz f args H with
 | some r => some r
 | none => bj l f args H
theorem oV {W0 : Go.World} (hk : Wk W0) {l : List T} (ht : tOK l) (hl : l.length ≤ 549755813888) : ∀ f args H res H', ji l f args H = some (res, H') → Ctr Tryz.prog W0 f args H res H' := by
 intro f args H res H' h
 unfold ji at h
 split at h
 ·rename_i r hr
  rw [Option.some.inj h] at hr
  exact libPz_ok hk _ _ _ _ _ hr
 ·exact libTk_ok hk ht hl _ _ _ _ _ h
theorem srcE : runE (ab Tryz.prog ax) (bE (rcPs srcT) (ji srcT)) 60 30 [.sc (.s srcB)] [] = some (.tup [eG ⟨cG, []⟩, .sc (.i .i64 0)], []) := by kernel_rfl
theorem awE : runE (ab Tryz.prog ax) (bE (rcPs awT) (ji awT)) 60 30 [.sc (.s (srcB ++ [32] ++ awB))] [] = some (.tup [eG ⟨cG, awS⟩, .sc (.i .i64 0)], []) := by kernel_rfl
theorem an {W0 : Go.World} : ∀ c ∈ ([] : List RecC), ak Tryz.prog W0 c := fun _ h => by cases h
theorem ac {W0 : Go.World} {c : RecC} {cs : List RecC} (h : ak Tryz.prog W0 c) (t : ∀ d ∈ cs, ak Tryz.prog W0 d) : ∀ d ∈ c :: cs, ak Tryz.prog W0 d := fun d hd => by
 rcases List.mem_cons.1 hd with rfl | hd
 ·exact h
 ·exact t d hd
theorem bC {W0 : Go.World} (hk : Wk W0) {l : List T} (ht : tOK l) (hl : l.length ≤ 549755813888) {p : Prc} {a b : Nat} (h : ar (ab Tryz.prog ax) (bj l) 60 60 [.ptr 0 0] [pbx l ⟨a, false⟩] = some (ePt p, [pbx l ⟨b, false⟩])) : ak Tryz.prog W0 (rcP l p a b) :=
 RunOK.ok (lib := bj l) (c := rcP l p a b) h follows (b9 cS) (libTk_ok hk ht hl)
theorem src_o {W0 : Go.World} (hk : Wk W0) : ∀ c ∈ rcPs srcT, ak Tryz.prog W0 c :=
 have ht := px src_tOK
 have hl : srcT.length ≤ 549755813888 := by rw [srcT_len]; omega
 (ac (bC hk ht hl srcR0) (ac (bC hk ht hl srcR1) (ac (bC hk ht hl srcR2) (ac (bC hk ht hl srcR3) (ac (bC hk ht hl srcR4) (ac (bC hk ht hl srcR5) (ac (bC hk ht hl srcR6) (ac (bC hk ht hl srcR7) (ac (bC hk ht hl srcR8) (ac (bC hk ht hl srcR9) (ac (bC hk ht hl srcR10) (ac (bC hk ht hl srcR11) (ac (bC hk ht hl srcR12) (ac (bC hk ht hl srcR13) (ac (bC hk ht hl srcR14) (ac (bC hk ht hl srcR15) an))))))))))))))))
theorem aw_o {W0 : Go.World} (hk : Wk W0) : ∀ c ∈ rcPs awT, ak Tryz.prog W0 c :=
 have ht := px aw_tOK
 have hl : awT.length ≤ 549755813888 := by rw [awT_len]; omega
 (ac (bC hk ht hl awR0) (ac (bC hk ht hl awR1) (ac (bC hk ht hl awR2) (ac (bC hk ht hl awR3) (ac (bC hk ht hl awR4) (ac (bC hk ht hl awR5) (ac (bC hk ht hl awR6) (ac (bC hk ht hl awR7) (ac (bC hk ht hl awR8) (ac (bC hk ht hl awR9) (ac (bC hk ht hl awR10) (ac (bC hk ht hl awR11) (ac (bC hk ht hl awR12) (ac (bC hk ht hl awR13) (ac (bC hk ht hl awR14) (ac (bC hk ht hl awR15) an))))))))))))))))
theorem src_parse (W0 : Go.World) (hk : Wk W0) : Ctr Tryz.prog W0 30 [.sc (.s srcB)] [] (.tup [eG ⟨cG, []⟩, .sc (.i .i64 0)]) [] :=
 runE_s (lib := bE (rcPs srcT) (ji srcT)) follows (b9 cS) (fH (src_o hk) (oV hk (px src_tOK) (by rw [srcT_len]; omega))) srcE
theorem aw_parse (W0 : Go.World) (hk : Wk W0) : Ctr Tryz.prog W0 30 [.sc (.s (srcB ++ [32] ++ awB))] [] (.tup [eG ⟨cG, awS⟩, .sc (.i .i64 0)]) [] :=
 runE_s (lib := bE (rcPs awT) (ji awT)) follows (b9 cS) (fH (aw_o hk) (oV hk (px aw_tOK) (by rw [awT_len]; omega))) awE
end Go.Abs
