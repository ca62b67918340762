/- Awake: one run of the machine. -/
import Derived.Test.YthmcdebdkbhbmaaGreatDoorC3
import Derived.Test.YthmcdebdkbhbmaaGreatDoorMd
namespace Go.Abs
open Go.Proofs
/-- what the library answers, where Awake asks it -/
def strsOf : List (List Data) → Option (List (List UInt8))
  | [] => some []
  | [.sc (.s l)] :: r => (match strsOf r with | some x => some (l :: x) | none => none)
  | _ => none
def asciiB : List UInt8 → Bool
  | [] => true
  | b :: r => match Nat.blt b.toNat 128 with | true => asciiB r | false => false
def libA : Go.FuncId → List AV → Option AV
  | 261, [.sc (.s l)] => tst (asciiB l && Nat.blt l.length 100000) (some (.sl 1 (strsD (Go.Lib.fields l)) .full))
  | 49, [.sl 1 els .none, .sc (.s s)] => (match strsOf els with | some l => tst (Nat.blt l.length 100000 && Nat.blt (Go.Lib.join l s).length 100000) (some (.sc (.s (Go.Lib.join l s)))) | none => none)
  | 188, [.sc (.s l)] => tst (Nat.ble l.length 18) (match Go.Lib.atoi l with | some n => some (.tup [.sc (.i .i64 n), .sc .ni]) | none => none)
  | _, _ => none
theorem aw0 : runX (compT Tryz.prog fun _ => an0) libA 60 13 [] [] = some (.sc (.b true), []) := by kernel_rfl
theorem strsOf_spec : ∀ {els : List (List Data)} {l : List (List UInt8)}, strsOf els = some l → els = strsD l
  | [], l, h => by simp only [strsOf, Option.some.injEq] at h; subst h; rfl
  | e :: r, l, h => by
    unfold strsOf at h
    split at h
    · rename_i hh; cases hh
    · rename_i s r' hh
      cases hh
      split at h
      · rename_i x hx
        cases h
        rw [strsOf_spec hx]; rfl
      · cases h
    · cases h
theorem asciiB_spec : ∀ {l : List UInt8}, asciiB l = true → ∀ b, b ∈ l → b.toNat < 128
  | [], _, b, hb => by simp at hb
  | x :: r, h, b, hb => by
    simp only [asciiB] at h
    split at h
    · rename_i hx
      rcases List.mem_cons.1 hb with rfl | hb
      · simpa [Nat.blt_eq] using hx
      · exact asciiB_spec h b hb
    · cases h
theorem libA_ok (W0 : Go.World) (htab : Go.Lib.TabIs Tryz.prog W0 "strings.asciiSpace" .u8 Go.Lib.asciiSpaceTab) : ∀ f args res, libA f args = some res → Ctr Tryz.prog W0 f args [] res [] := by
  intro f args res h
  unfold libA at h
  split at h
  · obtain ⟨h1, h2⟩ := tst_s h
    cases h2
    simp only [Bool.and_eq_true, Nat.blt_eq] at h1
    exact fields_ctr W0 htab _ (by omega) (asciiB_spec h1.1)
  · split at h
    · rename_i l hl
      obtain ⟨h1, h2⟩ := tst_s h
      cases h2
      simp only [Bool.and_eq_true, Nat.blt_eq] at h1
      rw [strsOf_spec hl]
      exact join_ctr W0 l _ (by omega) (by omega)
    · cases h
  · obtain ⟨h1, h2⟩ := tst_s h
    split at h2
    · rename_i n hn
      cases h2
      exact atoi_ctr W0 _ n (Nat.le_of_ble_eq_true h1) hn
    · cases h2
  · cases h
/-- AWAKE ANSWERS TRUE -/
theorem c13 (W0 : Go.World) (htab : Go.Lib.TabIs Tryz.prog W0 "strings.asciiSpace" .u8 Go.Lib.asciiSpaceTab) : Ctr Tryz.prog W0 13 [] [] (.sc (.b true)) [] :=
  runX_s follows (compT_ok fun _ _ _ h => by cases h) (libA_ok W0 htab) 60 13 [] [] _ _ aw0
end Go.Abs
