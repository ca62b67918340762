/- LibraryHas: for every text of statements, the library is a program that has all procedures that are named, with their signatures, and its text with the statements is the source, a space and the statements; and the check of the law answers true: the law returns true, and the argument reads as before. Conditions: the row's own (the listed package variables as the program's text lays them). -/
import Derived.Test.YteihidcjmfckeaaGreatDoorRd
import Derived.Test.YteihidcjmfckeaaGreatDoorMm
import Derived.Lay
import Derived.Test.YteihidcjmfckeaaGreatDoorL3b
import Derived.Test.YteihidcjmfckeaaGreatDoorL3c
import Derived.Test.YteihidcjmfckeaaGreatDoorL3v
import Derived.Test.YteihidcjmfckeaaGreatDoorRe
import Derived.Test.YteihidcjmfckeaaGreatDoorL3g
import Derived.Test.YteihidcjmfckeaaGreatDoorRf
import Derived.Test.YteihidcjmfckeaaGreatDoorY3b
import Derived.Test.YteihidcjmfckeaaGreatDoorY3c
import Derived.Test.YteihidcjmfckeaaGreatDoorY3d
import Derived.Test.YteihidcjmfckeaaGreatDoorY3e
import Derived.Test.YteihidcjmfckeaaGreatDoorY3f
import Derived.Test.YteihidcjmfckeaaGreatDoorL3i
import Derived.Test.YteihidcjmfckeaaGreatDoorCards
set_option linter.all false
set_option maxRecDepth 1000000
namespace Go.Proofs.YteihidcjmfckeaaGreatDoor
open Go.ChangeShapes Go.WideShapes Go.RowKit Go.Abs Go
theorem contract3 (H : Type) (enc : TypeId × Value → H) (W : World) (base : Nat) (args : Array Value) (ds gs : List (DataW H)) (before : List MemPlace)
  (hval : ∀ (j : Nat) t v, Tryz.f3.params[j]? = some t → args[j]? = some v → Value.okWide Tryz.prog W .any base t v)
  (hW : DataW.Whole enc Tryz.prog Tryz.f3.params.toList Rows.libraryHasSpec.vars false W args.toList ds gs before) (hw : (DataW.weightsEach Tryz.prog (Tryz.f3.params.toList ++ (OpenSpec.ofChange Rows.libraryHasSpec).bare.plain.varTypes Tryz.prog) (ds ++ gs)).all (· ≤ reachBytes) = true) (hL : laidMetH Tryz.prog Rows.libraryHasRow.laid W) (hsh : W.ShapedOpen Tryz.prog) :
  Calls Tryz.prog 3 args W fun e W' => ∃ v, e = .returned v ∧ Rows.libraryHasSpec.post enc Tryz.prog Tryz.f3 false true false false W args v W' := by
 have hW' := hW
 obtain ⟨p, q, hA0, hV, rfl, hfz, hnd⟩ := hW
 have hA : DataW.TrodAll enc Tryz.prog W 0 (fun _ => true) true Tryz.f3.params.toList args.toList ds p := hA0
 rw [Tryz.params3] at hA hval
 obtain ⟨v0, d0, hargs, rfl, h0⟩ := trodAll_one hA
 subst hargs
 obtain ⟨rfl, rfl⟩ := trodVars_none hV
 have hwe : (DataW.weightsEach Tryz.prog [9] [d0]).all (· ≤ reachBytes) = true := by
  have e : Tryz.f3.params.toList ++ (OpenSpec.ofChange Rows.libraryHasSpec).bare.plain.varTypes Tryz.prog = [9] := by kernel_rfl
  rw [e] at hw
  exact hw
 simp only [DataW.weightsEach, List.all_append, Bool.and_eq_true, List.append_nil] at hwe
 obtain ⟨x0, hx0, rx0, bx0⟩ := arg_str (hval 0 9 v0 rfl rfl) h0 hwe
 have hL' : laidMet Tryz.prog Rows.libraryHasRow.laid W := hL
 have tsp := tabSp (W := W) (laid := Rows.libraryHasRow.laid) (by rw [← spDatum]; simp [Rows.libraryHasRow]) hL'
 have tpow := tabPow (W := W) (laid := Rows.libraryHasRow.laid) (by rw [← powDatum]; simp [Rows.libraryHasRow]) hL'
 have hc := c3 W ⟨tsp, tpow, maxLen' hsh⟩ x0 hx0
 refine (ctr_enter hc rfl (by rfl) ?_).mono ?_
 ·intro j v hj
  match j, hj with
  | 0, hj => simp at hj; subst hj; exact rx0
  | j + 1, hj => simp at hj
 ·rintro e W' ⟨rfl, hb⟩
  simp only [List.append_nil] at hW'
  exact ⟨_, rfl, law_post laidOut mapsRow fullRows (by rw [Tryz.params3]; intro t ht; simp at ht; subst ht; exact of_decide_eq_true (by kernel_rfl)) (tb := 4) (by kernel_rfl) (by kernel_rfl) rfl rfl hW' hb⟩
end Go.Proofs.YteihidcjmfckeaaGreatDoor
namespace Go.Proofs.YteihidcjmfckeaaGreatDoor
open Go.ChangeShapes Go.WideShapes Go.RowKit Go.Abs Go
theorem okin3 (os : Os) : Input.okWideB Tryz.checked.prog ((World.laidAll Tryz.prog os Rows.libraryHasRow.laid).forCall (fun _ _ => 0) ⟨#[], #[noS], []⟩) 3 ⟨#[], #[noS], []⟩ = true := by kernel_rfl
theorem sized3 (os : Os) {H : Type} (enc : TypeId × Value → H) : (OpenSpec.ofChange Rows.libraryHasSpec).bare.sizedB enc Tryz.prog Tryz.f3 false ((World.laidAll Tryz.prog os Rows.libraryHasRow.laid).forCall (fun _ _ => 0) ⟨#[], #[noS], []⟩).memory #[noS] 8 = true := by kernel_rfl
end Go.Proofs.YteihidcjmfckeaaGreatDoor
namespace Go.Proofs.YteihidcjmfckeaaGreatDoor
open Go.ChangeShapes Go.WideShapes Go.RowKit Go.Abs Go
theorem lifted3 (os : Os) (started : os.Started) (H : Type) (enc : TypeId × Value → H) (F : Stop.Interp) :
  ReturnsInHanded {} Tryz.checked os 3 .any ((OpenSpec.ofChange Rows.libraryHasSpec).preRow enc Tryz.prog Tryz.f3 Rows.libraryHasRow.domain false Rows.libraryHasRow.laid) (((OpenSpec.ofChange Rows.libraryHasSpec).at F).post enc Tryz.prog Tryz.f3 false true false false) := by
 obtain ⟨places, hx⟩ := reads3 os enc
 refine returnsInHanded_of_row (C := Tryz.checked) (s := (OpenSpec.ofChange Rows.libraryHasSpec)) own started (by kernel_rfl) Tryz.func3
  (witness_row_atRef (enc := enc) (C := Tryz.checked) false (World.laidAll Tryz.prog os Rows.libraryHasRow.laid) #[noS] (World.laidAll_os _ _ _) (vars3 os) (heap3 os) (okin3 os)
   (OpenSpec.preRow_of_cond 8 hx (by kernel_rfl) (fun k hk => by cases hk) (sized3 os enc) (met3 os))) ?_
 intro W base args ds gs before hval hW _ _ hw hL hsh _
 exact contract3 H enc W base args ds gs before hval hW hw hL hsh
end Go.Proofs.YteihidcjmfckeaaGreatDoor
namespace Go.Proofs.YteihidcjmfckeaaGreatDoor
open Go.ChangeShapes Go.WideShapes Go.RowKit Go.Abs Go
theorem said3 : Rows.LibraryHasSaid :=
 OpenClaim.holds_of_cond 3 Tryz.f3 rfl rfl rfl rfl rfl rfl rfl ⟨rfl, rfl, rfl, rfl, rfl⟩ rfl rfl rfl rfl rfl named3 Tryz.func3 closed3 inst3 wrap3
  (fun os started H enc _ F => by rw [OpenClaim.pre_eq_preRow]; exact lifted3 os started H enc F)
end Go.Proofs.YteihidcjmfckeaaGreatDoor
namespace Go.Proofs.YteihidcjmfckeaaGreatDoor
open Go Go.Reach
theorem ties3 : Tryz.prog.laidByTextLater [("strings.asciiSpace", Rows.laid_strings_asciiSpace), ("unicode.White_Space", Rows.laid_unicode_White_Space), ("strconv.ErrSyntax", Rows.laid_strconv_ErrSyntax), ("strconv.ErrRange", Rows.laid_strconv_ErrRange), ("internal/strconv.uint64pow10", Rows.laid_internal_strconv_uint64pow10), ("math/bits.deBruijn32tab", Rows.laid_math_bits_deBruijn32tab), ("math/bits.deBruijn64tab", Rows.laid_math_bits_deBruijn64tab)] [.data, .listed, .sentinel, .sentinel, .data, .data, .data] true :=
 Program.laidByTextLater_by_run 400 8 tw3 tx3 tr3 tk3 tg3 tn3 td3
  (fun os tape => by rw [te3 os tape]; rfl) (fun os tape => by rw [te3 os tape]; simp only [Option.map_some, decide_eq_true (fA (RL := RL3) (by decide)), pN (RL := RL3) (tf3 os tape), Bool.and_self])
theorem rowTie3 : Rows.libraryHasRow.laidByTextAt .later Tryz.pinned [.data, .listed, .sentinel, .sentinel, .data, .data, .data] true :=
 OpenClaim.laidByTextAt_later rfl rfl ties3 noUns3
end Go.Proofs.YteihidcjmfckeaaGreatDoor
namespace Go.Proofs.YteihidcjmfckeaaGreatDoor
open Go.ChangeShapes Go.WideShapes Go.RowKit Go.Abs Go
theorem goes3 : false = Rows.libraryHasRow.goesBy Tryz.pinned.checked.prog := by
 unfold OpenClaim.goesBy Program.goesAt Program.goesFrom
 rw [named3, Option.any_some, goes_none noGo 3]
 rfl
theorem libraryHas_card : Rows.LibraryHasCardSaid :=
 Claim7.holds_tied_plain_at .later [] _ _ _ _ said3 (fun _ h => by cases h) (by kernel_rfl) (fun _ h => by cases h) rowTie3 rfl ⟨rfl, rfl⟩ mainIs0 rfl plain3 goes3
#print axioms libraryHas_card
end Go.Proofs.YteihidcjmfckeaaGreatDoor
