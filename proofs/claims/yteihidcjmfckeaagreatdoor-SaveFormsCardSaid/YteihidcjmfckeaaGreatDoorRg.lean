/- SaveForms' Awake is a contract; the law is one. -/
import Derived.Test.YteihidcjmfckeaaGreatDoorW9a
import Derived.Test.YteihidcjmfckeaaGreatDoorW9b
import Derived.Test.YteihidcjmfckeaaGreatDoorS13
import Derived.Test.YteihidcjmfckeaaGreatDoorRd
import Derived.Lay
import Derived.Test.YteihidcjmfckeaaGreatDoorL4b
import Derived.Test.YteihidcjmfckeaaGreatDoorL4c
import Derived.Test.YteihidcjmfckeaaGreatDoorL4v
import Derived.Test.YteihidcjmfckeaaGreatDoorRe
import Derived.Test.YteihidcjmfckeaaGreatDoorL4g
import Derived.Test.YteihidcjmfckeaaGreatDoorRf
import Derived.Test.YteihidcjmfckeaaGreatDoorY4b
import Derived.Test.YteihidcjmfckeaaGreatDoorY4c
import Derived.Test.YteihidcjmfckeaaGreatDoorY4d
import Derived.Test.YteihidcjmfckeaaGreatDoorY4e
import Derived.Test.YteihidcjmfckeaaGreatDoorY4f
import Derived.Test.YteihidcjmfckeaaGreatDoorL4i
import Derived.Test.YteihidcjmfckeaaGreatDoorCards
set_option linter.all false
set_option maxRecDepth 1000000
namespace Go.Abs
open Go Go.Proofs
theorem rcS12_r:runT (aI Tryz.prog annS) (ou [rcSC25,rcSC26] libL) 60 12 [] []=some (.sc (.b true),[]):=by kernel_rfl
theorem aw12 {W0:Go.World} (hw:Ws W0):Ctr Tryz.prog W0 12 [] [] (.sc (.b true)) []:=by
 have h25:jV Tryz.prog W0 rcSC25:=recS hw (cs:=[rcSC87]) (fun c hc=>by simp only [List.mem_singleton] at hc;subst hc;exact rcSC87_ok W0) rcS25_r
 have h26:jV Tryz.prog W0 rcSC26:=RunOK.ok (lib:=libL) rcS26_r follows (ne annS_gl) (libL_ok hw)
 exact recS hw (cs:=[rcSC25,rcSC26]) (fun c hc=>by
  simp only [List.mem_cons,List.not_mem_nil,or_false] at hc
  rcases hc with rfl | rfl
  ·exact h25
  ·exact h26) (c:=⟨12,[],[],(.sc (.b true),[])⟩) rcS12_r
theorem law4 {W0:Go.World} (hw:Ws W0) (s:S):Ctr Tryz.prog W0 4 [.sc (.s s)] [] (.sc (.b true)) []:=cs4 W0 hw (aw12 hw) s
end Go.Abs
namespace Go.Proofs.YteihidcjmfckeaaGreatDoor
open Go.ChangeShapes Go.WideShapes Go.RowKit Go.Abs Go
theorem contract4 (H:Type) (enc:TypeId × Value→H) (W:World) (base:Nat) (args:Array Value) (ds gs:List (DataW H)) (before:List MemPlace)
  (hval:∀ (j:Nat) t v,Tryz.f4.params[j]? = some t→args[j]? = some v→Value.okWide Tryz.prog W .any base t v)
  (hW:DataW.Whole enc Tryz.prog Tryz.f4.params.toList Rows.saveFormsSpec.vars false W args.toList ds gs before) (hw:(DataW.weightsEach Tryz.prog (Tryz.f4.params.toList++(OpenSpec.ofChange Rows.saveFormsSpec).bare.plain.varTypes Tryz.prog) (ds++gs)).all (·≤reachBytes)=true) (hL:laidMetH Tryz.prog Rows.saveFormsRow.laid W) (hsh:W.ShapedOpen Tryz.prog) :
  Calls Tryz.prog 4 args W fun e W'=>∃ v,e=.returned v∧Rows.saveFormsSpec.post enc Tryz.prog Tryz.f4 false true false false W args v W':=by
 have hW':=hW
 obtain ⟨p,q,hA0,hV,rfl,hfz,hnd⟩:=hW
 have hA:DataW.TrodAll enc Tryz.prog W 0 (fun _=>true) true Tryz.f4.params.toList args.toList ds p:=hA0
 rw [Tryz.params4] at hA hval
 obtain ⟨v0,d0,hargs,rfl,h0⟩:=trodAll_one hA
 subst hargs
 obtain ⟨rfl,rfl⟩:=trodVars_none hV
 have hwe:(DataW.weightsEach Tryz.prog [9] [d0]).all (·≤reachBytes)=true:=by
  have e:Tryz.f4.params.toList++(OpenSpec.ofChange Rows.saveFormsSpec).bare.plain.varTypes Tryz.prog=[9]:=by kernel_rfl
  rw [e] at hw
  exact hw
 simp only [DataW.weightsEach,List.all_append,Bool.and_eq_true,List.append_nil] at hwe
 obtain ⟨x0,hx0,rx0,bx0⟩:=arg_str (hval 0 9 v0 rfl rfl) h0 hwe
 have hL':laidMet Tryz.prog Rows.saveFormsRow.laid W:=hL
 have tsp:=tabSp (W:=W) (laid:=Rows.saveFormsRow.laid) (by rw [← spDatum];simp [Rows.saveFormsRow]) hL'
 have tpow:=tabPow (W:=W) (laid:=Rows.saveFormsRow.laid) (by rw [← powDatum];simp [Rows.saveFormsRow]) hL'
 have e1:=errV1 (W:=W) (laid:=Rows.saveFormsRow.laid) (by simp [Rows.saveFormsRow]) hL'
 have e2:=errV2 (W:=W) (laid:=Rows.saveFormsRow.laid) (by simp [Rows.saveFormsRow]) hL'
 have hc:=law4 ⟨⟨tsp,tpow,maxLen' hsh⟩,e1,e2⟩ x0
 refine (ctr_enter hc rfl (by rfl) ?_).mono ?_
 ·intro j v hj
  match j,hj with
  | 0,hj=>simp at hj;subst hj;exact rx0
  | j+1,hj=>simp at hj
 ·rintro e W' ⟨rfl,hb⟩
  simp only [List.append_nil] at hW'
  exact ⟨_,rfl,law_post laidOut mapsRow fullRows (by rw [Tryz.params4];intro t ht;simp at ht;subst ht;exact of_decide_eq_true (by kernel_rfl)) (tb:=4) (by kernel_rfl) (by kernel_rfl) rfl rfl hW' hb⟩
end Go.Proofs.YteihidcjmfckeaaGreatDoor
namespace Go.Proofs.YteihidcjmfckeaaGreatDoor
open Go.ChangeShapes Go.WideShapes Go.RowKit Go.Abs Go
theorem okin4 (os:Os):Input.okWideB Tryz.checked.prog ((World.laidAll Tryz.prog os Rows.saveFormsRow.laid).forCall (fun _ _=>0) ⟨#[],#[noS],[]⟩) 4 ⟨#[],#[noS],[]⟩=true:=by kernel_rfl
theorem sized4 (os:Os) {H:Type} (enc:TypeId × Value→H):(OpenSpec.ofChange Rows.saveFormsSpec).bare.sizedB enc Tryz.prog Tryz.f4 false ((World.laidAll Tryz.prog os Rows.saveFormsRow.laid).forCall (fun _ _=>0) ⟨#[],#[noS],[]⟩).memory #[noS] 8=true:=by kernel_rfl
end Go.Proofs.YteihidcjmfckeaaGreatDoor
namespace Go.Proofs.YteihidcjmfckeaaGreatDoor
open Go.ChangeShapes Go.WideShapes Go.RowKit Go.Abs Go
theorem lifted4 (os:Os) (started:os.Started) (H:Type) (enc:TypeId × Value→H) (F:Stop.Interp) :
  ReturnsInHanded {} Tryz.checked os 4 .any ((OpenSpec.ofChange Rows.saveFormsSpec).preRow enc Tryz.prog Tryz.f4 Rows.saveFormsRow.domain false Rows.saveFormsRow.laid) (((OpenSpec.ofChange Rows.saveFormsSpec).at F).post enc Tryz.prog Tryz.f4 false true false false):=by
 obtain ⟨places,hx⟩:=reads4 os enc
 refine returnsInHanded_of_row (C:=Tryz.checked) (s:=(OpenSpec.ofChange Rows.saveFormsSpec)) own started (by kernel_rfl) Tryz.func4
  (witness_row_atRef (enc:=enc) (C:=Tryz.checked) false (World.laidAll Tryz.prog os Rows.saveFormsRow.laid) #[noS] (World.laidAll_os _ _ _) (vars4 os) (heap4 os) (okin4 os)
   (OpenSpec.preRow_of_cond 8 hx (by kernel_rfl) (fun k hk=>by cases hk) (sized4 os enc) (met4 os))) ?_
 intro W base args ds gs before hval hW _ _ hw hL hsh _
 exact contract4 H enc W base args ds gs before hval hW hw hL hsh
end Go.Proofs.YteihidcjmfckeaaGreatDoor
namespace Go.Proofs.YteihidcjmfckeaaGreatDoor
open Go.ChangeShapes Go.WideShapes Go.RowKit Go.Abs Go
theorem said4:Rows.SaveFormsSaid:=
 OpenClaim.holds_of_cond 4 Tryz.f4 rfl rfl rfl rfl rfl rfl rfl ⟨rfl,rfl,rfl,rfl,rfl⟩ rfl rfl rfl rfl rfl named4 Tryz.func4 closed4 inst4 wrap4
  (fun os started H enc _ F=>by rw [OpenClaim.pre_eq_preRow];exact lifted4 os started H enc F)
end Go.Proofs.YteihidcjmfckeaaGreatDoor
namespace Go.Proofs.YteihidcjmfckeaaGreatDoor
open Go Go.Reach
theorem ties4:Tryz.prog.laidByTextLater [("strings.asciiSpace",Rows.laid_strings_asciiSpace),("unicode.White_Space",Rows.laid_unicode_White_Space),("internal/strconv.uint64pow10",Rows.laid_internal_strconv_uint64pow10),("math/bits.deBruijn32tab",Rows.laid_math_bits_deBruijn32tab),("math/bits.deBruijn64tab",Rows.laid_math_bits_deBruijn64tab),("unicode/utf8.acceptRanges",Rows.laid_unicode_utf8_acceptRanges),("strconv.ErrSyntax",Rows.laid_strconv_ErrSyntax),("strconv.ErrRange",Rows.laid_strconv_ErrRange)] [.data,.listed,.data,.data,.data,.data,.sentinel,.sentinel] true:=
 Program.laidByTextLater_by_run 400 8 tw4 tx4 tr4 tk4 tg4 tn4 td4
  (fun os tape=>by rw [te4 os tape];rfl) (fun os tape=>by rw [te4 os tape];simp only [Option.map_some,decide_eq_true (gF (RL:=RL4) (by decide)),pw (RL:=RL4) (tf4 os tape),Bool.and_self])
theorem rowTie4:Rows.saveFormsRow.laidByTextAt .later Tryz.pinned [.data,.listed,.data,.data,.data,.pinned,.data,.sentinel,.sentinel] true:=
 OpenClaim.laidByTextAt_pinned rfl rfl ties4 rfl rfl rfl rfl (fun y hy _e=>by
  simp only [Rows.saveFormsRow,List.zip_cons_cons,List.zip_nil_right,List.mem_cons,List.mem_nil_iff,or_false] at hy
  rcases hy with rfl | rfl | rfl | rfl | rfl | rfl | rfl | rfl | rfl
  ·cases _e
  ·cases _e
  ·cases _e
  ·cases _e
  ·cases _e
  ·exact ⟨pinFits4,by kernel_rfl⟩
  ·cases _e
  ·cases _e
  ·cases _e) lfits4
end Go.Proofs.YteihidcjmfckeaaGreatDoor
namespace Go.Proofs.YteihidcjmfckeaaGreatDoor
open Go.ChangeShapes Go.WideShapes Go.RowKit Go.Abs Go
theorem goes4:false=Rows.saveFormsRow.goesBy Tryz.pinned.checked.prog:=by
 unfold OpenClaim.goesBy Program.goesAt Program.goesFrom
 rw [named4,Option.any_some,goes_none noGo 4]
 rfl
theorem saveForms_card:Rows.SaveFormsCardSaid:=
 Claim7.holds_tied_plain_at .later [] _ _ _ _ said4 (fun _ h=>by cases h) (by kernel_rfl) (fun _ h=>by cases h) rowTie4 rfl ⟨rfl,rfl⟩ mainIs0 rfl plain4 goes4
#print axioms saveForms_card
end Go.Proofs.YteihidcjmfckeaaGreatDoor
