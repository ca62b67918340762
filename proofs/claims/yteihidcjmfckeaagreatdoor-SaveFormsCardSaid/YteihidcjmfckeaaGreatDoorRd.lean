/- The types of the variables and of the parameters lie in the table. -/
import Derived.Test.YteihidcjmfckeaaGreatDoorProg
import Derived.ClosedOfChecked
import Derived.KernelRfl
import Derived.Test.YteihidcjmfckeaaGreatDoorRa
import Derived.Test.YteihidcjmfckeaaGreatDoorMf
import Derived.LaidLaws
import Derived.Test.YteihidcjmfckeaaGreatDoorRows
import Derived.SevenTiedAt
import Derived.Deep.DeepWitnessRowRef
import Derived.Test.YteihidcjmfckeaaGreatDoorSa
set_option linter.all false
set_option maxRecDepth 1000000
namespace Go.Proofs.YteihidcjmfckeaaGreatDoor
open Go
theorem restOk:(Tryz.prog.globals.all (fun g=>decide (g.type<Tryz.prog.types.size))&&Tryz.prog.funcs.all (fun f=>f.params.all fun t=>decide (t<Tryz.prog.types.size)))=true:=by kernel_rfl
end Go.Proofs.YteihidcjmfckeaaGreatDoor
namespace Go.Proofs.YteihidcjmfckeaaGreatDoor
open Go
theorem fullRows:((List.range Tryz.prog.types.size).all fun t=>match Tryz.prog.underlying t with | some (.slice e)=>decide (0<Tryz.prog.cellsOf e) | _=>true)=true:=by kernel_rfl
end Go.Proofs.YteihidcjmfckeaaGreatDoor
namespace Go.Proofs.YteihidcjmfckeaaGreatDoor
open Go.ChangeShapes Go.WideShapes Go.RowKit Go.Abs Go
theorem own:ownKnob Tryz.prog.godebug=none:=by kernel_rfl
theorem tabSp {W:World} {laid:List (String × DataW Unit)} (hmem:("strings.asciiSpace",Lib.tabData .u8 Lib.asciiSpaceTab)∈laid) (h:laidMet Tryz.prog laid W):Lib.TabIs Tryz.prog W "strings.asciiSpace" .u8 Lib.asciiSpaceTab:=
 kF (g:=6) (by kernel_rfl) (t:=460) (by kernel_rfl) (n:=256) (e:=5) (by kernel_rfl) (by kernel_rfl) (by kernel_rfl) (by kernel_rfl) hmem h
theorem spDatum:(Rows.laid_strings_asciiSpace:DataW Unit)=Lib.tabData .u8 Lib.asciiSpaceTab:=by kernel_rfl
theorem tabPow {W:World} {laid:List (String × DataW Unit)} (hmem:("internal/strconv.uint64pow10",Lib.tabData .u64 Lib.pow10Tab)∈laid) (h:laidMet Tryz.prog laid W):Lib.TabIs Tryz.prog W "internal/strconv.uint64pow10" .u64 Lib.pow10Tab:=
 kF (g:=5) (by kernel_rfl) (t:=470) (by kernel_rfl) (n:=20) (e:=162) (by kernel_rfl) (by kernel_rfl) (by kernel_rfl) (by kernel_rfl) hmem h
theorem powDatum:(Rows.laid_internal_strconv_uint64pow10:DataW Unit)=Lib.tabData .u64 Lib.pow10Tab:=by kernel_rfl
theorem hty:Tryz.checked.prog.types=Tryz.checked.src.types:=by kernel_rfl
theorem specs:Go.ClosedOfChecked.AllSpec Tryz.checked.prog:=Go.ClosedOfChecked.allSpec_of Tryz.checked.wellFormed hty
theorem laidOut:laidOutB Tryz.prog=true:=Go.ClosedOfChecked.laidOutB_of specs restOk
theorem mapsRow:mapsRowed Tryz.prog=true:=Go.ClosedOfChecked.mapsRowed_of specs
theorem u9:Tryz.prog.underlying 9=some .string:=by kernel_rfl
theorem arg_str {H:Type} {enc:TypeId × Value→H} {W:World} {base:Nat} {v:Value} {d:DataW H} {p:List MemPlace}
  (hval:Value.okWide Tryz.prog W .any base 9 v) (h:DataW.Trod enc Tryz.prog W 0 (fun _=>true) true 9 v d p)
  (hw:(d.weights Tryz.prog 9).all (·≤reachBytes)=true):∃ x:S,x.length≤140737488355328∧RepV (κ0 W) W (.sc (.s x)) v∧True:=by
 unfold Value.okWide at hval
 rw [u9] at hval
 obtain ⟨n,hn⟩:=h
 obtain ⟨s,hcs,hx,hs⟩:=DataW.trod_string u9 hn
 cases hx
 have e:v.cells=#[v]:=by
  cases v with
  | agg cs =>
    exfalso
    have hval:Cell.okWide Tryz.prog W Reach.any base 9 (Value.agg cs):=hval
    unfold Cell.okWide at hval
    rw [u9] at hval
    have hval:Cell.ok Tryz.prog W Reach.any base 9 (Value.agg cs):=by simpa using hval
    unfold Cell.ok at hval
    rw [u9] at hval
    simp at hval
  | _=>rfl
 have hv:v=.string s:=by
  rw [e] at hcs
  simpa using hcs
 subst hv
 refine ⟨s.data.toList,?_,?_,trivial⟩
 ·simp only [DataW.weights,List.all_cons,List.all_nil,Bool.and_true] at hw
  have:=of_decide_eq_true hw
  simp only [reachBytes] at this
  omega
 ·have:=RepV.sc (κ:=κ0 W) (w:=W) (.s s.data.toList)
  simpa only [Sc.val,show (⟨s.data.toList.toArray⟩:ByteArray)=s by simp] using this
def noS:Value:=.string ⟨#[]⟩
theorem py {w:World} {g:Nat} {t:TypeId} {zero:Array Value} (h:w.ShapedOpen Tryz.prog) (hg:g<Tryz.prog.globals.size)
  (h0:((begin Tryz.prog (fun _ _=>0) default).world.heap[g]?).bind Obj.row? = some (zero,t)) (hz:zero.size=1)
  (hb:Tryz.prog.buildable t=true) (hc:Tryz.prog.cellTypes Tryz.prog.depth t=some [t]) (hu:Tryz.prog.underlying t=some (.int .i64)):∃ p,w.cell? ⟨g,0,none⟩=some (.int .i64 p):=by
 obtain ⟨cs,hh,hs,hr⟩:=h.1 g zero t hg h0
 obtain ⟨ts,hts,_,hall⟩:=hr hb
 rw [hc] at hts
 cases hts
 have h1:0<cs.size:=by omega
 obtain ⟨u,hu',hok⟩:=hall 0 cs[0] (by simp [h1])
 have:u=t:=by simpa using hu'.symm
 subst this
 have hcell:w.cell? ⟨g,0,none⟩=some cs[0]:=by simp [World.cell?,hh,h1]
 rw [hcell]
 unfold Cell.ok at hok
 rw [hu] at hok
 cases hv:cs[0]<;>rw [hv] at hok<;>first | (obtain ⟨rfl,_⟩:=hok;exact ⟨_,rfl⟩) | simp at hok
theorem maxLen' {W:World} (h:W.ShapedOpen Tryz.prog):∃ m,W.cell? ⟨0,0,none⟩=some (.int .i64 m):=
 py (zero:=#[.int .i64 0]) (t:=3) h (of_decide_eq_true (by kernel_rfl)) (by kernel_rfl) rfl (by kernel_rfl) (by kernel_rfl) (by kernel_rfl)
end Go.Proofs.YteihidcjmfckeaaGreatDoor
namespace Go.Abs
open Go
theorem trod_iface {H:Type} {enc:TypeId × Value→H} {P:Program} {w:World} {base:Nat} {sp:Nat→Bool} {held:Bool} {fuel:Nat} {t:TypeId} {d:TypeDesc} (hu:P.underlying t=some d) (hd:∃ m,d=.interface m)
  {cs:List Value} {x:DataW H × List MemPlace} (h:DataW.trod enc P w base sp held fuel t cs=some x):∃ ev,cs=[ev]∧(ev=.nilIface∨∃ te pe,ev=.iface te pe):=by
 obtain ⟨m,rfl⟩:=hd
 cases fuel with
 | zero=>simp [DataW.trod] at h
 | succ n =>
   unfold DataW.trod at h
   rw [hu] at h
   rcases cs with _ | ⟨v,_ | ⟨v',r⟩⟩
   ·simp at h
   ·cases v<;>first | exact ⟨_,rfl,.inl rfl⟩ | exact ⟨_,rfl,.inr ⟨_,_,rfl⟩⟩ | simp at h
   ·cases v<;>simp at h
theorem kS {P:Program} {W:World} {laid:List (String × DataW Unit)} {name:String} {d:DataW Unit} {g:Nat} {t:TypeId}
  (hg:P.globalNamed name=some g) (hty:(P.globals[g]?).map (·.type)=some t) (hb:(match P.underlying t with | some (.interface _)=>true | _=>false)=true)
  (hmem:(name,d)∈laid) (h:laidMet P laid W):Go.Proofs.ErrV W g:=by
 obtain ⟨u,ht,hu⟩:∃ u,P.underlying t=some u∧∃ m,u=.interface m:=by
  split at hb
  ·rename_i m hm;exact ⟨_,hm,m,rfl⟩
  ·cases hb
 obtain ⟨ps,hL,_⟩:=h
 have go:∀ (L:List (String × DataW Unit)) (ps:List MemPlace),DataW.LaidVars P W L ps→(name,d)∈L→Go.Proofs.ErrV W g:=by
  intro L
  induction L with
  | nil=>intro ps _ h;simp at h
  | cons x r ih =>
    intro ps h hm
    obtain ⟨g',t',cs,fuel,p,q,hg',ht',hvar,hd,hr,_⟩:=h
    rcases List.mem_cons.1 hm with rfl | hm
    ·obtain rfl:=Option.some.inj (hg.symm.trans hg')
     obtain rfl:=Option.some.inj (hty.symm.trans ht')
     obtain ⟨ev,hc,he⟩:=trod_iface ht hu hd
     refine ⟨ev,?_,he⟩
     unfold World.var? at hvar
     rw [hg,Option.bind_some] at hvar
     split at hvar
     ·rename_i cs' _ _ hh
      obtain rfl:=Option.some.inj hvar
      have hc:cs'=#[ev]:=by rw [← hc]
      subst hc
      simp [World.cell?,hh]
     ·cases hvar
    ·exact ih q hr hm
 exact go laid ps hL hmem
end Go.Abs
namespace Go.Proofs.YteihidcjmfckeaaGreatDoor
open Go.ChangeShapes Go.WideShapes Go.RowKit Go.Abs Go
theorem errV1 {W:World} {laid:List (String × DataW Unit)} (hmem:("strconv.ErrSyntax",Rows.laid_strconv_ErrSyntax)∈laid) (h:laidMet Tryz.prog laid W):ErrV W 1:=
 kS (by kernel_rfl) (t:=135) (by kernel_rfl) (by kernel_rfl) hmem h
theorem errV2 {W:World} {laid:List (String × DataW Unit)} (hmem:("strconv.ErrRange",Rows.laid_strconv_ErrRange)∈laid) (h:laidMet Tryz.prog laid W):ErrV W 2:=
 kS (by kernel_rfl) (t:=135) (by kernel_rfl) (by kernel_rfl) hmem h
end Go.Proofs.YteihidcjmfckeaaGreatDoor
