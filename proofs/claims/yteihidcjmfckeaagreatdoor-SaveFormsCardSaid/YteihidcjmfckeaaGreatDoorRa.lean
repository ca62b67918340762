/- How the arguments read: from the row's reader to the machine's data. -/
import Derived.Test.YteihidcjmfckeaaGreatDoorMe
import Derived.ChangeArms
import Derived.ChangeVars
import Derived.ReadAgain
import GoSem.ClaimJoined
import Derived.ProofKit
import Derived.OpenShut
import Derived.Deep.DeepHandedRow
import Derived.Lib.LaidTab
import Derived.LaidMore
import Derived.Stop.Joined
import Derived.JoinedOf
import Derived.LaidLaws
set_option linter.all false
namespace Go.Abs
open Go
def oldI (w:World):Nat→Nat→Prop:=fun b _=>b<w.heap.size
def Cells (w:World) (ds:List Data) (cs:List Value):Prop:=cs.length=ds.length∧∀ j dd,ds[j]? = some dd→RepD (oldI w) w dd (cs.getD j undef)
section
variable {H:Type} {enc:TypeId × Value→H} {P:Program} {w:World} {bk:DataW H→Nat}
theorem Cells.one {d:Data} {v:Value} (h:Cells w [d] [v]):RepD (oldI w) w d v:=h.2 0 d rfl
end
end Go.Abs
namespace Go.Abs
open Go
section
variable {H:Type} {enc:TypeId × Value→H} {P:Program} {w:World} {bk:DataW H→Nat}
end
end Go.Abs
namespace Go.Abs
open Go Go.RowKit Go.ChangeShapes Go.WideShapes
def κ0 (W:World):Gh:=⟨oldI W,fun _=>False,fun _=>False,fun _=>(0,0),fun _=>(0,0,0)⟩
theorem ctr_enter {P:Program} {W:World} {f:FuncId} {avs:List AV} {args:Array Value} (h:Ctr P W f avs [] (.sc (.b true)) []) (hsz:args.size=avs.length) (htok:aO avs []=[])
  (hv:∀ (j:Nat) (v:AV),avs[j]? = some v→RepV (κ0 W) W v (args.getD j undef)):Calls P f args W fun e W'=>e=.returned (.bool true)∧Below W.heap.size W W':=by
 have nb:∀ i l,look (aA avs []) (.b i)≠some (.bx l):=by
  intro i l hh;rw [aK] at hh;simp at hh
 have nt:∀ k,look (aA avs []) (.t k)≠some (.tk true):=by
  intro k hh;rw [bo,htok] at hh;simp at hh
 have no:∀ b o,¬ Own (κ0 W) (aA avs []) b o:=by
  rintro b o (⟨i,l,hl,_⟩ | ⟨k,hk,_⟩)
  ·exact nb _ _ hl
  ·exact nt _ hk
 refine (h.2 (κ0 W) W args hsz (fun b hb=>hb.elim) (fun k hk=>hk.elim) ⟨?_,fun b l hl=>absurd hl (nb _ _),fun b b' l l' hl=>absurd hl (nb _ _),fun k hk=>absurd hk (nt _),fun k k' hk=>absurd hk (nt _),fun k i l hk=>absurd hk (nt _),fun b o ho=>absurd ho (no b o),fun b o hI=>hI,fun b o hI=>hI,Nat.le_refl _,fun b _=>rfl,rfl,rfl,rfl,rfl⟩).mono ?_
 ·intro n v hn
  rw [bJ] at hn
  cases hj:avs[n]? with
  | none=>rw [hj] at hn;cases hn
  | some u =>
    rw [hj] at hn
    simp only [Option.map_some,Option.some.injEq,Cell.av.injEq] at hn
    subst hn
    exact hv n u hj
 ·rintro e W' ⟨v,κ',rfl,r,s⟩
  have hval:=r.slots 0 (.sc (.b true)) (by unfold aV;rw [bJ];rfl)
  have e1:v=.bool true:=by have:=hval.sc_inv;simpa [Sc.val] using this
  subst e1
  exact ⟨rfl,s.chg.os,s.chg.tape,s.chg.output,s.chg.size,fun b hb=>s.chg.same b hb fun o=>no b o⟩
theorem kept_below {W W':World} (h:Below W.heap.size W W') (may:MemPlace→Prop):W.keptBut W' may:=by
 refine ⟨h.os,h.output,fun i hi=>?_⟩
 rw [h.block i hi]
 cases W.heap[i]? with
 | none=>trivial
 | some o => cases o with
   | cells c t fr=>exact ⟨rfl,rfl,rfl,fun _ _=>rfl⟩
   | map es clock=>exact .inr ⟨rfl,rfl⟩
   | _=>rfl
section
variable {H:Type} {enc:TypeId × Value→H} {P:Program}
theorem args_same {W W':World} (hb:Below W.heap.size W W') (hl:laidOutB P=true) (hm:mapsRowed P=true) (hz:((List.range P.types.size).all fun t=>match P.underlying t with | some (.slice e)=>decide (0<P.cellsOf e) | _=>true)=true)
  {ts:List TypeId} (hts:∀ t,t∈ts→t<P.types.size) {vs:List Value} {ds:List (DataW H)} {ps:List MemPlace} (h:DataW.TrodAll enc P W 0 (fun _=>true) true ts vs ds ps) :
  DataW.TrodAll enc P W' 0 (fun b=>decide (b<W.heap.size)) true ts vs ds ps:=by
 have hlt:=h.lt
 have carry:∀ {ts:List TypeId} {vs:List Value} {ds:List (DataW H)} {ps:List MemPlace},DataW.TrodAll enc P W 0 (fun _=>true) true ts vs ds ps→(∀ p,p∈ps→p.block<W.heap.size)→DataW.TrodAll enc P W' 0 (fun _=>true) true ts vs ds ps:=by
  intro ts
  induction ts with
  | nil=>intro vs ds ps h _;cases vs<;>cases ds<;>first | exact h | exact h.elim
  | cons t ts ih =>
    intro vs ds ps h hp
    cases vs with
    | nil=>cases ds<;>exact h.elim
    | cons v vs =>
      cases ds with
      | nil=>exact h.elim
      | cons d ds =>
        obtain ⟨p,q,⟨n,h1⟩,h2,rfl⟩:=h
        refine ⟨p,q,⟨n,DataW.trod_carry n _ _ _ h1 fun x hx=>?_⟩,ih h2 (fun x hx=>hp x (List.mem_append_right _ hx)),rfl⟩
        have hx':=hp x (List.mem_append_left _ hx)
        cases x with
        | cell b o=>show World.cell? _ _=World.cell? _ _;simp only [World.cell?];rw [hb.block b hx']
        | map b=>exact hb.block b hx'
 exact (carry h hlt).respare (kids_rows hl hm) (slices_full_of P hz) hts fun p hp=>by simpa using hlt p hp
theorem law_post {fn:Func} {spec:ChangeSpec} {W W':World} {args:Array Value} {ds:List (DataW H)} {before:List MemPlace} (hl:laidOutB P=true) (hm:mapsRowed P=true) (hz:((List.range P.types.size).all fun t=>match P.underlying t with | some (.slice e)=>decide (0<P.cellsOf e) | _=>true)=true)
  (hts:∀ t,t∈fn.params.toList→t<P.types.size) {tb:TypeId} (hr:fn.resultTypes=#[tb]) (htb:P.underlying tb=some .bool) (hvars:spec.vars=[]) (hspec:spec.fn H ds={ results:=[.lit (.bool true)],args:=ds })
  (hW:DataW.Whole enc P fn.params.toList spec.vars false W args.toList ds [] before) (hb:Below W.heap.size W W'):spec.post enc P fn false true false false W args (.bool true) W':=by
 have hW':=hW
 obtain ⟨p,q,hA,hV,rfl,_,_⟩:=hW
 refine ⟨ds,[],p++q,[],p,[],hW',?_,?_,?_,kept_below hb _,fun h=>by cases h⟩
 ·rw [hr,List.append_nil,hspec]
  exact trodAll_mk1 (shut_bool htb true)
 ·rw [List.append_nil,hspec]
  exact args_same hb hl hm hz hts hA
 ·rw [List.append_nil,hspec,hvars]
  rfl
theorem kF {W:World} {laid:List (String × DataW Unit)} {name:String} {k:IntKind} {zs:List Int} {g:Nat} {t e:TypeId} {n:Nat}
  (hg:P.globalNamed name=some g) (hty:(P.globals[g]?).map (·.type)=some t) (ht:P.underlying t=some (.array n e)) (he:P.underlying e=some (.int k)) (hce:P.cellsOf e=1) (hct:P.cellsOf t=n)
  (hmem:(name,Lib.tabData k zs)∈laid) (h:laidMet P laid W):Lib.TabIs P W name k zs:=by
 obtain ⟨ps,hL,_⟩:=h
 have go:∀ (L:List (String × DataW Unit)) (ps:List MemPlace),DataW.LaidVars P W L ps→(name,Lib.tabData k zs)∈L→Lib.TabIs P W name k zs:=by
  intro L
  induction L with
  | nil=>intro ps _ h;simp at h
  | cons x r ih =>
    intro ps h hm
    obtain ⟨g',t',cs,fuel,p,q,hg',ht',hvar,hd,hr,_⟩:=h
    rcases List.mem_cons.1 hm with rfl | hm
    ·obtain rfl:=Option.some.inj (hg.symm.trans hg')
     obtain rfl:=Option.some.inj (hty.symm.trans ht')
     unfold Lib.TabIs
     rw [hvar,← Lib.cells_of_tab ht he hce hct hd]
    ·exact ih q hr hm
 exact go laid ps hL hmem
end
end Go.Abs
namespace Go.Reach
open Go
structure Row where
 lead:List Nat
 unf:Bool
 inp:Option String
 gls:List Nat
 rd:Option String
def aJ (P:Program) (g:FuncId):Row where
 lead:=(P.funcs[g]?).elim [] P.leadsTo
 unf:=(P.funcs[g]?).any fun fn=>match fn.body with | some c=>c.unfollowed | none=>entryCalls fn
 inp:=(P.funcs[g]?).bind fun fn=>if fn.ours||fn.body.isNone||fn.name == "runtime.NumGoroutine" then some fn.name else none
 gls:=((P.funcs[g]?).bind (·.body)).elim [] Code.globalsNamed
 rd:=(P.funcs[g]?).bind fun fn=>if fn.body.isNone then entryReads.lookup fn.name else none
def via (T:Nat→List Nat):Nat→List Nat→Nat→List Nat→List Nat
 | 0,_,_,acc=>acc.reverse
 | _+1,[],_,acc=>acc.reverse
 | n + 1, f :: todo, m, acc => match Nat.beq (Nat.land 1 (Nat.shiftRight m f)) 0 with
   | false=>via T n todo m acc
   | true=>via T n (T f++todo) (Nat.lor m (Nat.shiftLeft 1 f)) (f::acc)
theorem bit_beq (m f:Nat):Nat.beq (Nat.land 1 (Nat.shiftRight m f)) 0=!Nat.testBit m f:=by
 have e:Nat.testBit m f=(1 &&& (m >>> f) != 0):=rfl
 rw [e]
 show Nat.beq (1 &&& (m >>> f)) 0=_
 cases h:(1 &&& (m >>> f)) with
 | zero=>simp
 | succ k=>rfl
theorem via_eq {P:Program} {T:Nat→List Nat} (hT:∀ g,(P.funcs[g]?).elim [] P.leadsTo=T g):∀ (n:Nat) (todo:List Nat) (m:Nat) (seen:List Nat),(∀ x,Nat.testBit m x=seen.contains x) →
  P.closureVia n todo seen=via T n todo m seen
 | 0,_,_,_,_=>by simp [Program.closureVia,via]
 | _+1,[],_,_,_=>by simp [Program.closureVia,via]
 | n + 1, f :: todo, m, seen, h => by
   rw [Program.closureVia,via,bit_beq,h f]
   cases hc:seen.contains f with
   | true =>
     simp only [Bool.not_true,if_true]
     exact via_eq hT n todo m seen h
   | false =>
     simp only [Bool.not_false,Bool.false_eq_true,if_false]
     rw [hT f]
     refine via_eq hT n _ _ _ fun x=>?_
     show Nat.testBit (m ||| (1 <<< f)) x=_
     rw [Nat.testBit_or,h x,List.contains_cons,Nat.one_shiftLeft,Nat.testBit_two_pow]
     rw [Bool.or_comm]
     congr 1
     by_cases hx:f=x
     ·subst hx;simp
     ·have:x≠f:=fun e=>hx e.symm
      simp [hx,this]
theorem nU {α:Type} (F:Nat→α) (n g:Nat):((List.range n).map F)[g]? = if g<n then some (F g) else none:=by
 by_cases h:g<n
 ·simp [h]
 ·simp [h]
def at' (rows:List Row) (g:Nat):Row:=(rows[g]?).getD ⟨[],false,none,[],none⟩
theorem rowOf_out {P:Program} {g:Nat} (h:¬ g<P.funcs.size):aJ P g=⟨[],false,none,[],none⟩:=by
 have e:P.funcs[g]? = none:=by simp;omega
 simp [aJ,e]
theorem at_eq {P:Program} {rows:List Row} (h:(List.range P.funcs.size).map (aJ P)=rows) (g:Nat):at' rows g=aJ P g:=by
 unfold at'
 rw [← h,nU]
 by_cases hg:g<P.funcs.size
 ·rw [if_pos hg];rfl
 ·rw [if_neg hg,rowOf_out hg];rfl
theorem fuel_eq {P:Program} {rows:List Row} (h:(List.range P.funcs.size).map (aJ P)=rows):(P.funcs.toList.map fun g=>(P.leadsTo g).length+1).sum=(rows.map fun r=>r.lead.length+1).sum:=by
 rw [← h,List.map_map]
 congr 1
 apply List.ext_getElem
 ·simp
 ·intro i h1 h2
  have hi:i<P.funcs.size:=by simpa using h1
  simp [aJ,hi]
theorem closure_eq {P:Program} {rows:List Row} (h:(List.range P.funcs.size).map (aJ P)=rows) {f:Nat} {L:List Nat}
  (hL:via (fun g=>(at' rows g).lead) (1+(rows.map fun r=>r.lead.length+1).sum) [f] 0 []=L):P.closure f=L:=by
 unfold Program.closure
 rw [fuel_eq h,← hL]
 exact via_eq (fun g=>by rw [at_eq h];rfl) _ _ _ _ (fun x=>by simp)
theorem inPlace_eq {P:Program} {rows:List Row} (h:(List.range P.funcs.size).map (aJ P)=rows) {f:Nat} {L:List Nat} (hL:P.closure f=L):P.inPlace f=L.filterMap fun g=>(at' rows g).inp:=by
 unfold Program.inPlace
 rw [hL]
 simp only [at_eq h]
 rfl
theorem nK {P:Program} {rows:List Row} (h:(List.range P.funcs.size).map (aJ P)=rows) {f:Nat} {L:List Nat} (hL:P.closure f=L):P.unfollowed f=L.any fun g=>(at' rows g).unf:=by
 unfold Program.unfollowed
 rw [hL]
 simp only [at_eq h]
 rfl
theorem recurses_eq {P:Program} {f:Nat} (h:P.unfollowed f=true):P.recurses f=true:=by
 unfold Program.recurses
 rw [h,Bool.true_or]
theorem o7 {P:Program} {rows:List Row} (h:(List.range P.funcs.size).map (aJ P)=rows) {f:Nat} {L:List Nat} (hL:P.closure f=L) :
  P.varsNamed f=(((L.flatMap fun g=>(at' rows g).gls).eraseDups).filterMap (fun g=>(P.globals[g]?).map (·.name))++L.filterMap fun g=>(at' rows g).rd).eraseDups:=by
 unfold Program.varsNamed
 rw [hL]
 simp only [at_eq h]
 rfl
theorem az {F:Nat→Row} {a n m:Nat} {x y:List Row} (hx:(List.range' a n).map F=x) (hy:(List.range' (a+n) m).map F=y):(List.range' a (n+m)).map F=x++y:=by
 rw [← hx,← hy,← List.map_append,List.range'_append_1]
end Go.Reach
namespace Go.Reach
open Go
theorem joined_mk {P:Program} {f:FuncId} {fn:Func} {s:ChangeSpec} {c:OpenClaim} (hA:c.wf (OpenSpec.ofChange s)=true) (h1:laidOutB P=true) (h2:mapsRowed P=true)
  (hB:(fn.params.all (P.readableRec ·)&&namedTie P c.named s.vars&&(c.stops == [])&&(P.stops == [])&&(c.knobs == [])&&(P.stopKnobs == []))=true)
  (h3:(c.inPlace == P.inPlace f)=true) (h4:(c.unfollowed == P.unfollowed f)=true) (h5:(c.recurses == P.recurses f)=true) (h6:(c.named == P.varsNamed f)=true)
  (hC:((c.maps == (fn.params.toList++s.plain.varTypes P).any (P.mapsRec ·))&&(c.ifaces == (fn.params.toList++s.plain.varTypes P).any (P.ifacesRec ·))&&(c.mapsOut == P.mapsAmong fn.resultTypes.toList) &&
   (c.loops == (fn.params.toList++s.plain.varTypes P).any (P.loopsFrom ·))&&(c.wideKeys == (fn.params.toList++s.plain.varTypes P++fn.resultTypes.toList).any (P.wideKeysFrom ·)) &&
   s.vars.all (P.varReadable ·)&&fn.resultTypes.all (fun t=>P.readableRec t&&decide (t<P.types.size))&&(c.ifacesOut == fn.resultTypes.toList.any (P.ifacesRec ·))&&(c.loopsOut == fn.resultTypes.toList.any (P.loopsFrom ·)))=true)
  (h7:(c.plainKeys == P.plainKeys)=true) (h8:P.stopsHeard=true) (h9:P.mayEnter=true)
  (hD:(c.shortTexts.isNone&&(c.lifted == P.liftsFinal)&&(P.make == some c.make)&&(c.kinds == (if c.domain.isEmpty then [] else fn.params.toList.map fun t=>match P.underlying t with | some (.int k)=>some k | _=>none))&&(c.pinned == c.pinnedBy) &&
   (c.veiled == (fn.params.toList++s.plain.varTypes P++fn.resultTypes.toList).any (P.veiledRec ·))&&c.veiledFits P fn.params.toList (fn.params.toList++s.plain.varTypes P++fn.resultTypes.toList))=true):joinedFacts P f fn s c=true:=by
 unfold joinedFacts
 rw [hA,h1,h2,h3,h4,h5,h6,h7,h8,h9]
 simp only [Bool.and_eq_true] at hB hC hD ⊢
 obtain ⟨⟨⟨⟨⟨b1,b2⟩,b3⟩,b4⟩,b5⟩,b6⟩:=hB
 obtain ⟨⟨⟨⟨⟨⟨⟨⟨c1,c2⟩,c3⟩,c4⟩,c5⟩,c6⟩,c7⟩,c8⟩,c9⟩:=hC
 obtain ⟨⟨⟨⟨⟨⟨d1,d2⟩,d3⟩,d4⟩,d5⟩,d6⟩,d7⟩:=hD
 and_intros<;>first | rfl | trivial | assumption
end Go.Reach
namespace Go.Reach
open Go
def ez (RL:List (Nat × Nat)):List MemPlace:=RL.flatMap fun x=>MemPlace.row ⟨x.1,0,none⟩ x.2
def rowChk (P:Program) (w:World) (x:Nat × Nat):Bool:=match w.heap[x.1]? with
 | some (.cells C _ (0,0))=>C.toList.all fun v=>match v with | .iface u y=>Value.okWideB P w u y | _=>true
 | _=>false
theorem pm {b n:Nat} {p:MemPlace} (h:p∈MemPlace.row ⟨b,0,none⟩ n):∃ o,p=.cell b o:=by
 simp only [MemPlace.row,List.mem_map] at h
 obtain ⟨i,_,rfl⟩:=h
 exact ⟨_,rfl⟩
theorem row_nodup (b n:Nat):(MemPlace.row ⟨b,0,none⟩ n).Nodup:=by
 unfold MemPlace.row
 unfold List.Nodup
 rw [List.pairwise_map]
 exact List.Pairwise.imp (fun hne e=>hne (by simpa using e)) (List.nodup_range (n:=n))
theorem gF:∀ {RL:List (Nat × Nat)},(RL.map (·.1)).Nodup→(ez RL).Nodup
 | [],_=>by simp [ez]
 | x :: r, h => by
   rw [List.map_cons,List.nodup_cons] at h
   have ih:=gF h.2
   show (MemPlace.row ⟨x.1,0,none⟩ x.2++ez r).Nodup
   rw [List.nodup_append]
   refine ⟨row_nodup _ _,ih,fun p hp q hq e=>?_⟩
   subst e
   obtain ⟨o,rfl⟩:=pm hp
   simp only [ez,List.mem_flatMap] at hq
   obtain ⟨y,hy,hq⟩:=hq
   obtain ⟨o',he⟩:=pm hq
   have he':x.1=y.1:=by injection he
   exact h.1 (List.mem_map.2 ⟨y,hy,he'.symm⟩)
theorem pw {P:Program} {w:World} {RL:List (Nat × Nat)} (h:RL.all (rowChk P w)=true):laidRowsB P w (ez RL)=true:=by
 unfold laidRowsB
 rw [List.all_eq_true]
 intro p hp
 simp only [ez,List.mem_flatMap] at hp
 obtain ⟨x,hx,hp⟩:=hp
 obtain ⟨o,rfl⟩:=pm hp
 have:=List.all_eq_true.1 h x hx
 unfold rowChk at this
 split at this
 ·rename_i C t hC
  have hcell:w.cell? ⟨x.1,o,none⟩=C[o]?:=by simp [World.cell?,hC]
  simp only [hC,hcell,Bool.true_and]
  cases hv:C[o]? with
  | none=>rfl
  | some v =>
    have hm:v∈C.toList:=by
     have:=Array.mem_of_getElem? hv
     simpa using this
    have:=List.all_eq_true.1 this v hm
    cases v<;>first | rfl | exact this
 ·cases this
end Go.Reach
