/- The program's trees as Lean data, and how they are spelt in the machine. -/
import Derived.Test.YteihidcjmfckeaaGreatDoorMc
import Derived.Below
import Derived.Lib.AtoiErrMem
import Derived.Test.YteihidcjmfckeaaGreatDoorSh
import Derived.Test.YteihidcjmfckeaaGreatDoorProg
import Derived.Test.YteihidcjmfckeaaGreatDoorMb
import Derived.Shelf.SlicesE.Clone
import Derived.RangeFuncNested
import Derived.RangeFuncBound
import Derived.RangeFuncCalls
import Derived.RangeFuncLeaves
import Derived.RangeFuncBox
import Derived.Shelf.Abstract
import Derived.Shelf.RegionOpen
import Derived.WalkKit
import Derived.OwnWalkIn
import Derived.TacticsInMore
import Derived.LoopNIn
import Derived.LoopIn
import Derived.BigFrameIn
import Derived.Deep.MidRow
set_option linter.all false
set_option maxRecDepth 1000000
set_option maxHeartbeats 16000000
namespace Go.Abs
open Go
abbrev S:=List UInt8
inductive Exp | mk (op nm:S) (n:Int) (args:List Exp)
mutual
def Exp.d:Exp→List Data | .mk a b n l=>[.sc (.s a),.sc (.s b),.sc (.i .i64 n),.lst 4 (gq l)]
def gq:List Exp→List (List Data) | []=>[] | x::r=>x.d::gq r
end
def eE (x:Exp):AV:=.agg (x.d.map aQ)
def eL (l:List Exp):AV:=.sl 4 (gq l) .none
theorem aU:∀ l,(gq l).length=l.length | []=>rfl | _::r=>by simp [gq,aU r]
theorem oN:∀ l:List Exp,gq l=l.map Exp.d | []=>rfl | x::r=>by simp [gq,oN r]
theorem kp {l:List Exp} {i:Nat} {x:Exp} (h:l[i]? = some x):(gq l)[i]? = some x.d:=by rw [oN];simp [h]
theorem ak {P:Program} {W0:World} {an:Ann} {an':FuncId→Ann} (hm:P.follows .mixedOrders=true) {f:FuncId} {F:Fn} (hF:aI P an' f=some F) (ha':an' f=an) (hG:∀ g cells,an.gl g=some cells→dU W0 g cells)
  {args:List AV} {H:List (List AV)} {res:AV} {H':List (List AV)} (ha:Nat.ble args.length F.nt=true) (hH:Nat.ble (H.length+dK args H) 900=true)
  (h:aD (Ctr P W0) F.ac F.rs args H res H'):Ctr P W0 f args H res H':=by
 subst ha'
 unfold aI at hF
 split at hF
 ·rename_i fn hfn
  split at hF
  ·rename_i c hc
   split at hF
   ·rename_i hcal
    split at hF
    ·rename_i ac rs hac hrs
     cases hF
     exact ctr_of hm hG (fun _ _ _ _ _ h=>h) hfn hc hcal hac hrs ha hH h
    ·cases hF
   ·cases hF
  ·cases hF
 ·cases hF
end Go.Abs
namespace Go.Abs
open Go
theorem ap {A B:Prop} {t:Bool} (h1:t=false→A) (h2:t=true→B):@Bool.rec (fun _=>Prop) A B t:=by
 cases t with
 | false=>exact h1 rfl
 | true=>exact h2 rfl
theorem fin_sc {σ:Log} {c c':Sc} (h:c'=c):FinOK σ (.sc c') 0 0 (.sc c) []:=by subst h;exact ⟨⟨[],[],⟨rfl,rfl,rfl,rfl⟩,rfl,trivial,trivial⟩⟩
theorem aE {σ:Log} {c c':Bool} (h:c'=c):FinOK σ (.sc (.b c')) 0 0 (.sc (.b c)) []:=fin_sc (by rw [h])
theorem eU {σ:Log} {c c':Int} {k:IntKind} (h:c'=c):FinOK σ (.sc (.i k c')) 0 0 (.sc (.i k c)) []:=fin_sc (by rw [h])
theorem fin_s {σ:Log} {c c':S} (h:c'=c):FinOK σ (.sc (.s c')) 0 0 (.sc (.s c)) []:=fin_sc (by rw [h])
def JJ {α:Type} (N:Nat) (μ:α→Nat) (st:α→Log) (I:α→Prop) (m n:Nat) (σ:Log):Prop:=∃ a,(m=μ a∧n=N∧I a)∧σ=st a
theorem nxt {α:Type} {N:Nat} {μ:α→Nat} {st:α→Log} {I:α→Prop} {m:Nat} {σ':Log} (a:α) (h:μ a<m∧I a) (hle:Le σ' N (st a)):∃ m' n'' σ'',m'<m∧Le σ' n'' σ''∧JJ N μ st I m' n'' σ'':=
 ⟨_,_,_,h.1,hle,a,⟨rfl,rfl,h.2⟩,rfl⟩
theorem LoopP.st {f:Nat→Log→(Ex→Nat→Log→Prop)→Prop} {Q:Ex→Nat→Log→Prop} {nx:Nat} {σ:Log} {α:Type} (N:Nat) (μ:α→Nat) (st:α→Log) (I:α→Prop) (a0:α) (h0:Le σ N (st a0)) (i0:I a0)
  (hk:∀ a,I a→f N (st a) fun e n' σ'=>match e with
   | .n=>∃ m' n'' σ'',m'<μ a∧Le σ' n'' σ''∧JJ N μ st I m' n'' σ''
   | .e i=>Q (.e i) n' σ'
   | .r=>Q .r n' σ'):LoopP f Q nx σ:=
 .inv (JJ N μ st I) ⟨μ a0,N,st a0,h0,a0,⟨rfl,rfl,i0⟩,rfl⟩ (by
  rintro m n σ ⟨a,⟨rfl,rfl,ia⟩,rfl⟩
  exact hk a ia)
theorem aN {σ σ':Log} {N:Nat} (h1:Nat.ble 1000 N=true) (h2:bY N σ'=true) (h3:leP [] σ σ'):Le σ N σ':=⟨[],⟨rfl,by simp,h1,h2⟩,h3⟩
end Go.Abs
namespace Go.Abs
open Go
mutual
def Exp.ok:Exp→Prop | .mk a b n l=>(a.length≤140737488355328∧b.length≤140737488355328∧eK .i64 n)∧l.length≤140737488355328∧ll l
def ll:List Exp→Prop | []=>True | x::r=>x.ok∧ll r
end
theorem oksE_get:∀ {l:List Exp} {k:Nat} {x:Exp},ll l→l[k]? = some x→x.ok
 | [],_,_,_,h=>by simp at h
 | y::r,0,x,h,hx=>by simp at hx;subst hx;exact h.1
 | y::r,k+1,x,h,hx=>oksE_get (k:=k) h.2 (by simpa using hx)
theorem aR {α:Type} {l:List α} {k:Nat} {x:α} (h:l[k]? = some x):l.drop k=x::l.drop (k+1):=by
 obtain ⟨h1,h2⟩:=List.getElem?_eq_some_iff.1 h
 rw [List.drop_eq_getElem_cons h1,h2]
theorem aB {α:Type} {l:List α} {k:Nat} (h:k<l.length):∃ x,l[k]? = some x:=⟨_,List.getElem?_eq_getElem h⟩
theorem size_get {l:List Exp} {k:Nat} {x:Exp} (h:l[k]? = some x):SizeOf.sizeOf x<SizeOf.sizeOf l:=List.sizeOf_lt_of_mem (List.mem_of_getElem? h)
end Go.Abs
namespace Go.Abs
open Go Go.RowKit
def gP (κ:Gh) (w w':World):Gh:={ κ with I:=fun b o=>κ.I b o∨(w.heap.size≤b∧b<w'.heap.size) }
theorem ef {P:Program} {W0:World} {f:FuncId} {args:List AV} {res:AV} (hcal:cg P f=true) (hR:aO [res] []=[])
  (h:∀ (κ:Gh) (w:World) (vals:Array Value),vals.size=args.length→RepS W0 κ (aA args []) ⟨vals,[]⟩ w→Calls P f vals w fun e w'=>∃ v,e=.returned v∧Below w.heap.size w w'∧RepV (gP κ w w') w' res v):Ctr P W0 f args [] res []:=by
 refine ⟨hcal,fun κ w vals hsz hdb hdt hs=>(h κ w vals hsz hs).mono ?_⟩
 rintro e w' ⟨v,rfl,hb,hv⟩
 have nb:∀ args i l,look (aA args []) (.b i)≠some (.bx l):=by
  intro args i l hh
  rw [aK] at hh
  simp at hh
 have nt:∀ args k,aO args []=[]→look (aA args []) (.t k)≠some (.tk true):=by
  intro args k ha hh
  rw [bo,ha] at hh
  simp at hh
 have no:∀ args κ b o,aO args []=[]→¬ Own κ (aA args []) b o:=by
  rintro args κ b o ha (⟨i,l,hl,_⟩ | ⟨k,hk,_⟩)
  ·exact nb _ _ _ hl
  ·exact nt _ _ ha hk
 refine ⟨v,gP κ w w',rfl,⟨?_,?_,?_,?_,?_,?_,?_,?_,?_,?_,?_,rfl,?_,?_,?_⟩,⟨⟨hb.os,hb.tape,hb.output,hb.size,fun b hlt _=>hb.block b hlt,?_,?_⟩,?_,?_,?_,?_,?_⟩⟩
 ·intro n u hu
  unfold aV at hu
  rw [bJ] at hu
  cases n with
  | zero =>
    simp at hu;subst hu
    simpa using hv
  | succ n=>simp at hu
 ·intro b l hl;exact absurd hl (nb _ _ _)
 ·intro b b' l l' hl;exact absurd hl (nb _ _ _)
 ·intro k hk;exact absurd hk (nt _ _ hR)
 ·intro k k' hk;exact absurd hk (nt _ _ hR)
 ·intro k i l hk;exact absurd hk (nt _ _ hR)
 ·intro b o ho;exact absurd ho (no _ _ _ _ hR)
 ·rintro b o (hI | ⟨_,h2⟩)
  ·exact Nat.lt_of_lt_of_le (hs.Icell b o hI) hb.size
  ·exact h2
 ·intro b o hlt;exact .inl (hs.old b o hlt)
 ·exact Nat.le_trans hs.size0 hb.size
 ·intro b hlt;exact (hb.block b (Nat.lt_of_lt_of_le hlt hs.size0)).trans (hs.amb b hlt)
 ·exact hb.os.trans hs.os
 ·exact hb.tape.trans hs.tape
 ·exact hb.output.trans hs.output
 ·intro b C ty fz hC
  exact ⟨C,(hb.block b (aC hC)).trans hC,rfl,fun _ _=>rfl⟩
 ·intro b ob hE hn
  exact ⟨ob,(hb.block b (aC hE)).trans hE,hn⟩
 ·intro b o ho;exact absurd ho (no _ _ _ _ hR)
 ·intro b o hI;exact .inl hI
 ·rintro b o (hI | ⟨h1,_⟩)
  ·exact .inl hI
  ·exact .inr (.inr h1)
 ·intro b _ hd;exact ⟨hd,rfl⟩
 ·intro k _ hd;exact ⟨hd,rfl⟩
theorem RepS.arg {W0:World} {κ:Gh} {args:List AV} {H:List (List AV)} {vals:Array Value} {w:World} (hs:RepS W0 κ (aA args H) ⟨vals,[]⟩ w) {n:Nat} {v:AV} (h:args[n]? = some v):RepV κ w v (vals.getD n undef):=
 hs.slots n v (by rw [bJ,h];rfl)
end Go.Abs
namespace Go.Abs
open Go Go.RowKit
def ae (l:List (List UInt8)):List (List Data):=l.map fun s=>[.sc (.s s)]
def bU (l:List (List UInt8)):AV:=.sl 1 (ae l) .none
theorem aa (l:List (List UInt8)):(ae l).length=l.length:=by simp [ae]
theorem bD {l:List (List UInt8)} {i:Nat} {s:List UInt8} (h:l[i]? = some s):(ae l)[i]? = some [.sc (.s s)]:=by simp [ae,h]
theorem RepS.texts {W0:World} {κ:Gh} {σ:Log} {a:Act} {w:World} (hs:RepS W0 κ σ a w) {l:List (List UInt8)} {t:Tok} {v:Value} (h:RepV κ w (.sl 1 (ae l) t) v) :
  (∃ ad c,v=.slice ad 0 c∧l=[])∨∃ b o c,v=.slice (some ⟨b,o,none⟩) l.length c∧l.length≤c∧b<w.heap.size∧∀ (j:Nat) s,l[j]? = some s→w.cell? ⟨b,o+j,none⟩=some (.string ⟨s.toArray⟩):=by
 obtain ⟨hD,_⟩:=h.sl_inv
 generalize hg:ae l=els at hD
 cases hD with
 | nil _ A =>
   have:l=[]:=by cases l with | nil=>rfl | cons=>simp [ae] at hg
   exact .inl ⟨_,_,rfl,this⟩
 | lst _ _ b o cap C hn hlen hI hc hr =>
   subst hg
   rw [aa] at hn
   cases l with
   | nil=>exact .inl ⟨_,_,rfl,rfl⟩
   | cons s r =>
     refine .inr ⟨b,o,cap,by rw [aa],hn,hs.Icell b (o+0 * 1+0) (hI 0 0 (by simp [ae]) (by omega)),fun j x hx=>?_⟩
     have hj:=(List.getElem?_eq_some_iff.1 hx).1
     have h1:=hc j 0 (by rw [aa];exact hj) (by omega)
     have h2:=hr j 0 _ _ (bD hx) rfl
     rw [Nat.mul_one,Nat.add_zero] at h1
     rw [h1]
     generalize C j 0=x at h2
     cases h2 with | sc c=>rfl
theorem lM {vals:Array Value} (h:vals.size=1):vals=#[vals.getD 0 undef]:=by
 apply Array.ext
 ·simpa using h
 ·intro i h1 h2
  obtain rfl:i=0:=by omega
  simp [Array.getD,h]
theorem jm {vals:Array Value} (h:vals.size=2):vals=#[vals.getD 0 undef,vals.getD 1 undef]:=by
 apply Array.ext
 ·simpa using h
 ·intro i h1 h2
  rcases (show i=0∨i=1 by omega) with rfl | rfl<;>simp [Array.getD,h]
end Go.Abs
namespace Go.Abs
open Go Go.RowKit
theorem RepS.tab {P:Program} {W0:World} {κ:Gh} {σ:Log} {a:Act} {w:World} (hs:RepS W0 κ σ a w) {n:String} {cs:Array Value} (h:W0.var? P n=some cs):w.var? P n=some cs:=by
 unfold World.var? at h ⊢
 cases hg:P.globalNamed n with
 | none=>rw [hg] at h;cases h
 | some g =>
   rw [hg] at h
   simp only [Option.bind_some] at h ⊢
   by_cases hlt:g<W0.heap.size
   ·rw [hs.amb g hlt];exact h
   ·rw [Array.getElem?_eq_none (by omega)] at h;cases h
theorem lg {κ:Gh} {w:World} (l:List (List UInt8)) (ty:TypeId):RepV (gP κ w (w.alloc (.cells (l.map fun s=>Value.string ⟨s.toArray⟩).toArray ty))) (w.alloc (.cells (l.map fun s=>Value.string ⟨s.toArray⟩).toArray ty)) (.sl 1 (ae l) .full) (.slice (some ⟨w.heap.size,0,none⟩) l.length l.length):=by
 refine .sl 1 _ .full _ ?_ (fun A m c ev=>by cases ev;rfl)
 have:=RepD.lst (I:=(gP κ w (w.alloc (.cells (l.map fun s=>Value.string ⟨s.toArray⟩).toArray ty))).I) (w:=w.alloc (.cells (l.map fun s=>Value.string ⟨s.toArray⟩).toArray ty)) 1 (ae l) w.heap.size 0 l.length
  (fun i _=>(l.map fun s=>Value.string ⟨s.toArray⟩).getD i undef) (by rw [aa];exact Nat.le_refl _)
  (fun e he=>by simp only [ae,List.mem_map] at he;obtain ⟨s,_,rfl⟩:=he;rfl)
  (fun i j _ _=>.inr ⟨Nat.le_refl _,by rw [show (w.alloc (.cells (l.map fun s=>Value.string ⟨s.toArray⟩).toArray ty)).heap.size=w.heap.size+1 by simp];omega⟩)
  (fun i j hi hj=>by
   rw [aa] at hi
   obtain rfl:j=0:=by omega
   rw [au (heap_alloc_new (w:=w))]
   simp [hi])
  (fun i j e d he hd=>by
   have hi:i<l.length:=by have:=(List.getElem?_eq_some_iff.1 he).1;rwa [aa] at this
   rw [bD (List.getElem?_eq_getElem hi)] at he
   cases he
   cases j with
   | zero =>
     simp at hd;subst hd
     rw [List.getD_eq_getElem?_getD]
     simp only [List.getElem?_map,List.getElem?_eq_getElem hi,Option.map_some,Option.getD_some]
     exact .sc (.s l[i])
   | succ j=>simp at hd)
 rwa [aa] at this
theorem gZ (w:World) (o:Obj):Below w.heap.size w (w.alloc o):=(Below.refl _ w).alloc (Nat.le_refl _) o
end Go.Abs
namespace Go.Abs
open Go.Proofs Go.RowKit
theorem join_ctr (W0:Go.World) (l:List (List UInt8)) (sep:List UInt8) (hl:l.length≤140737488355328) (hlen:(Go.Lib.join l sep).length≤140737488355328) :
  Ctr Tryz.prog W0 29 [bU l,.sc (.s sep)] [] (.sc (.s (Go.Lib.join l sep))) []:=by
 refine ef (by kernel_rfl) rfl fun κ w vals hsz hs=>?_
 have h0:=hs.arg (n:=0) rfl
 have h1:=(hs.arg (n:=1) rfl).sc_inv
 rw [jm hsz]
 generalize vals.getD 0 Go.undef=v0 at h0 ⊢
 rw [h1]
 rcases hs.texts h0 with ⟨ad,c,rfl,rfl⟩ | ⟨b,o,c,rfl,hc,hb,hcell⟩
 ·refine (Tryz.strings_Join_none ad c _ w).mono ?_
  rintro e w' ⟨rfl,rfl⟩
  exact ⟨_,rfl,Below.refl _ _,.sc (.s [])⟩
 ·have em:(l.map fun s=>(⟨s.toArray⟩:ByteArray)).map (·.data.toList)=l:=by simp [Function.comp_def]
  have:=Tryz.strings_Join b o c (l.map fun s=>⟨s.toArray⟩) ⟨sep.toArray⟩ w (by
   intro j x hx
   rw [List.getElem?_map] at hx
   cases hj:l[j]? with
   | none=>rw [hj] at hx;cases hx
   | some s=>rw [hj] at hx;cases hx;exact hcell j s hj) hb (by simpa using hl) (by simpa using hc) (by rw [em];simpa using hlen)
  rw [em] at this
  simp only [List.length_map] at this
  refine this.mono ?_
  rintro e w' ⟨rfl,hw⟩
  exact ⟨_,rfl,hw,.sc (.s _)⟩
end Go.Abs
namespace Go.Abs
open Go.Proofs Go.RowKit
theorem fields_ctr (W0:Go.World) (htab:Go.Lib.TabIs Tryz.prog W0 "strings.asciiSpace" .u8 Go.Lib.asciiSpaceTab) (s:List UInt8) (hl:s.length<4294967281) (ha:∀ b,b∈s→b.toNat<128) :
  Ctr Tryz.prog W0 365 [.sc (.s s)] [] (.sl 1 (ae (Go.Lib.fields s)) .full) []:=by
 refine ef (by kernel_rfl) rfl fun κ w vals hsz hs=>?_
 have h0:=(hs.arg (n:=0) rfl).sc_inv
 rw [lM hsz,h0]
 refine (Tryz.strings_Fields_laid ⟨s.toArray⟩ w (by simpa [ByteArray.size] using hl) (fun j b hb=>ha b (List.mem_of_getElem? (by simpa using hb))) (hs.tab htab)).mono ?_
 rintro e w' ⟨rfl,rfl⟩
 exact ⟨_,rfl,gZ _ _,lg (Go.Lib.fields s) 9⟩
theorem itoa_ctr (W0:Go.World) (htab:Go.Lib.TabIs Tryz.prog W0 "internal/strconv.uint64pow10" .u64 Go.Lib.pow10Tab) (n:Int) (hn:eK .i64 n) :
  Ctr Tryz.prog W0 98 [.sc (.i .i64 n)] [] (.sc (.s (Go.Lib.itoa n))) []:=by
 refine ef (by kernel_rfl) rfl fun κ w vals hsz hs=>?_
 have h0:=(hs.arg (n:=0) rfl).sc_inv
 rw [lM hsz,h0]
 refine (Tryz.strconv_Itoa n hn.1 hn.2 w (hs.tab htab)).mono ?_
 rintro e w' ⟨rfl,k,os,rfl⟩
 refine ⟨_,rfl,⟨rfl,rfl,rfl,by simp [Go.Sort.grow],fun b hb=>?_⟩,.sc (.s _)⟩
 have hb':b<(w.drewN k).heap.size:=hb
 show ((w.drewN k).heap++os)[b]? = _
 rw [Array.getElem?_append_left hb']
 rfl
theorem split_ctr (W0:Go.World) (hm:∃ m,W0.cell? ⟨0,0,none⟩=some (.int .i64 m)) (s sep:List UInt8) (hl:s.length<4294967281) (h1:1≤sep.length) (l:List (List UInt8)) (he:(Go.Lib.splitB ⟨sep.toArray⟩ 0 (Go.Lib.countB ⟨s.toArray⟩ ⟨sep.toArray⟩) ⟨s.toArray⟩).map (·.data.toList)=l) (hn:l.length=Go.Lib.countB ⟨s.toArray⟩ ⟨sep.toArray⟩+1) :
  Ctr Tryz.prog W0 43 [.sc (.s s),.sc (.s sep)] [] (.sl 1 (ae l) .full) []:=by
 refine ef (by kernel_rfl) rfl fun κ w vals hsz hs=>?_
 have h0:=(hs.arg (n:=0) rfl).sc_inv
 have h1':=(hs.arg (n:=1) rfl).sc_inv
 rw [jm hsz,h0,h1']
 obtain ⟨m,hm⟩:=hm
 have hm':w.cell? ⟨0,0,none⟩=some (.int .i64 m):=by
  have hlt:0<W0.heap.size:=by
   cases h:W0.heap[0]? with
   | none=>simp [Go.World.cell?,h] at hm
   | some x=>exact (Array.getElem?_eq_some_iff.1 h).1
  rw [hs.oldcell hlt];exact hm
 refine (Tryz.strings_Split ⟨s.toArray⟩ ⟨sep.toArray⟩ m w (by simpa [ByteArray.size] using hl) hm' (by simpa [ByteArray.size] using h1)).mono ?_
 rintro e w' ⟨rfl,rfl⟩
 have e1:(Go.Lib.splitB ⟨sep.toArray⟩ 0 (Go.Lib.countB ⟨s.toArray⟩ ⟨sep.toArray⟩) ⟨s.toArray⟩).map Go.Value.string=l.map fun s=>Go.Value.string ⟨s.toArray⟩:=by
  rw [← he,List.map_map]
  refine List.map_congr_left fun x _=>?_
  simp
 rw [e1]
 exact ⟨_,rfl,gZ _ _,by rw [← hn];exact lg l 9⟩
end Go.Abs
namespace Go.Abs
open Go.Proofs
def asciiB:List UInt8→Bool
 | []=>true
 | b::r=>match Nat.blt b.toNat 128 with | true=>asciiB r | false=>false
theorem follows:Tryz.prog.follows .mixedOrders=true:=by kernel_rfl
theorem la:∀ {l:List UInt8},asciiB l=true→∀ b,b∈l→b.toNat<128
 | [],_,b,hb=>by simp at hb
 | x :: r, h, b, hb => by
   simp only [asciiB] at h
   split at h
   ·rename_i hx
    rcases List.mem_cons.1 hb with rfl | hb
    ·simpa [Nat.blt_eq] using hx
    ·exact la h b hb
   ·cases h
end Go.Abs
namespace Go.Abs
open Go
structure Fold where
 op:S
 nm:S
structure Prm where
 nm:S
 ty:S
 rk:Int
inductive Stm | mk (op nm tx:S) (n:Int) (ns:List S) (es:List Exp) (fs:List Fold) (bs:List (List Stm))
structure Prc where
 nm:S
 res:S
 ps:List Prm
 body:List Stm
structure Prg where
 procs:List Prc
 body:List Stm
def Fold.d (f:Fold):List Data:=[.sc (.s f.op),.sc (.s f.nm)]
def i6 (l:List Fold):List (List Data):=l.map Fold.d
def Prm.d (p:Prm):List Data:=[.sc (.s p.nm),.sc (.s p.ty),.sc (.i .i64 p.rk)]
def l7 (l:List Prm):List (List Data):=l.map Prm.d
mutual
def Stm.d:Stm→List Data | .mk o nm tx n ns es fs bs=>[.sc (.s o),.sc (.s nm),.sc (.s tx),.sc (.i .i64 n),.lst 1 (ae ns),.lst 4 (gq es),.lst 2 (i6 fs),.lst 1 (eh bs)]
def eN:List Stm→List (List Data) | []=>[] | x::r=>x.d::eN r
def eh:List (List Stm)→List (List Data) | []=>[] | b::r=>[.lst 8 (eN b)]::eh r
end
def Prc.d (p:Prc):List Data:=[.sc (.s p.nm),.sc (.s p.res),.lst 3 (l7 p.ps),.lst 8 (eN p.body)]
def kI (l:List Prc):List (List Data):=l.map Prc.d
def Prg.d (p:Prg):List Data:=[.lst 4 (kI p.procs),.lst 8 (eN p.body)]
theorem jZ:∀ l:List Stm,eN l=l.map Stm.d | []=>rfl | x::r=>by simp [eN,jZ r]
theorem gY:∀ l:List (List Stm),eh l=l.map fun b=>[.lst 8 (eN b)] | []=>rfl | x::r=>by simp [eh,gY r]
theorem d9 (l:List Stm):(eN l).length=l.length:=by rw [jZ];simp
theorem bS (l:List (List Stm)):(eh l).length=l.length:=by rw [gY];simp
theorem fd (l:List Fold):(i6 l).length=l.length:=by simp [i6]
theorem fN (l:List Prm):(l7 l).length=l.length:=by simp [l7]
theorem ea (l:List Prc):(kI l).length=l.length:=by simp [kI]
theorem oc {l:List Stm} {i:Nat} {x:Stm} (h:l[i]? = some x):(eN l)[i]? = some x.d:=by rw [jZ];simp [h]
theorem kZ {l:List (List Stm)} {i:Nat} {x:List Stm} (h:l[i]? = some x):(eh l)[i]? = some [.lst 8 (eN x)]:=by rw [gY];simp [h]
theorem foldsD_get {l:List Fold} {i:Nat} {x:Fold} (h:l[i]? = some x):(i6 l)[i]? = some x.d:=by simp [i6,h]
theorem prmsD_get {l:List Prm} {i:Nat} {x:Prm} (h:l[i]? = some x):(l7 l)[i]? = some x.d:=by simp [l7,h]
theorem og {l:List Prc} {i:Nat} {x:Prc} (h:l[i]? = some x):(kI l)[i]? = some x.d:=by simp [kI,h]
def eS (x:Stm):AV:=.agg (x.d.map aQ)
def eB (l:List Stm):AV:=.sl 8 (eN l) .none
def eBs (l:List (List Stm)):AV:=.sl 1 (eh l) .none
def eFs (l:List Fold):AV:=.sl 2 (i6 l) .none
def ePs (l:List Prm):AV:=.sl 3 (l7 l) .none
def eP (p:Prc):AV:=.agg (p.d.map aQ)
def ePL (l:List Prc):AV:=.sl 4 (kI l) .none
def eG (p:Prg):AV:=.agg (p.d.map aQ)
theorem beqL_refl (a:S):aH a a=true:=by simp [aH]
def okT (l:List S):Prop:=l.length≤140737488355328∧∀ s,s∈l→s.length≤140737488355328
def Fold.ok (f:Fold):Prop:=f.op.length≤140737488355328∧f.nm.length≤140737488355328
def Prm.ok (f:Prm):Prop:=f.nm.length≤140737488355328∧f.ty.length≤140737488355328∧eK .i64 f.rk
mutual
def Stm.ok:Stm→Prop | .mk o nm tx n ns es fs bs=>(o.length≤140737488355328∧nm.length≤140737488355328∧tx.length≤140737488355328∧eK .i64 n)∧okT ns∧(es.length≤140737488355328∧ll es)∧(fs.length≤140737488355328∧∀ f,f∈fs→f.ok)∧(bs.length≤140737488355328∧oksBs bs)
def iS:List Stm→Prop | []=>True | x::r=>x.ok∧iS r
def oksBs:List (List Stm)→Prop | []=>True | x::r=>(x.length≤140737488355328∧iS x)∧oksBs r
end
theorem mc:∀ {l:List Stm} {k:Nat} {x:Stm},iS l→l[k]? = some x→x.ok
 | [],_,_,_,h=>by simp at h
 | y::r,0,x,h,hx=>by simp at hx;subst hx;exact h.1
 | y::r,k+1,x,h,hx=>mc (k:=k) h.2 (by simpa using hx)
theorem ka:∀ {l:List (List Stm)} {k:Nat} {x:List Stm},oksBs l→l[k]? = some x→x.length≤140737488355328∧iS x
 | [],_,_,_,h=>by simp at h
 | y::r,0,x,h,hx=>by simp at hx;subst hx;exact h.1
 | y::r,k+1,x,h,hx=>ka (k:=k) h.2 (by simpa using hx)
def Prc.ok (p:Prc):Prop:=(p.nm.length≤140737488355328∧p.res.length≤140737488355328)∧(p.ps.length≤140737488355328∧∀ x,x∈p.ps→x.ok)∧(p.body.length≤140737488355328∧iS p.body)
def Prg.ok (p:Prg):Prop:=(p.procs.length≤140737488355328∧∀ x,x∈p.procs→x.ok)∧(p.body.length≤140737488355328∧iS p.body)
end Go.Abs
namespace Go.Abs
open Go Go.RowKit
theorem gV {P:Program} {W0:World} {f:FuncId} {args:List AV} {H:List (List AV)} {res:AV} (hcal:cg P f=true) (hR:toks res=[])
  (h:∀ (κ:Gh) (w:World) (vals:Array Value),vals.size=args.length→RepS W0 κ (aA args H) ⟨vals,[]⟩ w→Calls P f vals w fun e w'=>∃ v,e=.returned v∧Below w.heap.size w w'∧RepV (gP κ w w') w' res v) :
  Ctr P W0 f args H res H:=by
 refine ⟨hcal,fun κ w vals hsz hdb hdt hs=>(h κ w vals hsz hs).mono ?_⟩
 rintro e w' ⟨v,rfl,hb,hv⟩
 have lb:∀ i,look (aV res H) (.b i)=look (aA args H) (.b i):=fun i=>by unfold aV;rw [aK,aK]
 have lt:∀ k,look (aV res H) (.t k)=some (.tk true)→look (aA args H) (.t k)=some (.tk true):=by
  intro k hk
  unfold aV at hk
  rw [bo] at hk ⊢
  have hm:k∈aO [res] H:=by
   by_cases hh:k∈aO [res] H
   ·exact hh
   ·rw [if_neg hh] at hk;cases hk
  rw [if_pos]
  unfold aO at hm ⊢
  simp only [List.flatMap_cons,List.flatMap_nil,hR,List.append_nil,List.nil_append] at hm
  exact List.mem_append_right _ hm
 have lo:∀ b o,Own (gP κ w w') (aV res H) b o→Own κ (aA args H) b o:=by
  rintro b o (⟨i,l,hl,hi⟩ | ⟨k,hk,hi⟩)
  ·rw [lb] at hl;exact .inl ⟨i,l,hl,hi⟩
  ·exact .inr ⟨k,lt k hk,hi⟩
 have ext:Ext κ w (gP κ w w') w':=⟨fun _ _ h=>.inl h,fun b o hI=>by simp [World.cell?,hb.block b (hs.Icell b o hI)],fun b hd=>⟨hd,rfl⟩,fun k hd=>⟨hd,rfl⟩⟩
 refine ⟨v,gP κ w w',rfl,⟨?_,?_,?_,?_,?_,?_,?_,?_,?_,?_,?_,rfl,?_,?_,?_⟩,⟨⟨hb.os,hb.tape,hb.output,hb.size,fun b hlt _=>hb.block b hlt,?_,?_⟩,?_,?_,?_,?_,?_⟩⟩
 ·intro n u hu
  unfold aV at hu
  rw [bJ] at hu
  cases n with
  | zero =>
    simp at hu;subst hu
    simpa using hv
  | succ n=>simp at hu
 ·intro b l hl
  rw [lb] at hl
  obtain ⟨h1,h2,h3⟩:=hs.boxes b l hl
  exact ⟨h1,h2,h3.mono ext (hb.block _ h3.lt)⟩
 ·intro b b' l l' hl hl'
  rw [lb] at hl hl'
  exact hs.binj b b' l l' hl hl'
 ·intro k hk
  obtain ⟨h1,h2⟩:=hs.toks k (lt k hk)
  refine ⟨h1,fun hh=>?_⟩
  obtain ⟨h3,C,ty,h4,h5⟩:=h2 hh
  exact ⟨h3,C,ty,(hb.block _ (aC h4)).trans h4,h5⟩
 ·intro k k' hk hk';exact hs.tdis k k' (lt k hk) (lt k' hk')
 ·intro k i l hk hl;rw [lb] at hl;exact hs.tbox k i l (lt k hk) hl
 ·rintro b o ho (hI | ⟨h1,_⟩)
  ·exact hs.sepI b o (lo b o ho) hI
  ·exact absurd h1 (Nat.not_le.2 (hs.ownLt (lo b o ho)))
 ·rintro b o (hI | ⟨_,h2⟩)
  ·exact Nat.lt_of_lt_of_le (hs.Icell b o hI) hb.size
  ·exact h2
 ·intro b o hlt;exact .inl (hs.old b o hlt)
 ·exact Nat.le_trans hs.size0 hb.size
 ·intro b hlt;exact (hb.block b (Nat.lt_of_lt_of_le hlt hs.size0)).trans (hs.amb b hlt)
 ·exact hb.os.trans hs.os
 ·exact hb.tape.trans hs.tape
 ·exact hb.output.trans hs.output
 ·intro b C ty fz hC
  exact ⟨C,(hb.block b (aC hC)).trans hC,rfl,fun _ _=>rfl⟩
 ·intro b ob hE hn
  exact ⟨ob,(hb.block b (aC hE)).trans hE,hn⟩
 ·intro b o ho;exact .inl (lo b o ho)
 ·intro b o hI;exact .inl hI
 ·rintro b o (hI | ⟨h1,_⟩)
  ·exact .inl hI
  ·exact .inr (.inr h1)
 ·intro b _ hd;exact ⟨hd,rfl⟩
 ·intro k _ hd;exact ⟨hd,rfl⟩
end Go.Abs
namespace Go.Abs
open Go Go.Proofs Go.RowKit Go.Sort
def iv (l:List (List UInt8)):List AV:=l.map fun s=>.sc (.s s)
theorem gy (l:List (List UInt8)):(iv l).length=l.length:=by simp [iv]
theorem putRow_eq {w:World} {B off:Nat} {C:Array Value} {ty:TypeId} {fz:Nat × Nat} (hg:w.heap[B]? = some (.cells C ty fz)) (d:Array (List UInt8)) :
  putRow encStr w B off d=w.setRow B (putCells encStr off d C):=by
 have hlt:=aC hg
 have hB:w.heap[B]=.cells C ty fz:=by rw [Array.getElem?_eq_getElem hlt] at hg;exact Option.some.inj hg
 unfold putRow mapBlock World.setRow
 congr 1
 apply Array.ext
 ·simp
 ·intro i h1 h2
  rw [Array.getElem_modify,Array.getElem_modify]
  by_cases hi:B=i
  ·subst hi
   simp only [if_true,hB,onCells]
  ·simp only [hi,if_false]
theorem ctr_row {P:Program} {W0:World} {f:FuncId} {o n c:Nat} {t:Tok} {L L':List AV} {res:AV} {ss tt:List (List UInt8)} (hcal:cg P f=true)
  (hm:isM L=false) (hsub:sub L o n=some (iv ss)) (hsp:be o (iv tt) L=some L') (hlen:tt.length=n)
  (hR:∀ k,k∈toks res→t=.t k) (hL':L'.flatMap bt=[])
  (h:∀ (w:World) (B off cap:Nat),c≤cap→n≤c→Holds encStr w B off ss.toArray→B<w.heap.size→Calls P f #[.slice (some ⟨B,off,none⟩) ss.length cap] w fun e w'=>∃ v,e=.returned v ∧
   (∃ k os,w'=grow (putRow encStr (Sort.ahead w k) B off tt.toArray) os)∧∀ κ,κ.Db 0→(κ.ι 0).1=B→(κ.ι 0).2+o=off→tokOK κ 1 t (.slice (some ⟨B,off,none⟩) c cap)→RepV κ w' res v) :
  Ctr P W0 f [.cs 1 0 o n c t] [L] res [L']:=by
 refine ⟨hcal,fun κ w vals hsz hdb hdt hs=>?_⟩
 have h0:=hs.arg (n:=0) rfl
 obtain ⟨cap,hDb,hnc,hcc,hT,hv⟩:=h0.cs_inv
 have hl:look (aA [.cs 1 0 o n c t] [L]) (.b 0)=some (.bx L):=by rw [aK];rfl
 obtain ⟨_,hW,hB⟩:=hs.boxes 0 L hl
 obtain ⟨C,ty,hg,hRC⟩:=hB.row hm
 obtain ⟨u1,u2,u3⟩:=ce hsub
 have hssl:ss.length=n:=by rw [← gy,u1]
 rw [lM hsz,hv]
 have hH:Holds encStr w (κ.ι 0).1 ((κ.ι 0).2+o) ss.toArray:=by
  intro j hj
  simp only [List.size_toArray] at hj
  have hcs:(κ.ι 0).2+(o+j)<C.size:=by have:=hRC.1;omega
  have h1:=u3 j (by omega)
  have h2:(iv ss)[j]? = some (.sc (.s ss[j])):=by simp [iv,hj]
  rw [h2] at h1
  have h3:=(hRC.2.2 (o+j) _ h1.symm).sc_inv
  refine ⟨?_,by simp [World.frozen?,hg]⟩
  rw [au hg,show (κ.ι 0).2+o+j=(κ.ι 0).2+(o+j) by omega,Array.getElem?_eq_getElem hcs]
  rw [Array.getD_eq_getD_getElem?,Array.getElem?_eq_getElem hcs] at h3
  simp only [Option.getD_some] at h3
  rw [h3]
  simp [encStr,Sc.val,getElem!_pos,hj]
 have hc:=h w (κ.ι 0).1 ((κ.ι 0).2+o) cap hcc hnc hH (aC hg)
 rw [hssl] at hc
 refine hc.mono ?_
 rintro e w' ⟨v,rfl,⟨k,os,rfl⟩,hv'⟩
 have hg':(Sort.ahead w k).heap[(κ.ι 0).1]? = some (.cells C ty (0,0)):=hg
 obtain ⟨q1,q2,q3,q4⟩:=dE (w:=w) (κ:=κ) (V:=(tt.map encStr).toArray) hRC (by
  refine ⟨by simp [iv],fun v hv=>?_,fun j v hj=>?_⟩
  ·simp only [iv,List.mem_map] at hv
   obtain ⟨s,_,rfl⟩:=hv
   rfl
  ·simp only [iv,List.getElem?_map] at hj
   cases hs:tt[j]? with
   | none=>rw [hs] at hj;cases hj
   | some s =>
     rw [hs] at hj;cases hj
     simp [Array.getD_eq_getD_getElem?,hs]
     exact .sc (.s s)) hsp
 simp only [List.toList_toArray,List.length_map] at q1 q2 q4
 have harr:putCells encStr ((κ.ι 0).2+o) tt.toArray C=(C.toList.take ((κ.ι 0).2+o)++tt.map encStr++C.toList.drop ((κ.ι 0).2+o+tt.length)).toArray:=by
  have hlen':(κ.ι 0).2+o+(tt.map encStr).length≤C.size:=by simpa using q2
  apply Array.ext'
  apply List.ext_getElem?
  intro i
  have:=du (C:=C) (vs:=tt.map encStr) (o:=(κ.ι 0).2+o) hlen' i
  simp only [List.length_map,List.getElem?_toArray] at this
  rw [this]
  unfold putCells
  rw [Array.getElem?_toList,Array.getElem?_mapIdx]
  simp only [List.size_toArray]
  split
  ·rename_i hi
   have hlt:i<C.size:=by simp only [List.length_map] at hlen';omega
   have hit:i - ((κ.ι 0).2+o)<tt.length:=by omega
   rw [Array.getElem?_eq_getElem hlt]
   simp [hi,List.getElem?_eq_getElem hit,getElem!_pos,hit]
  ·rename_i hi
   cases C[i]? with
   | none=>rfl
   | some x=>simp [hi]
 obtain ⟨s1,s2,s3⟩:=(hs.drawn (w.drawn+k)).store (a:=⟨vals,[]⟩) hl hg' (arr:=putCells encStr ((κ.ι 0).2+o) tt.toArray C) (by simp [putCells]) q3 (by
  rw [harr]
  exact q1.mono Ext.drawn) (by
  intro x hx
  rw [harr]
  exact q4 x fun hh=>hx ⟨rfl,by simpa [spb] using hh⟩)
 rw [putRow_eq hg'] at hv' ⊢
 have hbel:Below ((Sort.ahead w k).setRow (κ.ι 0).1 (putCells encStr ((κ.ι 0).2+o) tt.toArray C)).heap.size ((Sort.ahead w k).setRow (κ.ι 0).1 (putCells encStr ((κ.ι 0).2+o) tt.toArray C)) (grow ((Sort.ahead w k).setRow (κ.ι 0).1 (putCells encStr ((κ.ι 0).2+o) tt.toArray C)) os):=
  ⟨rfl,rfl,rfl,by simp [grow],fun b hb=>by simp only [grow];rw [Array.getElem?_append_left hb]⟩
 obtain ⟨r1,r2,r3⟩:=s1.below hbel
 have hrv:=hv' κ hDb rfl rfl hT
 have st:=((Step.drawn (κ:=κ) (σ:=aA [.cs 1 0 o n c t] [L]) (w:=w) (w.drawn+k)).trans s2).trans r2
 have lb:∀ i l,look (aV res [L']) (.b i)=some (.bx l)→i=0∧l=L':=by
  intro i l hh
  unfold aV at hh
  rw [aK] at hh
  cases i with
  | zero=>simp at hh;exact ⟨rfl,hh.symm⟩
  | succ i=>simp at hh
 have lL:look ((.b 0,.bx L')::aA [.cs 1 0 o n c t] [L]) (.b 0)=some (.bx L'):=by simp [af]
 have lt:∀ k',look (aV res [L']) (.t k')=some (.tk true)→t=.t k'∧look ((.b 0,.bx L')::aA [.cs 1 0 o n c t] [L]) (.t k')=some (.tk true):=by
  intro k' hk
  unfold aV at hk
  rw [bo] at hk
  have hmm:k'∈aO [res] [L']:=by
   by_cases hh:k'∈aO [res] [L']
   ·exact hh
   ·rw [if_neg hh] at hk;cases hk
  have hk2:k'∈toks res:=by simpa [aO,hL'] using hmm
  have ht:=hR k' hk2
  refine ⟨ht,?_⟩
  have e1:look ((.b 0,.bx L')::aA [.cs 1 0 o n c t] [L]) (.t k')=look (aA [.cs 1 0 o n c t] [L]) (.t k'):=by simp [af]
  rw [e1,bo,if_pos]
  subst ht
  simp [aO,toks,bt,dW]
 have lo:∀ b' o',Own κ (aV res [L']) b' o'→Own κ ((.b 0,.bx L')::aA [.cs 1 0 o n c t] [L]) b' o':=by
  rintro b' o' (⟨i,l,hl',hi⟩ | ⟨k',hk,hi⟩)
  ·obtain ⟨rfl,rfl⟩:=lb i l hl'
   exact .inl ⟨0,_,lL,hi⟩
  ·exact .inr ⟨k',(lt k' hk).2,hi⟩
 refine ⟨v,κ,rfl,⟨?_,?_,?_,?_,?_,?_,fun b' o' ho=>r1.sepI b' o' (lo b' o' ho),r1.Icell,r1.old,r1.size0,r1.amb,rfl,r1.os,r1.tape,r1.output⟩,
  ⟨st.chg,fun b' o' ho=>st.own b' o' (lo b' o' ho),st.I_,st.In,st.low,st.lowt⟩⟩
 ·intro m u hu
  unfold aV at hu
  rw [bJ] at hu
  cases m with
  | zero =>
    simp at hu;subst hu
    simpa using hrv
  | succ m=>simp at hu
 ·intro b' l hl'
  obtain ⟨rfl,rfl⟩:=lb b' l hl'
  exact r1.boxes 0 _ lL
 ·intro b' b'' l l' h1 h2 hne
  obtain ⟨rfl,_⟩:=lb b' l h1
  obtain ⟨rfl,_⟩:=lb b'' l' h2
  exact absurd rfl hne
 ·intro k' hk;exact r1.toks k' (lt k' hk).2
 ·intro k' k'' hk hk' hne
  have h1:=(lt k' hk).1
  have h2:=(lt k'' hk').1
  rw [h1] at h2
  cases h2
  exact absurd rfl hne
 ·intro k' i l hk hl'
  obtain ⟨rfl,rfl⟩:=lb i l hl'
  exact r1.tbox k' 0 _ (lt k' hk).2 lL
theorem sort_ctr (W0:World) {o n c:Nat} {t:Tok} {L L':List AV} {ss:List (List UInt8)} (hn:n≤140737488355328) (hm:isM L=false) (hsub:sub L o n=some (iv ss))
  (hsp:be o (iv (ss.mergeSort fun x y=>decide (x≤y))) L=some L') (hL':L'.flatMap bt=[]) :
  Ctr Tryz.prog W0 20 [.cs 1 0 o n c t] [L] (.tup []) [L']:=by
 have hl:ss.length=n:=by rw [← gy,(ce hsub).1]
 refine ctr_row (by kernel_rfl) hm hsub hsp (by rw [List.length_mergeSort,hl]) (by simp [toks]) hL' fun w B off cap hcc hnc hH hB=>?_
 refine (Tryz.slices_Sort_string B off cap ss w hH hB (by omega)).mono ?_
 rintro e w' ⟨rfl,hw⟩
 exact ⟨_,rfl,hw,fun κ _ _ _ _=>.tup [] #[] rfl fun j v hj=>by simp at hj⟩
theorem compact_ctr (W0:World) {o n c:Nat} {t:Tok} {L L':List AV} {ss:List (List UInt8)} (hn:n≤140737488355328) (hm:isM L=false) (hsub:sub L o n=some (iv ss))
  (hsp:be o (iv (Lib.compact ss++List.replicate (ss.length - (Lib.compact ss).length) [])) L=some L') (hle:(Lib.compact ss).length≤ss.length) (hL':L'.flatMap bt=[]) :
  Ctr Tryz.prog W0 21 [.cs 1 0 o n c t] [L] (.cs 1 0 o (Lib.compact ss).length c t) [L']:=by
 have hl:ss.length=n:=by rw [← gy,(ce hsub).1]
 refine ctr_row (by kernel_rfl) hm hsub hsp (by rw [List.length_append,List.length_replicate];omega) (by
  intro k hk
  cases t<;>simp [toks,bt,dW] at hk
  rw [hk]) hL' fun w B off cap hcc hnc hH hB=>?_
 refine (Tryz.slices_Compact_string B off cap ss w hH (by omega) (by omega)).mono ?_
 rintro e w' ⟨rfl,q,hw⟩
 refine ⟨_,rfl,⟨q,#[],?_⟩,fun κ hD hb hoff hT=>?_⟩
 ·rw [hw];simp only [grow,Array.append_empty]
 ·have:=RepV.cs (κ:=κ) (w:=w') 1 0 o (Lib.compact ss).length c t cap hD (by omega) hcc (by rw [hb,hoff];exact hT)
  rw [hb,hoff] at this
  exact this
theorem mul64_ctr (W0:World) (a b:Nat) (ha:a<18446744073709551616) (hb:b<18446744073709551616) :
  Ctr Tryz.prog W0 387 [.sc (.i .u64 a),.sc (.i .u64 b)] [] (.tup [.sc (.i .u64 (a * b / 18446744073709551616:Nat)),.sc (.i .u64 (a * b % 18446744073709551616:Nat))]) []:=by
 refine ef (by kernel_rfl) rfl fun κ w vals hsz hs=>?_
 have h0:=(hs.arg (n:=0) rfl).sc_inv
 have h1:=(hs.arg (n:=1) rfl).sc_inv
 rw [jm hsz,h0,h1]
 refine (Tryz.bits_Mul64 a b ha hb w).mono ?_
 rintro e w' ⟨rfl,rfl⟩
 refine ⟨_,rfl,Below.refl _ _,.tup _ _ rfl fun j v hj=>?_⟩
 match j,hj with
 | 0,hj=>simp at hj;subst hj;exact .sc (.i .u64 _)
 | 1,hj=>simp at hj;subst hj;exact .sc (.i .u64 _)
 | j+2,hj=>simp at hj
end Go.Abs
namespace Go.Abs
open Go Go.Proofs Go.Shelf Go.RowKit Go.Lib
def iY (κ:Gh) (w w':World) (sp:Nat × Nat × Nat):Gh:=
 { κ with I:=fun b o=>κ.I b o∨(w.heap.size≤b∧b<w'.heap.size∧¬ aZ sp b o),Dt:=fun k=>k=0,τ:=fun k=>if k=0 then sp else κ.τ k }
theorem ctr_libT {P:Program} {W0:World} {f:FuncId} {args:List AV} {res:AV} (hcal:cg P f=true) (hA:aO args []=[]) (hR:aO [res] []=[0]) (hN:dK args []=0)
  (h:∀ (κ:Gh) (w:World) (vals:Array Value),vals.size=args.length→RepS W0 κ (aA args []) ⟨vals,[]⟩ w→Calls P f vals w fun e w'=>∃ v sp,e=.returned v∧Below w.heap.size w w' ∧
   (sp.2.1<sp.2.2→w.heap.size≤sp.1∧∃ C ty,w'.heap[sp.1]? = some (.cells C ty (0,0))∧sp.2.2≤C.size)∧RepV (iY κ w w' sp) w' res v):Ctr P W0 f args [] res []:=by
 refine ⟨hcal,fun κ w vals hsz hdb hdt hs=>(h κ w vals hsz hs).mono ?_⟩
 rintro e w' ⟨v,sp,rfl,hb,hsp,hv⟩
 have nb:∀ args i l,look (aA args []) (.b i)≠some (.bx l):=by
  intro args i l hh
  rw [aK] at hh
  simp at hh
 have nt:∀ k,look (aA args []) (.t k)≠some (.tk true):=by
  intro k hh
  rw [bo,hA] at hh
  simp at hh
 have ntr:∀ k,look (aA [res] []) (.t k)=some (.tk true)→k=0:=by
  intro k hh
  rw [bo,hR] at hh
  by_cases hk:k=0
  ·exact hk
  ·simp [hk] at hh
 have noa:∀ κ b o,¬ Own κ (aA args []) b o:=by
  rintro κ b o (⟨i,l,hl,_⟩ | ⟨k,hk,_⟩)
  ·exact nb _ _ _ hl
  ·exact nt _ hk
 have own:∀ b o,Own (iY κ w w' sp) (aV res []) b o→aZ sp b o:=by
  rintro b o (⟨i,l,hl,_⟩ | ⟨k,hk,hi⟩)
  ·exact absurd hl (nb _ _ _)
  ·have:=ntr k hk
   subst this
   simpa [iY] using hi
 have new:∀ b o,aZ sp b o→w.heap.size≤b:=by
  rintro b o ⟨h1,h2,h3⟩
  rw [← h1]
  exact (hsp (Nat.lt_of_le_of_lt h2 h3)).1
 refine ⟨v,iY κ w w' sp,rfl,⟨?_,?_,?_,?_,?_,?_,?_,?_,?_,?_,?_,rfl,?_,?_,?_⟩,⟨⟨hb.os,hb.tape,hb.output,hb.size,fun b hlt _=>hb.block b hlt,?_,?_⟩,?_,?_,?_,?_,?_⟩⟩
 ·intro n u hu
  unfold aV at hu
  rw [bJ] at hu
  cases n with
  | zero =>
    simp at hu;subst hu
    simpa using hv
  | succ n=>simp at hu
 ·intro b l hl;exact absurd hl (nb _ _ _)
 ·intro b b' l l' hl;exact absurd hl (nb _ _ _)
 ·intro k hk
  have:=ntr k hk
  subst this
  refine ⟨rfl,fun hlt=>?_⟩
  simp only [iY,if_true] at hlt ⊢
  obtain ⟨h1,h2⟩:=hsp hlt
  exact ⟨Nat.le_trans hs.size0 h1,h2⟩
 ·intro k k' hk hk' hne;exact absurd ((ntr k hk).trans (ntr k' hk').symm) hne
 ·intro k i l _ hl;exact absurd hl (nb _ _ _)
 ·rintro b o ho (hI | ⟨_,_,hno⟩)
  ·exact absurd (hs.Icell b o hI) (Nat.not_lt.2 (new b o (own b o ho)))
  ·exact hno (own b o ho)
 ·rintro b o (hI | ⟨_,h2,_⟩)
  ·exact Nat.lt_of_lt_of_le (hs.Icell b o hI) hb.size
  ·exact h2
 ·intro b o hlt;exact .inl (hs.old b o hlt)
 ·exact Nat.le_trans hs.size0 hb.size
 ·intro b hlt;exact (hb.block b (Nat.lt_of_lt_of_le hlt hs.size0)).trans (hs.amb b hlt)
 ·exact hb.os.trans hs.os
 ·exact hb.tape.trans hs.tape
 ·exact hb.output.trans hs.output
 ·intro b C ty fz hC
  exact ⟨C,(hb.block b (aC hC)).trans hC,rfl,fun _ _=>rfl⟩
 ·intro b ob hE hn
  exact ⟨ob,(hb.block b (aC hE)).trans hE,hn⟩
 ·intro b o ho;exact .inr (new b o (own b o ho))
 ·intro b o hI;exact .inl hI
 ·rintro b o (hI | ⟨h1,_⟩)
  ·exact .inl hI
  ·exact .inr (.inr h1)
 ·intro b _ hd;exact ⟨hd,rfl⟩
 ·intro k _ hd
  have:=hdt k hd
  rw [hN] at this
  exact absurd this (Nat.not_lt_zero _)
variable {P:Program} {ρ:Go.Shelf.Ren}
theorem clone_empty (L:SlLaysE0.n41 P ρ) (i0:TypeInfo) (z:Value) (size:Nat) (hi:P.info? (ρ.t 23)=some i0) (hz0:i0.zero=some z) (hz1:i0.size=size)
  (z23:∀ w,(Go.sizeOf (ρ.t 23)).run P w=.ok size w) (a:Addr) (w:World) :
  Calls P (ρ.f 41) #[.slice (some a) 0 0] w fun e w'=>e=.returned (.slice (some ⟨w.heap.size,0,none⟩) 0 0)∧w'=w.alloc (.cells #[] (ρ.t 23)):=by
 have mixed:=L.mixed;have t4:=L.t4;have a4:=L.a4;have z4:=L.z4;have v4:=L.v4;have t22:=L.t22;have a22:=L.a22;have z22:=L.z22;have v22:=L.v22
 have q22:∀ (w:World) (a:Option Addr) (n c n' c':Nat),(binOp .eql (ρ.t 22) (.slice a n c) (.slice none n' c')).run P w=.ok (.bool a.isNone) w:=fun w a n c n' c'=>Lib.run_eql_slice_nil w _ _ a n c n' c' L.t22
 have u22:∀ w,Sem.run P (underlying (ρ.t 22)) w=.ok (TypeDesc.slice (ρ.t 23)) w:=run_underlying t22
 have happ:∀ w1 (A:Option Addr),(Builtin.append_ #[ρ.t 22,ρ.t 22] (ρ.t 22) #[.slice A 0 0,.slice (some a) 0 0]).run P w1=.ok (.slice A 0 0) w1:=fun w1 A=>
  dM (P:=P) (w:=w1) (ρ.t 22) (ρ.t 22) (ρ.t 23) i0 t22 hi A (some a) 0 0 0 (Nat.le_refl _)
 obtain ⟨_,_,FG⟩:=L.f41
 go_enter FG,SlBodyN.n41_ntmps ρ
 go_wp2
 go_ret
 exact ⟨rfl,rfl⟩
theorem f0 (W0:World) (L:SlLaysE0.n41 P ρ) (i0:TypeInfo) (z:Value) (sz:Nat) (hcal:cg P (ρ.f 41)=true) (hi:P.info? (ρ.t 23)=some i0) (hz0:i0.zero=some z) (hz1:i0.size=sz) (hzs:z.cells.size=sz) (hsz:0<sz)
  (z23:∀ w,(Go.sizeOf (ρ.t 23)).run P w=.ok sz w) (els:List (List Abs.Data)) (hn:els.length≤maxLen) (hbig:els.length * i0.bytes≤140737488355328) :
  Ctr P W0 (ρ.f 41) [.sl sz els .none] [] (.sl sz els (.t 0)) []:=by
 refine ctr_libT hcal rfl rfl rfl fun κ w vals hvs hs=>?_
 have h0:=(hs.arg (n:=0) rfl).sl_inv.1
 rw [lM hvs]
 generalize vals.getD 0 undef=v0 at h0
 rcases h0.flat hsz with ⟨A,hv,he⟩ | ⟨b,o,cap,L1,hv,hcap,f,hI,hc⟩
 ·subst hv;subst he
  cases A with
  | none =>
    refine (AnyE.slices_Clone_nil L 0 0 w).mono ?_
    rintro e w' ⟨rfl,rfl⟩
    exact ⟨_,(0,0,0),rfl,Below.refl _ _,fun h=>absurd h (Nat.lt_irrefl _),.sl sz [] _ _ (.nil sz none) ⟨rfl,fun a n c ev=>by cases ev⟩⟩
  | some A =>
    refine (clone_empty L i0 z sz hi hz0 hz1 z23 A w).mono ?_
    rintro e w' ⟨rfl,rfl⟩
    exact ⟨_,(0,0,0),rfl,gZ _ _,fun h=>absurd h (Nat.lt_irrefl _),.sl sz [] _ _ (.nil sz _) ⟨rfl,fun a n c ev hlt=>by cases ev;exact absurd hlt (Nat.lt_irrefl _)⟩⟩
 ·subst hv
  refine (AnyE.slices_Clone L i0 z sz i0.bytes hi hz0 hz1 rfl hzs hsz z23 b o els.length cap L1 w f.len hn hbig (fun j u hj=>?_) (f.one hsz)).mono ?_
  ·have hjl:j<els.length * sz:=by rw [← f.len];exact (List.getElem?_eq_some_iff.1 hj).1
   rw [hc j hjl,hj]
  ·rintro e w' ⟨v',rfl,hown,hnil,hb⟩
   obtain ⟨o1,o2⟩:=hown
   rcases o2 with ⟨h,_⟩ | ⟨g,cap',cur,rfl,hg,hgc,hn',_,hcs,htk⟩
   ·exact absurd h hnil
   ·refine ⟨_,(g,els.length * sz,cap' * sz),rfl,hb,fun hlt=>⟨hg,cur,_,hgc,by simp only [hcs];exact Nat.le_refl _⟩,?_⟩
    have hlt:∀ b o,κ.I b o→b<w.heap.size:=fun b o h=>hs.Icell b o h
    have f':=f.mono (I':=(iY κ w w' (g,els.length * sz,cap' * sz)).I) (w':=w') (fun b o h=>.inl h) (fun b o h=>by simp [World.cell?,hb.block b (hlt b o h)])
    refine .sl sz els _ _ (f'.shut hn' (fun k hk=>.inr ⟨hg,aC hgc,fun hh=>?_⟩) (fun k hk=>?_)) ⟨rfl,fun a n c ev hlt=>?_⟩
    ·have:=hh.2.1
     simp only at this
     omega
    ·rw [au hgc,Nat.zero_add,← htk,List.getElem?_take_of_lt hk,Array.getElem?_toList]
    ·cases ev
     simp [iY]
end Go.Abs
namespace Go.Proofs
open Go.RowKit Go.Shelf Go
attribute [local go_sem] Oper.semAt_some
def Tryz.down (len k:Nat):List Nat:=(List.range k).map fun j=>len - 1 - j
theorem Tryz.down_succ (len k:Nat):Tryz.down len (k+1)=Tryz.down len k++[len - 1 - k]:=by simp [Tryz.down,List.range_succ]
theorem Tryz.down_length (len k:Nat):(Tryz.down len k).length=k:=by simp [Tryz.down]
theorem Tryz.back498 (F:Fence) (n:Nat) (h:F.fn 498) (hro:F.round=none) (A:Option Addr) (k c:Nat) (w:World) :
  CallsIn F n Tryz.prog 498 #[.slice A k c] w fun e w'=>e=.returned (.func (.func 513) #[] #[.pointer (some ⟨w.heap.size,0,none⟩)])∧w'=w.alloc (.cells #[.slice A k c] 346):=by
 refine callsIn_of_wp Tryz.func498 rfl h ?_ hro
 simp only [Tryz.ntmps498,List.size_toArray,List.length_cons,List.length_nil,Nat.reduceAdd,Nat.reduceSub,Array.replicate_succ,Array.replicate_zero,List.push_toArray,List.append_toArray,List.nil_append,List.cons_append]
 gi_wp2
 first | go_end0 | go_ret
 exact ⟨rfl,rfl⟩
theorem Tryz.iter513 (F:Fence) (n:Nat) (h7:F.fn 513) (hro:F.round=none) (hn:1≤n) (l Bs n₀ b off len cap:Nat) (zs:Nat→Nat→Value) (hreach:len≤140737488351232) (hb:b<n₀) (hBn:Bs<n₀) (J Jx:List Nat→World→Prop)
  (hY:∀ pre (x:Nat) W,J pre W→pre.length<len→YieldAt F (n - 1) Tryz.prog l #[.int .i64 (x:Int),.agg #[zs x 0,zs x 1,zs x 2,zs x 3,zs x 4,zs x 5]] W fun e W'=>
   (e=.returned (.bool true)∧J (pre++[x]) W'∧Below n₀ W W')∨(e=.returned (.bool false)∧Jx (pre++[x]) W'))
  (W:World) (hBs:W.cell? ⟨Bs,0,none⟩=some (.slice (some ⟨b,off,none⟩) len cap)) (hc:∀ j i,j<len→i<6→W.cell? ⟨b,off+j * 6+i,none⟩=some (zs j i)) (h0:J [] W) :
  CallsIn F n Tryz.prog 513 #[.func (.yield l) #[] #[],.pointer (some ⟨Bs,0,none⟩)] W fun e W'=>(∃ v,e=.returned v) ∧
   ((∃ ys,ys=Tryz.down len len∧J ys W')∨(∃ pre,(∃ k,k≤len∧pre=Tryz.down len k)∧Jx pre W')):=by
 refine callsIn_of_wp Tryz.func513 rfl h7 ?_ hro
 simp only [Tryz.ntmps513,List.size_toArray,List.length_cons,List.length_nil,Nat.reduceAdd,Nat.reduceSub,Array.replicate_succ,Array.replicate_zero,List.push_toArray,List.append_toArray,List.nil_append,List.cons_append]
 gi_wp2
 gi_loopw [3] (fun i wr=>∃ k:Nat,k≤len∧i=.int .i64 ((len:Int) - 1 - k)∧J (Tryz.down len k) wr∧Below n₀ W wr)
  (fun i _=>(intOf i+1).toNat)
 case atStart=>exact ⟨0,Nat.zero_le _,by simp,h0,Below.refl _ _⟩
 case round=>
  obtain ⟨k,hk,rfl,hJs,hnx⟩:=hrel
  have hBr:wr.cell? ⟨Bs,0,none⟩=some (.slice (some ⟨b,off,none⟩) len cap):=(hnx.cell (p:=⟨Bs,0,none⟩) hBn).trans hBs
  by_cases hlt:k<len
  ·have hcx:∀ i,i<6→wr.cell? ⟨b,off+(len - 1 - k) * 6+i,none⟩=some (zs (len - 1 - k) i):=fun i hi=>(hnx.cell (p:=⟨b,off+(len - 1 - k) * 6+i,none⟩) hb).trans (hc (len - 1 - k) i (by omega) hi)
   have hc0:wr.cell? ⟨b,off+(len - 1 - k) * 6,none⟩=some (zs (len - 1 - k) 0):=hcx 0 (by omega)
   have hc1:wr.cell? ⟨b,off+(len - 1 - k) * 6+1,none⟩=some (zs (len - 1 - k) 1):=hcx 1 (by omega)
   have hc2:wr.cell? ⟨b,off+(len - 1 - k) * 6+2,none⟩=some (zs (len - 1 - k) 2):=hcx 2 (by omega)
   have hc3:wr.cell? ⟨b,off+(len - 1 - k) * 6+3,none⟩=some (zs (len - 1 - k) 3):=hcx 3 (by omega)
   have hc4:wr.cell? ⟨b,off+(len - 1 - k) * 6+4,none⟩=some (zs (len - 1 - k) 4):=hcx 4 (by omega)
   have hc5:wr.cell? ⟨b,off+(len - 1 - k) * 6+5,none⟩=some (zs (len - 1 - k) 5):=hcx 5 (by omega)
   obtain ⟨fn,tmps,assign,body,hy,hR⟩:=hY _ (len - 1 - k) wr hJs (by rw [Tryz.down_length];exact hlt)
   try dsimp only at hy
   have hki:(len:Int) - 1 - k=((len - 1 - k:Nat):Int):=by omega
   rw [hki]
   gi_wp2
   refine hR.mono ?_
   rintro e W3 (⟨rfl,hJ3,hk3⟩ | ⟨rfl,hJx3⟩)
   ·gi_wp2
    go_roundw
    case rel=>exact ⟨k+1,by omega,by first | rfl | (simp;omega),by rw [Tryz.down_succ];exact hJ3,hnx.trans hk3⟩
    case measure=>first | (simp [intOf];done) | (simp [intOf];omega)
   ·gi_wp2
    refine bodyPost_ret (results_none rfl _ _ _) rfl ?_
    exact ⟨⟨_,rfl⟩,.inr ⟨_,⟨k+1,by omega,(Tryz.down_succ _ _).symm⟩,hJx3⟩⟩
  ·obtain rfl:k=len:=by omega
   have hki:(k:Int) - 1 - k=-1:=by omega
   rw [hki]
   gi_wp2
   go_end0
   exact ⟨⟨_,rfl⟩,.inl ⟨_,rfl,hJs⟩⟩
theorem Tryz.iter513_nil (F:Fence) (n:Nat) (h7:F.fn 513) (hro:F.round=none) (y:Value) (b:Nat) (A:Option Addr) (c:Nat) (w:World) (hc:w.cell? ⟨b,0,none⟩=some (.slice A 0 c)) :
  CallsIn F n Tryz.prog 513 #[y,.pointer (some ⟨b,0,none⟩)] w fun e w'=>(∃ v,e=.returned v)∧w'=w:=by
 refine callsIn_of_wp Tryz.func513 rfl h7 ?_ hro
 simp only [Tryz.ntmps513,List.size_toArray,List.length_cons,List.length_nil,Nat.reduceAdd,Nat.reduceSub,Array.replicate_succ,Array.replicate_zero,List.push_toArray,List.append_toArray,List.nil_append,List.cons_append]
 gi_wp2
 refine wpIn_loop_once ?_
 gi_wp2
 first | go_end0 | go_ret
 exact ⟨⟨_,rfl⟩,rfl⟩
end Go.Proofs
namespace Go.Proofs
open Go.RowKit Go.Shelf Go
attribute [local go_sem] Oper.semAt_some
theorem Tryz.cell0 {W:World} {k:Nat} {v:Value} {t:TypeId} (h:W.heap[k]? = some (.cells #[v] t (0,0))):W.cell? ⟨k,0,none⟩=some v:=by simp [World.cell?,h]
theorem Tryz.new_alloc (w:World) (o:Obj) (k:Nat) (h:k=w.heap.size):(w.alloc o).heap[k]? = some o:=by subst h;exact World.alloc_heap_new w o
theorem Tryz.set_same {w:World} {b:Nat} {C:Array Value} {t:TypeId} {fz:Nat × Nat} (o:Nat) (v:Value) (h:w.heap[b]? = some (.cells C t fz)):(w.setCell ⟨b,o,none⟩ v).heap[b]? = some (.cells (C.setIfInBounds o v) t fz):=by
 simp [World.setCell,Array.getElem?_modify,h]
theorem Tryz.results_two {P:Program} {fn:Func} {p q:Tmp} {ty ty2:TypeId} (h:fn.results=#[.cell p ty,.cell q ty2]) (tmps:Array Value) (w:World) (g g2:Nat) (t t2:TypeId) (cs:Array Value) (v:Value) (fr fr2:Nat × Nat) (d:TypeDesc)
  (hp:tmps.getD p undef=.pointer (some ⟨g,0,none⟩)) (hg:w.heap[g]? = some (.cells cs t fr))
  (hu:P.underlying ty=some d) (hd:(match d with | .struct _ | .array _ _=>true | _=>false)=true) (hi:(P.info? ty).map (·.size)=some cs.size)
  (hq:tmps.getD q undef=.pointer (some ⟨g2,0,none⟩)) (hg2:(loadVar ty2 ⟨g2,0,none⟩).run P w=.ok v w) :
  (results fn tmps).run P w=.ok (.tuple #[.agg cs,v]) w:=by
 have hp':tmps[p]?.getD undef=.pointer (some ⟨g,0,none⟩):=by simpa using hp
 have hq':tmps[q]?.getD undef=.pointer (some ⟨g2,0,none⟩):=by simpa using hq
 simp [results,h,hp',hq',asAddr,run_loadVar_row w g t ty cs fr d hg hu hd hi,hg2,Sem.run_bind,Result.andThen]
theorem Tryz.load_one {W:World} {k:Nat} {t:TypeId} {v:Value} (h:W.heap[k]? = some (.cells #[v] t (0,0))):(loadVar 4 ⟨k,0,none⟩).run Tryz.prog W=.ok v W:=by
 have hc:=Tryz.cell0 h
 have hagg:(isAgg 4).run Tryz.prog W=.ok false W:=by
  unfold isAgg
  rw [Sem.run_bind,run_underlying Tryz.underlying4 W]
  rfl
 simp [loadVar,Sem.run_bind,hagg,go_sem,hc]
theorem Tryz.mem_down {len k i:Nat} (h:i<len) (h2:len - 1 - i<k):i∈Tryz.down len k:=by
 simp only [Tryz.down,List.mem_map,List.mem_range]
 exact ⟨len - 1 - i,h2,by omega⟩
theorem Tryz.down_last {len k j:Nat} {p:List Nat} (hk:k≤len) (h:Tryz.down len k=p++[j]):j<len∧∀ i,j<i→i<len→i∈p:=by
 cases k with
 | zero=>simp [Tryz.down] at h
 | succ k =>
   rw [Tryz.down_succ] at h
   obtain ⟨h1,h2⟩:=List.append_inj' h rfl
   simp at h2
   refine ⟨by omega,fun i hi hl=>?_⟩
   rw [← h1]
   exact Tryz.mem_down hl (by omega)
theorem Tryz.block_frozen {W:World} {k i:Nat} {C:Array Value} {t:TypeId} (h:W.heap[k]? = some (.cells C t (0,0))):W.frozen? ⟨k,i,none⟩=false:=by simp [World.frozen?,h]
theorem Tryz.block_cell {W:World} {k i:Nat} {C:Array Value} {t:TypeId} {v:Value} (h:W.heap[k]? = some (.cells C t (0,0))) (hv:C[i]? = some v):W.cell? ⟨k,i,none⟩=some v:=by simp [World.cell?,h,hv]
def Tryz.cel_check (nm:Nat→ByteArray) (x1:Nat→ByteArray) (x2:Nat→ByteArray) (x3:Nat→Int) (x4:Nat→Bool) (x5:Nat→Bool) (j:Nat):Nat→Value
 | 0=>.string (nm j)
 | 1=>.string (x1 j)
 | 2=>.string (x2 j)
 | 3=>.int .i64 (x3 j)
 | 4=>.bool (x4 j)
 | _=>.bool (x5 j)
theorem Tryz.find476_in (F:Fence) (n:Nat) (h1:F.fn 476) (h2:F.fn 498) (h3:F.fn 513) (hro:F.round=none) (hn:3≤n) (b o len c:Nat) (A:Option Addr) (s:ByteArray) (nm:Nat→ByteArray) (x1:Nat→ByteArray) (x2:Nat→ByteArray) (x3:Nat→Int) (x4:Nat→Bool) (x5:Nat→Bool) (w:World)
  (hc:w.cell? ⟨b,o+4,none⟩=some (.slice A len c)) (hl:len≤140737488351232)
  (hA:len=0∨∃ sb so,A=some ⟨sb,so,none⟩∧sb<w.heap.size∧∀ j i,j<len→i<6→w.cell? ⟨sb,so+j * 6+i,none⟩=some ((Tryz.cel_check nm x1 x2 x3 x4 x5) j i)) :
  CallsIn F n Tryz.prog 476 #[.pointer (some ⟨b,o,none⟩),.string s] w fun e w'=>
   ((∃ j,j<len∧((nm j).toList == s.toList)=true∧(∀ i,j<i→i<len→((nm i).toList == s.toList)=false)∧e=.returned (.tuple #[.agg #[.string (nm j),.string (x1 j),.string (x2 j),.int .i64 (x3 j),.bool (x4 j),.bool (x5 j)],.bool true])) ∨
    ((∀ i,i<len→((nm i).toList == s.toList)=false)∧e=.returned (.tuple #[.agg #[Value.string { data:=#[] },Value.string { data:=#[] },Value.string { data:=#[] },Value.int IntKind.i64 0,Value.bool false,Value.bool false],.bool false])))∧Below w.heap.size w w':=by
 have hb:b<w.heap.size:=by
  cases h:w.heap[b]? with
  | none=>simp [World.cell?,h] at hc
  | some x=>exact (Array.getElem?_eq_some_iff.1 h).1
 have hb1:b<w.heap.size+1:=by omega
 have hb2:b<w.heap.size+1+1:=by omega
 refine callsIn_of_wp_marks Tryz.func476 rfl h1 ?_ hro
 simp only [Tryz.ntmps476,List.size_toArray,List.length_cons,List.length_nil,Nat.reduceAdd,Nat.reduceSub,Array.replicate_succ,Array.replicate_zero,List.push_toArray,List.append_toArray,List.nil_append,List.cons_append]
 gi_wp2
 refine ⟨fun _=>by omega,(Tryz.back498 F (n - 1) h2 hro _ _ _ _).mono ?_⟩
 rintro e w' ⟨rfl,rfl⟩
 gi_wp2
 obtain ⟨W0,hW0⟩:∃ W0,(((w.alloc (Obj.cells #[Value.string s] 9)).alloc (Obj.cells #[Value.string { data:=#[] },Value.string { data:=#[] },Value.string { data:=#[] },Value.int IntKind.i64 0,Value.bool false,Value.bool false] 476)).alloc (Obj.cells #[Value.bool false] 4)).alloc (Obj.cells #[Value.slice A len c] 346)=W0:=⟨_,rfl⟩
 rw [hW0]
 have hs0:W0.heap.size=w.heap.size+1+1+1+1:=by rw [← hW0];simp only [World.size_alloc]
 have hB0:Below w.heap.size w W0:=by rw [← hW0];exact ((((Below.refl _ w).alloc (Nat.le_refl _) _).alloc (by simp) _).alloc (by simp;omega) _).alloc (by simp;omega) _
 have g3:W0.heap[w.heap.size+1+1+1]? = some (.cells #[.slice A len c] 346 (0,0)):=by
  rw [← hW0];exact Tryz.new_alloc _ _ _ (by simp only [World.size_alloc])
 have g2:W0.heap[w.heap.size+1+1]? = some (.cells #[.bool false] 4 (0,0)):=by
  rw [← hW0];exact (Below.heap_alloc _ _ _ (by simp only [World.size_alloc];omega)).trans (Tryz.new_alloc _ _ _ (by simp only [World.size_alloc]))
 have g1:W0.heap[w.heap.size+1]? = some (.cells #[Value.string { data:=#[] },Value.string { data:=#[] },Value.string { data:=#[] },Value.int IntKind.i64 0,Value.bool false,Value.bool false] 476 (0,0)):=by
  rw [← hW0];exact (Below.heap_alloc _ _ _ (by simp only [World.size_alloc];omega)).trans ((Below.heap_alloc _ _ _ (by simp only [World.size_alloc];omega)).trans (Tryz.new_alloc _ _ _ (by simp only [World.size_alloc])))
 have g0:W0.heap[w.heap.size]? = some (.cells #[.string s] 9 (0,0)):=by
  rw [← hW0];exact (Below.heap_alloc _ _ _ (by simp only [World.size_alloc];omega)).trans ((Below.heap_alloc _ _ _ (by simp only [World.size_alloc];omega)).trans ((Below.heap_alloc _ _ _ (by simp only [World.size_alloc];omega)).trans (Tryz.new_alloc _ _ _ rfl)))
 have hk0:W0.cell? ⟨w.heap.size,0,none⟩=some (.string s):=Tryz.cell0 g0
 have hk3:W0.cell? ⟨w.heap.size+1+1+1,0,none⟩=some (.slice A len c):=Tryz.cell0 g3
 have hseq:SeqStopsK F (n - 1) Tryz.prog 513 #[.pointer (some ⟨w.heap.size+1+1+1,0,none⟩)] (fun x:Nat=>#[.int .i64 (x:Nat),.agg #[.string (nm x),.string (x1 x),.string (x2 x),.int .i64 (x3 x),.bool (x4 x),.bool (x5 x)]]) (Below W0.heap.size) (fun ys=>ys=Tryz.down len len) (fun pre=>∃ k,k≤len∧pre=Tryz.down len k) len W0:=
  fun l J Jx W hW hJ hJx hY h'=>by
   have hB:=(hW.cell (p:=⟨w.heap.size+1+1+1,0,none⟩) (by show w.heap.size+1+1+1<_;omega)).trans hk3
   rcases hA with h0 | ⟨sb,so,hA,hsb,hcs⟩
   ·subst h0
    refine (Tryz.iter513_nil F (n - 1) h3 hro _ (w.heap.size+1+1+1) A c W hB).mono ?_
    rintro e W' ⟨hv,rfl⟩
    exact ⟨hv,.inl ⟨[],rfl,h'⟩⟩
   ·rw [hA] at hB
    exact Tryz.iter513 F (n - 1) h3 hro (by omega) l (w.heap.size+1+1+1) W0.heap.size sb so len c (Tryz.cel_check nm x1 x2 x3 x4 x5) hl (by omega) (by omega) J Jx hY W hB
     (fun j i hj hi=>(hW.cell (p:=⟨sb,so+j * 6+i,none⟩) (by show sb<_;omega)).trans ((hB0.cell (p:=⟨sb,so+j * 6+i,none⟩) hsb).trans (hcs j i hj hi))) h'
 refine wpIn_rangeFunc_ownH (α:=Nat) hro (by omega) (gf:=513) (lb:=#[.pointer (some ⟨w.heap.size+1+1+1,0,none⟩)]) rfl h3 (enters_of Tryz.func513 (by kernel_rfl) rfl) hseq (fun h k=>belowK_t h k) (belowK_b (Nat.le_refl _)) (Below.refl _ _) (fun _=>rfl)
  (fun pre W=>(∀ j∈pre,((nm j).toList == s.toList)=false)∧Below W0.heap.size W0 W)
  (fun cd pre W=>(cd=.ret∧∃ p j,pre=p++[j]∧((nm j).toList == s.toList)=true∧(∀ i∈p,((nm i).toList == s.toList)=false)∧W.heap[w.heap.size+1]? = some (.cells #[.string (nm j),.string (x1 j),.string (x2 j),.int .i64 (x3 j),.bool (x4 j),.bool (x5 j)] 476 (0,0))∧W.heap[w.heap.size+1+1]? = some (.cells #[.bool true] 4 (0,0)))∧Below w.heap.size W0 W)
  (OwnFrom.and (ownFrom_pure _ _) (ownFrom_below (Nat.le_refl _) (Nat.le_refl _)))
  (fun cd=>OwnFrom.and (Own.from ?own _) (ownFrom_below (by omega) (by omega)))
  ⟨by simp,Below.refl _ _⟩
  (fun x a' W=>∃ Bx,W0.heap.size≤Bx∧W.heap[Bx]? = some (.cells #[.string (nm x),.string (x1 x),.string (x2 x),.int .i64 (x3 x),.bool (x4 x),.bool (x5 x)] 476 (0,0))∧a'={ tmps:=#[.pointer (some ⟨b,o,none⟩),.string s,undef,.pointer (some ⟨w.heap.size,0,none⟩),.pointer (some ⟨w.heap.size+1,0,none⟩),.pointer (some ⟨w.heap.size+1+1,0,none⟩),undef,.pointer (some ⟨Bx,0,none⟩),.pointer (some ⟨b,o,none⟩),.pointer (some ⟨b,o,none⟩),.pointer (some ⟨b,o+4,none⟩),.slice A len c,.func (.func 513) #[] #[.pointer (some ⟨w.heap.size+1+1+1,0,none⟩)],.int .i64 (x:Nat),.agg #[.string (nm x),.string (x1 x),.string (x2 x),.int .i64 (x3 x),.bool (x4 x),.bool (x5 x)],undef,undef,undef,undef,undef,undef],defers:=[] })
  ?hAx ?assign ?body ?done ?stop
 case own=>
  rintro pre A B row ⟨rfl,p,j,hp,hj,hne,q1,q2⟩ hg hr
  refine ⟨rfl,p,j,hp,hj,hne,?_,?_⟩
  ·refine (hg.block _ (Array.getElem?_eq_some_iff.1 q1).1 (fun e=>?_)).trans q1
   obtain ⟨o',ho,hcell⟩:=hr _ e.symm
   rw [q1] at ho;cases ho;cases hcell
  ·refine (hg.block _ (Array.getElem?_eq_some_iff.1 q2).1 (fun e=>?_)).trans q2
   obtain ⟨o',ho,hcell⟩:=hr _ e.symm
   rw [q2] at ho;cases ho;cases hcell
 case hAx=>
  rintro x a' u A B row ⟨Bx,h1,h2,h3⟩ hg hr
  refine ⟨Bx,h1,(hg.block _ (Array.getElem?_eq_some_iff.1 h2).1 (fun e=>?_)).trans h2,h3⟩
  obtain ⟨_,o',ho,hcell⟩:=hr _ e.symm
  rw [h2] at ho;cases ho;cases hcell
 case assign=>
  rintro l pre x W K ⟨hi1,hi2⟩ hK
  gi_wp2
  have hsz:=hi2.size
  exact hK _ _ ((KeepsOthers.alloc W _).from _) ((Below.refl _ W).alloc hsz _) ⟨hi1,hi2.trans ((Below.refl _ W).alloc hsz _)⟩ ⟨W.heap.size,hsz,World.alloc_heap_new W _,rfl⟩
 case body=>
  rintro l pre x a' W hl' hrec ⟨hi1,hi2⟩ ⟨Bx,hBx,hX,rfl⟩ hlt
  have k1:W.heap[w.heap.size+1]? = some (.cells #[Value.string { data:=#[] },Value.string { data:=#[] },Value.string { data:=#[] },Value.int IntKind.i64 0,Value.bool false,Value.bool false] 476 (0,0)):=(hi2.block _ (by omega)).trans g1
  have k2:W.heap[w.heap.size+1+1]? = some (.cells #[.bool false] 4 (0,0)):=(hi2.block _ (by omega)).trans g2
  have c0:W.cell? ⟨w.heap.size,0,none⟩=some (.string s):=(hi2.cell (p:=⟨w.heap.size,0,none⟩) (by show w.heap.size<_;omega)).trans hk0
  have c20:W.cell? ⟨w.heap.size+1+1,0,none⟩=some (.bool false):=Tryz.block_cell k2 rfl
  have f20:W.frozen? ⟨w.heap.size+1+1,0,none⟩=false:=Tryz.block_frozen k2
  have c10:W.cell? ⟨w.heap.size+1,0,none⟩=some (Value.string { data:=#[] }):=Tryz.block_cell k1 rfl
  have f10:W.frozen? ⟨w.heap.size+1,0,none⟩=false:=Tryz.block_frozen k1
  have c11:W.cell? ⟨w.heap.size+1,1,none⟩=some (Value.string { data:=#[] }):=Tryz.block_cell k1 rfl
  have f11:W.frozen? ⟨w.heap.size+1,1,none⟩=false:=Tryz.block_frozen k1
  have c12:W.cell? ⟨w.heap.size+1,2,none⟩=some (Value.string { data:=#[] }):=Tryz.block_cell k1 rfl
  have f12:W.frozen? ⟨w.heap.size+1,2,none⟩=false:=Tryz.block_frozen k1
  have c13:W.cell? ⟨w.heap.size+1,3,none⟩=some (Value.int IntKind.i64 0):=Tryz.block_cell k1 rfl
  have f13:W.frozen? ⟨w.heap.size+1,3,none⟩=false:=Tryz.block_frozen k1
  have c14:W.cell? ⟨w.heap.size+1,4,none⟩=some (Value.bool false):=Tryz.block_cell k1 rfl
  have f14:W.frozen? ⟨w.heap.size+1,4,none⟩=false:=Tryz.block_frozen k1
  have c15:W.cell? ⟨w.heap.size+1,5,none⟩=some (Value.bool false):=Tryz.block_cell k1 rfl
  have f15:W.frozen? ⟨w.heap.size+1,5,none⟩=false:=Tryz.block_frozen k1
  have cX0:W.cell? ⟨Bx,0,none⟩=some (.string (nm x)):=Tryz.block_cell hX rfl
  have cX1:W.cell? ⟨Bx,1,none⟩=some (.string (x1 x)):=Tryz.block_cell hX rfl
  have cX2:W.cell? ⟨Bx,2,none⟩=some (.string (x2 x)):=Tryz.block_cell hX rfl
  have cX3:W.cell? ⟨Bx,3,none⟩=some (.int .i64 (x3 x)):=Tryz.block_cell hX rfl
  have cX4:W.cell? ⟨Bx,4,none⟩=some (.bool (x4 x)):=Tryz.block_cell hX rfl
  have cX5:W.cell? ⟨Bx,5,none⟩=some (.bool (x5 x)):=Tryz.block_cell hX rfl
  cases hm:((nm x).toList == s.toList) with
  | false =>
    gi_wp2
    exact ⟨KeepsFrom.refl _ _,Below.refl _ _,fun j hj=>by
     rcases List.mem_append.1 hj with hj | hj
     ·exact hi1 j hj
     ·simp at hj;subst hj;exact hm,hi2⟩
  | true =>
    gi_wp2
    exact ⟨KeepsOthers.from (((((((KeepsOthers.setCell _ _ _).trans (KeepsOthers.setCell _ _ _)).trans (KeepsOthers.setCell _ _ _)).trans (KeepsOthers.setCell _ _ _)).trans (KeepsOthers.setCell _ _ _)).trans (KeepsOthers.setCell _ _ _)).trans (KeepsOthers.setCell _ _ _)) _,⟨rfl,pre,x,rfl,hm,hi1,(Below.heap_setCell _ _ _ _ (by show w.heap.size+1≠w.heap.size+1+1;omega)).trans (by simpa using (Tryz.set_same 5 (.bool (x5 x)) (Tryz.set_same 4 (.bool (x4 x)) (Tryz.set_same 3 (.int .i64 (x3 x)) (Tryz.set_same 2 (.string (x2 x)) (Tryz.set_same 1 (.string (x1 x)) (Tryz.set_same 0 (.string (nm x)) k1))))))),by simpa using Tryz.set_same 0 (.bool true) ((Below.heap_setCell _ _ _ _ (by show w.heap.size+1+1≠w.heap.size+1;omega)).trans ((Below.heap_setCell _ _ _ _ (by show w.heap.size+1+1≠w.heap.size+1;omega)).trans ((Below.heap_setCell _ _ _ _ (by show w.heap.size+1+1≠w.heap.size+1;omega)).trans ((Below.heap_setCell _ _ _ _ (by show w.heap.size+1+1≠w.heap.size+1;omega)).trans ((Below.heap_setCell _ _ _ _ (by show w.heap.size+1+1≠w.heap.size+1;omega)).trans ((Below.heap_setCell _ _ _ _ (by show w.heap.size+1+1≠w.heap.size+1;omega)).trans k2))))))⟩,((((((((hi2.mono (by omega)).setCell (p:=⟨w.heap.size+1,0,none⟩) (by show w.heap.size≤w.heap.size+1;omega) _).setCell (p:=⟨w.heap.size+1,1,none⟩) (by show w.heap.size≤w.heap.size+1;omega) _).setCell (p:=⟨w.heap.size+1,2,none⟩) (by show w.heap.size≤w.heap.size+1;omega) _).setCell (p:=⟨w.heap.size+1,3,none⟩) (by show w.heap.size≤w.heap.size+1;omega) _).setCell (p:=⟨w.heap.size+1,4,none⟩) (by show w.heap.size≤w.heap.size+1;omega) _).setCell (p:=⟨w.heap.size+1,5,none⟩) (by show w.heap.size≤w.heap.size+1;omega) _).setCell (p:=⟨w.heap.size+1+1,0,none⟩) (by show w.heap.size≤w.heap.size+1+1;omega) _)⟩
 case done=>
  rintro D xs W hD rfl ⟨hi1,hi2⟩ hK
  have k1:W.heap[w.heap.size+1]? = some (.cells #[Value.string { data:=#[] },Value.string { data:=#[] },Value.string { data:=#[] },Value.int IntKind.i64 0,Value.bool false,Value.bool false] 476 (0,0)):=(hi2.block _ (by omega)).trans g1
  have k2:W.heap[w.heap.size+1+1]? = some (.cells #[.bool false] 4 (0,0)):=(hi2.block _ (by omega)).trans g2
  have c0:W.cell? ⟨w.heap.size,0,none⟩=some (.string s):=(hi2.cell (p:=⟨w.heap.size,0,none⟩) (by show w.heap.size<_;omega)).trans hk0
  have c20:W.cell? ⟨w.heap.size+1+1,0,none⟩=some (.bool false):=Tryz.block_cell k2 rfl
  have f20:W.frozen? ⟨w.heap.size+1+1,0,none⟩=false:=Tryz.block_frozen k2
  have c10:W.cell? ⟨w.heap.size+1,0,none⟩=some (Value.string { data:=#[] }):=Tryz.block_cell k1 rfl
  have f10:W.frozen? ⟨w.heap.size+1,0,none⟩=false:=Tryz.block_frozen k1
  have c11:W.cell? ⟨w.heap.size+1,1,none⟩=some (Value.string { data:=#[] }):=Tryz.block_cell k1 rfl
  have f11:W.frozen? ⟨w.heap.size+1,1,none⟩=false:=Tryz.block_frozen k1
  have c12:W.cell? ⟨w.heap.size+1,2,none⟩=some (Value.string { data:=#[] }):=Tryz.block_cell k1 rfl
  have f12:W.frozen? ⟨w.heap.size+1,2,none⟩=false:=Tryz.block_frozen k1
  have c13:W.cell? ⟨w.heap.size+1,3,none⟩=some (Value.int IntKind.i64 0):=Tryz.block_cell k1 rfl
  have f13:W.frozen? ⟨w.heap.size+1,3,none⟩=false:=Tryz.block_frozen k1
  have c14:W.cell? ⟨w.heap.size+1,4,none⟩=some (Value.bool false):=Tryz.block_cell k1 rfl
  have f14:W.frozen? ⟨w.heap.size+1,4,none⟩=false:=Tryz.block_frozen k1
  have c15:W.cell? ⟨w.heap.size+1,5,none⟩=some (Value.bool false):=Tryz.block_cell k1 rfl
  have f15:W.frozen? ⟨w.heap.size+1,5,none⟩=false:=Tryz.block_frozen k1
  gi_wp2
  obtain ⟨Wf,hWf⟩:∃ Wf,(World.setCell (World.setCell (World.setCell (World.setCell (World.setCell (World.setCell (World.setCell W ⟨w.heap.size+1,0,none⟩ (Value.string { data:=#[] })) ⟨w.heap.size+1,1,none⟩ (Value.string { data:=#[] })) ⟨w.heap.size+1,2,none⟩ (Value.string { data:=#[] })) ⟨w.heap.size+1,3,none⟩ (Value.int IntKind.i64 0)) ⟨w.heap.size+1,4,none⟩ (Value.bool false)) ⟨w.heap.size+1,5,none⟩ (Value.bool false)) ⟨w.heap.size+1+1,0,none⟩ (.bool false))=Wf:=⟨_,rfl⟩
  have q1:Wf.heap[w.heap.size+1]? = some (.cells #[Value.string { data:=#[] },Value.string { data:=#[] },Value.string { data:=#[] },Value.int IntKind.i64 0,Value.bool false,Value.bool false] 476 (0,0)):=by
   rw [← hWf]
   exact (Below.heap_setCell _ _ _ _ (by show w.heap.size+1≠w.heap.size+1+1;omega)).trans (by simpa using (Tryz.set_same 5 (Value.bool false) (Tryz.set_same 4 (Value.bool false) (Tryz.set_same 3 (Value.int IntKind.i64 0) (Tryz.set_same 2 (Value.string { data:=#[] }) (Tryz.set_same 1 (Value.string { data:=#[] }) (Tryz.set_same 0 (Value.string { data:=#[] }) k1)))))))
  have q2:Wf.heap[w.heap.size+1+1]? = some (.cells #[.bool false] 4 (0,0)):=by
   rw [← hWf]
   simpa using Tryz.set_same 0 (.bool false) ((Below.heap_setCell _ _ _ _ (by show w.heap.size+1+1≠w.heap.size+1;omega)).trans ((Below.heap_setCell _ _ _ _ (by show w.heap.size+1+1≠w.heap.size+1;omega)).trans ((Below.heap_setCell _ _ _ _ (by show w.heap.size+1+1≠w.heap.size+1;omega)).trans ((Below.heap_setCell _ _ _ _ (by show w.heap.size+1+1≠w.heap.size+1;omega)).trans ((Below.heap_setCell _ _ _ _ (by show w.heap.size+1+1≠w.heap.size+1;omega)).trans ((Below.heap_setCell _ _ _ _ (by show w.heap.size+1+1≠w.heap.size+1;omega)).trans k2))))))
  have q3:Wf.heap[D]? = some (.deferred (some [])):=by
   rw [← hWf]
   exact ((Below.heap_setCell _ _ _ _ (by show D≠_;simp only;omega)).trans ((Below.heap_setCell _ _ _ _ (by show D≠_;simp only;omega)).trans ((Below.heap_setCell _ _ _ _ (by show D≠_;simp only;omega)).trans ((Below.heap_setCell _ _ _ _ (by show D≠_;simp only;omega)).trans ((Below.heap_setCell _ _ _ _ (by show D≠_;simp only;omega)).trans ((Below.heap_setCell _ _ _ _ (by show D≠_;simp only;omega)).trans ((Below.heap_setCell _ _ _ _ (by show D≠_;simp only;omega)).trans hK)))))))
  have q4:Below w.heap.size W0 Wf:=by
   rw [← hWf]
   exact ((((((((hi2.mono (by omega)).setCell (p:=⟨w.heap.size+1,0,none⟩) (by show w.heap.size≤w.heap.size+1;omega) _).setCell (p:=⟨w.heap.size+1,1,none⟩) (by show w.heap.size≤w.heap.size+1;omega) _).setCell (p:=⟨w.heap.size+1,2,none⟩) (by show w.heap.size≤w.heap.size+1;omega) _).setCell (p:=⟨w.heap.size+1,3,none⟩) (by show w.heap.size≤w.heap.size+1;omega) _).setCell (p:=⟨w.heap.size+1,4,none⟩) (by show w.heap.size≤w.heap.size+1;omega) _).setCell (p:=⟨w.heap.size+1,5,none⟩) (by show w.heap.size≤w.heap.size+1;omega) _).setCell (p:=⟨w.heap.size+1+1,0,none⟩) (by show w.heap.size≤w.heap.size+1+1;omega) _)
  rw [hWf]
  refine ⟨by simp,.inl ⟨_,_,rfl,run_takeDeferred q3,?_⟩⟩
  have g3:(Wf.putObj D (.deferred none)).heap[w.heap.size+1]? = _:=(World.putObj_heap_other (by omega)).trans q1
  have g4:(Wf.putObj D (.deferred none)).heap[w.heap.size+1+1]? = _:=(World.putObj_heap_other (by omega)).trans q2
  exact ⟨_,Tryz.results_two rfl _ _ (w.heap.size+1) (w.heap.size+1+1) 476 4 _ _ (0,0) (0,0) _ rfl g3 Tryz.underlying476 rfl (by kernel_rfl) rfl (Tryz.load_one g4),.inr ⟨fun i hi=>hi1 i (Tryz.mem_down hi (by omega)),rfl⟩,hB0.trans (q4.trans (belowK_b (w:=w) (Nat.le_refl _) Wf D _ _ (by omega) q3 rfl rfl))⟩
 case stop=>
  rintro D cd pre W hD ⟨k,hk,rfl⟩ ⟨⟨rfl,p,j,hp,hj,hne,g1,g2⟩,hB⟩ hK
  gi_wp2
  refine ⟨by simp,.inl ⟨_,_,rfl,run_takeDeferred hK,?_⟩⟩
  have g3:(W.putObj D (.deferred none)).heap[w.heap.size+1]? = _:=(World.putObj_heap_other (by omega)).trans g1
  have g4:(W.putObj D (.deferred none)).heap[w.heap.size+1+1]? = _:=(World.putObj_heap_other (by omega)).trans g2
  obtain ⟨d1,d2⟩:=Tryz.down_last hk hp
  exact ⟨_,Tryz.results_two rfl _ _ (w.heap.size+1) (w.heap.size+1+1) 476 4 _ _ (0,0) (0,0) _ rfl g3 Tryz.underlying476 rfl (by kernel_rfl) rfl (Tryz.load_one g4),.inl ⟨j,d1,hj,fun i h1 h2=>hne i (d2 i h1 h2),rfl⟩,hB0.trans (hB.trans (belowK_b (w:=w) (Nat.le_refl _) W D _ _ (by omega) hK rfl rfl))⟩
end Go.Proofs
namespace Go.Abs
open Go Go.Proofs Go.RowKit
structure Ent where
 nm:S
 kd:S
 ty:S
 rk:Int
 lp:Bool
 fx:Bool
def e0E:Ent:=⟨[],[],[],0,false,false⟩
def Ent.c (e:Ent):List AV:=[.sc (.s e.nm),.sc (.s e.kd),.sc (.s e.ty),.sc (.i .i64 e.rk),.sc (.b e.lp),.sc (.b e.fx)]
theorem find476_cs (W0:Go.World) (s:S) (x0 x1 x2 x3:AV) (xr:List AV) (k o n c:Nat) (t:Tok) (H:List (List AV)) (L:List AV) (rows:Nat→Ent) (res:AV)
  (hm0:isM (x0::x1::x2::x3::.cs 6 k o n c t::xr)=false) (hk:((x0::x1::x2::x3::.cs 6 k o n c t::xr)::H)[k]? = some L) (hm:isM L=false) (hn:n≤140737488351232)
  (hL:∀ j i,j<n→i<6→L[o+j * 6+i]? = (rows j).c[i]?)
  (hR:(∃ j,j<n∧aH (rows j).nm s=true∧(∀ i,j<i→i<n→aH (rows i).nm s=false)∧res=.tup [.agg (rows j).c,.sc (.b true)])∨((∀ i,i<n→aH (rows i).nm s=false)∧res=.tup [.agg e0E.c,.sc (.b false)])) :
  Ctr Tryz.prog W0 476 [.ptr 0 0,.sc (.s s)] ((x0::x1::x2::x3::.cs 6 k o n c t::xr)::H) res ((x0::x1::x2::x3::.cs 6 k o n c t::xr)::H):=by
 have htk:toks res=[]:=by rcases hR with ⟨j,_,_,_,rfl⟩ | ⟨_,rfl⟩<;>rfl
 refine gV (by kernel_rfl) htk fun κ w vals hsz hs=>?_
 obtain ⟨hDb,h0⟩:=(hs.arg (n:=0) rfl).ptr_inv
 have h1:=(hs.arg (n:=1) rfl).sc_inv
 rw [jm hsz,h0,h1]
 obtain ⟨_,_,hB⟩:=hs.boxes 0 (x0::x1::x2::x3::.cs 6 k o n c t::xr) (by rw [aK];rfl)
 obtain ⟨C,ty,hg,hR0⟩:=hB.row hm0
 obtain ⟨cap,hDk,hnc,hcc,_,hv⟩:=(hR0.2.2 4 (.cs 6 k o n c t) rfl).cs_inv
 have hsz0:=hR0.1
 obtain ⟨_,_,hBk⟩:=hs.boxes k L (by rw [aK,hk];rfl)
 obtain ⟨Ck,tk,hgk,hRk⟩:=hBk.row hm
 have hcell:w.cell? ⟨(κ.ι 0).1,(κ.ι 0).2+0+4,none⟩=some (.slice (some ⟨(κ.ι k).1,(κ.ι k).2+o,none⟩) n cap):=by
  rw [au hg,Nat.add_zero]
  have:(κ.ι 0).2+4<C.size:=by simp only [List.length_cons] at hsz0;omega
  rw [Array.getD_eq_getD_getElem?,Array.getElem?_eq_getElem this] at hv
  rw [Array.getElem?_eq_getElem this]
  exact congrArg some hv
 have hcells:∀ j i,j<n→i<6→w.cell? ⟨(κ.ι k).1,(κ.ι k).2+o+j * 6+i,none⟩=some (Tryz.cel_check (fun j=>⟨(rows j).nm.toArray⟩) (fun j=>⟨(rows j).kd.toArray⟩) (fun j=>⟨(rows j).ty.toArray⟩) (fun j=>(rows j).rk) (fun j=>(rows j).lp) (fun j=>(rows j).fx) j i):=by
  intro j i hj hi
  have hl:=hL j i hj hi
  obtain ⟨x,hx,hxv⟩:∃ x,(rows j).c[i]? = some (.sc x)∧x.val=Tryz.cel_check (fun j=>⟨(rows j).nm.toArray⟩) (fun j=>⟨(rows j).kd.toArray⟩) (fun j=>⟨(rows j).ty.toArray⟩) (fun j=>(rows j).rk) (fun j=>(rows j).lp) (fun j=>(rows j).fx) j i:=by
   match i,hi with
   | 0,_=>exact ⟨_,rfl,rfl⟩
   | 1,_=>exact ⟨_,rfl,rfl⟩
   | 2,_=>exact ⟨_,rfl,rfl⟩
   | 3,_=>exact ⟨_,rfl,rfl⟩
   | 4,_=>exact ⟨_,rfl,rfl⟩
   | 5,_=>exact ⟨_,rfl,rfl⟩
  rw [hx] at hl
  have hlt:o+j * 6+i<L.length:=(List.getElem?_eq_some_iff.1 hl).1
  have hv2:=(hRk.2.2 _ _ hl).sc_inv
  have hszk:=hRk.1
  rw [au hgk,show (κ.ι k).2+o+j * 6+i=(κ.ι k).2+(o+j * 6+i) by omega]
  have:(κ.ι k).2+(o+j * 6+i)<Ck.size:=by omega
  rw [Array.getD_eq_getD_getElem?,Array.getElem?_eq_getElem this] at hv2
  rw [Array.getElem?_eq_getElem this,← hxv]
  exact congrArg some hv2
 refine (Go.callsIn_wide.1 (Tryz.find476_in Go.Fence.wide 3 trivial trivial trivial rfl (Nat.le_refl _) (κ.ι 0).1 ((κ.ι 0).2+0) n cap (some ⟨(κ.ι k).1,(κ.ι k).2+o,none⟩) ⟨s.toArray⟩ (fun j=>⟨(rows j).nm.toArray⟩) (fun j=>⟨(rows j).kd.toArray⟩) (fun j=>⟨(rows j).ty.toArray⟩) (fun j=>(rows j).rk) (fun j=>(rows j).lp) (fun j=>(rows j).fx) w hcell hn
  (.inr ⟨_,_,rfl,aC hgk,hcells⟩))).mono ?_
 rintro e w' ⟨hres,hb⟩
 simp only [eX] at hres
 have hag:∀ (e:Ent) (κ':Gh) (w':Go.World),RepV κ' w' (.agg e.c) (.agg #[.string ⟨e.nm.toArray⟩,.string ⟨e.kd.toArray⟩,.string ⟨e.ty.toArray⟩,.int .i64 e.rk,.bool e.lp,.bool e.fx]):=fun e κ' w'=>by
  refine .agg _ _ rfl (by simp [Ent.c,one]) fun j v hj=>?_
  match j,hj with
  | 0,hj=>simp [Ent.c] at hj;subst hj;exact .sc (.s e.nm)
  | 1,hj=>simp [Ent.c] at hj;subst hj;exact .sc (.s e.kd)
  | 2,hj=>simp [Ent.c] at hj;subst hj;exact .sc (.s e.ty)
  | 3,hj=>simp [Ent.c] at hj;subst hj;exact .sc (.i .i64 e.rk)
  | 4,hj=>simp [Ent.c] at hj;subst hj;exact .sc (.b e.lp)
  | 5,hj=>simp [Ent.c] at hj;subst hj;exact .sc (.b e.fx)
 have htup:∀ (e:Ent) (f:Bool) (κ':Gh) (w':Go.World),RepV κ' w' (.tup [.agg e.c,.sc (.b f)]) (.tuple #[.agg #[.string ⟨e.nm.toArray⟩,.string ⟨e.kd.toArray⟩,.string ⟨e.ty.toArray⟩,.int .i64 e.rk,.bool e.lp,.bool e.fx],.bool f]):=fun e f κ' w'=>by
  refine .tup _ _ rfl fun j v hj=>?_
  match j,hj with
  | 0,hj=>simp at hj;subst hj;exact hag e κ' w'
  | 1,hj=>simp at hj;subst hj;exact .sc (.b f)
 rcases hR with ⟨j,hj,hjt,hjl,rfl⟩ | ⟨hall,rfl⟩
 ·rcases hres with ⟨j2,hj2,hjt2,hjl2,rfl⟩ | ⟨hall2,rfl⟩
  ·obtain rfl:j=j2:=by
    rcases Nat.lt_trichotomy j j2 with h | h | h
    ·exact absurd (hjl j2 h hj2) (by rw [hjt2];decide)
    ·exact h
    ·exact absurd (hjl2 j h hj) (by rw [hjt];decide)
   exact ⟨_,rfl,hb,htup (rows j) true _ _⟩
  ·exact absurd (hall2 j hj) (by rw [hjt];decide)
 ·rcases hres with ⟨j2,hj2,hjt2,hjl2,rfl⟩ | ⟨hall2,rfl⟩
  ·exact absurd (hall j2 hj2) (by rw [hjt2];decide)
  ·exact ⟨_,rfl,hb,htup e0E false _ _⟩
end Go.Abs
namespace Go.Proofs
open Go.RowKit Go.Shelf Go
attribute [local go_sem] Oper.semAt_some
theorem Tryz.back418 (F:Fence) (n:Nat) (h:F.fn 418) (hro:F.round=none) (A:Option Addr) (k c:Nat) (w:World) :
  CallsIn F n Tryz.prog 418 #[.slice A k c] w fun e w'=>e=.returned (.func (.func 458) #[] #[.pointer (some ⟨w.heap.size,0,none⟩)])∧w'=w.alloc (.cells #[.slice A k c] 364):=by
 refine callsIn_of_wp Tryz.func418 rfl h ?_ hro
 simp only [Tryz.ntmps418,List.size_toArray,List.length_cons,List.length_nil,Nat.reduceAdd,Nat.reduceSub,Array.replicate_succ,Array.replicate_zero,List.push_toArray,List.append_toArray,List.nil_append,List.cons_append]
 gi_wp2
 first | go_end0 | go_ret
 exact ⟨rfl,rfl⟩
theorem Tryz.iter458 (F:Fence) (n:Nat) (h7:F.fn 458) (hro:F.round=none) (hn:1≤n) (l Bs n₀ b off len cap:Nat) (zs:Nat→Nat→Value) (hreach:len≤140737488351232) (hb:b<n₀) (hBn:Bs<n₀) (J Jx:List Nat→World→Prop)
  (hY:∀ pre (x:Nat) W,J pre W→pre.length<len→YieldAt F (n - 1) Tryz.prog l #[.int .i64 (x:Int),.agg #[zs x 0,zs x 1,zs x 2]] W fun e W'=>
   (e=.returned (.bool true)∧J (pre++[x]) W'∧Below n₀ W W')∨(e=.returned (.bool false)∧Jx (pre++[x]) W'))
  (W:World) (hBs:W.cell? ⟨Bs,0,none⟩=some (.slice (some ⟨b,off,none⟩) len cap)) (hc:∀ j i,j<len→i<3→W.cell? ⟨b,off+j * 3+i,none⟩=some (zs j i)) (h0:J [] W) :
  CallsIn F n Tryz.prog 458 #[.func (.yield l) #[] #[],.pointer (some ⟨Bs,0,none⟩)] W fun e W'=>(∃ v,e=.returned v) ∧
   ((∃ ys,ys=Tryz.down len len∧J ys W')∨(∃ pre,(∃ k,k≤len∧pre=Tryz.down len k)∧Jx pre W')):=by
 refine callsIn_of_wp Tryz.func458 rfl h7 ?_ hro
 simp only [Tryz.ntmps458,List.size_toArray,List.length_cons,List.length_nil,Nat.reduceAdd,Nat.reduceSub,Array.replicate_succ,Array.replicate_zero,List.push_toArray,List.append_toArray,List.nil_append,List.cons_append]
 gi_wp2
 gi_loopw [3] (fun i wr=>∃ k:Nat,k≤len∧i=.int .i64 ((len:Int) - 1 - k)∧J (Tryz.down len k) wr∧Below n₀ W wr)
  (fun i _=>(intOf i+1).toNat)
 case atStart=>exact ⟨0,Nat.zero_le _,by simp,h0,Below.refl _ _⟩
 case round=>
  obtain ⟨k,hk,rfl,hJs,hnx⟩:=hrel
  have hBr:wr.cell? ⟨Bs,0,none⟩=some (.slice (some ⟨b,off,none⟩) len cap):=(hnx.cell (p:=⟨Bs,0,none⟩) hBn).trans hBs
  by_cases hlt:k<len
  ·have hcx:∀ i,i<3→wr.cell? ⟨b,off+(len - 1 - k) * 3+i,none⟩=some (zs (len - 1 - k) i):=fun i hi=>(hnx.cell (p:=⟨b,off+(len - 1 - k) * 3+i,none⟩) hb).trans (hc (len - 1 - k) i (by omega) hi)
   have hc0:wr.cell? ⟨b,off+(len - 1 - k) * 3,none⟩=some (zs (len - 1 - k) 0):=hcx 0 (by omega)
   have hc1:wr.cell? ⟨b,off+(len - 1 - k) * 3+1,none⟩=some (zs (len - 1 - k) 1):=hcx 1 (by omega)
   have hc2:wr.cell? ⟨b,off+(len - 1 - k) * 3+2,none⟩=some (zs (len - 1 - k) 2):=hcx 2 (by omega)
   obtain ⟨fn,tmps,assign,body,hy,hR⟩:=hY _ (len - 1 - k) wr hJs (by rw [Tryz.down_length];exact hlt)
   try dsimp only at hy
   have hki:(len:Int) - 1 - k=((len - 1 - k:Nat):Int):=by omega
   rw [hki]
   gi_wp2
   refine hR.mono ?_
   rintro e W3 (⟨rfl,hJ3,hk3⟩ | ⟨rfl,hJx3⟩)
   ·gi_wp2
    go_roundw
    case rel=>exact ⟨k+1,by omega,by first | rfl | (simp;omega),by rw [Tryz.down_succ];exact hJ3,hnx.trans hk3⟩
    case measure=>first | (simp [intOf];done) | (simp [intOf];omega)
   ·gi_wp2
    refine bodyPost_ret (results_none rfl _ _ _) rfl ?_
    exact ⟨⟨_,rfl⟩,.inr ⟨_,⟨k+1,by omega,(Tryz.down_succ _ _).symm⟩,hJx3⟩⟩
  ·obtain rfl:k=len:=by omega
   have hki:(k:Int) - 1 - k=-1:=by omega
   rw [hki]
   gi_wp2
   go_end0
   exact ⟨⟨_,rfl⟩,.inl ⟨_,rfl,hJs⟩⟩
theorem Tryz.iter458_nil (F:Fence) (n:Nat) (h7:F.fn 458) (hro:F.round=none) (y:Value) (b:Nat) (A:Option Addr) (c:Nat) (w:World) (hc:w.cell? ⟨b,0,none⟩=some (.slice A 0 c)) :
  CallsIn F n Tryz.prog 458 #[y,.pointer (some ⟨b,0,none⟩)] w fun e w'=>(∃ v,e=.returned v)∧w'=w:=by
 refine callsIn_of_wp Tryz.func458 rfl h7 ?_ hro
 simp only [Tryz.ntmps458,List.size_toArray,List.length_cons,List.length_nil,Nat.reduceAdd,Nat.reduceSub,Array.replicate_succ,Array.replicate_zero,List.push_toArray,List.append_toArray,List.nil_append,List.cons_append]
 gi_wp2
 refine wpIn_loop_once ?_
 gi_wp2
 first | go_end0 | go_ret
 exact ⟨⟨_,rfl⟩,rfl⟩
end Go.Proofs
namespace Go.Proofs
open Go.RowKit Go.Shelf Go
attribute [local go_sem] Oper.semAt_some
def Tryz.cel_lower (nm:Nat→ByteArray) (x1:Nat→ByteArray) (x2:Nat→Int) (j:Nat):Nat→Value
 | 0=>.string (nm j)
 | 1=>.string (x1 j)
 | _=>.int .i64 (x2 j)
theorem Tryz.find373_in (F:Fence) (n:Nat) (h1:F.fn 373) (h2:F.fn 418) (h3:F.fn 458) (hro:F.round=none) (hn:3≤n) (len c:Nat) (A:Option Addr) (s:ByteArray) (nm:Nat→ByteArray) (x1:Nat→ByteArray) (x2:Nat→Int) (w:World) (hl:len≤140737488351232)
  (hA:len=0∨∃ sb so,A=some ⟨sb,so,none⟩∧sb<w.heap.size∧∀ j i,j<len→i<3→w.cell? ⟨sb,so+j * 3+i,none⟩=some ((Tryz.cel_lower nm x1 x2) j i)) :
  CallsIn F n Tryz.prog 373 #[.slice A len c,.string s] w fun e w'=>
   ((∃ j,j<len∧((nm j).toList == s.toList)=true∧(∀ i,j<i→i<len→((nm i).toList == s.toList)=false)∧e=.returned (.agg #[.string (x1 j),.int .i64 (x2 j)])) ∨
    ((∀ i,i<len→((nm i).toList == s.toList)=false)∧e=.returned (.agg #[Value.string { data:=#[] },Value.int IntKind.i64 0])))∧Below w.heap.size w w':=by
 refine callsIn_of_wp_marks Tryz.func373 rfl h1 ?_ hro
 simp only [Tryz.ntmps373,List.size_toArray,List.length_cons,List.length_nil,Nat.reduceAdd,Nat.reduceSub,Array.replicate_succ,Array.replicate_zero,List.push_toArray,List.append_toArray,List.nil_append,List.cons_append]
 gi_wp2
 refine ⟨fun _=>by omega,(Tryz.back418 F (n - 1) h2 hro _ _ _ _).mono ?_⟩
 rintro e w' ⟨rfl,rfl⟩
 gi_wp2
 obtain ⟨W0,hW0⟩:∃ W0,((w.alloc (Obj.cells #[Value.string s] 9)).alloc (Obj.cells #[Value.string { data:=#[] },Value.int IntKind.i64 0] 54)).alloc (Obj.cells #[Value.slice A len c] 364)=W0:=⟨_,rfl⟩
 rw [hW0]
 have hs0:W0.heap.size=w.heap.size+1+1+1:=by rw [← hW0];simp only [World.size_alloc]
 have hB0:Below w.heap.size w W0:=by rw [← hW0];exact (((Below.refl _ w).alloc (Nat.le_refl _) _).alloc (by simp) _).alloc (by simp;omega) _
 have g3:W0.heap[w.heap.size+1+1]? = some (.cells #[.slice A len c] 364 (0,0)):=by
  rw [← hW0];exact Tryz.new_alloc _ _ _ (by simp only [World.size_alloc])
 have g1:W0.heap[w.heap.size+1]? = some (.cells #[Value.string { data:=#[] },Value.int IntKind.i64 0] 54 (0,0)):=by
  rw [← hW0];exact (Below.heap_alloc _ _ _ (by simp only [World.size_alloc];omega)).trans (Tryz.new_alloc _ _ _ (by simp only [World.size_alloc]))
 have g0:W0.heap[w.heap.size]? = some (.cells #[.string s] 9 (0,0)):=by
  rw [← hW0];exact (Below.heap_alloc _ _ _ (by simp only [World.size_alloc];omega)).trans ((Below.heap_alloc _ _ _ (by simp only [World.size_alloc];omega)).trans (Tryz.new_alloc _ _ _ rfl))
 have hk0:W0.cell? ⟨w.heap.size,0,none⟩=some (.string s):=Tryz.cell0 g0
 have hk3:W0.cell? ⟨w.heap.size+1+1,0,none⟩=some (.slice A len c):=Tryz.cell0 g3
 have hseq:SeqStopsK F (n - 1) Tryz.prog 458 #[.pointer (some ⟨w.heap.size+1+1,0,none⟩)] (fun x:Nat=>#[.int .i64 (x:Nat),.agg #[.string (nm x),.string (x1 x),.int .i64 (x2 x)]]) (Below W0.heap.size) (fun ys=>ys=Tryz.down len len) (fun pre=>∃ k,k≤len∧pre=Tryz.down len k) len W0:=
  fun l J Jx W hW hJ hJx hY h'=>by
   have hB:=(hW.cell (p:=⟨w.heap.size+1+1,0,none⟩) (by show w.heap.size+1+1<_;omega)).trans hk3
   rcases hA with h0 | ⟨sb,so,hA,hsb,hcs⟩
   ·subst h0
    refine (Tryz.iter458_nil F (n - 1) h3 hro _ (w.heap.size+1+1) A c W hB).mono ?_
    rintro e W' ⟨hv,rfl⟩
    exact ⟨hv,.inl ⟨[],rfl,h'⟩⟩
   ·rw [hA] at hB
    exact Tryz.iter458 F (n - 1) h3 hro (by omega) l (w.heap.size+1+1) W0.heap.size sb so len c (Tryz.cel_lower nm x1 x2) hl (by omega) (by omega) J Jx hY W hB
     (fun j i hj hi=>(hW.cell (p:=⟨sb,so+j * 3+i,none⟩) (by show sb<_;omega)).trans ((hB0.cell (p:=⟨sb,so+j * 3+i,none⟩) hsb).trans (hcs j i hj hi))) h'
 refine wpIn_rangeFunc_ownH (α:=Nat) hro (by omega) (gf:=458) (lb:=#[.pointer (some ⟨w.heap.size+1+1,0,none⟩)]) rfl h3 (enters_of Tryz.func458 (by kernel_rfl) rfl) hseq (fun h k=>belowK_t h k) (belowK_b (Nat.le_refl _)) (Below.refl _ _) (fun _=>rfl)
  (fun pre W=>(∀ j∈pre,((nm j).toList == s.toList)=false)∧Below W0.heap.size W0 W)
  (fun cd pre W=>(cd=.ret∧∃ p j,pre=p++[j]∧((nm j).toList == s.toList)=true∧(∀ i∈p,((nm i).toList == s.toList)=false)∧W.heap[w.heap.size+1]? = some (.cells #[.string (x1 j),.int .i64 (x2 j)] 54 (0,0)))∧Below w.heap.size W0 W)
  (OwnFrom.and (ownFrom_pure _ _) (ownFrom_below (Nat.le_refl _) (Nat.le_refl _)))
  (fun cd=>OwnFrom.and (Own.from ?own _) (ownFrom_below (by omega) (by omega)))
  ⟨by simp,Below.refl _ _⟩
  (fun x a' W=>∃ Bx,W0.heap.size≤Bx∧W.heap[Bx]? = some (.cells #[.string (nm x),.string (x1 x),.int .i64 (x2 x)] 423 (0,0))∧a'={ tmps:=#[.slice A len c,.string s,undef,.pointer (some ⟨w.heap.size,0,none⟩),.pointer (some ⟨w.heap.size+1,0,none⟩),undef,.pointer (some ⟨Bx,0,none⟩),.slice A len c,.func (.func 458) #[] #[.pointer (some ⟨w.heap.size+1+1,0,none⟩)],.int .i64 (x:Nat),.agg #[.string (nm x),.string (x1 x),.int .i64 (x2 x)],undef,undef,undef,undef,undef,undef,undef],defers:=[] })
  ?hAx ?assign ?body ?done ?stop
 case own=>
  rintro pre A B row ⟨rfl,p,j,hp,hj,hne,q1⟩ hg hr
  refine ⟨rfl,p,j,hp,hj,hne,?_⟩
  refine (hg.block _ (Array.getElem?_eq_some_iff.1 q1).1 (fun e=>?_)).trans q1
  obtain ⟨o',ho,hcell⟩:=hr _ e.symm
  rw [q1] at ho;cases ho;cases hcell
 case hAx=>
  rintro x a' u A B row ⟨Bx,h1,h2,h3⟩ hg hr
  refine ⟨Bx,h1,(hg.block _ (Array.getElem?_eq_some_iff.1 h2).1 (fun e=>?_)).trans h2,h3⟩
  obtain ⟨_,o',ho,hcell⟩:=hr _ e.symm
  rw [h2] at ho;cases ho;cases hcell
 case assign=>
  rintro l pre x W K ⟨hi1,hi2⟩ hK
  gi_wp2
  have hsz:=hi2.size
  exact hK _ _ ((KeepsOthers.alloc W _).from _) ((Below.refl _ W).alloc hsz _) ⟨hi1,hi2.trans ((Below.refl _ W).alloc hsz _)⟩ ⟨W.heap.size,hsz,World.alloc_heap_new W _,rfl⟩
 case body=>
  rintro l pre x a' W hl' hrec ⟨hi1,hi2⟩ ⟨Bx,hBx,hX,rfl⟩ hlt
  have k1:W.heap[w.heap.size+1]? = some (.cells #[Value.string { data:=#[] },Value.int IntKind.i64 0] 54 (0,0)):=(hi2.block _ (by omega)).trans g1
  have c0:W.cell? ⟨w.heap.size,0,none⟩=some (.string s):=(hi2.cell (p:=⟨w.heap.size,0,none⟩) (by show w.heap.size<_;omega)).trans hk0
  have c10:W.cell? ⟨w.heap.size+1,0,none⟩=some (Value.string { data:=#[] }):=Tryz.block_cell k1 rfl
  have f10:W.frozen? ⟨w.heap.size+1,0,none⟩=false:=Tryz.block_frozen k1
  have c11:W.cell? ⟨w.heap.size+1,1,none⟩=some (Value.int IntKind.i64 0):=Tryz.block_cell k1 rfl
  have f11:W.frozen? ⟨w.heap.size+1,1,none⟩=false:=Tryz.block_frozen k1
  have cX0:W.cell? ⟨Bx,0,none⟩=some (.string (nm x)):=Tryz.block_cell hX rfl
  have cX1:W.cell? ⟨Bx,1,none⟩=some (.string (x1 x)):=Tryz.block_cell hX rfl
  have cX2:W.cell? ⟨Bx,2,none⟩=some (.int .i64 (x2 x)):=Tryz.block_cell hX rfl
  cases hm:((nm x).toList == s.toList) with
  | false =>
    gi_wp2
    exact ⟨KeepsFrom.refl _ _,Below.refl _ _,fun j hj=>by
     rcases List.mem_append.1 hj with hj | hj
     ·exact hi1 j hj
     ·simp at hj;subst hj;exact hm,hi2⟩
  | true =>
    gi_wp2
    exact ⟨KeepsOthers.from ((KeepsOthers.setCell _ _ _).trans (KeepsOthers.setCell _ _ _)) _,⟨rfl,pre,x,rfl,hm,hi1,by simpa using (Tryz.set_same 1 (.int .i64 (x2 x)) (Tryz.set_same 0 (.string (x1 x)) k1))⟩,(((hi2.mono (by omega)).setCell (p:=⟨w.heap.size+1,0,none⟩) (by show w.heap.size≤w.heap.size+1;omega) _).setCell (p:=⟨w.heap.size+1,1,none⟩) (by show w.heap.size≤w.heap.size+1;omega) _)⟩
 case done=>
  rintro D xs W hD rfl ⟨hi1,hi2⟩ hK
  have k1:W.heap[w.heap.size+1]? = some (.cells #[Value.string { data:=#[] },Value.int IntKind.i64 0] 54 (0,0)):=(hi2.block _ (by omega)).trans g1
  have c0:W.cell? ⟨w.heap.size,0,none⟩=some (.string s):=(hi2.cell (p:=⟨w.heap.size,0,none⟩) (by show w.heap.size<_;omega)).trans hk0
  have c10:W.cell? ⟨w.heap.size+1,0,none⟩=some (Value.string { data:=#[] }):=Tryz.block_cell k1 rfl
  have f10:W.frozen? ⟨w.heap.size+1,0,none⟩=false:=Tryz.block_frozen k1
  have c11:W.cell? ⟨w.heap.size+1,1,none⟩=some (Value.int IntKind.i64 0):=Tryz.block_cell k1 rfl
  have f11:W.frozen? ⟨w.heap.size+1,1,none⟩=false:=Tryz.block_frozen k1
  gi_wp2
  obtain ⟨Wf,hWf⟩:∃ Wf,(World.setCell (World.setCell W ⟨w.heap.size+1,0,none⟩ (Value.string { data:=#[] })) ⟨w.heap.size+1,1,none⟩ (Value.int IntKind.i64 0))=Wf:=⟨_,rfl⟩
  have q1:Wf.heap[w.heap.size+1]? = some (.cells #[Value.string { data:=#[] },Value.int IntKind.i64 0] 54 (0,0)):=by
   rw [← hWf]
   simpa using (Tryz.set_same 1 (Value.int IntKind.i64 0) (Tryz.set_same 0 (Value.string { data:=#[] }) k1))
  have q3:Wf.heap[D]? = some (.deferred (some [])):=by
   rw [← hWf]
   exact ((Below.heap_setCell _ _ _ _ (by show D≠_;simp only;omega)).trans ((Below.heap_setCell _ _ _ _ (by show D≠_;simp only;omega)).trans hK))
  have q4:Below w.heap.size W0 Wf:=by
   rw [← hWf]
   exact (((hi2.mono (by omega)).setCell (p:=⟨w.heap.size+1,0,none⟩) (by show w.heap.size≤w.heap.size+1;omega) _).setCell (p:=⟨w.heap.size+1,1,none⟩) (by show w.heap.size≤w.heap.size+1;omega) _)
  rw [hWf]
  refine ⟨by simp,.inl ⟨_,_,rfl,run_takeDeferred q3,?_⟩⟩
  have g3:(Wf.putObj D (.deferred none)).heap[w.heap.size+1]? = _:=(World.putObj_heap_other (by omega)).trans q1
  exact ⟨_,results_cell_row rfl _ _ (w.heap.size+1) 54 _ (0,0) _ rfl g3 Tryz.underlying54 rfl (by kernel_rfl),.inr ⟨fun i hi=>hi1 i (Tryz.mem_down hi (by omega)),rfl⟩,hB0.trans (q4.trans (belowK_b (w:=w) (Nat.le_refl _) Wf D _ _ (by omega) q3 rfl rfl))⟩
 case stop=>
  rintro D cd pre W hD ⟨k,hk,rfl⟩ ⟨⟨rfl,p,j,hp,hj,hne,g1⟩,hB⟩ hK
  gi_wp2
  refine ⟨by simp,.inl ⟨_,_,rfl,run_takeDeferred hK,?_⟩⟩
  have g3:(W.putObj D (.deferred none)).heap[w.heap.size+1]? = _:=(World.putObj_heap_other (by omega)).trans g1
  obtain ⟨d1,d2⟩:=Tryz.down_last hk hp
  exact ⟨_,results_cell_row rfl _ _ (w.heap.size+1) 54 _ (0,0) _ rfl g3 Tryz.underlying54 rfl (by kernel_rfl),.inl ⟨j,d1,hj,fun i h1 h2=>hne i (d2 i h1 h2),rfl⟩,hB0.trans (hB.trans (belowK_b (w:=w) (Nat.le_refl _) W D _ _ (by omega) hK rfl rfl))⟩
end Go.Proofs
namespace Go.Proofs
open Go.RowKit Go.Shelf Go
attribute [local go_sem] Oper.semAt_some
theorem Tryz.back187 (F:Fence) (n:Nat) (h:F.fn 187) (hro:F.round=none) (A:Option Addr) (k c:Nat) (w:World) :
  CallsIn F n Tryz.prog 187 #[.slice A k c] w fun e w'=>e=.returned (.func (.func 253) #[] #[.pointer (some ⟨w.heap.size,0,none⟩)])∧w'=w.alloc (.cells #[.slice A k c] 183):=by
 refine callsIn_of_wp Tryz.func187 rfl h ?_ hro
 simp only [Tryz.ntmps187,List.size_toArray,List.length_cons,List.length_nil,Nat.reduceAdd,Nat.reduceSub,Array.replicate_succ,Array.replicate_zero,List.push_toArray,List.append_toArray,List.nil_append,List.cons_append]
 gi_wp2
 first | go_end0 | go_ret
 exact ⟨rfl,rfl⟩
theorem Tryz.iter253 (F:Fence) (n:Nat) (h7:F.fn 253) (hro:F.round=none) (hn:1≤n) (l Bs n₀ b off len cap:Nat) (zs:Nat→Nat→Value) (hreach:len≤140737488351232) (hb:b<n₀) (hBn:Bs<n₀) (J Jx:List Nat→World→Prop)
  (hY:∀ pre (x:Nat) W,J pre W→pre.length<len→YieldAt F (n - 1) Tryz.prog l #[.int .i64 (x:Int),.agg #[zs x 0,zs x 1,zs x 2]] W fun e W'=>
   (e=.returned (.bool true)∧J (pre++[x]) W'∧Below n₀ W W')∨(e=.returned (.bool false)∧Jx (pre++[x]) W'))
  (W:World) (hBs:W.cell? ⟨Bs,0,none⟩=some (.slice (some ⟨b,off,none⟩) len cap)) (hc:∀ j i,j<len→i<3→W.cell? ⟨b,off+j * 3+i,none⟩=some (zs j i)) (h0:J [] W) :
  CallsIn F n Tryz.prog 253 #[.func (.yield l) #[] #[],.pointer (some ⟨Bs,0,none⟩)] W fun e W'=>(∃ v,e=.returned v) ∧
   ((∃ ys,ys=Tryz.down len len∧J ys W')∨(∃ pre,(∃ k,k≤len∧pre=Tryz.down len k)∧Jx pre W')):=by
 refine callsIn_of_wp Tryz.func253 rfl h7 ?_ hro
 simp only [Tryz.ntmps253,List.size_toArray,List.length_cons,List.length_nil,Nat.reduceAdd,Nat.reduceSub,Array.replicate_succ,Array.replicate_zero,List.push_toArray,List.append_toArray,List.nil_append,List.cons_append]
 gi_wp2
 gi_loopw [3] (fun i wr=>∃ k:Nat,k≤len∧i=.int .i64 ((len:Int) - 1 - k)∧J (Tryz.down len k) wr∧Below n₀ W wr)
  (fun i _=>(intOf i+1).toNat)
 case atStart=>exact ⟨0,Nat.zero_le _,by simp,h0,Below.refl _ _⟩
 case round=>
  obtain ⟨k,hk,rfl,hJs,hnx⟩:=hrel
  have hBr:wr.cell? ⟨Bs,0,none⟩=some (.slice (some ⟨b,off,none⟩) len cap):=(hnx.cell (p:=⟨Bs,0,none⟩) hBn).trans hBs
  by_cases hlt:k<len
  ·have hcx:∀ i,i<3→wr.cell? ⟨b,off+(len - 1 - k) * 3+i,none⟩=some (zs (len - 1 - k) i):=fun i hi=>(hnx.cell (p:=⟨b,off+(len - 1 - k) * 3+i,none⟩) hb).trans (hc (len - 1 - k) i (by omega) hi)
   have hc0:wr.cell? ⟨b,off+(len - 1 - k) * 3,none⟩=some (zs (len - 1 - k) 0):=hcx 0 (by omega)
   have hc1:wr.cell? ⟨b,off+(len - 1 - k) * 3+1,none⟩=some (zs (len - 1 - k) 1):=hcx 1 (by omega)
   have hc2:wr.cell? ⟨b,off+(len - 1 - k) * 3+2,none⟩=some (zs (len - 1 - k) 2):=hcx 2 (by omega)
   obtain ⟨fn,tmps,assign,body,hy,hR⟩:=hY _ (len - 1 - k) wr hJs (by rw [Tryz.down_length];exact hlt)
   try dsimp only at hy
   have hki:(len:Int) - 1 - k=((len - 1 - k:Nat):Int):=by omega
   rw [hki]
   gi_wp2
   refine hR.mono ?_
   rintro e W3 (⟨rfl,hJ3,hk3⟩ | ⟨rfl,hJx3⟩)
   ·gi_wp2
    go_roundw
    case rel=>exact ⟨k+1,by omega,by first | rfl | (simp;omega),by rw [Tryz.down_succ];exact hJ3,hnx.trans hk3⟩
    case measure=>first | (simp [intOf];done) | (simp [intOf];omega)
   ·gi_wp2
    refine bodyPost_ret (results_none rfl _ _ _) rfl ?_
    exact ⟨⟨_,rfl⟩,.inr ⟨_,⟨k+1,by omega,(Tryz.down_succ _ _).symm⟩,hJx3⟩⟩
  ·obtain rfl:k=len:=by omega
   have hki:(k:Int) - 1 - k=-1:=by omega
   rw [hki]
   gi_wp2
   go_end0
   exact ⟨⟨_,rfl⟩,.inl ⟨_,rfl,hJs⟩⟩
theorem Tryz.iter253_nil (F:Fence) (n:Nat) (h7:F.fn 253) (hro:F.round=none) (y:Value) (b:Nat) (A:Option Addr) (c:Nat) (w:World) (hc:w.cell? ⟨b,0,none⟩=some (.slice A 0 c)) :
  CallsIn F n Tryz.prog 253 #[y,.pointer (some ⟨b,0,none⟩)] w fun e w'=>(∃ v,e=.returned v)∧w'=w:=by
 refine callsIn_of_wp Tryz.func253 rfl h7 ?_ hro
 simp only [Tryz.ntmps253,List.size_toArray,List.length_cons,List.length_nil,Nat.reduceAdd,Nat.reduceSub,Array.replicate_succ,Array.replicate_zero,List.push_toArray,List.append_toArray,List.nil_append,List.cons_append]
 gi_wp2
 refine wpIn_loop_once ?_
 gi_wp2
 first | go_end0 | go_ret
 exact ⟨⟨_,rfl⟩,rfl⟩
end Go.Proofs
namespace Go.Proofs
open Go.RowKit Go.Shelf Go
attribute [local go_sem] Oper.semAt_some
def Tryz.cel_engine (nm:Nat→ByteArray) (x1:Nat→Int) (x2:Nat→Bool) (j:Nat):Nat→Value
 | 0=>.string (nm j)
 | 1=>.int .i64 (x1 j)
 | _=>.bool (x2 j)
theorem Tryz.find131_in (F:Fence) (n:Nat) (h1:F.fn 131) (h2:F.fn 187) (h3:F.fn 253) (hro:F.round=none) (hn:3≤n) (b o len c:Nat) (A:Option Addr) (s:ByteArray) (nm:Nat→ByteArray) (x1:Nat→Int) (x2:Nat→Bool) (w:World)
  (hc:w.cell? ⟨b,o+2,none⟩=some (.slice A len c)) (hl:len≤140737488351232)
  (hA:len=0∨∃ sb so,A=some ⟨sb,so,none⟩∧sb<w.heap.size∧∀ j i,j<len→i<3→w.cell? ⟨sb,so+j * 3+i,none⟩=some ((Tryz.cel_engine nm x1 x2) j i)) :
  CallsIn F n Tryz.prog 131 #[.pointer (some ⟨b,o,none⟩),.string s] w fun e w'=>
   ((∃ j,j<len∧((nm j).toList == s.toList)=true∧(∀ i,j<i→i<len→((nm i).toList == s.toList)=false)∧e=.returned (.agg #[.string (nm j),.int .i64 (x1 j),.bool (x2 j)])) ∨
    ((∀ i,i<len→((nm i).toList == s.toList)=false)∧e=.returned (.agg #[Value.string s,Value.int IntKind.i64 (-1),Value.bool false])))∧Below w.heap.size w w':=by
 have hb:b<w.heap.size:=by
  cases h:w.heap[b]? with
  | none=>simp [World.cell?,h] at hc
  | some x=>exact (Array.getElem?_eq_some_iff.1 h).1
 have hb1:b<w.heap.size+1:=by omega
 refine callsIn_of_wp_marks Tryz.func131 rfl h1 ?_ hro
 simp only [Tryz.ntmps131,List.size_toArray,List.length_cons,List.length_nil,Nat.reduceAdd,Nat.reduceSub,Array.replicate_succ,Array.replicate_zero,List.push_toArray,List.append_toArray,List.nil_append,List.cons_append]
 gi_wp2
 refine ⟨fun _=>by omega,(Tryz.back187 F (n - 1) h2 hro _ _ _ _).mono ?_⟩
 rintro e w' ⟨rfl,rfl⟩
 gi_wp2
 obtain ⟨W0,hW0⟩:∃ W0,((w.alloc (Obj.cells #[Value.string s] 9)).alloc (Obj.cells #[Value.string { data:=#[] },Value.int IntKind.i64 0,Value.bool false] 232)).alloc (Obj.cells #[Value.slice A len c] 183)=W0:=⟨_,rfl⟩
 rw [hW0]
 have hs0:W0.heap.size=w.heap.size+1+1+1:=by rw [← hW0];simp only [World.size_alloc]
 have hB0:Below w.heap.size w W0:=by rw [← hW0];exact (((Below.refl _ w).alloc (Nat.le_refl _) _).alloc (by simp) _).alloc (by simp;omega) _
 have g3:W0.heap[w.heap.size+1+1]? = some (.cells #[.slice A len c] 183 (0,0)):=by
  rw [← hW0];exact Tryz.new_alloc _ _ _ (by simp only [World.size_alloc])
 have g1:W0.heap[w.heap.size+1]? = some (.cells #[Value.string { data:=#[] },Value.int IntKind.i64 0,Value.bool false] 232 (0,0)):=by
  rw [← hW0];exact (Below.heap_alloc _ _ _ (by simp only [World.size_alloc];omega)).trans (Tryz.new_alloc _ _ _ (by simp only [World.size_alloc]))
 have g0:W0.heap[w.heap.size]? = some (.cells #[.string s] 9 (0,0)):=by
  rw [← hW0];exact (Below.heap_alloc _ _ _ (by simp only [World.size_alloc];omega)).trans ((Below.heap_alloc _ _ _ (by simp only [World.size_alloc];omega)).trans (Tryz.new_alloc _ _ _ rfl))
 have hk0:W0.cell? ⟨w.heap.size,0,none⟩=some (.string s):=Tryz.cell0 g0
 have hk3:W0.cell? ⟨w.heap.size+1+1,0,none⟩=some (.slice A len c):=Tryz.cell0 g3
 have hseq:SeqStopsK F (n - 1) Tryz.prog 253 #[.pointer (some ⟨w.heap.size+1+1,0,none⟩)] (fun x:Nat=>#[.int .i64 (x:Nat),.agg #[.string (nm x),.int .i64 (x1 x),.bool (x2 x)]]) (Below W0.heap.size) (fun ys=>ys=Tryz.down len len) (fun pre=>∃ k,k≤len∧pre=Tryz.down len k) len W0:=
  fun l J Jx W hW hJ hJx hY h'=>by
   have hB:=(hW.cell (p:=⟨w.heap.size+1+1,0,none⟩) (by show w.heap.size+1+1<_;omega)).trans hk3
   rcases hA with h0 | ⟨sb,so,hA,hsb,hcs⟩
   ·subst h0
    refine (Tryz.iter253_nil F (n - 1) h3 hro _ (w.heap.size+1+1) A c W hB).mono ?_
    rintro e W' ⟨hv,rfl⟩
    exact ⟨hv,.inl ⟨[],rfl,h'⟩⟩
   ·rw [hA] at hB
    exact Tryz.iter253 F (n - 1) h3 hro (by omega) l (w.heap.size+1+1) W0.heap.size sb so len c (Tryz.cel_engine nm x1 x2) hl (by omega) (by omega) J Jx hY W hB
     (fun j i hj hi=>(hW.cell (p:=⟨sb,so+j * 3+i,none⟩) (by show sb<_;omega)).trans ((hB0.cell (p:=⟨sb,so+j * 3+i,none⟩) hsb).trans (hcs j i hj hi))) h'
 refine wpIn_rangeFunc_ownH (α:=Nat) hro (by omega) (gf:=253) (lb:=#[.pointer (some ⟨w.heap.size+1+1,0,none⟩)]) rfl h3 (enters_of Tryz.func253 (by kernel_rfl) rfl) hseq (fun h k=>belowK_t h k) (belowK_b (Nat.le_refl _)) (Below.refl _ _) (fun _=>rfl)
  (fun pre W=>(∀ j∈pre,((nm j).toList == s.toList)=false)∧Below W0.heap.size W0 W)
  (fun cd pre W=>(cd=.ret∧∃ p j,pre=p++[j]∧((nm j).toList == s.toList)=true∧(∀ i∈p,((nm i).toList == s.toList)=false)∧W.heap[w.heap.size+1]? = some (.cells #[.string (nm j),.int .i64 (x1 j),.bool (x2 j)] 232 (0,0)))∧Below w.heap.size W0 W)
  (OwnFrom.and (ownFrom_pure _ _) (ownFrom_below (Nat.le_refl _) (Nat.le_refl _)))
  (fun cd=>OwnFrom.and (Own.from ?own _) (ownFrom_below (by omega) (by omega)))
  ⟨by simp,Below.refl _ _⟩
  (fun x a' W=>∃ Bx,W0.heap.size≤Bx∧W.heap[Bx]? = some (.cells #[.string (nm x),.int .i64 (x1 x),.bool (x2 x)] 232 (0,0))∧a'={ tmps:=#[.pointer (some ⟨b,o,none⟩),.string s,undef,.pointer (some ⟨w.heap.size,0,none⟩),.pointer (some ⟨w.heap.size+1,0,none⟩),undef,.pointer (some ⟨Bx,0,none⟩),.pointer (some ⟨b,o,none⟩),.pointer (some ⟨b,o,none⟩),.pointer (some ⟨b,o+2,none⟩),.slice A len c,.func (.func 253) #[] #[.pointer (some ⟨w.heap.size+1+1,0,none⟩)],.int .i64 (x:Nat),.agg #[.string (nm x),.int .i64 (x1 x),.bool (x2 x)],undef,undef,undef,undef,undef,undef,undef],defers:=[] })
  ?hAx ?assign ?body ?done ?stop
 case own=>
  rintro pre A B row ⟨rfl,p,j,hp,hj,hne,q1⟩ hg hr
  refine ⟨rfl,p,j,hp,hj,hne,?_⟩
  refine (hg.block _ (Array.getElem?_eq_some_iff.1 q1).1 (fun e=>?_)).trans q1
  obtain ⟨o',ho,hcell⟩:=hr _ e.symm
  rw [q1] at ho;cases ho;cases hcell
 case hAx=>
  rintro x a' u A B row ⟨Bx,h1,h2,h3⟩ hg hr
  refine ⟨Bx,h1,(hg.block _ (Array.getElem?_eq_some_iff.1 h2).1 (fun e=>?_)).trans h2,h3⟩
  obtain ⟨_,o',ho,hcell⟩:=hr _ e.symm
  rw [h2] at ho;cases ho;cases hcell
 case assign=>
  rintro l pre x W K ⟨hi1,hi2⟩ hK
  gi_wp2
  have hsz:=hi2.size
  exact hK _ _ ((KeepsOthers.alloc W _).from _) ((Below.refl _ W).alloc hsz _) ⟨hi1,hi2.trans ((Below.refl _ W).alloc hsz _)⟩ ⟨W.heap.size,hsz,World.alloc_heap_new W _,rfl⟩
 case body=>
  rintro l pre x a' W hl' hrec ⟨hi1,hi2⟩ ⟨Bx,hBx,hX,rfl⟩ hlt
  have k1:W.heap[w.heap.size+1]? = some (.cells #[Value.string { data:=#[] },Value.int IntKind.i64 0,Value.bool false] 232 (0,0)):=(hi2.block _ (by omega)).trans g1
  have c0:W.cell? ⟨w.heap.size,0,none⟩=some (.string s):=(hi2.cell (p:=⟨w.heap.size,0,none⟩) (by show w.heap.size<_;omega)).trans hk0
  have c10:W.cell? ⟨w.heap.size+1,0,none⟩=some (Value.string { data:=#[] }):=Tryz.block_cell k1 rfl
  have f10:W.frozen? ⟨w.heap.size+1,0,none⟩=false:=Tryz.block_frozen k1
  have c11:W.cell? ⟨w.heap.size+1,1,none⟩=some (Value.int IntKind.i64 0):=Tryz.block_cell k1 rfl
  have f11:W.frozen? ⟨w.heap.size+1,1,none⟩=false:=Tryz.block_frozen k1
  have c12:W.cell? ⟨w.heap.size+1,2,none⟩=some (Value.bool false):=Tryz.block_cell k1 rfl
  have f12:W.frozen? ⟨w.heap.size+1,2,none⟩=false:=Tryz.block_frozen k1
  have cX0:W.cell? ⟨Bx,0,none⟩=some (.string (nm x)):=Tryz.block_cell hX rfl
  have cX1:W.cell? ⟨Bx,1,none⟩=some (.int .i64 (x1 x)):=Tryz.block_cell hX rfl
  have cX2:W.cell? ⟨Bx,2,none⟩=some (.bool (x2 x)):=Tryz.block_cell hX rfl
  cases hm:((nm x).toList == s.toList) with
  | false =>
    gi_wp2
    exact ⟨KeepsFrom.refl _ _,Below.refl _ _,fun j hj=>by
     rcases List.mem_append.1 hj with hj | hj
     ·exact hi1 j hj
     ·simp at hj;subst hj;exact hm,hi2⟩
  | true =>
    gi_wp2
    exact ⟨KeepsOthers.from (((KeepsOthers.setCell _ _ _).trans (KeepsOthers.setCell _ _ _)).trans (KeepsOthers.setCell _ _ _)) _,⟨rfl,pre,x,rfl,hm,hi1,by simpa using (Tryz.set_same 2 (.bool (x2 x)) (Tryz.set_same 1 (.int .i64 (x1 x)) (Tryz.set_same 0 (.string (nm x)) k1)))⟩,((((hi2.mono (by omega)).setCell (p:=⟨w.heap.size+1,0,none⟩) (by show w.heap.size≤w.heap.size+1;omega) _).setCell (p:=⟨w.heap.size+1,1,none⟩) (by show w.heap.size≤w.heap.size+1;omega) _).setCell (p:=⟨w.heap.size+1,2,none⟩) (by show w.heap.size≤w.heap.size+1;omega) _)⟩
 case done=>
  rintro D xs W hD rfl ⟨hi1,hi2⟩ hK
  have k1:W.heap[w.heap.size+1]? = some (.cells #[Value.string { data:=#[] },Value.int IntKind.i64 0,Value.bool false] 232 (0,0)):=(hi2.block _ (by omega)).trans g1
  have c0:W.cell? ⟨w.heap.size,0,none⟩=some (.string s):=(hi2.cell (p:=⟨w.heap.size,0,none⟩) (by show w.heap.size<_;omega)).trans hk0
  have c10:W.cell? ⟨w.heap.size+1,0,none⟩=some (Value.string { data:=#[] }):=Tryz.block_cell k1 rfl
  have f10:W.frozen? ⟨w.heap.size+1,0,none⟩=false:=Tryz.block_frozen k1
  have c11:W.cell? ⟨w.heap.size+1,1,none⟩=some (Value.int IntKind.i64 0):=Tryz.block_cell k1 rfl
  have f11:W.frozen? ⟨w.heap.size+1,1,none⟩=false:=Tryz.block_frozen k1
  have c12:W.cell? ⟨w.heap.size+1,2,none⟩=some (Value.bool false):=Tryz.block_cell k1 rfl
  have f12:W.frozen? ⟨w.heap.size+1,2,none⟩=false:=Tryz.block_frozen k1
  gi_wp2
  obtain ⟨Wf,hWf⟩:∃ Wf,(World.setCell (World.setCell (World.setCell W ⟨w.heap.size+1,0,none⟩ (Value.string s)) ⟨w.heap.size+1,1,none⟩ (Value.int IntKind.i64 (-1))) ⟨w.heap.size+1,2,none⟩ (Value.bool false))=Wf:=⟨_,rfl⟩
  have q1:Wf.heap[w.heap.size+1]? = some (.cells #[Value.string s,Value.int IntKind.i64 (-1),Value.bool false] 232 (0,0)):=by
   rw [← hWf]
   simpa using (Tryz.set_same 2 (Value.bool false) (Tryz.set_same 1 (Value.int IntKind.i64 (-1)) (Tryz.set_same 0 (Value.string s) k1)))
  have q3:Wf.heap[D]? = some (.deferred (some [])):=by
   rw [← hWf]
   exact ((Below.heap_setCell _ _ _ _ (by show D≠_;simp only;omega)).trans ((Below.heap_setCell _ _ _ _ (by show D≠_;simp only;omega)).trans ((Below.heap_setCell _ _ _ _ (by show D≠_;simp only;omega)).trans hK)))
  have q4:Below w.heap.size W0 Wf:=by
   rw [← hWf]
   exact ((((hi2.mono (by omega)).setCell (p:=⟨w.heap.size+1,0,none⟩) (by show w.heap.size≤w.heap.size+1;omega) _).setCell (p:=⟨w.heap.size+1,1,none⟩) (by show w.heap.size≤w.heap.size+1;omega) _).setCell (p:=⟨w.heap.size+1,2,none⟩) (by show w.heap.size≤w.heap.size+1;omega) _)
  rw [hWf]
  refine ⟨by simp,.inl ⟨_,_,rfl,run_takeDeferred q3,?_⟩⟩
  have g3:(Wf.putObj D (.deferred none)).heap[w.heap.size+1]? = _:=(World.putObj_heap_other (by omega)).trans q1
  exact ⟨_,results_cell_row rfl _ _ (w.heap.size+1) 232 _ (0,0) _ rfl g3 Tryz.underlying232 rfl (by kernel_rfl),.inr ⟨fun i hi=>hi1 i (Tryz.mem_down hi (by omega)),rfl⟩,hB0.trans (q4.trans (belowK_b (w:=w) (Nat.le_refl _) Wf D _ _ (by omega) q3 rfl rfl))⟩
 case stop=>
  rintro D cd pre W hD ⟨k,hk,rfl⟩ ⟨⟨rfl,p,j,hp,hj,hne,g1⟩,hB⟩ hK
  gi_wp2
  refine ⟨by simp,.inl ⟨_,_,rfl,run_takeDeferred hK,?_⟩⟩
  have g3:(W.putObj D (.deferred none)).heap[w.heap.size+1]? = _:=(World.putObj_heap_other (by omega)).trans g1
  obtain ⟨d1,d2⟩:=Tryz.down_last hk hp
  exact ⟨_,results_cell_row rfl _ _ (w.heap.size+1) 232 _ (0,0) _ rfl g3 Tryz.underlying232 rfl (by kernel_rfl),.inl ⟨j,d1,hj,fun i h1 h2=>hne i (d2 i h1 h2),rfl⟩,hB0.trans (hB.trans (belowK_b (w:=w) (Nat.le_refl _) W D _ _ (by omega) hK rfl rfl))⟩
end Go.Proofs
namespace Go.Abs
open Go Go.Proofs Go.RowKit
structure Seen where
 nm:S
 ty:S
 rk:Int
def Seen.d (e:Seen):List Abs.Data:=[.sc (.s e.nm),.sc (.s e.ty),.sc (.i .i64 e.rk)]
def s0E:Seen:=⟨[],[],0⟩
theorem lR (W0:Go.World) (l:List Seen) (s:S) (res:AV) (hl:l.length≤140737488351232)
  (hR:(∃ j,j<l.length∧aH (l.getD j s0E).nm s=true∧(∀ i,j<i→i<l.length→aH (l.getD i s0E).nm s=false)∧res=.agg [.sc (.s (l.getD j s0E).ty),.sc (.i .i64 (l.getD j s0E).rk)])∨((∀ i,i<l.length→aH (l.getD i s0E).nm s=false)∧res=.agg [.sc (.s []),.sc (.i .i64 0)])) :
  Ctr Tryz.prog W0 373 [.sl 3 (l.map Seen.d) .none,.sc (.s s)] [] res []:=by
 have htk:aO [res] []=[]:=by rcases hR with ⟨j,_,_,_,rfl⟩ | ⟨_,rfl⟩<;>rfl
 refine ef (by kernel_rfl) htk fun κ w vals hsz hs=>?_
 have h0:=(hs.arg (n:=0) rfl).sl_inv.1
 have h1:=(hs.arg (n:=1) rfl).sc_inv
 rw [jm hsz,h1]
 generalize vals.getD 0 undef=v0 at h0
 obtain ⟨A,c,rfl,hA⟩:∃ A c,v0=.slice A l.length c∧(l.length=0∨∃ sb so,A=some ⟨sb,so,none⟩∧sb<w.heap.size∧∀ j i,j<l.length→i<3→w.cell? ⟨sb,so+j * 3+i,none⟩=some ((Tryz.cel_lower (fun j=>⟨(l.getD j s0E).nm.toArray⟩) (fun j=>⟨(l.getD j s0E).ty.toArray⟩) (fun j=>(l.getD j s0E).rk)) j i)):=by
  rcases h0.flat (by decide) with ⟨a,hv,he⟩ | ⟨b,o,cap,L,hv,hcap,f,hI,hcl⟩
  ·have:l=[]:=by simpa using he
   subst this
   exact ⟨a,0,hv,.inl rfl⟩
  ·rw [List.length_map] at hv hcl hI
   cases hll:l.length with
   | zero=>rw [hll] at hv;exact ⟨_,_,hv,.inl rfl⟩
   | succ m=>
   rw [hll] at hv
   refine ⟨_,_,hv,.inr ⟨b,o,rfl,hs.Icell b o (by have:=hI 0 (by omega);simpa using this),fun j i hj hi=>?_⟩⟩
   rw [← hll] at hj
   have hd:(l.map Seen.d)[j]? = some (l.getD j s0E).d:=by
    rw [List.getElem?_map,List.getD_eq_getElem?_getD,List.getElem?_eq_getElem hj];rfl
   have hlt:j * 3+i<l.length * 3:=by omega
   have hc:=hcl (j * 3+i) hlt
   have hfl:=f.len
   rw [List.length_map] at hfl
   have hlL:j * 3+i<L.length:=by omega
   rw [show o+j * 3+i=o+(j * 3+i) by omega,hc,List.getElem?_eq_getElem hlL]
   obtain ⟨x,hx,hxv⟩:∃ x,(l.getD j s0E).d[i]? = some (.sc x)∧x.val=Tryz.cel_lower (fun j=>⟨(l.getD j s0E).nm.toArray⟩) (fun j=>⟨(l.getD j s0E).ty.toArray⟩) (fun j=>(l.getD j s0E).rk) j i:=by
    match i,hi with
    | 0,_=>exact ⟨_,rfl,rfl⟩
    | 1,_=>exact ⟨_,rfl,rfl⟩
    | 2,_=>exact ⟨_,rfl,rfl⟩
   have hr:=f.rep j i _ _ hd hx
   rw [List.getD_eq_getElem?_getD,List.getElem?_eq_getElem hlL] at hr
   rw [← hxv]
   simp only [Option.getD_some] at hr
   generalize L[j * 3+i]=y at hr ⊢
   cases hr
   rfl
 refine (Go.callsIn_wide.1 (Tryz.find373_in Go.Fence.wide 3 trivial trivial trivial rfl (Nat.le_refl _) l.length c A ⟨s.toArray⟩ (fun j=>⟨(l.getD j s0E).nm.toArray⟩) (fun j=>⟨(l.getD j s0E).ty.toArray⟩) (fun j=>(l.getD j s0E).rk) w hl hA)).mono ?_
 rintro e w' ⟨hres,hb⟩
 simp only [eX] at hres
 have hag:∀ (a:S) (n:Int) (κ':Gh) (w':Go.World),RepV κ' w' (.agg [.sc (.s a),.sc (.i .i64 n)]) (.agg #[.string ⟨a.toArray⟩,.int .i64 n]):=fun a n κ' w'=>by
  refine .agg _ _ rfl (by simp [one]) fun j v hj=>?_
  match j,hj with
  | 0,hj=>simp at hj;subst hj;exact .sc (.s a)
  | 1,hj=>simp at hj;subst hj;exact .sc (.i .i64 n)
 rcases hR with ⟨j,hj,hjt,hjl,rfl⟩ | ⟨hall,rfl⟩
 ·rcases hres with ⟨j2,hj2,hjt2,hjl2,rfl⟩ | ⟨hall2,rfl⟩
  ·obtain rfl:j=j2:=by
    rcases Nat.lt_trichotomy j j2 with h | h | h
    ·exact absurd (hjl j2 h hj2) (by rw [hjt2];decide)
    ·exact h
    ·exact absurd (hjl2 j h hj) (by rw [hjt];decide)
   exact ⟨_,rfl,hb,hag _ _ _ _⟩
  ·exact absurd (hall2 j hj) (by rw [hjt];decide)
 ·rcases hres with ⟨j2,hj2,hjt2,hjl2,rfl⟩ | ⟨hall2,rfl⟩
  ·exact absurd (hall j2 hj2) (by rw [hjt2];decide)
  ·exact ⟨_,rfl,hb,hag _ _ _ _⟩
structure Bnd where
 nm:S
 sl:Int
 is:Bool
def Bnd.c (e:Bnd):List AV:=[.sc (.s e.nm),.sc (.i .i64 e.sl),.sc (.b e.is)]
theorem find131_cs (W0:Go.World) (s:S) (x0 x1:AV) (xr:List AV) (k o n c:Nat) (t:Tok) (H:List (List AV)) (L:List AV) (rows:Nat→Bnd) (res:AV)
  (hm0:isM (x0::x1::.cs 3 k o n c t::xr)=false) (hk:((x0::x1::.cs 3 k o n c t::xr)::H)[k]? = some L) (hm:isM L=false) (hn:n≤140737488351232)
  (hL:∀ j i,j<n→i<3→L[o+j * 3+i]? = (rows j).c[i]?)
  (hR:(∃ j,j<n∧aH (rows j).nm s=true∧(∀ i,j<i→i<n→aH (rows i).nm s=false)∧res=.agg (rows j).c)∨((∀ i,i<n→aH (rows i).nm s=false)∧res=.agg [.sc (.s s),.sc (.i .i64 (-1)),.sc (.b false)])) :
  Ctr Tryz.prog W0 131 [.ptr 0 0,.sc (.s s)] ((x0::x1::.cs 3 k o n c t::xr)::H) res ((x0::x1::.cs 3 k o n c t::xr)::H):=by
 have htk:toks res=[]:=by rcases hR with ⟨j,_,_,_,rfl⟩ | ⟨_,rfl⟩<;>rfl
 refine gV (by kernel_rfl) htk fun κ w vals hsz hs=>?_
 obtain ⟨hDb,h0⟩:=(hs.arg (n:=0) rfl).ptr_inv
 have h1:=(hs.arg (n:=1) rfl).sc_inv
 rw [jm hsz,h0,h1]
 obtain ⟨_,_,hB⟩:=hs.boxes 0 (x0::x1::.cs 3 k o n c t::xr) (by rw [aK];rfl)
 obtain ⟨C,ty,hg,hR0⟩:=hB.row hm0
 obtain ⟨cap,hDk,hnc,hcc,_,hv⟩:=(hR0.2.2 2 (.cs 3 k o n c t) rfl).cs_inv
 have hsz0:=hR0.1
 obtain ⟨_,_,hBk⟩:=hs.boxes k L (by rw [aK,hk];rfl)
 obtain ⟨Ck,tk,hgk,hRk⟩:=hBk.row hm
 have hcell:w.cell? ⟨(κ.ι 0).1,(κ.ι 0).2+0+2,none⟩=some (.slice (some ⟨(κ.ι k).1,(κ.ι k).2+o,none⟩) n cap):=by
  rw [au hg,Nat.add_zero]
  have:(κ.ι 0).2+2<C.size:=by simp only [List.length_cons] at hsz0;omega
  rw [Array.getD_eq_getD_getElem?,Array.getElem?_eq_getElem this] at hv
  rw [Array.getElem?_eq_getElem this]
  exact congrArg some hv
 have hcells:∀ j i,j<n→i<3→w.cell? ⟨(κ.ι k).1,(κ.ι k).2+o+j * 3+i,none⟩=some (Tryz.cel_engine (fun j=>⟨(rows j).nm.toArray⟩) (fun j=>(rows j).sl) (fun j=>(rows j).is) j i):=by
  intro j i hj hi
  have hl:=hL j i hj hi
  obtain ⟨x,hx,hxv⟩:∃ x,(rows j).c[i]? = some (.sc x)∧x.val=Tryz.cel_engine (fun j=>⟨(rows j).nm.toArray⟩) (fun j=>(rows j).sl) (fun j=>(rows j).is) j i:=by
   match i,hi with
   | 0,_=>exact ⟨_,rfl,rfl⟩
   | 1,_=>exact ⟨_,rfl,rfl⟩
   | 2,_=>exact ⟨_,rfl,rfl⟩
  rw [hx] at hl
  have hlt:o+j * 3+i<L.length:=(List.getElem?_eq_some_iff.1 hl).1
  have hv2:=(hRk.2.2 _ _ hl).sc_inv
  have hszk:=hRk.1
  rw [au hgk,show (κ.ι k).2+o+j * 3+i=(κ.ι k).2+(o+j * 3+i) by omega]
  have:(κ.ι k).2+(o+j * 3+i)<Ck.size:=by omega
  rw [Array.getD_eq_getD_getElem?,Array.getElem?_eq_getElem this] at hv2
  rw [Array.getElem?_eq_getElem this,← hxv]
  exact congrArg some hv2
 refine (Go.callsIn_wide.1 (Tryz.find131_in Go.Fence.wide 3 trivial trivial trivial rfl (Nat.le_refl _) (κ.ι 0).1 ((κ.ι 0).2+0) n cap (some ⟨(κ.ι k).1,(κ.ι k).2+o,none⟩) ⟨s.toArray⟩ (fun j=>⟨(rows j).nm.toArray⟩) (fun j=>(rows j).sl) (fun j=>(rows j).is) w hcell hn
  (.inr ⟨_,_,rfl,aC hgk,hcells⟩))).mono ?_
 rintro e w' ⟨hres,hb⟩
 simp only [eX] at hres
 have hag:∀ (a:S) (n:Int) (f:Bool) (κ':Gh) (w':Go.World),RepV κ' w' (.agg [.sc (.s a),.sc (.i .i64 n),.sc (.b f)]) (.agg #[.string ⟨a.toArray⟩,.int .i64 n,.bool f]):=fun a n f κ' w'=>by
  refine .agg _ _ rfl (by simp [one]) fun j v hj=>?_
  match j,hj with
  | 0,hj=>simp at hj;subst hj;exact .sc (.s a)
  | 1,hj=>simp at hj;subst hj;exact .sc (.i .i64 n)
  | 2,hj=>simp at hj;subst hj;exact .sc (.b f)
 rcases hR with ⟨j,hj,hjt,hjl,rfl⟩ | ⟨hall,rfl⟩
 ·rcases hres with ⟨j2,hj2,hjt2,hjl2,rfl⟩ | ⟨hall2,rfl⟩
  ·obtain rfl:j=j2:=by
    rcases Nat.lt_trichotomy j j2 with h | h | h
    ·exact absurd (hjl j2 h hj2) (by rw [hjt2];decide)
    ·exact h
    ·exact absurd (hjl2 j h hj) (by rw [hjt];decide)
   exact ⟨_,rfl,hb,hag _ _ _ _ _⟩
  ·exact absurd (hall2 j hj) (by rw [hjt];decide)
 ·rcases hres with ⟨j2,hj2,hjt2,hjl2,rfl⟩ | ⟨hall2,rfl⟩
  ·exact absurd (hall j2 hj2) (by rw [hjt2];decide)
  ·exact ⟨_,rfl,hb,hag _ _ _ _ _⟩
end Go.Abs
namespace Go.Abs
open Go Go.Proofs Go.Shelf Go.RowKit Go.Lib
def Tryz.ren316:Go.Shelf.Ren:=⟨fun | 41=>316 | n=>n,fun | 22=>364 | 23=>423 | 4=>4 | n=>n,fun | n=>n⟩
theorem Tryz.lays316:Go.Proofs.SlLaysE0.n41 Tryz.prog Tryz.ren316:={
 mixed:=by kernel_rfl
 f41:=⟨Tryz.f316.name,by decide,Tryz.func316.trans (congrArg some (by kernel_rfl))⟩
 t4:=Tryz.underlying4
 a4:=Tryz.isAgg4
 z4:=Tryz.sizeOf4
 v4:=Tryz.zeroValue4
 t22:=Tryz.underlying364
 a22:=Tryz.isAgg364
 z22:=Tryz.sizeOf364
 v22:=Tryz.zeroValue364 }
def Tryz.ren368:Go.Shelf.Ren:=⟨fun | 41=>368 | n=>n,fun | 22=>346 | 23=>476 | 4=>4 | n=>n,fun | n=>n⟩
theorem Tryz.lays368:Go.Proofs.SlLaysE0.n41 Tryz.prog Tryz.ren368:={
 mixed:=by kernel_rfl
 f41:=⟨Tryz.f368.name,by decide,Tryz.func368.trans (congrArg some (by kernel_rfl))⟩
 t4:=Tryz.underlying4
 a4:=Tryz.isAgg4
 z4:=Tryz.sizeOf4
 v4:=Tryz.zeroValue4
 t22:=Tryz.underlying346
 a22:=Tryz.isAgg346
 z22:=Tryz.sizeOf346
 v22:=Tryz.zeroValue346 }
theorem lH {e:Go.TypeId} {sz by_:Nat} (h:((Tryz.prog.info? e).map fun i=>(i.size,i.bytes,i.zero.map fun z=>z.cells.size))=some (sz,by_,some sz)) :
  ∃ i0 z,Tryz.prog.info? e=some i0∧i0.zero=some z∧i0.size=sz∧i0.bytes=by_∧z.cells.size=sz:=by
 cases hi:Tryz.prog.info? e with
 | none=>rw [hi] at h;cases h
 | some i =>
   rw [hi] at h
   simp only [Option.map_some,Option.some.injEq,Prod.mk.injEq] at h
   obtain ⟨h1,h2,h3⟩:=h
   cases hz:i.zero with
   | none=>rw [hz] at h3;cases h3
   | some z =>
     rw [hz] at h3
     simp only [Option.map_some,Option.some.injEq] at h3
     exact ⟨i,z,rfl,hz,h1,h2,h3⟩
theorem clone92 (W0:Go.World) (els:List (List Abs.Data)) (h:els.length≤100000):Ctr Tryz.prog W0 92 [.sl 1 els .none] [] (.sl 1 els (.t 0)) []:=by
 obtain ⟨i0,z,h1,h2,h3,h4,h5⟩:=lH (e:=9) (sz:=1) (by_:=16) (by kernel_rfl)
 exact f0 W0 Tryz.laysSlE041_f92 i0 z 1 (by kernel_rfl) h1 h2 h3 h5 (by omega) Tryz.sizeOf9 els (by unfold maxLen;omega) (by rw [h4];omega)
theorem clone329 (W0:Go.World) (els:List (List Abs.Data)) (h:els.length≤100000):Ctr Tryz.prog W0 329 [.sl 1 els .none] [] (.sl 1 els (.t 0)) []:=by
 obtain ⟨i0,z,h1,h2,h3,h4,h5⟩:=lH (e:=3) (sz:=1) (by_:=8) (by kernel_rfl)
 exact f0 W0 Tryz.laysSlE041_f329 i0 z 1 (by kernel_rfl) h1 h2 h3 h5 (by omega) Tryz.sizeOf3 els (by unfold maxLen;omega) (by rw [h4];omega)
theorem clone368 (W0:Go.World) (els:List (List Abs.Data)) (h:els.length≤100000):Ctr Tryz.prog W0 368 [.sl 6 els .none] [] (.sl 6 els (.t 0)) []:=by
 obtain ⟨i0,z,h1,h2,h3,h4,h5⟩:=lH (e:=476) (sz:=6) (by_:=64) (by kernel_rfl)
 exact f0 W0 Tryz.lays368 i0 z 6 (by kernel_rfl) h1 h2 h3 h5 (by omega) Tryz.sizeOf476 els (by unfold maxLen;omega) (by rw [h4];omega)
theorem clone316 (W0:Go.World) (els:List (List Abs.Data)) (h:els.length≤100000):Ctr Tryz.prog W0 316 [.sl 3 els .none] [] (.sl 3 els (.t 0)) []:=by
 obtain ⟨i0,z,h1,h2,h3,h4,h5⟩:=lH (e:=423) (sz:=3) (by_:=40) (by kernel_rfl)
 exact f0 W0 Tryz.lays316 i0 z 3 (by kernel_rfl) h1 h2 h3 h5 (by omega) Tryz.sizeOf423 els (by unfold maxLen;omega) (by rw [h4];omega)
theorem sort0_ctr (W0:Go.World):Ctr Tryz.prog W0 20 [.sl 1 [] .none] [] (.tup []) []:=by
 refine ef (by kernel_rfl) rfl fun κ w vals hsz hs=>?_
 obtain ⟨A,c,h0⟩:=(hs.arg (n:=0) rfl).sl_inv.1.len
 rw [lM hsz,h0]
 refine (Tryz.slices_Sort_string_none A c w).mono ?_
 rintro e w' ⟨rfl,rfl⟩
 exact ⟨_,rfl,Below.refl _ _,.tup [] #[] rfl (by simp)⟩
theorem pN (W0:Go.World):Ctr Tryz.prog W0 21 [.sl 1 [] .none] [] (.sl 1 [] .none) []:=by
 refine ef (by kernel_rfl) rfl fun κ w vals hsz hs=>?_
 have hD:=(hs.arg (n:=0) rfl).sl_inv.1
 obtain ⟨A,c,h0⟩:=hD.len
 rw [lM hsz]
 generalize vals.getD 0 undef=v0 at h0 hD
 have h0':v0=.slice A 0 c:=h0
 subst h0'
 refine (Tryz.slices_Compact_string_empty A c w).mono ?_
 rintro e w' ⟨rfl,rfl⟩
 exact ⟨_,rfl,Below.refl _ _,.sl 1 [] .none _ (hD.mono (fun _ _ h=>.inl h) fun _ _ _=>rfl) trivial⟩
end Go.Abs
namespace Go.Abs
open Go Go.Proofs Go.Shelf Go.RowKit Go.Lib
def gM {α:Type} (p:α→Bool):List α→Option α
 | []=>none
 | x :: r => match gM p r with
   | some y=>some y
   | none=>(match p x with | true=>some x | false=>none)
theorem iW {α:Type} {p:α→Bool}:∀ {l:List α},gM p l=none→∀ x,x∈l→p x=false
 | [],_,x,hx=>by cases hx
 | y :: r, h, x, hx => by
   simp only [gM] at h
   split at h
   ·cases h
   ·rename_i hr
    rcases List.mem_cons.1 hx with rfl | hx
    ·cases hp:p x with
     | false=>rfl
     | true=>rw [hp] at h;cases h
    ·exact iW hr x hx
theorem mC {α:Type} {p:α→Bool}:∀ {l:List α} {y:α},gM p l=some y→∃ j,l[j]? = some y∧p y=true∧∀ (i:Nat) (x:α),j<i→l[i]? = some x→p x=false
 | [],_,h=>by cases h
 | x :: r, y, h => by
   simp only [gM] at h
   split at h
   ·rename_i z hz
    cases h
    obtain ⟨j,h1,h2,h3⟩:=mC hz
    refine ⟨j+1,by simpa using h1,h2,fun i u hi hu=>?_⟩
    cases i with
    | zero=>omega
    | succ i=>exact h3 i u (by omega) (by simpa using hu)
   ·rename_i hr
    split at h
    ·rename_i hp
     cases h
     refine ⟨0,rfl,hp,fun i u hi hu=>?_⟩
     cases i with
     | zero=>omega
     | succ i=>exact iW hr u (List.mem_of_getElem? (by simpa using hu))
    ·cases h
theorem mD {α:Type} {d:α} {p:α→Bool} (l:List α):(∃ y,gM p l=some y∧∃ j,j<l.length∧l.getD j d=y∧p (l.getD j d)=true∧∀ i,j<i→i<l.length→p (l.getD i d)=false)∨(gM p l=none∧∀ i,i<l.length→p (l.getD i d)=false):=by
 cases h:gM p l with
 | none =>
   refine .inr ⟨rfl,fun i hi=>iW h _ ?_⟩
   rw [List.getD_eq_getElem?_getD,List.getElem?_eq_getElem hi]
   exact List.getElem_mem hi
 | some y =>
   obtain ⟨j,h1,h2,h3⟩:=mC h
   have hj:=(List.getElem?_eq_some_iff.1 h1).1
   have e:l.getD j d=y:=by rw [List.getD_eq_getElem?_getD,h1];rfl
   refine .inl ⟨y,rfl,j,hj,e,by rw [e];exact h2,fun i hi hil=>h3 i _ hi ?_⟩
   rw [List.getD_eq_getElem?_getD,List.getElem?_eq_getElem hil];rfl
def mX:Nat→List AV→Option (List Ent)
 | 0,_=>some []
 | n+1,.sc (.s a)::.sc (.s b)::.sc (.s c)::.sc (.i .i64 r)::.sc (.b l)::.sc (.b f)::rest=>(match mX n rest with | some es=>some (⟨a,b,c,r,l,f⟩::es) | none=>none)
 | _,_=>none
theorem kT:∀ {n:Nat} {l:List AV} {es:List Ent},mX n l=some es→es.length=n∧∀ j i,j<n→i<6→l[j * 6+i]? = (es.getD j e0E).c[i]?
 | 0,l,es,h=>by simp only [mX,Option.some.injEq] at h;subst h;exact ⟨rfl,fun j i hj=>absurd hj (Nat.not_lt_zero _)⟩
 | n + 1, l, es, h => by
   unfold mX at h
   split at h
   ·rename_i e;cases e
   ·rename_i a b c r q f rest e
    cases e
    split at h
    ·rename_i es' he
     cases h
     obtain ⟨h1,h2⟩:=kT he
     refine ⟨by simp [h1],fun j i hj hi=>?_⟩
     cases j with
     | zero =>
       match i,hi with
       | 0,_=>rfl
       | 1,_=>rfl
       | 2,_=>rfl
       | 3,_=>rfl
       | 4,_=>rfl
       | 5,_=>rfl
     | succ j =>
       have:=h2 j i (by omega) hi
       rw [show (j+1) * 6+i=(j * 6+i)+6 by omega]
       simpa using this
    ·cases h
   ·cases h
def nl:Nat→List AV→Option (List Bnd)
 | 0,_=>some []
 | n+1,.sc (.s a)::.sc (.i .i64 r)::.sc (.b f)::rest=>(match nl n rest with | some es=>some (⟨a,r,f⟩::es) | none=>none)
 | _,_=>none
def b0E:Bnd:=⟨[],0,false⟩
theorem k6:∀ {n:Nat} {l:List AV} {es:List Bnd},nl n l=some es→es.length=n∧∀ j i,j<n→i<3→l[j * 3+i]? = (es.getD j b0E).c[i]?
 | 0,l,es,h=>by simp only [nl,Option.some.injEq] at h;subst h;exact ⟨rfl,fun j i hj=>absurd hj (Nat.not_lt_zero _)⟩
 | n + 1, l, es, h => by
   unfold nl at h
   split at h
   ·rename_i e;cases e
   ·rename_i a r f rest e
    cases e
    split at h
    ·rename_i es' he
     cases h
     obtain ⟨h1,h2⟩:=k6 he
     refine ⟨by simp [h1],fun j i hj hi=>?_⟩
     cases j with
     | zero =>
       match i,hi with
       | 0,_=>rfl
       | 1,_=>rfl
       | 2,_=>rfl
     | succ j =>
       have:=h2 j i (by omega) hi
       rw [show (j+1) * 3+i=(j * 3+i)+3 by omega]
       simpa using this
    ·cases h
   ·cases h
def jq:List (List Abs.Data)→Option (List Seen)
 | []=>some []
 | [.sc (.s a),.sc (.s b),.sc (.i .i64 r)]::rest=>(match jq rest with | some es=>some (⟨a,b,r⟩::es) | none=>none)
 | _=>none
theorem jp:∀ {l:List (List Abs.Data)} {es:List Seen},jq l=some es→l=es.map Seen.d
 | [],es,h=>by simp only [jq,Option.some.injEq] at h;subst h;rfl
 | x :: r, es, h => by
   unfold jq at h
   split at h
   ·rename_i e;cases e
   ·rename_i a b q rest e
    cases e
    split at h
    ·rename_i es' he
     cases h
     rw [List.map_cons,← jp he];rfl
    ·cases h
   ·cases h
theorem lA {x y:AV} {l:List AV}:isM (x::y::l)=false:=by cases x<;>rfl
def libCF (args:List AV) (H:List (List AV)):Option (AV × List (List AV)):=match args,H with
 | [.ptr 0 0, .sc (.s s)], (x0 :: x1 :: x2 :: x3 :: .cs 6 k o n c t :: xr) :: Ht => (match ((x0 :: x1 :: x2 :: x3 :: .cs 6 k o n c t :: xr) :: Ht)[k]? with
   | some L => (match isM L, Nat.ble n 100000, mX n (L.drop o) with
     | false, true, some es => (match gM (fun e => aH e.nm s) es with
       | some e=>some (.tup [.agg e.c,.sc (.b true)],(x0::x1::x2::x3::.cs 6 k o n c t::xr)::Ht)
       | none=>some (.tup [.agg e0E.c,.sc (.b false)],(x0::x1::x2::x3::.cs 6 k o n c t::xr)::Ht))
     | _,_,_=>none)
   | none=>none)
 | _,_=>none
theorem libCF_ok (W0:Go.World) {args:List AV} {H:List (List AV)} {res:AV} {H':List (List AV)} (h:libCF args H=some (res,H')):Ctr Tryz.prog W0 476 args H res H':=by
 unfold libCF at h
 split at h
 ·rename_i s x0 x1 x2 x3 k o n c t xr Ht
  split at h
  ·rename_i L hk
   split at h
   ·rename_i es hm hn hes
    obtain ⟨h1,h2⟩:=kT hes
    have hL:∀ j i,j<n→i<6→L[o+j * 6+i]? = (es.getD j e0E).c[i]?:=by
     intro j i hj hi
     rw [← h2 j i hj hi,List.getElem?_drop,Nat.add_assoc]
    have hn':n≤140737488351232:=Nat.le_trans (Nat.le_of_ble_eq_true hn) (by omega)
    have key:∀ r,((∃ j,j<n∧aH (es.getD j e0E).nm s=true∧(∀ i,j<i→i<n→aH (es.getD i e0E).nm s=false)∧r=.tup [.agg (es.getD j e0E).c,.sc (.b true)])∨((∀ i,i<n→aH (es.getD i e0E).nm s=false)∧r=.tup [.agg e0E.c,.sc (.b false)])) →
      Ctr Tryz.prog W0 476 [.ptr 0 0,.sc (.s s)] ((x0::x1::x2::x3::.cs 6 k o n c t::xr)::Ht) r ((x0::x1::x2::x3::.cs 6 k o n c t::xr)::Ht):=fun r hr=>
     find476_cs W0 s x0 x1 x2 x3 xr k o n c t Ht L (fun j=>es.getD j e0E) r lA hk hm hn' hL hr
    rcases mD (d:=e0E) (p:=fun e=>aH e.nm s) es with ⟨y,g1,j,g2,g3,g4,g5⟩ | ⟨g1,g2⟩
    ·rw [g1] at h
     cases h
     exact key _ (.inl ⟨j,by rw [← h1];exact g2,g4,fun i hi hil=>g5 i hi (by rw [h1];exact hil),by rw [g3]⟩)
    ·rw [g1] at h
     cases h
     exact key _ (.inr ⟨fun i hi=>g2 i (by rw [h1];exact hi),rfl⟩)
   ·cases h
  ·cases h
 ·cases h
def libEF (args:List AV) (H:List (List AV)):Option (AV × List (List AV)):=match args,H with
 | [.ptr 0 0, .sc (.s s)], (x0 :: x1 :: .cs 3 k o n c t :: xr) :: Ht => (match ((x0 :: x1 :: .cs 3 k o n c t :: xr) :: Ht)[k]? with
   | some L => (match isM L, Nat.ble n 100000, nl n (L.drop o) with
     | false, true, some es => (match gM (fun e => aH e.nm s) es with
       | some e=>some (.agg e.c,(x0::x1::.cs 3 k o n c t::xr)::Ht)
       | none=>some (.agg [.sc (.s s),.sc (.i .i64 (-1)),.sc (.b false)],(x0::x1::.cs 3 k o n c t::xr)::Ht))
     | _,_,_=>none)
   | none=>none)
 | _,_=>none
theorem libEF_ok (W0:Go.World) {args:List AV} {H:List (List AV)} {res:AV} {H':List (List AV)} (h:libEF args H=some (res,H')):Ctr Tryz.prog W0 131 args H res H':=by
 unfold libEF at h
 split at h
 ·rename_i s x0 x1 k o n c t xr Ht
  split at h
  ·rename_i L hk
   split at h
   ·rename_i es hm hn hes
    obtain ⟨h1,h2⟩:=k6 hes
    have hL:∀ j i,j<n→i<3→L[o+j * 3+i]? = (es.getD j b0E).c[i]?:=by
     intro j i hj hi
     rw [← h2 j i hj hi,List.getElem?_drop,Nat.add_assoc]
    have hn':n≤140737488351232:=Nat.le_trans (Nat.le_of_ble_eq_true hn) (by omega)
    have key:∀ r,((∃ j,j<n∧aH (es.getD j b0E).nm s=true∧(∀ i,j<i→i<n→aH (es.getD i b0E).nm s=false)∧r=.agg (es.getD j b0E).c)∨((∀ i,i<n→aH (es.getD i b0E).nm s=false)∧r=.agg [.sc (.s s),.sc (.i .i64 (-1)),.sc (.b false)])) →
      Ctr Tryz.prog W0 131 [.ptr 0 0,.sc (.s s)] ((x0::x1::.cs 3 k o n c t::xr)::Ht) r ((x0::x1::.cs 3 k o n c t::xr)::Ht):=fun r hr=>
     find131_cs W0 s x0 x1 xr k o n c t Ht L (fun j=>es.getD j b0E) r lA hk hm hn' hL hr
    rcases mD (d:=b0E) (p:=fun e=>aH e.nm s) es with ⟨y,g1,j,g2,g3,g4,g5⟩ | ⟨g1,g2⟩
    ·rw [g1] at h
     cases h
     exact key _ (.inl ⟨j,by rw [← h1];exact g2,g4,fun i hi hil=>g5 i hi (by rw [h1];exact hil),by rw [g3]⟩)
    ·rw [g1] at h
     cases h
     exact key _ (.inr ⟨fun i hi=>g2 i (by rw [h1];exact hi),rfl⟩)
   ·cases h
  ·cases h
 ·cases h
def libTO (args:List AV) (H:List (List AV)):Option (AV × List (List AV)):=match args,H with
 | [.sl 3 els .none, .sc (.s s)], [] => (match jq els, Nat.ble els.length 100000 with
   | some es, true => (match gM (fun e => aH e.nm s) es with
     | some e=>some (.agg [.sc (.s e.ty),.sc (.i .i64 e.rk)],[])
     | none=>some (.agg [.sc (.s []),.sc (.i .i64 0)],[]))
   | _,_=>none)
 | _,_=>none
theorem libTO_ok (W0:Go.World) {args:List AV} {H:List (List AV)} {res:AV} {H':List (List AV)} (h:libTO args H=some (res,H')):Ctr Tryz.prog W0 373 args H res H':=by
 unfold libTO at h
 split at h
 ·rename_i els s
  split at h
  ·rename_i es hes hn
   have h1:=jp hes
   subst h1
   have hn':es.length≤140737488351232:=by
    have:=Nat.le_of_ble_eq_true hn
    rw [List.length_map] at this
    omega
   rcases mD (d:=s0E) (p:=fun e=>aH e.nm s) es with ⟨y,g1,j,g2,g3,g4,g5⟩ | ⟨g1,g2⟩
   ·rw [g1] at h
    cases h
    exact lR W0 es s _ hn' (.inl ⟨j,g2,g4,g5,by rw [g3]⟩)
   ·rw [g1] at h
    cases h
    exact lR W0 es s _ hn' (.inr ⟨g2,rfl⟩)
  ·cases h
 ·cases h
end Go.Abs
namespace Go.Abs
open Go Go.Proofs Go.Shelf Go.RowKit Go.Lib
theorem find476_nil (W0:Go.World) (s:S) (x0 x1 x2 x3:AV) (xr:List AV) (t:Tok) (H:List (List AV)) :
  Ctr Tryz.prog W0 476 [.ptr 0 0,.sc (.s s)] ((x0::x1::x2::x3::.sl 6 [] t::xr)::H) (.tup [.agg e0E.c,.sc (.b false)]) ((x0::x1::x2::x3::.sl 6 [] t::xr)::H):=by
 refine gV (by kernel_rfl) rfl fun κ w vals hsz hs=>?_
 obtain ⟨hDb,h0⟩:=(hs.arg (n:=0) rfl).ptr_inv
 have h1:=(hs.arg (n:=1) rfl).sc_inv
 rw [jm hsz,h0,h1]
 obtain ⟨_,_,hB⟩:=hs.boxes 0 (x0::x1::x2::x3::.sl 6 [] t::xr) (by rw [aK];rfl)
 obtain ⟨C,ty,hg,hR0⟩:=hB.row lA
 obtain ⟨A,cap,hv,_⟩:=((hR0.2.2 4 (.sl 6 [] t) rfl).sl_inv.1).sliceV
 have hsz0:=hR0.1
 have hcell:w.cell? ⟨(κ.ι 0).1,(κ.ι 0).2+0+4,none⟩=some (.slice A 0 cap):=by
  rw [au hg,Nat.add_zero]
  have:(κ.ι 0).2+4<C.size:=by simp only [List.length_cons] at hsz0;omega
  rw [Array.getD_eq_getD_getElem?,Array.getElem?_eq_getElem this] at hv
  rw [Array.getElem?_eq_getElem this]
  exact congrArg some hv
 refine (Go.callsIn_wide.1 (Tryz.find476_in Go.Fence.wide 3 trivial trivial trivial rfl (Nat.le_refl _) (κ.ι 0).1 ((κ.ι 0).2+0) 0 cap A ⟨s.toArray⟩ (fun _=>default) (fun _=>default) (fun _=>default) (fun _=>0) (fun _=>false) (fun _=>false) w hcell (Nat.zero_le _) (.inl rfl))).mono ?_
 rintro e w' ⟨hres,hb⟩
 rcases hres with ⟨j,hj,_⟩ | ⟨_,rfl⟩
 ·exact absurd hj (Nat.not_lt_zero _)
 ·refine ⟨_,rfl,hb,.tup _ _ rfl fun j v hj=>?_⟩
  match j,hj with
  | 0, hj =>
    simp at hj;subst hj
    refine .agg _ _ rfl (by simp [Ent.c,one]) fun j v hj=>?_
    match j,hj with
    | 0,hj=>simp [Ent.c,e0E] at hj;subst hj;exact .sc (.s [])
    | 1,hj=>simp [Ent.c,e0E] at hj;subst hj;exact .sc (.s [])
    | 2,hj=>simp [Ent.c,e0E] at hj;subst hj;exact .sc (.s [])
    | 3,hj=>simp [Ent.c,e0E] at hj;subst hj;exact .sc (.i .i64 0)
    | 4,hj=>simp [Ent.c,e0E] at hj;subst hj;exact .sc (.b false)
    | 5,hj=>simp [Ent.c,e0E] at hj;subst hj;exact .sc (.b false)
  | 1,hj=>simp at hj;subst hj;exact .sc (.b false)
theorem find131_nil (W0:Go.World) (s:S) (x0 x1:AV) (xr:List AV) (t:Tok) (H:List (List AV)) :
  Ctr Tryz.prog W0 131 [.ptr 0 0,.sc (.s s)] ((x0::x1::.sl 3 [] t::xr)::H) (.agg [.sc (.s s),.sc (.i .i64 (-1)),.sc (.b false)]) ((x0::x1::.sl 3 [] t::xr)::H):=by
 refine gV (by kernel_rfl) rfl fun κ w vals hsz hs=>?_
 obtain ⟨hDb,h0⟩:=(hs.arg (n:=0) rfl).ptr_inv
 have h1:=(hs.arg (n:=1) rfl).sc_inv
 rw [jm hsz,h0,h1]
 obtain ⟨_,_,hB⟩:=hs.boxes 0 (x0::x1::.sl 3 [] t::xr) (by rw [aK];rfl)
 obtain ⟨C,ty,hg,hR0⟩:=hB.row lA
 obtain ⟨A,cap,hv,_⟩:=((hR0.2.2 2 (.sl 3 [] t) rfl).sl_inv.1).sliceV
 have hsz0:=hR0.1
 have hcell:w.cell? ⟨(κ.ι 0).1,(κ.ι 0).2+0+2,none⟩=some (.slice A 0 cap):=by
  rw [au hg,Nat.add_zero]
  have:(κ.ι 0).2+2<C.size:=by simp only [List.length_cons] at hsz0;omega
  rw [Array.getD_eq_getD_getElem?,Array.getElem?_eq_getElem this] at hv
  rw [Array.getElem?_eq_getElem this]
  exact congrArg some hv
 refine (Go.callsIn_wide.1 (Tryz.find131_in Go.Fence.wide 3 trivial trivial trivial rfl (Nat.le_refl _) (κ.ι 0).1 ((κ.ι 0).2+0) 0 cap A ⟨s.toArray⟩ (fun _=>default) (fun _=>0) (fun _=>false) w hcell (Nat.zero_le _) (.inl rfl))).mono ?_
 rintro e w' ⟨hres,hb⟩
 rcases hres with ⟨j,hj,_⟩ | ⟨_,rfl⟩
 ·exact absurd hj (Nat.not_lt_zero _)
 ·refine ⟨_,rfl,hb,.agg _ _ rfl (by simp [one]) fun j v hj=>?_⟩
  match j,hj with
  | 0,hj=>simp at hj;subst hj;exact .sc (.s s)
  | 1,hj=>simp at hj;subst hj;exact .sc (.i .i64 (-1))
  | 2,hj=>simp at hj;subst hj;exact .sc (.b false)
end Go.Abs
