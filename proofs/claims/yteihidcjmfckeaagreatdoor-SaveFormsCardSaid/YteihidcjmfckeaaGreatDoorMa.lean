/- The abstract machine: pure values, a log of writes, and the weakest precondition of compiled code over it. -/
import Derived.WalkKit
import Derived.Orders
import Derived.Laws.CopyRow
import Derived.Laws.AppendOwn
import Derived.Laws.Cells
import Derived.Great.BuildSlice
import Derived.IntWalk
import Derived.Sort.Walk0
import Derived.Laws.Append
import Derived.Laws.Small
import Derived.Laws.MakeOwn
import Derived.Laws.StructEq
set_option linter.all false
namespace Go.Abs
open Go
inductive Sc
 | b (x:Bool) | i (k:IntKind) (n:Int) | s (l:List UInt8) | np | nf | ni | nm
inductive Data
 | sc (c:Sc)
 | lst (sz:Nat) (els:List (List Data))
inductive Tok | none | full | t (k:Nat)
inductive MP
 | m (es:List (Int × List Data))
 | it (s:List UInt8) (p:Nat)
 | ie (b:Nat)
inductive AV
 | sc (c:Sc)
 | sl (sz:Nat) (els:List (List Data)) (t:Tok)
 | ptr (b o:Nat)
 | elp (cells:List Data) (o:Nat)
 | mx (sz:Nat) (els:List (List Data)) (b n:Nat) (t:Tok)
 | fn (f:FuncId) (caps:List AV)
 | fb (f:FuncId) (b o:Nat)
 | agg (l:List AV)
 | tup (l:List AV)
 | mr (b:Nat)
 | mpv (es:MP)
 | mm (ks:List Sc) (vs:List AV)
 | cs (sz b o n c:Nat) (t:Tok)
 | bad
inductive Cell | av (v:AV) | bx (l:List AV) | tk (on:Bool)
inductive Loc | s (n:Nat) | b (n:Nat) | t (n:Nat)
abbrev Log:=List (Loc × Cell)
inductive Opd | t (n:Nat) | c (v:AV)
inductive Bin | add | sub | mul | quo | rem | eql | neq | lss | leq | gtr | geq | and | or | xor | andNot
inductive AOp
 | mv (d:Nat) (x:Opd)
 | pick (d:Nat) (c a b:Opd)
 | box (d:Nat) (x:Opd)
 | alloc (d:Nat) (z:List AV)
 | build (d:Nat) (z:List AV) (parts:List (Nat × Nat × Opd))
 | bsl (d:Nat) (sz:Nat) (xs:List Opd)
 | ld (d:Nat) (n:Nat) (ag:Bool) (a:Opd)
 | st (a:Opd) (n:Nat) (x:Opd)
 | nc (d:Nat) (x:Opd)
 | bin (d:Nat) (o:Bin) (x y:Opd)
 | binB (d:Nat) (neg:Bool) (x y:Opd)
 | no (d:Nat) (x:Opd)
 | fa (d:Nat) (x:Opd) (off:Nat)
 | fld (d:Nat) (x:Opd) (off n:Nat) (ag:Bool)
 | ia (d:Nat) (sz:Nat) (x i:Opd)
 | ix (d:Nat) (x i:Opd)
 | slS (d:Nat) (x:Opd) (lo hi:Option Opd)
 | slL (d:Nat) (sz:Nat) (x:Opd) (lo hi mx:Option Opd)
 | cvi (d:Nat) (k:IntKind) (x:Opd)
 | cvu (d:Nat) (x:Opd)
 | ext (d:Nat) (x:Opd) (i:Nat)
 | call (d:Option Nat) (f:Opd) (args:List Opd)
 | app (d:Nat) (sz by_:Nat) (s x:Opd)
 | len (d:Nat) (x:Opd)
 | lenS (d:Nat) (x:Opd)
 | mx (d:Nat) (x y:Opd)
 | mn (d:Nat) (x y:Opd)
 | eqN (d:Nat) (neg:Bool) (x:Opd)
 | bslZ (d sz:Nat)
 | mkC (d sz by_:Nat) (z:List AV) (x:Opd)
 | cpy (d:Option Nat) (sz:Nat) (x y:Opd)
 | mkf (d:Nat) (f:FuncId) (caps:List Opd)
 | mkfb (d:Nat) (f:FuncId) (x:Opd)
 | mk (d sz by_:Nat) (z:List AV) (x:Opd)
 | mkF (d sz by_:Nat) (z:List Data) (x:Opd)
 | bslM (d sz:Nat) (xs:List Opd)
 | appM (d sz by_:Nat) (s x:Opd)
 | cap (d:Nat) (x:Opd)
 | iaG (d:Nat) (cells:List Data) (sz:Nat) (x:Opd)
 | eqA (d:Nat) (neg:Bool) (ks:List Nat) (x y:Opd)
 | appZ (d sz by_:Nat) (z:List Data) (s x:Opd)
 | mkM (d:Nat)
 | lkM (d:Nat) (z:List Data) (x k:Opd)
 | upM (x k v:Opd)
 | appC (d sz by_:Nat) (s x:Opd)
 | clrC (sz:Nat) (z:List AV) (x:Opd)
 | eqP (d:Nat) (fn neg:Bool) (x y:Opd)
 | rngS (d:Nat) (x:Opd)
 | nxtS (d:Nat) (x:Opd)
 | rngE (d:Nat) (x:Opd)
 | nxtE (d:Nat) (x:Opd)
 | mkS (d:Nat)
 | lkS (d:Nat) (ok st:Bool) (z:AV) (x k:Opd)
 | upS (st:Bool) (x k v:Opd)
structure GOp where
 g:Option (Nat × Bool)
 o:AOp
inductive AC
 | reg (ops:List GOp)
 | frz (x:Nat)
 | regD (ops:List GOp) (pre:List Nat)
 | regE (ops:List GOp) (pre:List Nat)
 | cut
 | seq (x y:AC) | cond (x:Opd) (t e:AC) | block (n:Nat) (c:AC) | loop (c:AC) | exit (n:Nat) | ret | skip | stuck
def Loc.beq:Loc→Loc→Bool
 | .s i,.s j=>Nat.beq i j
 | .b i,.b j=>Nat.beq i j
 | .t i,.t j=>Nat.beq i j
 | _,_=>false
def look:Log→Loc→Option Cell
 | [],_=>none
 | (k,c)::r,l=>match Loc.beq k l with | true=>some c | false=>look r l
def ev (σ:Log):Opd→AV
 | .t n=>match look σ (.s n) with | some (.av v)=>v | _=>.bad
 | .c v=>v
def frc (v:AV) (F:AV→Prop):Prop:=match v with
 | .sc c=>F (.sc c)
 | .sl a b c=>F (.sl a b c)
 | .ptr a b=>F (.ptr a b)
 | .elp a b=>F (.elp a b)
 | .mx a b c d e=>F (.mx a b c d e)
 | .fn a b=>F (.fn a b)
 | .fb a b c=>F (.fb a b c)
 | .agg a=>F (.agg a)
 | .tup a=>F (.tup a)
 | .mr a=>F (.mr a)
 | .mpv a=>F (.mpv a)
 | .mm a b=>F (.mm a b)
 | .cs a b c d e f=>F (.cs a b c d e f)
 | .bad=>False
def frc1 (v:AV) (F:AV→Prop):Prop:=match v with
 | .sc c=>F (.sc c)
 | .sl a b c=>F (.sl a b c)
 | .ptr a b=>F (.ptr a b)
 | .elp a b=>F (.elp a b)
 | .mx a b c d e=>F (.mx a b c d e)
 | .fn a b=>F (.fn a b)
 | .fb a b c=>F (.fb a b c)
 | .mr a=>F (.mr a)
 | .mpv a=>F (.mpv a)
 | .mm a b=>F (.mm a b)
 | .cs a b c d e f=>F (.cs a b c d e f)
 | _=>False
def eF:List AV→(List AV→Prop)→Prop
 | [],F=>F []
 | v::r,F=>frc1 v fun v=>eF r fun r=>F (v::r)
def evs (σ:Log):List Opd→List AV
 | []=>[]
 | o::r=>ev σ o::evs σ r
def aX:=FuncId→List AV→List (List AV)→AV→List (List AV)→Prop
def cellD:AV→Option Data
 | .sc c=>some (.sc c)
 | .sl z e _=>some (.lst z e)
 | _=>none
def bB:List AV→Option (List Data)
 | []=>some []
 | v :: r => match cellD v with
   | none=>none
   | some d => match bB r with
     | none=>none
     | some ds=>some (d::ds)
def flat:AV→List AV
 | .agg l=>l
 | v=>[v]
def aQ:Data→AV
 | .sc c=>.sc c
 | .lst z e=>.sl z e .none
def dX {α:Type}:Nat→List α→Option (List α)
 | 0,_=>some []
 | _+1,[]=>none
 | n+1,x::r=>match dX n r with | none=>none | some l=>some (x::l)
def sub {α:Type}:List α→Nat→Nat→Option (List α)
 | l,0,n=>dX n l
 | [],_+1,_=>none
 | _::r,o+1,n=>sub r o n
def over {α:Type}:List α→List α→Option (List α)
 | [],l=>some l
 | _::_,[]=>none
 | x::xs,_::l=>match over xs l with | none=>none | some r=>some (x::r)
def be {α:Type}:Nat→List α→List α→Option (List α)
 | 0,new,l=>over new l
 | _+1,_,[]=>none
 | n+1,new,x::r=>match be n new r with | none=>none | some l=>some (x::l)
def aH (a b:List UInt8):Bool:=decide (a=b)
def eK:IntKind→Int→Prop
 | .i64,n=>-9223372036854775808≤n∧n≤9223372036854775807
 | .u8,n=>0≤n∧n≤255
 | .u64,n=>0≤n∧n≤18446744073709551615
 | _,_=>False
def jU (n by_:Nat):Prop:=n≤9223372036854775807∧n * by_≤140737488355328
def binS:Bin→List UInt8→List UInt8→(AV→Prop)→Prop
 | .eql,a,b,K=>K (.sc (.b (aH a b)))
 | .neq,a,b,K=>K (.sc (.b (!aH a b)))
 | .add,a,b,K=>a.length+b.length≤9223372036854775807∧K (.sc (.s (a++b)))
 | .lss,a,b,K=>K (.sc (.b (Op.bytesLess a b)))
 | .leq,a,b,K=>K (.sc (.b (Op.bytesLess a b||aH a b)))
 | .gtr,a,b,K=>K (.sc (.b (!(Op.bytesLess a b||aH a b))))
 | .geq,a,b,K=>K (.sc (.b (!(Op.bytesLess a b))))
 | _,_,_,_=>False
def binI:Bin→IntKind→Int→Int→(AV→Prop)→Prop
 | .add,k,a,b,K=>eK k (a+b)∧K (.sc (.i k (a+b)))
 | .sub,k,a,b,K=>eK k (a - b)∧K (.sc (.i k (a - b)))
 | .mul,k,a,b,K=>eK k (a * b)∧K (.sc (.i k (a * b)))
 | .quo,k,a,b,K=>(eK k a∧0≤a∧0<b)∧K (.sc (.i k (a / b)))
 | .rem,k,a,b,K=>(0≤a∧0<b)∧K (.sc (.i k (a % b)))
 | .eql,_,a,b,K=>K (.sc (.b (decide (a=b))))
 | .neq,_,a,b,K=>K (.sc (.b (!decide (a=b))))
 | .lss,_,a,b,K=>K (.sc (.b (decide (a<b))))
 | .leq,_,a,b,K=>K (.sc (.b (decide (a≤b))))
 | .gtr,_,a,b,K=>K (.sc (.b (decide (b<a))))
 | .geq,_,a,b,K=>K (.sc (.b (decide (b≤a))))
 | .and,k,a,b,K=>K (.sc (.i k (bits .and k a b)))
 | .or,k,a,b,K=>K (.sc (.i k (bits .or k a b)))
 | .xor,k,a,b,K=>K (.sc (.i k (bits .xor k a b)))
 | .andNot,k,a,b,K=>K (.sc (.i k (bits .andNot k a b)))
def gp:IntKind→IntKind→Bool
 | .i64,.i64=>true
 | .u8,.u8=>true
 | .i32,.i32=>true
 | .u64,.u64=>true
 | _,_=>false
def kz (o:Bin) (x y:AV) (K:AV→Prop):Prop:=
 match x,y with
 | .sc (.i k a),.sc (.i k' b)=>match gp k k' with | true=>binI o k a b K | false=>False
 | .sc (.s a),.sc (.s b)=>binS o a b K
 | _,_=>False
def ldv (d:Nat) (ag:Bool) (l:Option (List AV)) (F:Log→Prop):Prop:=match l with
 | none=>False
 | some l => match ag with
   | true=>eF l fun l=>F [(.s d,.av (.agg l))]
   | false => match l with
     | [v]=>frc1 v fun v=>F [(.s d,.av v)]
     | _=>False
def bld (σ:Log):List (Nat × Nat × Opd)→List AV→(List AV→Prop)→Prop
 | [],z,F=>F z
 | (o, n, x) :: r, z, F => eF (flat (ev σ x)) fun v => match Nat.beq v.length n with
   | true=>(match be o v z with | some z=>bld σ r z F | none=>False)
   | false=>False
def gU (n:Int):List (Int × List Data)→Option (List Data)
 | []=>none
 | (k,ds)::r=>match decide (n=k) with | true=>some ds | false=>gU n r
def ln (n:Int) (x:List Data):List (Int × List Data)→List (Int × List Data)
 | []=>[(n,x)]
 | (k,ds)::r=>match decide (n=k) with | true=>(k,x)::r | false=>(k,ds)::ln n x r
def isM:List AV→Bool
 | [.mpv _]=>true
 | [.mm _ _]=>true
 | _=>false
def keyB:Sc→Sc→Option Bool
 | .s a,.s b=>some (aH a b)
 | .i .i64 a,.i .i64 b=>some (decide (a=b))
 | _,_=>none
def jL (q:Sc):List Sc→List AV→Option (Option AV)
 | [],[]=>some none
 | k :: ks, v :: vs => match keyB q k with
   | some true=>some (some v)
   | some false=>jL q ks vs
   | none=>none
 | _,_=>none
def mG (q:Sc):List Sc→List Sc
 | []=>[q]
 | k::ks=>match keyB q k with | some true=>k::ks | _=>k::mG q ks
def mF (q:Sc) (x:AV):List Sc→List AV→List AV
 | k::ks,v::vs=>match keyB q k with | some true=>x::vs | _=>v::mF q x ks vs
 | _,_=>[x]
def kN:Bool→AV→Option Sc
 | true,.sc (.s l)=>some (.s l)
 | false,.sc (.i .i64 n)=>some (.i .i64 n)
 | _,_=>none
def mval:AV→Option AV
 | .sc c=>some (.sc c)
 | .sl z e _=>some (.sl z e .none)
 | .ptr b o=>some (.ptr b o)
 | _=>none
def lkR (σ:Log) (st:Bool) (x k:Opd):Option (Option AV):=match ev σ x,kN st (ev σ k) with
 | .mr b, some q => (match look σ (.b b) with
   | some (.bx [.mm ks vs])=>jL q ks vs
   | _=>none)
 | _,_=>none
def lkV (ok:Bool) (z:AV) (r:Option AV):AV:=match ok,r with
 | true,some v=>.tup [v,.sc (.b true)]
 | true,none=>.tup [z,.sc (.b false)]
 | false,some v=>v
 | false,none=>z
def upR (σ:Log) (st:Bool) (x k v:Opd):Option (Nat × AV):=match ev σ x,kN st (ev σ k),mval (ev σ v) with
 | .mr b, some q, some v => (match look σ (.b b) with
   | some (.bx [.mm ks vs]) => (match jL q ks vs with
     | some _=>some (b,.mm (mG q ks) (mF q v ks vs))
     | none=>none)
   | _=>none)
 | _,_,_=>none
def lv (σ:Log) (sz:Nat):List Opd→(List (List Data)→Prop)→Prop
 | [],F=>F []
 | x :: r, F => eF (flat (ev σ x)) fun v => match bB v with
   | none=>False
   | some ds => match Nat.beq ds.length sz with
     | true=>lv σ sz r fun els=>F (ds::els)
     | false=>False
def lw (σ:Log) (sz:Nat):List Opd→(List AV→Prop)→Prop
 | [],F=>F []
 | x :: r, F => eF (flat (ev σ x)) fun v => match Nat.beq v.length sz with
   | true=>lw σ sz r fun vs=>F (v++vs)
   | false=>False
def ysl (σ:Log) (sz:Nat):AV→Option (Nat × List AV)
 | .sl z e _ => match Nat.beq sz z with
   | true=>some (e.length,e.flatten.map aQ)
   | false=>none
 | .cs z b o m _ _ => match Nat.beq sz z with
   | true => (match look σ (.b b) with
     | some (.bx l) => (match isM l with
       | true=>none
       | false => (match sub l o (m * sz) with
         | some V=>some (m,V)
         | none=>none))
     | _=>none)
   | false=>none
 | .mx z [] b m _ => match Nat.beq sz z with
   | true => (match look σ (.b b) with
     | some (.bx l) => (match isM l with
       | true=>none
       | false => (match sub l 0 (m * sz) with
         | some V=>some (m,V)
         | none=>none))
     | _=>none)
   | false=>none
 | _=>none
def zq (σ:Log) (sz:Nat) (v:AV):Bool:=match ysl σ sz v with
 | some (m,_)=>Nat.beq m 0
 | none=>false
def app0 (sz:Nat):AV→Bool
 | .sl z _ _=>Nat.beq sz z
 | .cs z _ _ _ _ _=>Nat.beq sz z
 | _=>false
def fA:AV→AV
 | .sl z e _=>.sl z e .none
 | v=>v
def bf:AV→AV
 | .agg l=>.agg (l.map fA)
 | v=>fA v
def rb (bs:List Nat) (id b:Nat):Nat:=match bs[b]? with | some x=>x | none=>id+(b - bs.length)
def ren1 (bs ts:List Nat) (id:Nat):AV→AV
 | .sl z e (.t k)=>.sl z e (.t (rb ts id k))
 | .ptr b o=>.ptr (rb bs id b) o
 | .mx z e b n (.t k)=>.mx z e (rb bs id b) n (.t (rb ts id k))
 | .mx z e b n t=>.mx z e (rb bs id b) n t
 | .mr b=>.mr (rb bs id b)
 | .fb f b o=>.fb f (rb bs id b) o
 | .cs z b o n c (.t k)=>.cs z (rb bs id b) o n c (.t (rb ts id k))
 | .cs z b o n c t=>.cs z (rb bs id b) o n c t
 | v=>v
def ren2 (bs ts:List Nat) (id:Nat):AV→AV
 | .fn f c=>.fn f (c.map (ren1 bs ts id))
 | .agg l=>.agg (l.map (ren1 bs ts id))
 | .mm ks vs=>.mm ks (vs.map (ren1 bs ts id))
 | v=>ren1 bs ts id v
def ren (bs ts:List Nat) (id:Nat):AV→AV
 | .tup l=>.tup (l.map (ren2 bs ts id))
 | v=>ren2 bs ts id v
def dW:AV→List Nat
 | .sl _ _ (.t k)=>[k]
 | .mx _ _ _ _ (.t k)=>[k]
 | .cs _ _ _ _ _ (.t k)=>[k]
 | _=>[]
def bt:AV→List Nat
 | .fn _ c=>c.flatMap dW
 | .agg l=>l.flatMap dW
 | v=>dW v
def toks:AV→List Nat
 | .tup l=>l.flatMap bt
 | v=>bt v
def wk1:AV→AV→Prop
 | .sl z e t,.sl z' e' t'=>z=z'∧e=e'∧(t'=.none∨t'=t)
 | .mx z e b n t,.mx z' e' b' n' t'=>z=z'∧e=e'∧b=b'∧n=n'∧(t'=.none∨t'=t)
 | .cs z b o n c t,.cs z' b' o' n' c' t'=>z=z'∧b=b'∧o=o'∧n=n'∧c=c'∧(t'=.none∨t'=t)
 | x,y=>x=y
def wkL1:List AV→List AV→Prop
 | [],[]=>True
 | x::xs,y::ys=>wk1 x y∧wkL1 xs ys
 | _,_=>False
def wk2:AV→AV→Prop
 | .fn f c,.fn f' c'=>f=f'∧wkL1 c c'
 | .agg l,.agg l'=>wkL1 l l'
 | x,y=>wk1 x y
def gt:List AV→List AV→Prop
 | [],[]=>True
 | x::xs,y::ys=>wk2 x y∧gt xs ys
 | _,_=>False
def iJ (σ:Log) (bs ts:List Nat) (id:Nat):List Nat→List (List AV)→Prop
 | [],[]=>True
 | b :: r, h :: H => (match look σ (.b b) with
     | some (.bx l)=>gt l (h.map (ren2 bs ts id))
     | _=>False)∧iJ σ bs ts id r H
 | _,_=>False
def dA (σ:Log):List Nat→Prop
 | []=>True
 | k::r=>(match look σ (.t k) with | some (.tk true)=>True | _=>False)∧dA σ r
def aT (bs ts:List Nat) (id:Nat):Nat→List (List AV)→Log
 | _,[]=>[]
 | n,h::H=>(.b (rb bs id n),.bx (h.map (ren2 bs ts id)))::aT bs ts id (n+1) H
def bK (ts:List Nat) (id:Nat):List Nat→Log
 | []=>[]
 | k::r=>(.t (rb ts id k),.tk true)::bK ts id r
def bC:List Nat→Log
 | []=>[]
 | k::r=>(.t k,.tk false)::bC r
def bp (d:Option Nat) (v:AV):Log:=match d with | some d=>[(.s d,.av v)] | none=>[]
def bE:List Nat→Bool
 | []=>true
 | x::r=>match r.contains x with | true=>false | false=>bE r
def in1 (nb nt:Nat):AV→Bool
 | .sc _=>true
 | .sl _ _ (.t k)=>Nat.blt k nt
 | .sl _ _ _=>true
 | .ptr b _=>Nat.blt b nb
 | .mx _ _ b _ (.t k)=>match Nat.blt k nt with | true=>Nat.blt b nb | false=>false
 | .mx _ _ b _ _=>Nat.blt b nb
 | .elp _ _=>true
 | .mr b=>Nat.blt b nb
 | .fb _ b _=>Nat.blt b nb
 | .cs _ b _ _ _ (.t k)=>match Nat.blt k nt with | true=>Nat.blt b nb | false=>false
 | .cs _ b _ _ _ _=>Nat.blt b nb
 | .mpv (.ie _)=>false
 | .mpv _=>true
 | _=>false
def km (nb nt:Nat):List AV→Bool
 | []=>true
 | x::r=>match in1 nb nt x with | true=>km nb nt r | false=>false
def in2 (nb nt:Nat):AV→Bool
 | .fn _ c=>km nb nt c
 | .agg l=>km nb nt l
 | .mm _ l=>km nb nt l
 | v=>in1 nb nt v
def dI (nb nt:Nat):List AV→Bool
 | []=>true
 | x::r=>match in2 nb nt x with | true=>dI nb nt r | false=>false
def inR (nb nt:Nat):AV→Bool
 | .tup l=>dI nb nt l
 | v=>in2 nb nt v
def inH (nb nt:Nat):List (List AV)→Bool
 | []=>true
 | x::r=>match dI nb nt x with | true=>inH nb nt r | false=>false
def dK (args:List AV) (H:List (List AV)):Nat:=(args.flatMap toks++H.flatMap fun h=>h.flatMap bt).foldr (fun k m=>Nat.max (k+1) m) 0
inductive callP (call:aX) (σ:Log) (id:Nat) (d:Option Nat) (f:FuncId) (args:List AV) (F:Log→Prop):Prop
 | pure (res:AV) (h1:call f (args.map bf) [] res []) (h2:dI 0 0 (args.map bf)=true∧inR 0 50 res=true) (h3:F (bp d (ren [] [] id res)++bK [] id (toks res)))
 | full (bs ts : List Nat) (args' : List AV) (H H' : List (List AV)) (res : AV) (h1 : call f args' H res H')
   (h2:bE bs=true∧bE ts=true∧Nat.ble bs.length H'.length=true∧Nat.ble H'.length (bs.length+50)=true∧Nat.ble (bs.length+ts.length) 900=true∧Nat.beq ts.length (dK args' H)=true ∧
    dI bs.length ts.length args'=true∧inH bs.length ts.length H=true∧inR H'.length (ts.length+50) res=true∧inH H'.length (ts.length+50) H'=true ∧
    gt args (args'.map (ren2 bs ts id))∧iJ σ bs ts id bs H∧dA σ ts)
   (h3:F (bp d (ren bs ts id res)++aT bs ts id 0 H'++bK ts id (toks res++(H'.flatMap fun h=>h.flatMap bt))++bC ts))
def eqL:List Nat→List AV→List AV→Option Bool
 | [],[],[]=>some true
 | 0::ks,.sc (.b x)::r,.sc (.b y)::s=>match eqL ks r s with | some b=>some ((x == y)&&b) | none=>none
 | 1::ks,.sc (.i k x)::r,.sc (.i k' y)::s=>match gp k k' with | true=>(match eqL ks r s with | some b=>some (decide (x=y)&&b) | none=>none) | false=>none
 | 2::ks,.sc (.s x)::r,.sc (.s y)::s=>match eqL ks r s with | some b=>some (aH x y&&b) | none=>none
 | _,_,_=>none
def fP (σ:Log) (x:Option Opd) (z:Int) (K:Int→Prop):Prop:=match x with
 | none=>K z
 | some x=>match ev σ x with | .sc (.i _ n)=>K n | _=>False
def tokE:Tok→Tok
 | .full=>.full
 | _=>.none
def eff (call:aX) (σ:Log) (id:Nat):AOp→(Log→Prop)→Prop
 | .mv d x,F=>frc (ev σ x) fun v=>F [(.s d,.av v)]
 | .pick d c a b, F => match ev σ c with
   | .sc (.b t)=>@Bool.rec (fun _=>Prop) (frc (ev σ b) fun v=>F [(.s d,.av v)]) (frc (ev σ a) fun v=>F [(.s d,.av v)]) t
   | _=>False
 | .box d x,F=>eF (flat (ev σ x)) fun l=>F [(.s d,.av (.ptr id 0)),(.b id,.bx l)]
 | .alloc d z,F=>F [(.s d,.av (.ptr id 0)),(.b id,.bx z)]
 | .build d z ps,F=>bld σ ps z fun z=>eF z fun z=>F [(.s d,.av (.agg z))]
 | .bsl d sz xs,F=>lv σ sz xs fun els=>F [(.s d,.av (.sl sz els .full))]
 | .ld d n ag a,F=>match ev σ a with
  | .ptr b o => (match look σ (.b b) with
    | some (.bx l) => (match isM l with
      | true=>False
      | false=>ldv d ag (sub l o n) F)
    | _=>False)
  | .elp l o=>ldv d ag (sub (l.map aQ) o n) F
  | _=>False
 | .st a n x,F=>match ev σ a with
  | .ptr b o => (match look σ (.b b) with
    | some (.bx l) => (match isM l with
      | true=>False
      | false => eF (flat (ev σ x)) fun v => (match Nat.beq v.length n with
        | true=>(match be o v l with | some l=>eF l fun l=>F [(.b b,.bx l)] | none=>False)
        | false=>False))
    | _=>False)
  | _=>False
 | .nc d x,F=>match ev σ x with
  | .ptr b o=>F [(.s d,.av (.ptr b o))]
  | .elp b o=>F [(.s d,.av (.elp b o))]
  | .fn b o=>F [(.s d,.av (.fn b o))]
  | .fb f b o=>F [(.s d,.av (.fb f b o))]
  | _=>False
 | .bin d o x y,F=>kz o (ev σ x) (ev σ y) fun v=>F [(.s d,.av v)]
 | .binB d neg x y,F=>match ev σ x,ev σ y with
  | .sc (.b a), .sc (.b b) => (match neg with
    | true=>F [(.s d,.av (.sc (.b (a != b))))]
    | false=>F [(.s d,.av (.sc (.b (a == b))))])
  | _,_=>False
 | .no d x,F=>match ev σ x with | .sc (.b t)=>F [(.s d,.av (.sc (.b (!t))))] | _=>False
 | .fa d x off,F=>match ev σ x with
  | .ptr b o=>F [(.s d,.av (.ptr b (o+off)))]
  | .elp l o=>F [(.s d,.av (.elp l (o+off)))]
  | _=>False
 | .fld d x off n ag,F=>match ev σ x with
  | .agg l=>ldv d ag (sub l off n) F
  | _=>False
 | .ia d sz x i,F=>match ev σ x,ev σ i with
  | .sl z els _, .sc (.i _ n) => (match Nat.beq sz z with
    | true=>∃ e,(0≤n∧els[n.toNat]? = some e)∧F [(.s d,.av (.elp e 0))]
    | false=>False)
  | .mx z els b m _, .sc (.i _ n) => (match Nat.beq sz z with
    | true=>(0≤n∧els.length≤n.toNat∧n.toNat<els.length+m)∧F [(.s d,.av (.ptr b ((n.toNat - els.length) * sz)))]
    | false=>False)
  | .cs z b o m _ _, .sc (.i _ n) => (match Nat.beq sz z with
    | true=>(0≤n∧n.toNat<m)∧F [(.s d,.av (.ptr b (o+n.toNat * sz)))]
    | false=>False)
  | _,_=>False
 | .ix d x i,F=>match ev σ x,ev σ i with
  | .sc (.s l),.sc (.i _ n)=>∃ e,(0≤n∧l[n.toNat]? = some e)∧F [(.s d,.av (.sc (.i .u8 e.toNat)))]
  | _,_=>False
 | .slS d x lo hi,F=>match ev σ x with
  | .sc (.s l)=>fP σ lo 0 fun a=>fP σ hi l.length fun b=>
   (0≤a∧a≤b∧b≤l.length)∧F [(.s d,.av (.sc (.s ((l.drop a.toNat).take (b.toNat - a.toNat)))))]
  | _=>False
 | .slL d sz x lo hi mx,F=>match ev σ x with
  | .mx z [] b n t => (match Nat.beq sz z with
    | true => (match lo, hi, mx, look σ (.b b) with
      | none, some hi, none, some (.bx l) => fP σ (some hi) 0 fun c => (c = 0 ∧ l.length = n * sz ∧ isM l = false) ∧ (match t with
        | .none=>False
        | .full=>F [(.s d,.av (.sl z [] (.t id))),(.t id,.tk true),(.b b,.tk false)]
        | .t k => (match look σ (.t k) with
          | some (.tk true)=>F [(.s d,.av (.sl z [] (.t id))),(.t id,.tk true),(.b b,.tk false),(.t k,.tk false)]
          | _=>False))
      | _,_,_,_=>False)
    | false=>False)
  | .sl z els t => (match Nat.beq sz z with
    | true => fP σ lo 0 fun a => fP σ hi els.length fun b => match mx with
      | none=>∃ t',((0≤a∧a≤b∧b≤els.length)∧(t'=.none∨(t'=t∧b=els.length)))∧F [(.s d,.av (.sl z ((els.drop a.toNat).take (b.toNat - a.toNat)) t'))]
      | some _=>fP σ mx 0 fun c=>(0≤a∧a≤b∧b=c∧b≤els.length)∧F [(.s d,.av (.sl z ((els.drop a.toNat).take (b.toNat - a.toNat)) .full))]
    | false=>False)
  | .cs z b o n c t => (match Nat.beq sz z with
    | true => fP σ lo 0 fun p => fP σ hi n fun q => (match mx with
      | none=>∃ v,((0≤p∧p≤q∧q≤c)∧((p<c∧v=.cs z b (o+p.toNat * sz) (q.toNat - p.toNat) (c - p.toNat) t)∨(p=c∧v=.sl z [] (tokE t))))∧F [(.s d,.av v)]
      | some _=>fP σ mx 0 fun r=>(p=0∧q=0∧r=0)∧F [(.s d,.av (.sl z [] .full))])
    | false=>False)
  | _=>False
 | .cvi d k x,F=>match ev σ x with | .sc (.i _ n)=>eK k n∧F [(.s d,.av (.sc (.i k n)))] | _=>False
 | .cvu d x,F=>match ev σ x with
  | .sc (.i .u64 n)=>(9223372036854775808≤n∧n≤18446744073709551615)∧F [(.s d,.av (.sc (.i .i64 (n - 18446744073709551616))))]
  | _=>False
 | .ext d x i,F=>match ev σ x with
  | .tup l=>(match l[i]? with | some v=>frc v fun v=>F [(.s d,.av v)] | none=>False)
  | _=>False
 | .call d f as_,F=>match ev σ f with
  | .fn f caps=>callP call σ id d f (evs σ as_++caps) F
  | .fb f b o=>callP call σ id d f (.ptr b o::evs σ as_) F
  | _=>False
 | .app d sz by_ a x,F=>match ev σ a,ev σ x with
  | .sl z e1 t1, .sl z' e2 _ => (match Nat.beq sz z, Nat.beq sz z' with
    | true, true => (match t1 with
      | .none=>False
      | .full=>jU (e1.length+e2.length) by_∧F [(.s d,.av (.sl sz (e1++e2) (.t id))),(.t id,.tk true)]
      | .t k => (match look σ (.t k) with
        | some (.tk true)=>jU (e1.length+e2.length) by_∧F [(.s d,.av (.sl sz (e1++e2) (.t id))),(.t id,.tk true),(.t k,.tk false)]
        | _=>False))
    | _,_=>False)
  | _,_=>False
 | .len d x,F=>match ev σ x with
  | .sl _ els _=>F [(.s d,.av (.sc (.i .i64 els.length)))]
  | .mx _ els _ n _=>F [(.s d,.av (.sc (.i .i64 (els.length+n:Nat))))]
  | .cs _ _ _ n _ _=>F [(.s d,.av (.sc (.i .i64 n)))]
  | _=>False
 | .lenS d x,F=>match ev σ x with
  | .sc (.s l)=>F [(.s d,.av (.sc (.i .i64 l.length)))]
  | _=>False
 | .mx d x y,F=>match ev σ x,ev σ y with
  | .sc (.i .i64 a),.sc (.i .i64 b)=>F [(.s d,.av (.sc (.i .i64 (max a b))))]
  | _,_=>False
 | .eqN d ng x,F=>match ev σ x with
  | .sl _ (_::_) _=>F [(.s d,.av (.sc (.b ng)))]
  | .cs _ _ _ _ _ _=>F [(.s d,.av (.sc (.b ng)))]
  | .mx _ _ _ _ _=>F [(.s d,.av (.sc (.b ng)))]
  | _=>False
 | .bslZ d sz,F=>F [(.s d,.av (.sl sz [] .full))]
 | .mkC d sz by_ z x,F=>match ev σ x with
  | .sc (.i .i64 n)=>(0≤n∧jU n.toNat by_)∧F [(.s d,.av (.cs sz id 0 n.toNat n.toNat .full)),(.b id,.bx (List.replicate n.toNat z).flatten)]
  | _=>False
 | .cpy d sz x y,F=>match ev σ x with
  | .cs q b o n _ _ => (match Nat.beq sz q with
    | true => (match zq σ sz (ev σ y) with
      | true=>F (bp d (.sc (.i .i64 0)))
      | false => (match ysl σ sz (ev σ y), look σ (.b b) with
        | some (m, V), some (.bx l) => (match isM l with
          | true=>False
          | false => (match dX (Nat.min m n * sz) V with
            | some V' => (match be o V' l with
              | some l'=>0<m∧F (bp d (.sc (.i .i64 (Nat.min m n:Nat)))++[(.b b,.bx l')])
              | none=>False)
            | none=>False))
        | _,_=>False))
    | false=>False)
  | _=>False
 | .mn d x y,F=>match ev σ x,ev σ y with
  | .sc (.i .i64 a),.sc (.i .i64 b)=>F [(.s d,.av (.sc (.i .i64 (min a b))))]
  | _,_=>False
 | .mkf d f caps,F=>eF (evs σ caps) fun caps=>F [(.s d,.av (.fn f caps))]
 | .mkfb d f x,F=>match ev σ x with
  | .ptr b o=>F [(.s d,.av (.fb f b o))]
  | _=>False
 | .mk d sz by_ z x,F=>match ev σ x with
  | .sc (.i .i64 n)=>(0≤n∧jU n.toNat by_)∧F [(.s d,.av (.mx sz [] id n.toNat .full)),(.b id,.bx (List.replicate n.toNat z).flatten)]
  | _=>False
 | .mkF d sz by_ z x,F=>match ev σ x with
  | .sc (.i .i64 n)=>(0≤n∧jU n.toNat by_)∧F [(.s d,.av (.sl sz (List.replicate n.toNat z) .full))]
  | _=>False
 | .bslM d sz xs,F=>lw σ sz xs fun vs=>F [(.s d,.av (.cs sz id 0 xs.length xs.length .full)),(.b id,.bx vs)]
 | .appM d sz by_ a x,F=>match ev σ a,ev σ x with
  | .sl z e1 t1, .sl z' e2 _ => (match Nat.beq sz z, Nat.beq sz z' with
    | true, true => (match t1 with
      | .none=>False
      | .full=>(0<e2.length∧jU (e1.length+e2.length) by_)∧F [(.s d,.av (.mx sz e1 (id+1) e2.length (.t (id+1)))),(.b (id+1),.bx (e2.flatten.map aQ)),(.t (id+1),.tk true),(.t id,.tk false),(.t id,.tk true)]
      | .t k => (match look σ (.t k) with
        | some (.tk true)=>(0<e2.length∧jU (e1.length+e2.length) by_)∧F [(.s d,.av (.mx sz e1 (id+1) e2.length (.t (id+1)))),(.b (id+1),.bx (e2.flatten.map aQ)),(.t (id+1),.tk true),(.t id,.tk false),(.t id,.tk true),(.t k,.tk false)]
        | _=>False))
    | _,_=>False)
  | _,_=>False
 | .cap d x,F=>match ev σ x with
  | .sl _ els .full=>F [(.s d,.av (.sc (.i .i64 els.length)))]
  | .mx _ els _ n .full=>F [(.s d,.av (.sc (.i .i64 (els.length+n:Nat))))]
  | _=>False
 | .iaG d cells sz x,F=>match ev σ x with
  | .sc (.i _ n)=>(0≤n∧n.toNat * sz+sz≤cells.length)∧F [(.s d,.av (.elp cells (n.toNat * sz)))]
  | _=>False
 | .eqA d ng ks x y,F=>match ev σ x,ev σ y with
  | .agg l, .agg m => (match eqL ks l m with
    | some b => (match ng with
      | true=>F [(.s d,.av (.sc (.b (!b))))]
      | false=>F [(.s d,.av (.sc (.b b)))])
    | none=>False)
  | _,_=>False
 | .appZ d sz by_ z a x,F=>match ev σ a,ev σ x with
  | .sl q [] .full, .sc (.i .i64 n) => (match Nat.beq sz q with
    | true=>(0<n∧jU n.toNat by_)∧F [(.s d,.av (.mx sz [] (id+1) n.toNat (.t (id+1)))),(.b (id+1),.bx ((List.replicate n.toNat z).flatten.map aQ)),(.t (id+1),.tk true),(.t id,.tk false),(.t id,.tk true)]
    | false=>False)
  | _,_=>False
 | .mkM d,F=>F [(.s d,.av (.mr id)),(.b id,.bx [.mpv (.m [])])]
 | .lkM d z x k,F=>match ev σ x,ev σ k with
  | .mr b, .sc (.i .i64 n) => (match look σ (.b b) with
    | some (.bx [.mpv (.m es)]) => (match gU n es with
      | some ds=>F [(.s d,.av (.tup [.agg (ds.map aQ),.sc (.b true)]))]
      | none=>F [(.s d,.av (.tup [.agg (z.map aQ),.sc (.b false)]))])
    | _=>False)
  | _,_=>False
 | .upM x k v,F=>match ev σ x,ev σ k with
  | .mr b, .sc (.i .i64 n) => (match look σ (.b b) with
    | some (.bx [.mpv (.m es)]) => (match ev σ v with
      | .agg l => eF l fun l => (match bB l with
        | some ds=>F [(.b b,.bx [.mpv (.m (ln n ds es))])]
        | none=>False)
      | _=>False)
    | _=>False)
  | _,_=>False
 | .appC d sz by_ a x, F => match zq σ sz (ev σ x) with
   | true => (match app0 sz (ev σ a) with
     | true=>frc (ev σ a) fun v=>F [(.s d,.av v)]
     | false=>False)
   | false => match ysl σ sz (ev σ x) with
     | none=>False
     | some (m, V) => (match ev σ a with
       | .sl z e1 .full => (match Nat.beq sz z with
         | true=>(0<m∧jU (e1.length+m) by_)∧F [(.s d,.av (.cs sz (id+1) 0 (e1.length+m) (e1.length+m) (.t (id+1)))),(.b (id+1),.bx (e1.flatten.map aQ++V)),(.t (id+1),.tk true),(.t id,.tk false),(.t id,.tk true)]
         | false=>False)
       | .cs z b o n c t => (match Nat.beq sz z with
         | true => (match look σ (.b b) with
           | some (.bx l) => (match isM l with
             | true=>False
             | false => (match Nat.ble (n + m) c with
               | true => (match be (o + n * sz) V l with
                 | some l'=>0<m∧F [(.s d,.av (.cs sz b o (n+m) c t)),(.b b,.bx l')]
                 | none=>False)
               | false => (match sub l o (n * sz) with
                 | none=>False
                 | some l0 => (match t with
                   | .none=>False
                   | .full=>(0<m∧jU (n+m) by_)∧F [(.s d,.av (.cs sz (id+1) 0 (n+m) (n+m) (.t (id+1)))),(.b (id+1),.bx (l0++V)),(.t (id+1),.tk true),(.t id,.tk false),(.t id,.tk true)]
                   | .t k => (match look σ (.t k) with
                     | some (.tk true)=>(o+c * sz≤l.length∧0<m∧jU (n+m) by_)∧F [(.s d,.av (.cs sz (id+1) 0 (n+m) (n+m) (.t (id+1)))),(.b b,.bx []),(.b (id+1),.bx (l0++V)),(.t (id+1),.tk true),(.t (id+2),.tk false),(.t (id+2),.tk true),(.t id,.tk false),(.t id,.tk true),(.b b,.tk false),(.t k,.tk false)]
                     | _=>False)))))
           | _=>False)
         | false=>False)
       | _=>False)
 | .clrC sz z x,F=>match ev σ x with
  | .cs q b o n _ _ => (match Nat.beq sz q with
    | true => (match look σ (.b b) with
      | some (.bx l) => (match isM l with
        | true=>False
        | false => (match be o (List.replicate n z).flatten l with
          | some l'=>0<n∧F [(.b b,.bx l')]
          | none=>False))
      | _=>False)
    | false=>False)
  | _=>False
 | .eqP d fn neg x y,F=>match fn,ev σ x,ev σ y with
  | false, .ptr b o, .ptr b' o' => (match Nat.beq b b' with
    | true=>F [(.s d,.av (.sc (.b (xor (Nat.beq o o') neg))))]
    | false=>False)
  | false,.ptr _ _,.sc .np=>F [(.s d,.av (.sc (.b neg)))]
  | false,.elp _ _,.sc .np=>F [(.s d,.av (.sc (.b neg)))]
  | false,.sc .np,.ptr _ _=>F [(.s d,.av (.sc (.b neg)))]
  | false,.sc .np,.sc .np=>F [(.s d,.av (.sc (.b (!neg))))]
  | true,.fn _ _,.sc .nf=>F [(.s d,.av (.sc (.b neg)))]
  | true,.sc .nf,.sc .nf=>F [(.s d,.av (.sc (.b (!neg))))]
  | _,_,_=>False
 | .rngS d x,F=>match ev σ x with
  | .sc (.s l)=>F [(.s d,.av (.ptr id 0)),(.b id,.bx [.mpv (.it l 0)])]
  | _=>False
 | .nxtS d x,F=>match ev σ x with
  | .ptr b 0 => (match look σ (.b b) with
    | some (.bx [.mpv (.it l p)]) => (match l[p]? with
      | none=>l.length≤p∧F [(.s d,.av (.tup [.sc (.b false)])),(.b b,.bx [.mpv (.it l p)])]
      | some c=>c.toNat<128∧F [(.s d,.av (.tup [.sc (.b true),.sc (.i .i64 p),.sc (.i .i32 c.toNat)])),(.b b,.bx [.mpv (.it l (p+1))])])
    | _=>False)
  | _=>False
 | .rngE d x,F=>match ev σ x with
  | .mr b => (match look σ (.b b) with
    | some (.bx [.mm [] []])=>F [(.s d,.av (.ptr id 0)),(.b id,.bx [.mpv (.ie b)])]
    | _=>False)
  | _=>False
 | .nxtE d x,F=>match ev σ x with
  | .ptr i 0 => (match look σ (.b i) with
    | some (.bx [.mpv (.ie b)]) => (match look σ (.b b) with
      | some (.bx [.mm [] []])=>F [(.s d,.av (.tup [.sc (.b false)]))]
      | _=>False)
    | _=>False)
  | _=>False
 | .mkS d,F=>F [(.s d,.av (.mr id)),(.b id,.bx [.mm [] []])]
 | .lkS d ok st z x k,F=>(match lkR σ st x k with
  | some r=>F [(.s d,.av (lkV ok z r))]
  | none=>False)
 | .upS st x k v,F=>(match upR σ st x k v with
  | some (b,m)=>F [(.b b,.bx [m])]
  | none=>False)
def one:AV→Bool
 | .sc _=>true | .sl _ _ _=>true | .ptr _ _=>true | .elp _ _=>true | .fn _ _=>true | .fb _ _ _=>true | .mx _ _ _ _ _=>true | .mr _=>true | .mpv _=>true | .mm _ _=>true | .cs _ _ _ _ _ _=>true
 | _=>false
def guard (σ:Log) (g:Option (Nat × Bool)) (A B:Log→Prop):Prop:=
 match g with
 | none=>A σ
 | some (n, w) => match ev σ (.t n) with
   | .sc (.b t)=>@Bool.rec (fun _=>Prop)
    ((match w with | false=>A | true=>B) ((.s n,.av (.sc (.b false)))::σ))
    ((match w with | true=>A | false=>B) ((.s n,.av (.sc (.b true)))::σ)) t
   | .tup _=>B σ
   | _=>False
def AOp.dst:AOp→Option Nat
 | .mv d _=>some d | .pick d _ _ _=>some d | .box d _=>some d | .alloc d _=>some d | .build d _ _=>some d | .bsl d _ _=>some d
 | .ld d _ _ _=>some d | .st _ _ _=>none | .nc d _=>some d | .bin d _ _ _=>some d | .binB d _ _ _=>some d | .no d _=>some d | .fa d _ _=>some d | .fld d _ _ _ _=>some d
 | .ia d _ _ _=>some d | .ix d _ _=>some d | .slS d _ _ _=>some d | .slL d _ _ _ _ _=>some d | .cvi d _ _=>some d | .cvu d _=>some d | .ext d _ _=>some d
 | .mk d _ _ _ _=>some d | .mkF d _ _ _ _=>some d | .bslM d _ _=>some d | .appM d _ _ _ _=>some d | .cap d _=>some d | .iaG d _ _ _=>some d | .eqA d _ _ _ _=>some d | .appZ d _ _ _ _ _=>some d | .mkM d=>some d | .lkM d _ _ _=>some d | .upM _ _ _=>none
 | .appC d _ _ _ _=>some d | .clrC _ _ _=>none | .eqP d _ _ _ _=>some d | .rngS d _=>some d | .nxtS d _=>some d | .rngE d _=>some d | .nxtE d _=>some d | .mkS d=>some d | .lkS d _ _ _ _ _=>some d | .upS _ _ _ _=>none
 | .call d _ _=>d | .app d _ _ _ _=>some d | .len d _=>some d | .lenS d _=>some d | .mx d _ _=>some d | .mn d _ _=>some d | .eqN d _ _=>some d | .bslZ d _=>some d | .mkC d _ _ _ _=>some d | .cpy d _ _ _=>d | .mkf d _ _=>some d | .mkfb d _ _=>some d
def p8 (call:aX):List GOp→Nat→Log→(Log→Prop)→Prop
 | [],_,σ,K=>K σ
 | o :: r, id, σ, K => guard σ o.g (fun σ => eff call σ id o.o fun δ => p8 call r (id + 100) (δ ++ σ) K)
     (fun σ=>p8 call r (id+100) (bp o.o.dst (.tup [])++σ) K)
inductive Ex | n | e (i:Nat) | r
def ay:Opd→List Loc
 | .t n=>[.s n]
 | .c _=>[]
def cq:List Opd→List Loc
 | []=>[]
 | x::r=>ay x++cq r
def lk:Option Opd→List Loc
 | none=>[]
 | some x=>ay x
def bxR:AV→List Loc
 | .cs _ b _ _ _ _=>[.b b]
 | .mx _ _ b _ _=>[.b b]
 | _=>[]
def AOp.rd (σ:Log):AOp→List Loc
 | .mv _ x=>ay x
 | .pick _ c a b=>ay c++ay a++ay b
 | .box _ x=>ay x
 | .alloc _ _=>[]
 | .build _ _ ps=>cq (ps.map fun p=>p.2.2)
 | .bsl _ _ xs=>cq xs
 | .ld _ _ _ a=>ay a++(match ev σ a with | .ptr b _=>[.b b] | _=>[])
 | .st a _ x=>ay a++ay x
 | .nc _ x=>ay x
 | .bin _ _ x y=>ay x++ay y
 | .binB _ _ x y=>ay x++ay y
 | .no _ x=>ay x
 | .fa _ x _=>ay x
 | .fld _ x _ _ _=>ay x
 | .ia _ _ x i=>ay x++ay i
 | .ix _ x i=>ay x++ay i
 | .slS _ x lo hi=>ay x++lk lo++lk hi
 | .slL _ _ x lo hi m=>ay x++lk lo++lk hi++lk m
 | .cvi _ _ x=>ay x
 | .cvu _ x=>ay x
 | .ext _ x _=>ay x
 | .call _ f as_=>ay f++cq as_
 | .app _ _ _ s x=>ay s++ay x
 | .len _ x=>ay x
 | .lenS _ x=>ay x
 | .mx _ x y=>ay x++ay y
 | .mn _ x y=>ay x++ay y
 | .eqN _ _ x=>ay x
 | .bslZ _ _=>[]
 | .mkC _ _ _ _ x=>ay x
 | .cpy _ _ x y=>ay x++ay y++bxR (ev σ y)
 | .mkf _ _ c=>cq c
 | .mkfb _ _ x=>ay x
 | .mk _ _ _ _ x=>ay x
 | .mkF _ _ _ _ x=>ay x
 | .bslM _ _ xs=>cq xs
 | .appM _ _ _ s x=>ay s++ay x
 | .cap _ x=>ay x
 | .iaG _ _ _ x=>ay x
 | .eqA _ _ _ x y=>ay x++ay y
 | .appZ _ _ _ _ s x=>ay s++ay x
 | .mkM _=>[]
 | .lkM _ _ x k=>ay x++ay k++(match ev σ x with | .mr b=>[.b b] | _=>[])
 | .upM x k v=>ay x++ay k++ay v
 | .appC _ _ _ s x=>ay s++ay x++bxR (ev σ s)++bxR (ev σ x)
 | .clrC _ _ x=>ay x
 | .eqP _ _ _ x y=>ay x++ay y
 | .rngS _ x=>ay x
 | .nxtS _ x=>ay x
 | .rngE _ x=>ay x++(match ev σ x with | .mr b=>[.b b] | _=>[])
 | .nxtE _ x=>ay x++(match ev σ x with | .ptr i _=>.b i::(match look σ (.b i) with | some (.bx [.mpv (.ie b)])=>[.b b] | _=>[]) | _=>[])
 | .mkS _=>[]
 | .lkS _ _ _ _ x k=>ay x++ay k++(match ev σ x with | .mr b=>[.b b] | _=>[])
 | .upS _ x k v=>ay x++ay k++ay v
def bw:Option (Nat × Bool)→List Loc
 | none=>[]
 | some (n,_)=>[.s n]
def ar:Log→List Loc
 | []=>[]
 | (k,_)::r=>k::ar r
def pn (l:Loc):List Loc→Bool
 | []=>false
 | x::r=>match Loc.beq x l with | true=>true | false=>pn l r
def eQ:List Loc→List Loc→Bool
 | [],_=>false
 | x::r,l=>match pn x l with | true=>true | false=>eQ r l
def dJ (p i:Nat):Bool:=Nat.beq (Nat.mod (Nat.div p (Nat.pow 2 i)) 2) 1
def bh (p:Nat) (R W:List Loc):List (Nat × List Loc × List Loc)→Bool
 | []=>false
 | (i, Ri, Wi) :: fs => match dJ p i with
   | true=>bh p R W fs
   | false => match eQ Wi R with
     | true=>true
     | false => match eQ Wi W with
       | true=>true
       | false => match eQ Ri W with
         | true=>true
         | false=>bh p R W fs
def fls (l:List Loc) (K:List Loc→Prop):Prop:=match l with
 | []=>K []
 | .s n::r=>fls r fun r=>K (.s n::r)
 | .b n::r=>fls r fun r=>K (.b n::r)
 | .t n::r=>fls r fun r=>K (.t n::r)
theorem cm:∀ {l:List Loc} {K:List Loc→Prop},fls l K↔K l
 | [],_=>Iff.rfl
 | .s n::r,K=>by simp only [fls];exact cm (l:=r)
 | .b n::r,K=>by simp only [fls];exact cm (l:=r)
 | .t n::r,K=>by simp only [fls];exact cm (l:=r)
def bR (ks:List Loc):Log→Log
 | []=>[]
 | (k,c)::r=>match pn k ks with | true=>bR ks r | false=>(k,c)::bR ks r
def lc (call:aX):List GOp→List Nat→Nat→Nat→Log→List (Nat × List Loc × List Loc)→(Log→Prop)→Prop
 | [],_,_,_,σ,_,K=>K σ
 | _::_,[],_,_,_,_,_=>False
 | o :: r, p :: ps, j, id, σ, fs, K => guard σ o.g
     (fun σ=>eff call σ id o.o fun δ=>fls (bw o.g++o.o.rd σ) fun R=>fls (ar δ) fun W=>match bh p R W fs with
      | true=>False
      | false=>lc call r ps (j+1) (id+100) (δ++σ) ((j,R,W)::fs) K)
     (fun σ=>fls (bw o.g) fun R=>fls (ar (bp o.o.dst (.tup []))) fun W=>match bh p R W fs with
      | true=>False
      | false=>lc call r ps (j+1) (id+100) (bp o.o.dst (.tup [])++σ) ((j,R,W)::fs) K)
def nz (call:aX):List GOp→List Nat→Nat→Nat→Log→List (Nat × List Loc × List Loc)→(Log→Prop)→Prop
 | [],_,_,_,σ,_,K=>K σ
 | _::_,[],_,_,_,_,_=>False
 | o :: r, p :: ps, j, id, σ, fs, K => guard σ o.g
     (fun σ=>eff call σ id o.o fun δ=>∃ ks:List Loc,((∀ k,k∈ks→look (δ++σ) k=look σ k)∧bh p ((bw o.g++o.o.rd σ)++ks) (ar (bR ks δ)) fs=false) ∧
      nz call r ps (j+1) (id+100) (bR ks δ++σ) ((j,(bw o.g++o.o.rd σ)++ks,ar (bR ks δ))::fs) K)
     (fun σ=>bh p (bw o.g) (ar (bp o.o.dst (.tup []))) fs=false ∧
      nz call r ps (j+1) (id+100) (bp o.o.dst (.tup [])++σ) ((j,bw o.g,ar (bp o.o.dst (.tup [])))::fs) K)
def cE (n:Nat):AV→Bool
 | .sl _ _ (.t k)=>Nat.blt k n
 | .ptr b _=>Nat.blt b n
 | .mx _ _ b _ (.t k)=>match Nat.blt k n with | true=>Nat.blt b n | false=>false
 | .mx _ _ b _ _=>Nat.blt b n
 | .mr b=>Nat.blt b n
 | .fb _ b _=>Nat.blt b n
 | .cs _ b _ _ _ (.t k)=>match Nat.blt k n with | true=>Nat.blt b n | false=>false
 | .cs _ b _ _ _ _=>Nat.blt b n
 | .fn _ _=>false
 | .agg _=>false
 | .tup _=>false
 | .bad=>false
 | .mpv (.ie _)=>false
 | _=>true
def dg (n:Nat):List AV→Bool
 | []=>true
 | x::r=>match cE n x with | true=>dg n r | false=>false
def kA (n:Nat):AV→Bool
 | .fn _ c=>dg n c
 | .agg l=>dg n l
 | .tup l=>dg n l
 | .mm _ l=>dg n l
 | v=>cE n v
def gb (n:Nat):List AV→Bool
 | []=>true
 | x::r=>match kA n x with | true=>gb n r | false=>false
def oneL:List AV→Bool
 | []=>true
 | x::r=>match one x with | true=>oneL r | false=>false
def bY (n:Nat):Log→Bool
 | []=>true
 | (.s _,.av v)::r=>match kA n v with | true=>bY n r | false=>false
 | (.b b,.bx l)::r=>match Nat.blt b n,gb n l,oneL l with | true,true,true=>bY n r | _,_,_=>false
 | (.t k,.tk _)::r=>match Nat.blt k n with | true=>bY n r | false=>false
 | (.b _,.tk _)::r=>bY n r
 | _=>false
def fD:List (Nat × Nat)→Nat→Option Nat
 | [],_=>none
 | (k,x)::r,i=>match Nat.beq k i with | true=>some x | false=>fD r i
def tokR (ρ:List (Nat × Nat)):Tok→Tok→Prop
 | _,.none=>True
 | .full,.full=>True
 | .full, .t k => match Nat.blt k 1000 with
   | true=>False
   | false=>True
 | .t k', .t k => match Nat.blt k 1000 with
   | true=>k=k'
   | false=>fD ρ k=some k'
 | _,_=>False
def o5 (ρ:List (Nat × Nat)):AV→AV→Prop
 | .sl z e t,.sl z' e' t'=>z=z'∧e=e'∧tokR ρ t t'
 | .mx z e b n t,.mx z' e' b' n' t'=>z=z'∧e=e'∧b=b'∧n=n'∧tokR ρ t t'
 | .cs z b o n c t,.cs z' b' o' n' c' t'=>z=z'∧b=b'∧o=o'∧n=n'∧c=c'∧tokR ρ t t'
 | _,.bad=>True
 | x,y=>x=y
def wkRL1 (ρ:List (Nat × Nat)):List AV→List AV→Prop
 | [],[]=>True
 | x::xs,y::ys=>o5 ρ x y∧wkRL1 ρ xs ys
 | _,_=>False
def wkR2 (ρ:List (Nat × Nat)):AV→AV→Prop
 | .fn f c,.fn f' c'=>f=f'∧wkRL1 ρ c c'
 | .agg l,.agg l'=>wkRL1 ρ l l'
 | .tup l,.tup l'=>wkRL1 ρ l l'
 | x,y=>o5 ρ x y
def n8 (ρ:List (Nat × Nat)):List AV→List AV→Prop
 | [],[]=>True
 | x::xs,y::ys=>wkR2 ρ x y∧n8 ρ xs ys
 | _,_=>False
def leP (ρ:List (Nat × Nat)) (σ:Log):Log→Prop
 | []=>True
 | (.s n,.av v)::r=>(match look σ (.s n) with | some (.av u)=>wkR2 ρ u v | _=>False)∧leP ρ σ r
 | (.b b,.bx l)::r=>(match look σ (.b b) with | some (.bx m)=>n8 ρ m l | _=>False)∧leP ρ σ r
 | (.t k,.tk true)::r=>(match Nat.blt k 1000 with
  | true=>(match look σ (.t k) with | some (.tk true)=>True | _=>False)
  | false => (match fD ρ k with
    | none=>True
    | some k'=>(match look σ (.t k') with | some (.tk true)=>True | _=>False)))∧leP ρ σ r
 | (.t _,.tk false)::r=>leP ρ σ r
 | (.b _,.tk _)::r=>leP ρ σ r
 | _=>False
def cQ:Log→List Nat
 | []=>[]
 | (.t k,.tk true)::r=>match Nat.blt k 1000 with | true=>k::cQ r | false=>cQ r
 | _::r=>cQ r
def Le (σ:Log) (n:Nat) (σ':Log):Prop:=∃ ρ:List (Nat × Nat),
 (bE (ρ.map (·.2))=true∧(cQ σ').all (fun k=>!(ρ.map (·.2)).contains k)=true∧Nat.ble 1000 n=true∧bY n σ'=true)∧leP ρ σ σ'
def nM (x:Opd) (v:Bool) (σ:Log):Log:=match x with
 | .t n=>(.s n,.av (.sc (.b v)))::σ
 | .c _=>σ
def iter (f:Nat→Log→(Ex→Nat→Log→Prop)→Prop) (Q:Ex→Nat→Log→Prop):Nat→Nat→Log→Prop
 | 0,_,_=>False
 | k + 1, n, σ => f n σ fun e n' σ' => match e with
   | .n=>iter f Q k n' σ'
   | .e i=>Q (.e i) n' σ'
   | .r=>Q .r n' σ'
inductive LoopP (f:Nat→Log→(Ex→Nat→Log→Prop)→Prop) (Q:Ex→Nat→Log→Prop) (nx:Nat) (σ:Log):Prop
 | runs (k:Nat) (h:iter f Q k nx σ)
 | inv (J : Nat → Nat → Log → Prop) (h0 : ∃ m n σ', Le σ n σ' ∧ J m n σ') (h : ∀ m n σ, J m n σ → f n σ fun e n' σ' => match e with
       | .n=>∃ m' n'' σ'',m'<m∧Le σ' n'' σ''∧J m' n'' σ''
       | .e i=>Q (.e i) n' σ'
       | .r=>Q .r n' σ')
inductive CutP (K:Nat→Log→Prop) (nx:Nat) (σ:Log):Prop
 | go (h:K nx σ)
 | cut (n:Nat) (σ':Log) (hle:Le σ n σ') (h:K n σ')
def thaw1 (b sz n:Nat) (ch:List (List Data)):AV→AV
 | .mx sz' els b' n' t => match Nat.beq b b', Nat.beq sz sz', Nat.beq n n' with
   | true,true,true=>.sl sz' (els++ch) t
   | _,_,_=>.bad
 | v=>v
def gh (b sz n:Nat) (ch:List (List Data)):Cell→Cell
 | .av (.mx sz' els b' n' t) => match Nat.beq b b' with
   | true=>.av (thaw1 b sz n ch (.mx sz' els b' n' t))
   | false=>.av (.mx sz' els b' n' t)
 | .bx l => .bx (l.map fun v => match v with
   | .mx sz' els b' n' t => (match Nat.beq b b', Nat.beq sz sz', Nat.beq n n' with
     | true,true,true=>.sl sz' (els++ch) t
     | _,_,_=>.mx sz' els b' n' t)
   | v=>v)
 | c=>c
def iL (b sz n:Nat) (ch:List (List Data)):Log→Log
 | []=>[]
 | (k,c)::r=>(k,gh b sz n ch c)::iL b sz n ch r
def tokF (t:Tok) (n c:Nat):Tok:=match Nat.beq n c with
 | true=>t
 | false=>.none
def awp (call:aX):AC→Nat→Log→(Ex→Nat→Log→Prop)→Prop
 | .reg ops,nx,σ,Q=>p8 call ops nx σ fun σ=>Q .n (nx+100 * ops.length) σ
 | .frz x, nx, σ, Q => match ev σ (.t x) with
   | .mx sz _ b n _ => (match look σ (.b b) with
     | some (.bx l)=>∃ ch:List (List Data),(bB l=some ch.flatten∧ch.length=n∧∀ e,e∈ch→e.length=sz)∧Q .n nx ((.b b,.tk false)::iL b sz n ch σ)
     | _=>False)
   | .sl _ _ _=>Q .n nx σ
   | .cs sz b o n c t => (match look σ (.b b) with
     | some (.bx l)=>∃ (ds:List Data) (ch:List (List Data)),(bB l=some ds∧sub ds o (n * sz)=some ch.flatten∧ch.length=n∧∀ e,e∈ch→e.length=sz)∧Q .n nx ((.s x,.av (.sl sz ch (tokF t n c)))::(.b b,.tk false)::σ)
     | _=>False)
   | _=>False
 | .regD ops pre,nx,σ,Q=>lc call ops pre 0 nx σ [] fun σ=>Q .n (nx+100 * ops.length) σ
 | .regE ops pre,nx,σ,Q=>nz call ops pre 0 nx σ [] fun σ=>Q .n (nx+100 * ops.length) σ
 | .seq x y, nx, σ, Q => awp call x nx σ fun e nx σ => match e with
   | .n=>awp call y nx σ Q
   | .e i=>Q (.e i) nx σ
   | .r=>Q .r nx σ
 | .cond x t e, nx, σ, Q => match ev σ x with
   | .sc (.b v)=>@Bool.rec (fun _=>Prop) (awp call e nx (nM x false σ) Q) (awp call t nx (nM x true σ) Q) v
   | _=>False
 | .block n c, nx, σ, Q => awp call c nx σ fun e nx σ => match e with
   | .n=>Q .n nx σ
   | .e i=>(match Nat.beq i n with | true=>Q .n nx σ | false=>Q (.e i) nx σ)
   | .r=>Q .r nx σ
 | .loop c,nx,σ,Q=>LoopP (fun n σ Q=>awp call c n σ Q) Q nx σ
 | .cut,nx,σ,Q=>CutP (fun n σ=>Q .n n σ) nx σ
 | .exit n,nx,σ,Q=>Q (.e n) nx σ
 | .ret,nx,σ,Q=>Q .r nx σ
 | .skip,nx,σ,Q=>Q .n nx σ
 | .stuck,_,_,_=>False
def iG:Nat→List AV→Log
 | _,[]=>[]
 | n,v::r=>(.s n,.av v)::iG (n+1) r
def iH:Nat→List (List AV)→Log
 | _,[]=>[]
 | n,h::H=>(.b n,.bx h)::iH (n+1) H
def iF:List Nat→Log
 | []=>[]
 | k::r=>(.t k,.tk true)::iF r
def aA (args:List AV) (H:List (List AV)):Log:=
 iG 0 args++iH 0 H++iF (args.flatMap toks++H.flatMap fun h=>h.flatMap bt)
def wk3:AV→AV→Prop
 | .tup l,.tup l'=>gt l l'
 | x,y=>wk2 x y
def upN:Nat→List Nat
 | 0=>[]
 | n+1=>upN n++[n]
structure FinOK (σ:Log) (v:AV) (nb nt:Nat) (res:AV) (H':List (List AV)):Prop where
 ex:∃ bn tn:List Nat,
  (bE (upN nb++bn)=true∧bE (upN nt++tn)=true∧inR (upN nb++bn).length (upN nt++tn).length res=true∧inH (upN nb++bn).length (upN nt++tn).length H'=true) ∧
  wk3 v (ren (upN nb++bn) (upN nt++tn) 0 res)∧iJ σ (upN nb++bn) (upN nt++tn) 0 (upN nb++bn) H' ∧
  dA σ ((toks res++H'.flatMap fun h=>h.flatMap bt).map (rb (upN nt++tn) 0))
def nT (σ:Log):List (Nat × Nat)→(List AV→Prop)→Prop
 | [],K=>K []
 | (r,0)::t,K=>nT σ t fun l=>K (ev σ (.t r)::l)
 | (r, n + 1) :: t, K => match ev σ (.t r) with
   | .ptr b 0 => (match look σ (.b b) with
     | some (.bx l) => (match isM l with
       | true=>False
       | false => (match Nat.beq l.length (n + 1) with
         | true=>nT σ t fun r=>K (.agg l::r)
         | false=>False))
     | _=>False)
   | _=>False
def resP (σ:Log) (rs:List (Nat × Nat)) (K:AV→Prop):Prop:=nT σ rs fun l=>match l with
 | [v]=>K v
 | l=>K (.tup l)
def aD (call:aX) (c:AC) (rs:List (Nat × Nat)) (args:List AV) (H:List (List AV)) (res:AV) (H':List (List AV)):Prop:=
 awp call c 1000 (aA args H) fun e _ σ=>match e with
  | .e _=>False
  | _=>resP σ rs fun v=>FinOK σ v H.length (dK args H) res H'
namespace K
def m (d x:Nat):GOp:=⟨none,.mv d (.t x)⟩
def n (o:AOp):GOp:=⟨none,o⟩
def g (c:Nat) (o:AOp):GOp:=⟨some (c,false),o⟩
def gm (c d x:Nat):GOp:=⟨some (c,false),.mv d (.t x)⟩
def w (c:Nat) (o:AOp):GOp:=⟨some (c,true),o⟩
def wm (c d x:Nat):GOp:=⟨some (c,true),.mv d (.t x)⟩
def ld (d x:Nat):AOp:=.ld d 1 false (.t x)
def fa (d x o:Nat):AOp:=.fa d (.t x) o
def ext (d x i:Nat):AOp:=.ext d (.t x) i
def ix (d s x i:Nat):AOp:=.ia d s (.t x) (.t i)
def b2 (d:Nat) (o:Bin) (x y:Nat):AOp:=.bin d o (.t x) (.t y)
def bs (d:Nat) (o:Bin) (x:Nat) (s:List UInt8):AOp:=.bin d o (.t x) (.c (.sc (.s s)))
def bi (d:Nat) (o:Bin) (x:Nat) (i:Int):AOp:=.bin d o (.t x) (.c (.sc (.i .i64 i)))
def cf (d f:Nat) (l:List Opd):AOp:=.call (some d) (.c (.fn f [])) l
def mb (d:Nat) (b:Bool):AOp:=.mv d (.c (.sc (.b b)))
def mi (d:Nat) (i:Int):AOp:=.mv d (.c (.sc (.i .i64 i)))
def pt (d c x:Nat):AOp:=.pick d (.t c) (.c (.sc (.b true))) (.t x)
def pf (d c x:Nat):AOp:=.pick d (.t c) (.t x) (.c (.sc (.b false)))
end K
end Go.Abs
namespace Go.Abs
open Go
def Sc.val:Sc→Value
 | .b x=>.bool x | .i k n=>.int k n | .s l=>.string ⟨l.toArray⟩ | .np=>.pointer none | .nf=>.nilFunc | .ni=>.nilIface | .nm=>.map none
structure Gh where
 I:Nat→Nat→Prop
 Db:Nat→Prop
 Dt:Nat→Prop
 ι:Nat→Nat × Nat
 τ:Nat→Nat × Nat × Nat
inductive RepD (I:Nat→Nat→Prop) (w:World):Data→Value→Prop
 | sc (c:Sc):RepD I w (.sc c) c.val
 | nil (sz:Nat) (a:Option Addr):RepD I w (.lst sz []) (.slice a 0 0)
 | lst (sz:Nat) (els:List (List Data)) (b o cap:Nat) (C:Nat→Nat→Value) (hn:els.length≤cap)
  (hlen:∀ e,e∈els→e.length=sz)
  (hI:∀ i j,i<els.length→j<sz→I b (o+i * sz+j))
  (hc:∀ i j,i<els.length→j<sz→w.cell? ⟨b,o+i * sz+j,none⟩=some (C i j))
  (hr:∀ (i j:Nat) (e:List Data) (d:Data),els[i]? = some e→e[j]? = some d→RepD I w d (C i j)) :
  RepD I w (.lst sz els) (.slice (some ⟨b,o,none⟩) els.length cap)
def tokOK (κ:Gh) (sz:Nat) (t:Tok) (x:Value):Prop:=match t with
 | .none=>True
 | .full=>∀ a n cap,x=.slice (some a) n cap→n=cap
 | .t k=>κ.Dt k∧∀ a n cap,x=.slice (some a) n cap→n<cap→κ.τ k=(a.block,a.off+n * sz,a.off+cap * sz)
inductive RepV (κ:Gh) (w:World):AV→Value→Prop
 | sc (c:Sc):RepV κ w (.sc c) c.val
 | sl (sz:Nat) (els:List (List Data)) (t:Tok) (x:Value) (h:RepD κ.I w (.lst sz els) x) (ht:tokOK κ sz t x):RepV κ w (.sl sz els t) x
 | ptr (b o:Nat) (h:κ.Db b):RepV κ w (.ptr b o) (.pointer (some ⟨(κ.ι b).1,(κ.ι b).2+o,none⟩))
 | elp (cells:List Data) (o b q:Nat) (h:∀ (j:Nat) (d:Data),cells[j]? = some d→∃ c,κ.I b (q+j)∧w.cell? ⟨b,q+j,none⟩=some c∧RepD κ.I w d c) :
  RepV κ w (.elp cells o) (.pointer (some ⟨b,q+o,none⟩))
 | mx (sz:Nat) (els:List (List Data)) (b n:Nat) (t:Tok) (off cap:Nat) (hd:κ.Db b) (ho:(κ.ι b).2=off+els.length * sz) (hn:els.length+n≤cap)
  (h:RepD κ.I w (.lst sz els) (.slice (some ⟨(κ.ι b).1,off,none⟩) els.length cap)) (ht:tokOK κ sz t (.slice (some ⟨(κ.ι b).1,off,none⟩) (els.length+n) cap)) :
  RepV κ w (.mx sz els b n t) (.slice (some ⟨(κ.ι b).1,off,none⟩) (els.length+n) cap)
 | fn (f:FuncId) (caps:List AV) (vs:Array Value) (hs:vs.size=caps.length) (h:∀ (j:Nat) (v:AV),caps[j]? = some v→RepV κ w v (vs.getD j undef)) :
  RepV κ w (.fn f caps) (.func (.func f) #[] vs)
 | agg (l:List AV) (vs:Array Value) (hs:vs.size=l.length) (h1:∀ v,v∈l→one v=true) (h:∀ (j:Nat) (v:AV),l[j]? = some v→RepV κ w v (vs.getD j undef)) :
  RepV κ w (.agg l) (.agg vs)
 | tup (l:List AV) (vs:Array Value) (hs:vs.size=l.length) (h:∀ (j:Nat) (v:AV),l[j]? = some v→RepV κ w v (vs.getD j undef)) :
  RepV κ w (.tup l) (.tuple vs)
 | mr (b:Nat) (h:κ.Db b):RepV κ w (.mr b) (.map (some (κ.ι b).1))
 | fb (f:FuncId) (b o:Nat) (h:κ.Db b):RepV κ w (.fb f b o) (.func (.func f) #[.pointer (some ⟨(κ.ι b).1,(κ.ι b).2+o,none⟩)] #[])
 | cs (sz b o n c:Nat) (t:Tok) (cap:Nat) (hd:κ.Db b) (hn:n≤c) (hc:c≤cap) (ht:tokOK κ sz t (.slice (some ⟨(κ.ι b).1,(κ.ι b).2+o,none⟩) c cap)) :
  RepV κ w (.cs sz b o n c t) (.slice (some ⟨(κ.ι b).1,(κ.ι b).2+o,none⟩) n cap)
 | bad (x:Value):RepV κ w .bad x
def RepC (κ:Gh) (w:World) (l:List AV) (C:Array Value) (o:Nat):Prop:=
 o+l.length≤C.size∧(∀ v,v∈l→one v=true)∧∀ (j:Nat) (v:AV),l[j]? = some v→RepV κ w v (C.getD (o+j) undef)
def RepL (κ:Gh) (w:World) (l:List AV) (vs:Array Value):Prop:=
 vs.size=l.length∧(∀ v,v∈l→one v=true)∧∀ (j:Nat) (v:AV),l[j]? = some v→RepV κ w v (vs.getD j undef)
def RepM (I:Nat→Nat→Prop) (w:World):List (Int × List Data)→List MapEntry→Prop
 | [],[]=>True
 | (n,ds)::r,e::s=>(e.key=.int .i64 n∧∃ cs,e.val=.agg cs∧cs.size=ds.length∧∀ (j:Nat) (d:Data),ds[j]? = some d→RepD I w d (cs.getD j undef))∧RepM I w r s
 | _,_=>False
def RepMP (I:Nat→Nat→Prop) (w:World):MP→Obj→Prop
 | .m es,.map E _=>RepM I w es E.toList
 | .it s p,.stringIter s' p'=>s'=⟨s.toArray⟩∧p'=p
 | _,_=>False
def noRow:Obj→Prop
 | .cells _ _ _=>False
 | _=>True
theorem RepMP.noRow {I:Nat→Nat→Prop} {w:World} {es:MP} {ob:Obj} (h:RepMP I w es ob):noRow ob:=by
 cases es<;>cases ob<;>first | trivial | exact h
def RepMM (κ:Gh) (w:World):List Sc→List AV→List MapEntry→Prop
 | [],[],[]=>True
 | k::ks,v::vs,e::s=>(e.key=k.val∧mval v=some v∧RepV κ w v e.val)∧RepMM κ w ks vs s
 | _,_,_=>False
def RepMX (κ:Gh) (w:World):AV→Obj→Prop
 | .mpv (.ie b),ob=>κ.Db b∧∃ s l,ob=.mapIter (some (κ.ι b).1) s #[] l
 | .mpv es,ob=>RepMP κ.I w es ob
 | .mm ks vs,.map E _=>RepMM κ w ks vs E.toList
 | _,_=>False
theorem RepMX.noRow {κ:Gh} {w:World} {m:AV} {ob:Obj} (h:RepMX κ w m ob):Abs.noRow ob:=by
 cases m<;>first | exact h.elim | skip
 ·rename_i es
  cases es<;>first | exact RepMP.noRow h | skip
  obtain ⟨_,s,l,rfl⟩:=h
  trivial
 cases ob<;>first | trivial | exact h.elim
def isMA:AV→Bool
 | .mpv _=>true
 | .mm _ _=>true
 | _=>false
theorem RepMX.isA {κ:Gh} {w:World} {m:AV} {ob:Obj} (h:RepMX κ w m ob):isMA m=true:=by
 cases m<;>first | rfl | exact h.elim
theorem lB {m:AV}:isM [m]=isMA m:=by cases m<;>rfl
def BoxR (κ:Gh) (w:World) (p:Nat × Nat) (l:List AV):Prop:=
 (isM l=false∧∃ C ty,w.heap[p.1]? = some (.cells C ty (0,0))∧RepC κ w l C p.2) ∨
 (∃ m ob,l=[m]∧p.2=0∧w.heap[p.1]? = some ob∧RepMX κ w m ob)
def aZ (s:Nat × Nat × Nat) (b o:Nat):Prop:=s.1=b∧s.2.1≤o∧o<s.2.2
def spb (κ:Gh) (id:Nat) (l:List AV):Nat × Nat × Nat:=((κ.ι id).1,(κ.ι id).2,(κ.ι id).2+l.length)
def Own (κ:Gh) (σ:Log) (b o:Nat):Prop:=
 (∃ id l,look σ (.b id)=some (.bx l)∧aZ (spb κ id l) b o)∨(∃ k,look σ (.t k)=some (.tk true)∧aZ (κ.τ k) b o)
structure RepS (W0:World) (κ:Gh) (σ:Log) (a:Act) (w:World):Prop where
 slots:∀ n v,look σ (.s n)=some (.av v)→RepV κ w v (a.tmps.getD n undef)
 boxes:∀ b l,look σ (.b b)=some (.bx l)→κ.Db b∧W0.heap.size≤(κ.ι b).1∧BoxR κ w (κ.ι b) l
 binj:∀ b b' l l',look σ (.b b)=some (.bx l)→look σ (.b b')=some (.bx l')→b≠b'→∀ x o,aZ (spb κ b l) x o→¬ aZ (spb κ b' l') x o
 toks:∀ k,look σ (.t k)=some (.tk true)→κ.Dt k∧((κ.τ k).2.1<(κ.τ k).2.2→W0.heap.size≤(κ.τ k).1∧∃ C ty,w.heap[(κ.τ k).1]? = some (.cells C ty (0,0))∧(κ.τ k).2.2≤C.size)
 tdis:∀ k k',look σ (.t k)=some (.tk true)→look σ (.t k')=some (.tk true)→k≠k'→∀ b o,aZ (κ.τ k) b o→¬ aZ (κ.τ k') b o
 tbox:∀ k id l,look σ (.t k)=some (.tk true)→look σ (.b id)=some (.bx l)→∀ x o,aZ (κ.τ k) x o→¬ aZ (spb κ id l) x o
 sepI:∀ b o,Own κ σ b o→¬ κ.I b o
 Icell:∀ b o,κ.I b o→b<w.heap.size
 old:∀ b o,b<W0.heap.size→κ.I b o
 size0:W0.heap.size≤w.heap.size
 amb:∀ b,b<W0.heap.size→w.heap[b]? = W0.heap[b]?
 defers:a.defers=[]
 os:w.os=W0.os
 tape:w.tape=W0.tape
 output:w.output=W0.output
structure Chg (O:Nat→Nat→Prop) (w w':World):Prop where
 os:w'.os=w.os
 tape:w'.tape=w.tape
 output:w'.output=w.output
 size:w.heap.size≤w'.heap.size
 same:∀ b,b<w.heap.size→(∀ o,¬ O b o)→w'.heap[b]? = w.heap[b]?
 cells:∀ (b:Nat) (C:Array Value) (ty:TypeId) (fz:Nat × Nat),w.heap[b]? = some (.cells C ty fz) →
  ∃ C',w'.heap[b]? = some (.cells C' ty fz)∧C'.size=C.size∧∀ o:Nat,¬ O b o→C'[o]? = C[o]?
 maps:∀ (b:Nat) (ob:Obj),w.heap[b]? = some ob→noRow ob→∃ ob',w'.heap[b]? = some ob'∧noRow ob'
theorem Chg.refl (O:Nat→Nat→Prop) (w:World):Chg O w w:=
 ⟨rfl,rfl,rfl,Nat.le_refl _,fun _ _ _=>rfl,fun _ C _ _ h=>⟨C,h,rfl,fun _ _=>rfl⟩,fun _ ob h hn=>⟨ob,h,hn⟩⟩
structure Step (κ:Gh) (σ:Log) (w:World) (κ':Gh) (σ':Log) (w':World):Prop where
 chg:Chg (Own κ σ) w w'
 own:∀ b o,Own κ' σ' b o→Own κ σ b o∨w.heap.size≤b
 I_:∀ b o,κ.I b o→κ'.I b o
 In:∀ b o,κ'.I b o→κ.I b o∨Own κ σ b o∨w.heap.size≤b
 low:∀ b,b<1000→κ.Db b→κ'.Db b∧κ'.ι b=κ.ι b
 lowt:∀ k,k<1000→κ.Dt k→κ'.Dt k∧κ'.τ k=κ.τ k
theorem Step.refl (κ:Gh) (σ:Log) (w:World):Step κ σ w κ σ w:=
 ⟨.refl _ _,fun _ _ h=>.inl h,fun _ _ h=>h,fun _ _ h=>.inl h,fun _ _ h=>⟨h,rfl⟩,fun _ _ h=>⟨h,rfl⟩⟩
theorem aC {w:World} {b:Nat} {x:Obj} (h:w.heap[b]? = some x):b<w.heap.size:=by
 by_cases hb:b<w.heap.size
 ·exact hb
 ·simp [Array.getElem?_eq_none (Nat.le_of_not_lt hb)] at h
theorem Step.trans {κ κ' κ'':Gh} {σ σ' σ'':Log} {w w' w'':World} (h:Step κ σ w κ' σ' w') (g:Step κ' σ' w' κ'' σ'' w''):Step κ σ w κ'' σ'' w'':=by
 refine ⟨⟨g.chg.os.trans h.chg.os,g.chg.tape.trans h.chg.tape,g.chg.output.trans h.chg.output,Nat.le_trans h.chg.size g.chg.size,?_,?_,?_⟩,?_,?_,?_,?_,?_⟩
 ·intro b hb ho
  rw [g.chg.same b (Nat.lt_of_lt_of_le hb h.chg.size) (fun o hh=>(h.own b o hh).elim (ho o) (fun x=>absurd hb (Nat.not_lt.2 x)))]
  exact h.chg.same b hb ho
 ·intro b C ty fz hC
  obtain ⟨C',h1,h2,h3⟩:=h.chg.cells b C ty fz hC
  obtain ⟨C'',g1,g2,g3⟩:=g.chg.cells b C' ty fz h1
  have hb:=aC hC
  refine ⟨C'',g1,g2.trans h2,fun o ho=>?_⟩
  rw [g3 o (fun hh=>(h.own b o hh).elim ho (fun x=>absurd hb (Nat.not_lt.2 x))),h3 o ho]
 ·intro b ob hE hn
  obtain ⟨ob',h1,h2⟩:=h.chg.maps b ob hE hn
  exact g.chg.maps b ob' h1 h2
 ·intro b o ho
  rcases g.own b o ho with h1 | h1
  ·exact h.own b o h1
  ·exact .inr (Nat.le_trans h.chg.size h1)
 ·intro b o hh;exact g.I_ b o (h.I_ b o hh)
 ·intro b o hh
  rcases g.In b o hh with h1 | h1 | h1
  ·exact h.In b o h1
  ·rcases h.own b o h1 with h2 | h2
   ·exact .inr (.inl h2)
   ·exact .inr (.inr h2)
  ·exact .inr (.inr (Nat.le_trans h.chg.size h1))
 ·intro b hb hd
  obtain ⟨h1,h2⟩:=h.low b hb hd
  obtain ⟨g1,g2⟩:=g.low b hb h1
  exact ⟨g1,g2.trans h2⟩
 ·intro b hb hd
  obtain ⟨h1,h2⟩:=h.lowt b hb hd
  obtain ⟨g1,g2⟩:=g.lowt b hb h1
  exact ⟨g1,g2.trans h2⟩
structure Ext (κ:Gh) (w:World) (κ':Gh) (w':World):Prop where
 I_:∀ b o,κ.I b o→κ'.I b o
 cell:∀ b o,κ.I b o→w'.cell? ⟨b,o,none⟩=w.cell? ⟨b,o,none⟩
 db:∀ b,κ.Db b→κ'.Db b∧κ'.ι b=κ.ι b
 dt:∀ k,κ.Dt k→κ'.Dt k∧κ'.τ k=κ.τ k
theorem Ext.refl (κ:Gh) (w:World):Ext κ w κ w:=⟨fun _ _ h=>h,fun _ _ _=>rfl,fun _ h=>⟨h,rfl⟩,fun _ h=>⟨h,rfl⟩⟩
theorem RepD.mono {I I':Nat→Nat→Prop} {w w':World} (hI:∀ b o,I b o→I' b o) (hc:∀ b o,I b o→w'.cell? ⟨b,o,none⟩=w.cell? ⟨b,o,none⟩)
  {d:Data} {x:Value} (h:RepD I w d x):RepD I' w' d x:=by
 induction h with
 | sc c=>exact .sc c
 | nil sz a=>exact .nil sz a
 | lst sz els b o cap C hn hlen hI' hcell hr ih =>
   exact .lst sz els b o cap C hn hlen (fun i j a b=>hI _ _ (hI' i j a b)) (fun i j a b=>(hc _ _ (hI' i j a b)).trans (hcell i j a b)) ih
theorem tokOK.mono {κ κ':Gh} (hd:∀ k,κ.Dt k→κ'.Dt k∧κ'.τ k=κ.τ k) {sz:Nat} {t:Tok} {x:Value} (h:tokOK κ sz t x):tokOK κ' sz t x:=by
 cases t with
 | none=>trivial
 | full=>exact h
 | t k =>
   obtain ⟨h1,h2⟩:=hd k h.1
   exact ⟨h1,fun a n cap e l=>h2.trans (h.2 a n cap e l)⟩
theorem RepV.mono {κ κ':Gh} {w w':World} (e:Ext κ w κ' w') {v:AV} {x:Value} (h:RepV κ w v x):RepV κ' w' v x:=by
 induction h with
 | sc c=>exact .sc c
 | sl sz els t x h ht=>exact .sl sz els t x (h.mono e.I_ e.cell) (ht.mono e.dt)
 | ptr b o h=>rw [← (e.db b h).2];exact .ptr b o (e.db b h).1
 | mx sz els b n t off cap hd ho hn h ht =>
   have e2:=(e.db b hd).2
   rw [← e2] at ho h ht ⊢
   exact .mx sz els b n t off cap (e.db b hd).1 ho hn (h.mono e.I_ e.cell) (ht.mono e.dt)
 | elp cells o b q h =>
   refine .elp cells o b q fun j d hj=>?_
   obtain ⟨c,h1,h2,h3⟩:=h j d hj
   exact ⟨c,e.I_ _ _ h1,(e.cell _ _ h1).trans h2,h3.mono e.I_ e.cell⟩
 | fn f caps vs hs _ ih=>exact .fn f caps vs hs ih
 | agg l vs hs h1 _ ih=>exact .agg l vs hs h1 ih
 | tup l vs hs _ ih=>exact .tup l vs hs ih
 | mr b h=>rw [← (e.db b h).2];exact .mr b (e.db b h).1
 | fb f b o h=>rw [← (e.db b h).2];exact .fb f b o (e.db b h).1
 | cs sz b o n c t cap hd hn hc ht =>
   have e2:=(e.db b hd).2
   rw [← e2] at ht ⊢
   exact .cs sz b o n c t cap (e.db b hd).1 hn hc (ht.mono e.dt)
 | bad x=>exact .bad x
theorem RepL.mono {κ κ':Gh} {w w':World} (e:Ext κ w κ' w') {l:List AV} {vs:Array Value} (h:RepL κ w l vs):RepL κ' w' l vs:=
 ⟨h.1,h.2.1,fun j v hj=>(h.2.2 j v hj).mono e⟩
theorem RepC.mono {κ κ':Gh} {w w':World} (e:Ext κ w κ' w') {l:List AV} {vs:Array Value} {o:Nat} (h:RepC κ w l vs o):RepC κ' w' l vs o:=
 ⟨h.1,h.2.1,fun j v hj=>(h.2.2 j v hj).mono e⟩
theorem RepM.mono {I I':Nat→Nat→Prop} {w w':World} (hI:∀ b o,I b o→I' b o) (hc:∀ b o,I b o→w'.cell? ⟨b,o,none⟩=w.cell? ⟨b,o,none⟩) :
  ∀ {es:List (Int × List Data)} {E:List MapEntry},RepM I w es E→RepM I' w' es E
 | [],[],_=>trivial
 | (n,ds)::r,e::s,⟨⟨h1,cs,h2,h3,h4⟩,h5⟩=>⟨⟨h1,cs,h2,h3,fun j d hj=>(h4 j d hj).mono hI hc⟩,RepM.mono hI hc h5⟩
theorem RepM.ext {κ κ':Gh} {w w':World} (e:Ext κ w κ' w') {es:List (Int × List Data)} {E:List MapEntry} (h:RepM κ.I w es E):RepM κ'.I w' es E:=h.mono e.I_ e.cell
theorem RepMP.mono {I I':Nat→Nat→Prop} {w w':World} (hI:∀ b o,I b o→I' b o) (hc:∀ b o,I b o→w'.cell? ⟨b,o,none⟩=w.cell? ⟨b,o,none⟩) {es:MP} {ob:Obj} (h:RepMP I w es ob):RepMP I' w' es ob:=by
 cases es<;>cases ob<;>first | exact h.elim | exact h | exact RepM.mono hI hc h
theorem RepMM.ext {κ κ':Gh} {w w':World} (e:Ext κ w κ' w'):∀ {ks:List Sc} {vs:List AV} {E:List MapEntry},RepMM κ w ks vs E→RepMM κ' w' ks vs E
 | [],[],[],_=>trivial
 | k::ks,v::vs,x::s,⟨⟨h1,h2,h3⟩,h4⟩=>⟨⟨h1,h2,h3.mono e⟩,RepMM.ext e h4⟩
 | [],[],_::_,h=>h.elim
 | [],_::_,_,h=>h.elim
 | _::_,[],_,h=>h.elim
 | _::_,_::_,[],h=>h.elim
theorem RepMX.ext {κ κ':Gh} {w w':World} (e:Ext κ w κ' w') {m:AV} {ob:Obj} (h:RepMX κ w m ob):RepMX κ' w' m ob:=by
 cases m<;>first | exact h.elim | skip
 ·rename_i es
  cases es with
  | m es=>exact RepMP.mono e.I_ e.cell (es:=.m es) h
  | it s p=>exact RepMP.mono e.I_ e.cell (es:=.it s p) h
  | ie b =>
    obtain ⟨h1,h2⟩:=h
    obtain ⟨g1,g2⟩:=e.db b h1
    exact ⟨g1,by rw [g2];exact h2⟩
 cases ob<;>first | exact h.elim | exact RepMM.ext e h
theorem fV {l:List AV}:isM l=true↔∃ m,l=[m]∧isMA m=true:=by
 constructor
 ·intro h
  match l,h with
  | [.mpv es],_=>exact ⟨_,rfl,rfl⟩
  | [.mm ks vs],_=>exact ⟨_,rfl,rfl⟩
 ·rintro ⟨m,rfl,h⟩;rw [lB];exact h
theorem BoxR.mono {κ κ':Gh} {w w':World} (e:Ext κ w κ' w') {p:Nat × Nat} {l:List AV} (hh:w'.heap[p.1]? = w.heap[p.1]?) (h:BoxR κ w p l):BoxR κ' w' p l:=by
 rcases h with ⟨h0,C,ty,h1,h2⟩ | ⟨es,ob,h1,h2,h3,h4⟩
 ·exact .inl ⟨h0,C,ty,hh.trans h1,h2.mono e⟩
 ·exact .inr ⟨es,ob,h1,h2,hh.trans h3,h4.ext e⟩
theorem kW {l:List AV} {c:List Data} (h:bB l=some c):isM l=false:=by
 cases hm:isM l with
 | false=>rfl
 | true =>
   obtain ⟨m,rfl,hA⟩:=fV.1 hm
   cases m<;>first | (cases hA;done) | (cases h;done)
theorem RepC.notM {κ:Gh} {w:World} {l:List AV} {C:Array Value} {o:Nat} (h:RepC κ w l C o):isM l=false:=by
 cases hm:isM l with
 | false=>rfl
 | true =>
   obtain ⟨m,rfl,hA⟩:=fV.1 hm
   have:=h.2.2 0 _ rfl
   cases m<;>first | (cases hA;done) | (cases this;done)
theorem BoxR.of {κ:Gh} {w:World} {p:Nat × Nat} {l:List AV} {C:Array Value} {ty:TypeId} (h:w.heap[p.1]? = some (.cells C ty (0,0))) (hr:RepC κ w l C p.2):BoxR κ w p l:=.inl ⟨hr.notM,C,ty,h,hr⟩
theorem BoxR.row {κ:Gh} {w:World} {p:Nat × Nat} {l:List AV} (h:BoxR κ w p l) (hm:isM l=false):∃ C ty,w.heap[p.1]? = some (.cells C ty (0,0))∧RepC κ w l C p.2:=by
 rcases h with ⟨_,h⟩ | ⟨es,ob,h1,_,_,h4⟩
 ·exact h
 ·subst h1;rw [lB,h4.isA] at hm;cases hm
theorem BoxR.lt {κ:Gh} {w:World} {p:Nat × Nat} {l:List AV} (h:BoxR κ w p l):p.1<w.heap.size:=by
 rcases h with ⟨_,C,ty,h1,_⟩ | ⟨es,ob,_,_,h1,_⟩<;>exact aC h1
theorem RepL.repC {κ:Gh} {w:World} {l:List AV} {C:Array Value} (h:RepL κ w l C):RepC κ w l C 0:=
 ⟨by rw [Nat.zero_add];exact Nat.le_of_eq h.1.symm,h.2.1,fun j v hj=>by rw [Nat.zero_add];exact h.2.2 j v hj⟩
theorem dF {κ:Gh} {w:World} {l:List AV} {C:Array Value} {o:Nat}:RepC κ w l C o↔o+l.length≤C.size∧RepL κ w l (C.extract o (o+l.length)):=by
 have key:∀ j:Nat,o+l.length≤C.size→j<l.length→(C.extract o (o+l.length)).getD j undef=C.getD (o+j) undef:=by
  intro j h hj
  rw [Array.getD_eq_getD_getElem?,Array.getD_eq_getD_getElem?,Array.getElem?_extract,if_pos (by omega)]
 constructor
 ·rintro ⟨h1,h2,h3⟩
  refine ⟨h1,by rw [Array.size_extract];omega,h2,fun j v hj=>?_⟩
  rw [key j h1 (List.getElem?_eq_some_iff.1 hj).1]
  exact h3 j v hj
 ·rintro ⟨h1,_,h2,h3⟩
  refine ⟨h1,h2,fun j v hj=>?_⟩
  rw [← key j h1 (List.getElem?_eq_some_iff.1 hj).1]
  exact h3 j v hj
theorem au {w:World} {b o:Nat} {C:Array Value} {ty:TypeId} {fz:Nat × Nat} (h:w.heap[b]? = some (.cells C ty fz)):w.cell? ⟨b,o,none⟩=C[o]?:=by
 simp [World.cell?,h]
theorem dB {w:World} {b o:Nat} (h:∀ C ty fz,w.heap[b]?≠some (.cells C ty fz)):w.cell? ⟨b,o,none⟩=none:=by
 unfold World.cell?
 cases hb:w.heap[b]? with
 | none=>rfl
 | some x =>
   cases x<;>first | rfl | exact absurd hb (h _ _ _)
theorem RepS.ownCells {W0:World} {κ:Gh} {σ:Log} {a:Act} {w:World} (h:RepS W0 κ σ a w) {b o:Nat} (ho:Own κ σ b o):(∃ C ty,w.heap[b]? = some (.cells C ty (0,0)))∨(∃ ob,w.heap[b]? = some ob∧noRow ob):=by
 rcases ho with ⟨id,l,hl,hb,_⟩ | ⟨k,hk,hb,h1,h2⟩
 ·obtain ⟨_,_,hB⟩:=h.boxes id l hl
  have hb:(κ.ι id).1=b:=hb
  rcases hB with ⟨_,C,ty,hC,_⟩ | ⟨es,ob,_,_,hC,hR⟩
  ·exact .inl ⟨C,ty,hb ▸ hC⟩
  ·exact .inr ⟨ob,hb ▸ hC,hR.noRow⟩
 ·obtain ⟨_,hh⟩:=h.toks k hk
  obtain ⟨_,C,ty,hC,_⟩:=hh (Nat.lt_of_le_of_lt h1 h2)
  exact .inl ⟨C,ty,hb ▸ hC⟩
theorem RepS.ownLt {W0:World} {κ:Gh} {σ:Log} {a:Act} {w:World} (h:RepS W0 κ σ a w) {b o:Nat} (ho:Own κ σ b o):b<w.heap.size:=by
 rcases h.ownCells ho with ⟨C,ty,hh⟩ | ⟨ob,hh,_⟩<;>exact aC hh
theorem RepS.ownMap {W0:World} {κ:Gh} {σ:Log} {a:Act} {w:World} (h:RepS W0 κ σ a w) {b o:Nat} (ho:Own κ σ b o) {ob:Obj} (hE:w.heap[b]? = some ob) (hn:noRow ob):Own κ σ b 0:=by
 rcases ho with ⟨id,l,hl,hb,_⟩ | ⟨k,hk,hb,h1,h2⟩
 ·obtain ⟨_,_,hB⟩:=h.boxes id l hl
  have hb:(κ.ι id).1=b:=hb
  rcases hB with ⟨_,C,ty,hC,_⟩ | ⟨es,ob',h1,h2,hC,_⟩
  ·rw [hb,hE] at hC;cases hC;exact hn.elim
  ·subst h1
   exact .inl ⟨id,_,hl,hb,by simp only [spb,h2];omega,by simp only [spb,h2];simp⟩
 ·obtain ⟨_,hh⟩:=h.toks k hk
  obtain ⟨_,C,ty,hC,_⟩:=hh (Nat.lt_of_le_of_lt h1 h2)
  rw [hb,hE] at hC;cases hC;exact hn.elim
theorem RepS.ownNew {W0:World} {κ:Gh} {σ:Log} {a:Act} {w:World} (h:RepS W0 κ σ a w) {b o:Nat} (ho:Own κ σ b o):W0.heap.size≤b:=by
 rcases ho with ⟨id,l,hl,hb,_⟩ | ⟨k,hk,hb,h1,h2⟩
 ·exact hb ▸ (h.boxes id l hl).2.1
 ·exact hb ▸ ((h.toks k hk).2 (Nat.lt_of_le_of_lt h1 h2)).1
theorem Chg.cell {W0:World} {κ:Gh} {σ:Log} {a:Act} {w w':World} (hs:RepS W0 κ σ a w) (h:Chg (Own κ σ) w w') {b o:Nat} (hI:κ.I b o) :
  w'.cell? ⟨b,o,none⟩=w.cell? ⟨b,o,none⟩:=by
 have hb:=hs.Icell b o hI
 have hno:¬ Own κ σ b o:=fun hh=>hs.sepI b o hh hI
 by_cases hC:∃ C ty fz,w.heap[b]? = some (.cells C ty fz)
 ·obtain ⟨C,ty,fz,hC⟩:=hC
  obtain ⟨C',h1,h2,h3⟩:=h.cells b C ty fz hC
  rw [au h1,au hC,h3 o hno]
 ·have hn:∀ C ty fz,w.heap[b]?≠some (.cells C ty fz):=fun C ty fz e=>hC ⟨C,ty,fz,e⟩
  by_cases hE:∃ ob,w.heap[b]? = some ob∧noRow ob
  ·obtain ⟨ob,hE,hno'⟩:=hE
   obtain ⟨ob',hE',hn'⟩:=h.maps b ob hE hno'
   rw [dB hn,dB (fun C ty fz e=>by rw [hE'] at e;cases e;exact hn')]
  ·have:w'.heap[b]? = w.heap[b]?:=h.same b hb fun o' ho'=>by
    rcases hs.ownCells ho' with ⟨C,ty,e⟩ | ⟨ob,e,hno'⟩
    ·exact hn _ _ _ e
    ·exact hE ⟨ob,e,hno'⟩
   rw [dB hn,dB (fun C ty fz=>this ▸ hn C ty fz)]
theorem Step.ext {W0:World} {κ κ':Gh} {σ σ':Log} {a:Act} {w w':World} (hs:RepS W0 κ σ a w) (h:Step κ σ w κ' σ' w')
  (db:∀ b,κ.Db b→κ'.Db b∧κ'.ι b=κ.ι b) (dt:∀ k,κ.Dt k→κ'.Dt k∧κ'.τ k=κ.τ k):Ext κ w κ' w':=
 ⟨h.I_,fun _ _ hI=>h.chg.cell hs hI,db,dt⟩
theorem Chg.amb {W0:World} {κ:Gh} {σ:Log} {a:Act} {w w':World} (hs:RepS W0 κ σ a w) (h:Chg (Own κ σ) w w'):∀ b,b<W0.heap.size→w'.heap[b]? = W0.heap[b]?:=
 fun b hb=>(h.same b (Nat.lt_of_lt_of_le hb hs.size0) fun _ ho=>absurd hb (Nat.not_lt.2 (hs.ownNew ho))).trans (hs.amb b hb)
def aV (res:AV) (H:List (List AV)):Log:=aA [res] H
def cg (P:Program) (f:FuncId):Bool:=match P.funcs[f]? with
 | some fn=>!(fn.name == "runtime.NumGoroutine")&&fn.body.isSome
 | none=>false
def Ctr (P:Program) (W0:World) (f:FuncId) (args:List AV) (H:List (List AV)) (res:AV) (H':List (List AV)):Prop:=
 cg P f=true∧∀ (κ:Gh) (w:World) (vals:Array Value),vals.size=args.length→(∀ b,κ.Db b→b<H.length)→(∀ k,κ.Dt k→k<dK args H)→RepS W0 κ (aA args H) ⟨vals,[]⟩ w →
  Calls P f vals w fun e w'=>∃ v κ',e=.returned v∧RepS W0 κ' (aV res H') ⟨#[v],[]⟩ w'∧Step κ (aA args H) w κ' (aV res H') w'
end Go.Abs
namespace Go.Abs
open Go
theorem Loc.beq_iff {a b:Loc}:Loc.beq a b=true↔a=b:=by
 cases a<;>cases b<;>simp [Loc.beq,Nat.beq_eq]
instance:DecidableEq Loc:=fun a b=>match h:Loc.beq a b with
 | true=>isTrue (Loc.beq_iff.1 h)
 | false=>isFalse fun e=>by rw [Loc.beq_iff.2 e] at h;cases h
theorem Loc.beq_self (a:Loc):Loc.beq a a=true:=Loc.beq_iff.2 rfl
theorem af (k:Loc) (c:Cell) (σ:Log) (l:Loc):look ((k,c)::σ) l=if k=l then some c else look σ l:=by
 have e:look ((k,c)::σ) l=match Loc.beq k l with | true=>some c | false=>look σ l:=rfl
 rw [e]
 by_cases h:k=l
 ·simp [h,Loc.beq_self]
 ·have:Loc.beq k l=false:=by
   cases hb:Loc.beq k l with
   | true=>exact absurd (Loc.beq_iff.1 hb) h
   | false=>rfl
  simp [h,this]
theorem aG (δ σ:Log) (l:Loc):look (δ++σ) l=match look δ l with | some c=>some c | none=>look σ l:=by
 induction δ with
 | nil=>rfl
 | cons x r ih =>
   obtain ⟨k,c⟩:=x
   rw [List.cons_append,af,af,ih]
   by_cases h:k=l<;>simp [h]
theorem put_getD {a:Act} {d n:Nat} {x:Value} (h:d<a.tmps.size):(a.put (some d) x).tmps.getD n undef=if d=n then x else a.tmps.getD n undef:=by
 simp only [Act.put,Array.getD_eq_getD_getElem?,Array.getElem?_setIfInBounds]
 by_cases hd:d=n
 ·subst hd;simp [h]
 ·simp [hd]
theorem put_size {a:Act} {d:Option Nat} {x:Value}:(a.put d x).tmps.size=a.tmps.size:=by
 cases d<;>simp [Act.put]
theorem put_defers {a:Act} {d:Option Nat} {x:Value}:(a.put d x).defers=a.defers:=by
 cases d<;>rfl
def Same (σ σ':Log):Prop:=∀ l,look σ' l=look σ l
theorem Own.same {κ:Gh} {σ σ':Log} (h:Same σ σ') {b o:Nat}:Own κ σ' b o↔Own κ σ b o:=by
 unfold Own
 have h1:∀ l,look σ' l=look σ l:=h
 simp [h1]
theorem RepS.same {W0:World} {κ:Gh} {σ σ':Log} {a:Act} {w:World} (h:Same σ σ') (hs:RepS W0 κ σ a w):RepS W0 κ σ' a w:={
 slots n v e:=hs.slots n v (by rw [← h];exact e)
 boxes b l e:=hs.boxes b l (by rw [← h];exact e)
 binj b b' l l' e e':=hs.binj b b' l l' (by rw [← h];exact e) (by rw [← h];exact e')
 toks k e:=hs.toks k (by rw [← h];exact e)
 tdis k k' e e':=hs.tdis k k' (by rw [← h];exact e) (by rw [← h];exact e')
 tbox k id l e e':=hs.tbox k id l (by rw [← h];exact e) (by rw [← h];exact e')
 sepI b o ho:=hs.sepI b o ((Own.same h).1 ho)
 Icell:=hs.Icell
 old:=hs.old
 size0:=hs.size0
 amb:=hs.amb
 defers:=hs.defers
 os:=hs.os
 tape:=hs.tape
 output:=hs.output }
theorem Step.same {κ κ':Gh} {σ σ' τ τ':Log} {w w':World} (h:Same σ τ) (h':Same σ' τ') (hs:Step κ σ w κ' σ' w'):Step κ τ w κ' τ' w':=by
 have ho:∀ b o,Own κ τ b o↔Own κ σ b o:=fun b o=>Own.same h
 have ho':∀ b o,Own κ' τ' b o↔Own κ' σ' b o:=fun b o=>Own.same h'
 refine ⟨⟨hs.chg.os,hs.chg.tape,hs.chg.output,hs.chg.size,fun b hb hn=>hs.chg.same b hb fun o hh=>hn o ((ho b o).2 hh),fun b C ty fz hC=>?_,?_⟩,?_,hs.I_,?_,hs.low,hs.lowt⟩
 ·obtain ⟨C',h1,h2,h3⟩:=hs.chg.cells b C ty fz hC
  exact ⟨C',h1,h2,fun o hn=>h3 o fun hh=>hn ((ho b o).2 hh)⟩
 ·exact hs.chg.maps
 ·intro b o hh
  rcases hs.own b o ((ho' b o).1 hh) with g | g
  ·exact .inl ((ho b o).2 g)
  ·exact .inr g
 ·intro b o hh
  rcases hs.In b o hh with g | g | g
  ·exact .inl g
  ·exact .inr (.inl ((ho b o).2 g))
  ·exact .inr (.inr g)
theorem RepS.drawn {W0:World} {κ:Gh} {σ:Log} {a:Act} {w:World} (hs:RepS W0 κ σ a w) (n:Nat):RepS W0 κ σ a { w with drawn:=n }:=by
 have e:Ext κ w κ { w with drawn:=n }:=⟨fun _ _ h=>h,fun _ _ _=>rfl,fun _ h=>⟨h,rfl⟩,fun _ h=>⟨h,rfl⟩⟩
 refine ⟨fun n v h=>(hs.slots n v h).mono e,fun b l h=>?_,hs.binj,hs.toks,hs.tdis,hs.tbox,hs.sepI,hs.Icell,hs.old,hs.size0,hs.amb,hs.defers,hs.os,hs.tape,hs.output⟩
 obtain ⟨h1,h2,h3⟩:=hs.boxes b l h
 exact ⟨h1,h2,h3.mono e rfl⟩
theorem Step.drawn {κ:Gh} {σ:Log} {w:World} (n:Nat):Step κ σ w κ σ { w with drawn:=n }:=
 ⟨⟨rfl,rfl,rfl,Nat.le_refl _,fun _ _ _=>rfl,fun _ C _ _ h=>⟨C,h,rfl,fun _ _=>rfl⟩,fun _ ob h hn=>⟨ob,h,hn⟩⟩,fun _ _ h=>.inl h,fun _ _ h=>h,fun _ _ h=>.inl h,fun _ _ h=>⟨h,rfl⟩,fun _ _ h=>⟨h,rfl⟩⟩
theorem gJ {d:Nat} {v:AV} {σ:Log} {b:Nat}:look ((.s d,.av v)::σ) (.b b)=look σ (.b b):=by simp [af]
theorem gI {d:Nat} {v:AV} {σ:Log} {b:Nat}:look ((.s d,.av v)::σ) (.t b)=look σ (.t b):=by simp [af]
theorem Own_s {κ:Gh} {σ:Log} {d:Nat} {v:AV} {b o:Nat}:Own κ ((.s d,.av v)::σ) b o↔Own κ σ b o:=by
 simp only [Own,gJ,gI]
theorem RepS.put {W0:World} {κ:Gh} {σ:Log} {a:Act} {w:World} (hs:RepS W0 κ σ a w) {d:Nat} {v:AV} {x:Value} (hd:d<a.tmps.size) (hv:RepV κ w v x) :
  RepS W0 κ ((.s d,.av v)::σ) (a.put (some d) x) w:={
 slots n u e:=by
  rw [af] at e
  rw [put_getD hd]
  by_cases h:d=n
  ·subst h;simp at e;subst e;simpa using hv
  ·have:(Loc.s d=Loc.s n)=False:=by simp [h]
   simp only [this,if_false] at e
   simp only [h,if_false]
   exact hs.slots n u e
 boxes b l e:=hs.boxes b l (by rwa [gJ] at e)
 binj b b' l l' e e':=hs.binj b b' l l' (by rwa [gJ] at e) (by rwa [gJ] at e')
 toks k e:=hs.toks k (by rwa [gI] at e)
 tdis k k' e e':=hs.tdis k k' (by rwa [gI] at e) (by rwa [gI] at e')
 tbox k id l e e':=hs.tbox k id l (by rwa [gI] at e) (by rwa [gJ] at e')
 sepI b o ho:=hs.sepI b o (Own_s.1 ho)
 Icell:=hs.Icell
 old:=hs.old
 size0:=hs.size0
 amb:=hs.amb
 defers:=by rw [put_defers];exact hs.defers
 os:=hs.os
 tape:=hs.tape
 output:=hs.output }
theorem Step.put {κ:Gh} {σ:Log} {w:World} {d:Nat} {v:AV}:Step κ σ w κ ((.s d,.av v)::σ) w:=
 ⟨.refl _ _,fun _ _ h=>.inl (Own_s.1 h),fun _ _ h=>h,fun _ _ h=>.inl h,fun _ _ h=>⟨h,rfl⟩,fun _ _ h=>⟨h,rfl⟩⟩
theorem known {σ:Log} {n:Nat} {v:AV} (h:look σ (.s n)=some (.av v)) :
  Same σ ((.s n,.av v)::σ):=fun l=>by
 rw [af]
 by_cases e:Loc.s n=l
 ·subst e;simp [h]
 ·simp [e]
theorem jg (w:World) (o:Obj):(w.alloc o).heap=w.heap.push o:=rfl
theorem cp (w:World) (o:Obj):(w.alloc o).heap.size=w.heap.size+1:=by rw [jg,Array.size_push]
theorem aY {w:World} {o:Obj} {b:Nat} (h:b<w.heap.size):(w.alloc o).heap[b]? = w.heap[b]?:=by
 rw [jg,Array.getElem?_push,if_neg (by omega)]
theorem heap_alloc_new {w:World} {o:Obj}:(w.alloc o).heap[w.heap.size]? = some o:=by
 rw [jg,Array.getElem?_push,if_pos rfl]
theorem chg_alloc {O:Nat→Nat→Prop} {w:World} {o:Obj}:Chg O w (w.alloc o):={
 os:=rfl
 tape:=rfl
 output:=rfl
 size:=by rw [cp];omega
 same b hb _:=aY hb
 cells b C ty fz h:=⟨C,by rw [aY (aC h)];exact h,rfl,fun _ _=>rfl⟩
 maps b ob h hn:=⟨ob,by rw [aY (aC h)];exact h,hn⟩ }
theorem RepS.boxO {W0:World} {κ:Gh} {σ:Log} {a:Act} {w:World} (hs:RepS W0 κ σ a w) {id:Nat} (hid:¬ κ.Db id) {l:List AV} {ob:Obj} (hl:∀ κ':Gh,Ext κ w κ' (w.alloc ob)→BoxR κ' (w.alloc ob) (w.heap.size,0) l) :
  RepS W0 { κ with Db:=fun b=>κ.Db b∨b=id,ι:=fun b=>if b=id then (w.heap.size,0) else κ.ι b } ((.b id,.bx l)::σ) a (w.alloc ob) ∧
  Step κ σ w { κ with Db:=fun b=>κ.Db b∨b=id,ι:=fun b=>if b=id then (w.heap.size,0) else κ.ι b } ((.b id,.bx l)::σ) (w.alloc ob) ∧
  Ext κ w { κ with Db:=fun b=>κ.Db b∨b=id,ι:=fun b=>if b=id then (w.heap.size,0) else κ.ι b } (w.alloc ob):=by
 have hne:∀ b,κ.Db b→b≠id:=fun b hb e=>hid (e ▸ hb)
 have e:Ext κ w { κ with Db:=fun b=>κ.Db b∨b=id,ι:=fun b=>if b=id then (w.heap.size,0) else κ.ι b } (w.alloc ob):=by
  refine ⟨fun _ _ h=>h,fun b o h=>chg_alloc.cell hs h,fun b hb=>⟨.inl hb,by simp [hne b hb]⟩,fun _ h=>⟨h,rfl⟩⟩
 have hb_old:∀ {b m},look ((.b id,.bx l)::σ) (.b b)=some (.bx m)→(b=id∧m=l)∨(b≠id∧look σ (.b b)=some (.bx m)):=by
  intro b m h
  rw [af] at h
  by_cases hh:id=b
  ·subst hh;simp at h;exact .inl ⟨rfl,h.symm⟩
  ·have:(Loc.b id=Loc.b b)=False:=by simp [hh]
   simp only [this,if_false] at h
   exact .inr ⟨fun x=>hh x.symm,h⟩
 have ht:∀ k,look ((.b id,.bx l)::σ) (.t k)=look σ (.t k):=fun k=>by simp [af]
 have hss:∀ k,look ((.b id,.bx l)::σ) (.s k)=look σ (.s k):=fun k=>by simp [af]
 have hown:∀ b o,Own { κ with Db:=fun b=>κ.Db b∨b=id,ι:=fun b=>if b=id then (w.heap.size,0) else κ.ι b } ((.b id,.bx l)::σ) b o→Own κ σ b o∨w.heap.size≤b:=by
  rintro b o (⟨id',m,hm,hi⟩ | ⟨k,hk,hi⟩)
  ·rcases hb_old hm with ⟨rfl,rfl⟩ | ⟨hn,hm⟩
   ·simp [spb,aZ] at hi;exact .inr (Nat.le_of_eq hi.1)
   ·simp only [spb,hn,if_false] at hi;exact .inl (.inl ⟨id',m,hm,hi⟩)
  ·rw [ht] at hk;exact .inl (.inr ⟨k,hk,hi⟩)
 have hblk:∀ b m,look σ (.b b)=some (.bx m)→(κ.ι b).1<w.heap.size:=fun b m h=>by
  obtain ⟨_,_,h3⟩:=hs.boxes b m h
  exact h3.lt
 refine ⟨⟨?_,?_,?_,?_,?_,?_,?_,?_,hs.old,?_,?_,hs.defers,hs.os,hs.tape,hs.output⟩,⟨chg_alloc,hown,fun _ _ h=>h,fun _ _ h=>.inl h,fun b _ hb=>⟨.inl hb,by simp [hne b hb]⟩,fun _ _ h=>⟨h,rfl⟩⟩,e⟩
 ·intro n v h
  rw [hss] at h
  exact (hs.slots n v h).mono e
 ·intro b m h
  rcases hb_old h with ⟨rfl,rfl⟩ | ⟨hn,h⟩
  ·refine ⟨.inr rfl,by simpa using hs.size0,?_⟩
   simp only [if_true];exact hl _ e
  ·obtain ⟨h1,h2,h3⟩:=hs.boxes b m h
   refine ⟨.inl h1,by simpa [hn] using h2,?_⟩
   simp only [hn,if_false]
   exact h3.mono e (aY h3.lt)
 ·intro b b' m m' h h' hne' x o hi hi'
  rcases hb_old h with ⟨e1,e2⟩ | ⟨hn,g⟩<;>rcases hb_old h' with ⟨e1',e2'⟩ | ⟨hn',g'⟩
  ·exact hne' (e1.trans e1'.symm)
  ·simp [spb,aZ,e1] at hi;simp only [spb,aZ,hn',if_false] at hi';have:=hblk _ _ g';omega
  ·simp [spb,aZ,e1'] at hi';simp only [spb,aZ,hn,if_false] at hi;have:=hblk _ _ g;omega
  ·simp only [spb,hn,hn',if_false] at hi hi';exact hs.binj _ _ _ _ g g' hne' x o hi hi' 
 ·intro k h
  rw [ht] at h
  obtain ⟨h1,h2⟩:=hs.toks k h
  refine ⟨h1,fun hh=>?_⟩
  obtain ⟨h3,C',ty',h4,h5⟩:=h2 hh
  exact ⟨h3,C',ty',by rw [aY (aC h4)];exact h4,h5⟩
 ·intro k k' h h'
  rw [ht] at h h'
  exact hs.tdis k k' h h'
 ·intro k id' m h h' x o ho hi
  rw [ht] at h
  rcases hb_old h' with ⟨rfl,rfl⟩ | ⟨hn,h'⟩
  ·obtain ⟨h1,h2,h3⟩:(κ.τ k).1=x∧(κ.τ k).2.1≤o∧o<(κ.τ k).2.2:=ho
   obtain ⟨_,hh⟩:=hs.toks k h
   obtain ⟨_,C',ty',h4,h5⟩:=hh (Nat.lt_of_le_of_lt h2 h3)
   have:=aC h4
   simp [spb,aZ] at hi
   omega
  ·simp only [spb,hn,if_false] at hi
   exact hs.tbox k id' m h h' x o ho hi
 ·intro b o ho hI
  rcases hown b o ho with h | h
  ·exact hs.sepI b o h hI
  ·exact absurd (hs.Icell b o hI) (Nat.not_lt.2 h)
 ·intro b o h
  have:=hs.Icell b o h
  rw [cp];omega
 ·have:=hs.size0;rw [cp];omega
 ·intro b hb
  rw [aY (Nat.lt_of_lt_of_le hb hs.size0)]
  exact hs.amb b hb
theorem RepS.box {W0:World} {κ:Gh} {σ:Log} {a:Act} {w:World} (hs:RepS W0 κ σ a w) {id:Nat} (hid:¬ κ.Db id) {l:List AV} {C:Array Value} (hl:RepL κ w l C) (ty:TypeId) :
  RepS W0 { κ with Db:=fun b=>κ.Db b∨b=id,ι:=fun b=>if b=id then (w.heap.size,0) else κ.ι b } ((.b id,.bx l)::σ) a (w.alloc (.cells C ty)) ∧
  Step κ σ w { κ with Db:=fun b=>κ.Db b∨b=id,ι:=fun b=>if b=id then (w.heap.size,0) else κ.ι b } ((.b id,.bx l)::σ) (w.alloc (.cells C ty)) ∧
  Ext κ w { κ with Db:=fun b=>κ.Db b∨b=id,ι:=fun b=>if b=id then (w.heap.size,0) else κ.ι b } (w.alloc (.cells C ty)):=
 hs.boxO hid fun _ e=>.of heap_alloc_new (hl.repC.mono e)
theorem RepS.row {W0:World} {κ:Gh} {σ:Log} {a:Act} {w:World} (hs:RepS W0 κ σ a w) (C:Array Value) (ty:TypeId) (n:Nat) :
  RepS W0 { κ with I:=fun b o=>κ.I b o∨(b=w.heap.size∧o<n) } σ a (w.alloc (.cells C ty)) ∧
  Step κ σ w { κ with I:=fun b o=>κ.I b o∨(b=w.heap.size∧o<n) } σ (w.alloc (.cells C ty)) ∧
  Ext κ w { κ with I:=fun b o=>κ.I b o∨(b=w.heap.size∧o<n) } (w.alloc (.cells C ty)):=by
 have e:Ext κ w { κ with I:=fun b o=>κ.I b o∨(b=w.heap.size∧o<n) } (w.alloc (.cells C ty)):=
  ⟨fun _ _ h=>.inl h,fun b o h=>chg_alloc.cell hs h,fun b hb=>⟨hb,rfl⟩,fun _ h=>⟨h,rfl⟩⟩
 have hown:∀ b o,Own { κ with I:=fun b o=>κ.I b o∨(b=w.heap.size∧o<n) } σ b o→Own κ σ b o:=fun b o h=>h
 refine ⟨⟨fun n v h=>(hs.slots n v h).mono e,?_,hs.binj,?_,hs.tdis,hs.tbox,?_,?_,fun b o h=>.inl (hs.old b o h),?_,?_,hs.defers,hs.os,hs.tape,hs.output⟩,
  ⟨chg_alloc,fun b o h=>.inl h,fun _ _ h=>.inl h,?_,fun b _ hb=>⟨hb,rfl⟩,fun _ _ h=>⟨h,rfl⟩⟩,e⟩
 ·intro b m h
  obtain ⟨h1,h2,h3⟩:=hs.boxes b m h
  exact ⟨h1,h2,h3.mono e (aY h3.lt)⟩
 ·intro k h
  obtain ⟨h1,h2⟩:=hs.toks k h
  refine ⟨h1,fun hh=>?_⟩
  obtain ⟨h3,C',ty',h4,h5⟩:=h2 hh
  exact ⟨h3,C',ty',by rw [aY (aC h4)];exact h4,h5⟩
 ·rintro b o ho (hI | ⟨rfl,_⟩)
  ·exact hs.sepI b o ho hI
  ·exact absurd (hs.ownLt (hown _ _ ho)) (Nat.lt_irrefl _)
 ·rintro b o (h | ⟨rfl,_⟩)
  ·have:=hs.Icell b o h
   rw [cp];omega
  ·rw [cp];omega
 ·have:=hs.size0;rw [cp];omega
 ·intro b hb
  rw [aY (Nat.lt_of_lt_of_le hb hs.size0)]
  exact hs.amb b hb
 ·rintro b o (h | ⟨rfl,_⟩)
  ·exact .inl h
  ·exact .inr (.inr (Nat.le_refl _))
end Go.Abs
namespace Go.Abs
open Go
theorem nj {O:Nat→Nat→Prop} {w:World} {g:Nat} {cur arr:Array Value} {ty:TypeId} (hg:w.heap[g]? = some (.cells cur ty (0,0))) (hs:arr.size=cur.size)
  (ho:∀ o:Nat,¬ O g o→arr[o]? = cur[o]?):Chg O w (w.setRow g arr):={
 os:=rfl
 tape:=rfl
 output:=rfl
 size:=by rw [size_setRow];exact Nat.le_refl _
 same b hb hn:=by
  by_cases h:b=g
  ·subst h
   have:arr=cur:=Array.ext_getElem? fun i=>ho i (hn i)
   rw [this,setRow_self w b cur ty (0,0) hg]
  ·exact setRow_other w g b arr h
 cells b C ty' fz h:=by
  by_cases e:b=g
  ·subst e
   rw [hg] at h
   cases h
   exact ⟨arr,setRow_heap w b cur arr ty (0,0) hg,hs,ho⟩
  ·exact ⟨C,by rw [setRow_other w g b arr e];exact h,rfl,fun _ _=>rfl⟩
 maps b ob h hn:=by
  by_cases e:b=g
  ·subst e;rw [hg] at h;cases h;exact hn.elim
  ·exact ⟨ob,by rw [setRow_other w g b arr e];exact h,hn⟩ }
theorem RepS.store {W0:World} {κ:Gh} {σ:Log} {a:Act} {w:World} (hs:RepS W0 κ σ a w) {b:Nat} {l l':List AV} (hb:look σ (.b b)=some (.bx l))
  {cur arr:Array Value} {ty:TypeId} (hg:w.heap[(κ.ι b).1]? = some (.cells cur ty (0,0))) (hsz:arr.size=cur.size) (hll:l'.length=l.length) (hl:RepC κ w l' arr (κ.ι b).2)
  (hsame:∀ o:Nat,¬ aZ (spb κ b l) (κ.ι b).1 o→arr[o]? = cur[o]?) :
  RepS W0 κ ((.b b,.bx l')::σ) a (w.setRow (κ.ι b).1 arr)∧Step κ σ w κ ((.b b,.bx l')::σ) (w.setRow (κ.ι b).1 arr)∧Ext κ w κ (w.setRow (κ.ι b).1 arr):=by
 have hchg:Chg (Own κ σ) w (w.setRow (κ.ι b).1 arr):=nj hg hsz fun o h=>hsame o fun hh=>h (.inl ⟨b,l,hb,hh⟩)
 have e:Ext κ w κ (w.setRow (κ.ι b).1 arr):=⟨fun _ _ h=>h,fun b o h=>hchg.cell hs h,fun _ h=>⟨h,rfl⟩,fun _ h=>⟨h,rfl⟩⟩
 have hB:∀ {b' m},look ((.b b,.bx l')::σ) (.b b')=some (.bx m)→(b'=b∧m=l')∨(b'≠b∧look σ (.b b')=some (.bx m)):=by
  intro b' m h
  rw [af] at h
  by_cases hh:b=b'
  ·subst hh;simp at h;exact .inl ⟨rfl,h.symm⟩
  ·have:(Loc.b b=Loc.b b')=False:=by simp [hh]
   simp only [this,if_false] at h
   exact .inr ⟨fun x=>hh x.symm,h⟩
 have hB':∀ {b' m},look ((.b b,.bx l')::σ) (.b b')=some (.bx m)→∃ m',look σ (.b b')=some (.bx m')∧spb κ b' m=spb κ b' m':=by
  intro b' m h
  rcases hB h with ⟨rfl,rfl⟩ | ⟨_,h⟩
  ·exact ⟨l,hb,by simp only [spb,hll]⟩
  ·exact ⟨m,h,rfl⟩
 have ht:∀ k,look ((.b b,.bx l')::σ) (.t k)=look σ (.t k):=fun k=>by simp [af]
 have hss:∀ k,look ((.b b,.bx l')::σ) (.s k)=look σ (.s k):=fun k=>by simp [af]
 have hown':∀ b' o,Own κ ((.b b,.bx l')::σ) b' o→Own κ σ b' o:=by
  rintro b' o (⟨id,m,hm,hi⟩ | ⟨k,hk,hi⟩)
  ·obtain ⟨m',hm',hsp⟩:=hB' hm;exact .inl ⟨id,m',hm',hsp ▸ hi⟩
  ·rw [ht] at hk;exact .inr ⟨k,hk,hi⟩
 have hheap:∀ k,k≠(κ.ι b).1→(w.setRow (κ.ι b).1 arr).heap[k]? = w.heap[k]?:=fun k h=>setRow_other w _ k arr h
 refine ⟨⟨fun n v h=>by rw [hss] at h;exact (hs.slots n v h).mono e,?_,?_,?_,?_,?_,fun b' o ho=>hs.sepI b' o (hown' b' o ho),?_,hs.old,?_,hchg.amb hs,hs.defers,hs.os,hs.tape,hs.output⟩,
  ⟨hchg,fun b' o h=>.inl (hown' b' o h),fun _ _ h=>h,fun _ _ h=>.inl h,fun _ _ h=>⟨h,rfl⟩,fun _ _ h=>⟨h,rfl⟩⟩,e⟩
 ·intro b' m h
  rcases hB h with ⟨rfl,rfl⟩ | ⟨hn,h⟩
  ·obtain ⟨h1,h2,_⟩:=hs.boxes b' l hb
   exact ⟨h1,h2,.of (setRow_heap w _ cur arr ty (0,0) hg) (hl.mono e)⟩
  ·obtain ⟨h1,h2,hB⟩:=hs.boxes b' m h
   by_cases hx:(κ.ι b').1=(κ.ι b).1
   ·rcases hB with ⟨_,C,ty',h3,h4⟩ | ⟨_,ob,_,_,h3,h4⟩
    case inr=>rw [hx,hg] at h3;cases h3;exact h4.noRow.elim
    rw [hx,hg] at h3
    cases h3
    refine ⟨h1,h2,.of (C:=arr) (ty:=ty) (by rw [hx];exact setRow_heap w _ cur arr ty (0,0) hg) ⟨by rw [hsz];exact h4.1,h4.2.1,fun j v hj=>?_⟩⟩
    have hno:¬ aZ (spb κ b l) (κ.ι b).1 ((κ.ι b').2+j):=fun hh=>hs.binj b b' l m hb h (fun x=>hn x.symm) _ _ hh ⟨hx,Nat.le_add_right _ _,Nat.add_lt_add_left (List.getElem?_eq_some_iff.1 hj).1 _⟩
    have:=(h4.2.2 j v hj).mono e
    rwa [Array.getD_eq_getD_getElem?,hsame _ hno,← Array.getD_eq_getD_getElem?]
   ·exact ⟨h1,h2,hB.mono e (hheap _ hx)⟩
 ·intro b1 b2 m1 m2 h1 h2 hne x o hi hi'
  obtain ⟨m1',h1',e1⟩:=hB' h1
  obtain ⟨m2',h2',e2⟩:=hB' h2
  rw [e1] at hi
  rw [e2] at hi'
  exact hs.binj b1 b2 m1' m2' h1' h2' hne x o hi hi'
 ·intro k h
  rw [ht] at h
  obtain ⟨h1,h2⟩:=hs.toks k h
  refine ⟨h1,fun hh=>?_⟩
  obtain ⟨h3,C',ty',h4,h5⟩:=h2 hh
  by_cases hx:(κ.τ k).1=(κ.ι b).1
  ·rw [hx,hg] at h4
   cases h4
   exact ⟨h3,arr,ty,by rw [hx];exact setRow_heap w _ cur arr ty (0,0) hg,by omega⟩
  ·exact ⟨h3,C',ty',by rw [hheap _ hx];exact h4,h5⟩
 ·intro k k' h h';rw [ht] at h h';exact hs.tdis k k' h h'
 ·intro k id m h h' x o hi hi'
  rw [ht] at h
  obtain ⟨m',hm',e1⟩:=hB' h'
  rw [e1] at hi'
  exact hs.tbox k id m' h hm' x o hi hi'
 ·intro b' o h;rw [size_setRow];exact hs.Icell b' o h
 ·rw [size_setRow];exact hs.size0
theorem RepS.spare {W0:World} {κ:Gh} {σ:Log} {a:Act} {w:World} (hs:RepS W0 κ σ a w) {k:Nat} (hk:look σ (.t k)=some (.tk true))
  {g:Nat} {cur arr:Array Value} {ty:TypeId} (hg:w.heap[g]? = some (.cells cur ty (0,0))) (hsz:arr.size=cur.size)
  (hsame:∀ o:Nat,¬ aZ (κ.τ k) g o→arr[o]? = cur[o]?) :
  RepS W0 κ σ a (w.setRow g arr)∧Step κ σ w κ σ (w.setRow g arr)∧Ext κ w κ (w.setRow g arr):=by
 have hchg:Chg (Own κ σ) w (w.setRow g arr):=nj hg hsz fun o h=>hsame o fun hh=>h (.inr ⟨k,hk,hh⟩)
 have e:Ext κ w κ (w.setRow g arr):=⟨fun _ _ h=>h,fun b o h=>hchg.cell hs h,fun _ h=>⟨h,rfl⟩,fun _ h=>⟨h,rfl⟩⟩
 have hheap:∀ k,k≠g→(w.setRow g arr).heap[k]? = w.heap[k]?:=fun k h=>setRow_other w _ k arr h
 refine ⟨⟨fun n v h=>(hs.slots n v h).mono e,?_,hs.binj,?_,hs.tdis,hs.tbox,hs.sepI,?_,hs.old,?_,hchg.amb hs,hs.defers,hs.os,hs.tape,hs.output⟩,
  ⟨hchg,fun b' o h=>.inl h,fun _ _ h=>h,fun _ _ h=>.inl h,fun _ _ h=>⟨h,rfl⟩,fun _ _ h=>⟨h,rfl⟩⟩,e⟩
 ·intro b' m h
  obtain ⟨h1,h2,hB⟩:=hs.boxes b' m h
  by_cases hx:(κ.ι b').1=g
  ·rcases hB with ⟨_,C,ty',h3,h4⟩ | ⟨_,ob,_,_,h3,h4⟩
   case inr=>rw [hx,hg] at h3;cases h3;exact h4.noRow.elim
   rw [hx,hg] at h3
   cases h3
   refine ⟨h1,h2,.of (C:=arr) (ty:=ty) (by rw [hx];exact setRow_heap w _ cur arr ty (0,0) hg) ⟨by rw [hsz];exact h4.1,h4.2.1,fun j v hj=>?_⟩⟩
   have hno:¬ aZ (κ.τ k) g ((κ.ι b').2+j):=fun hh=>hs.tbox k b' m hk h _ _ hh ⟨hx,Nat.le_add_right _ _,Nat.add_lt_add_left (List.getElem?_eq_some_iff.1 hj).1 _⟩
   have:=(h4.2.2 j v hj).mono e
   rwa [Array.getD_eq_getD_getElem?,hsame _ hno,← Array.getD_eq_getD_getElem?]
  ·exact ⟨h1,h2,hB.mono e (hheap _ hx)⟩
 ·intro k' h
  obtain ⟨h1,h2⟩:=hs.toks k' h
  refine ⟨h1,fun hh=>?_⟩
  obtain ⟨h3,C',ty',h4,h5⟩:=h2 hh
  by_cases hx:(κ.τ k').1=g
  ·rw [hx,hg] at h4
   cases h4
   exact ⟨h3,arr,ty,by rw [hx];exact setRow_heap w _ cur arr ty (0,0) hg,by omega⟩
  ·exact ⟨h3,C',ty',by rw [hheap _ hx];exact h4,h5⟩
 ·intro b' o h;rw [size_setRow];exact hs.Icell b' o h
 ·rw [size_setRow];exact hs.size0
theorem RepS.retok {W0:World} {κ:Gh} {σ:Log} {a:Act} {w:World} (hs:RepS W0 κ σ a w) (off:Option Nat) (hoff:∀ k,off=some k→look σ (.t k)=some (.tk true))
  {id:Nat} (hid:¬ κ.Dt id) (hid':∀ k,off=some k→k≠id) (J:Nat→Nat→Prop) (sp:Nat × Nat × Nat)
  (hJ:∀ b o,J b o→b<w.heap.size∧(Own κ σ b o→∃ k,off=some k∧aZ (κ.τ k) b o)∧¬ aZ sp b o∧(Own κ σ b o∨κ.I b o))
  (hsp:sp.2.1<sp.2.2→W0.heap.size≤sp.1∧∃ C ty,w.heap[sp.1]? = some (.cells C ty (0,0))∧sp.2.2≤C.size)
  (hspo:∀ b o,aZ sp b o→¬ κ.I b o∧∃ k,off=some k∧aZ (κ.τ k) b o)
  (δ:Log) (hδ:δ=(.t id,.tk true)::(match off with | some k=>[(.t k,.tk false)] | none=>[])) :
  RepS W0 { κ with I:=fun b o=>κ.I b o∨J b o,Dt:=fun k=>κ.Dt k∨k=id,τ:=fun k=>if k=id then sp else κ.τ k } (δ++σ) a w ∧
  Step κ σ w { κ with I:=fun b o=>κ.I b o∨J b o,Dt:=fun k=>κ.Dt k∨k=id,τ:=fun k=>if k=id then sp else κ.τ k } (δ++σ) w ∧
  Ext κ w { κ with I:=fun b o=>κ.I b o∨J b o,Dt:=fun k=>κ.Dt k∨k=id,τ:=fun k=>if k=id then sp else κ.τ k } w:=by
 have hne:∀ k,κ.Dt k→k≠id:=fun k hk e=>hid (e ▸ hk)
 have e:Ext κ w { κ with I:=fun b o=>κ.I b o∨J b o,Dt:=fun k=>κ.Dt k∨k=id,τ:=fun k=>if k=id then sp else κ.τ k } w:=
  ⟨fun _ _ h=>.inl h,fun _ _ _=>rfl,fun _ h=>⟨h,rfl⟩,fun k h=>⟨.inl h,by simp [hne k h]⟩⟩
 have hss:∀ n,look (δ++σ) (.s n)=look σ (.s n):=by
  intro n;subst hδ;cases off<;>simp [af]
 have hbb:∀ n,look (δ++σ) (.b n)=look σ (.b n):=by
  intro n;subst hδ;cases off<;>simp [af]
 have htt:∀ k,look (δ++σ) (.t k)=some (.tk true)→k=id∨(k≠id∧off≠some k∧look σ (.t k)=some (.tk true)):=by
  intro k h
  by_cases hk:k=id
  ·exact .inl hk
  ·subst hδ
   have hk':¬ id=k:=fun x=>hk x.symm
   cases off with
   | none=>simp [af,hk'] at h;exact .inr ⟨hk,by simp,h⟩
   | some j =>
     by_cases hj:j=k
     ·simp [af,hk',hj] at h
     ·simp [af,hk',hj] at h;exact .inr ⟨hk,by simp [hj],h⟩
 have hown:∀ b o,Own { κ with I:=fun b o=>κ.I b o∨J b o,Dt:=fun k=>κ.Dt k∨k=id,τ:=fun k=>if k=id then sp else κ.τ k } (δ++σ) b o →
   aZ sp b o∨(Own κ σ b o∧∀ k,off=some k→¬ aZ (κ.τ k) b o):=by
  rintro b o (⟨i,l,hl,hi⟩ | ⟨k,hk,hi⟩)
  ·rw [hbb] at hl
   refine .inr ⟨.inl ⟨i,l,hl,hi⟩,fun k hk hh=>?_⟩
   exact hs.tbox k i l (hoff k hk) hl b o hh hi
  ·rcases htt k hk with rfl | ⟨h1,h2,h3⟩
   ·simp at hi;exact .inl hi
   ·simp only [h1,if_false] at hi
    refine .inr ⟨.inr ⟨k,h3,hi⟩,fun k' hk' hh=>?_⟩
    exact hs.tdis k k' h3 (hoff k' hk') (fun x=>h2 (x ▸ hk')) b o hi hh
 have hown2:∀ b o,aZ sp b o→Own κ σ b o:=fun b o h=>by
  obtain ⟨_,k,hk,hh⟩:=hspo b o h
  exact .inr ⟨k,hoff k hk,hh⟩
 refine ⟨⟨fun n v h=>by rw [hss] at h;exact (hs.slots n v h).mono e,?_,?_,?_,?_,?_,?_,?_,fun b o h=>.inl (hs.old b o h),hs.size0,hs.amb,hs.defers,hs.os,hs.tape,hs.output⟩,
  ⟨.refl _ _,?_,fun _ _ h=>.inl h,?_,fun _ _ h=>⟨h,rfl⟩,fun k _ h=>⟨.inl h,by simp [hne k h]⟩⟩,e⟩
 ·intro b l h
  rw [hbb] at h
  obtain ⟨h1,h2,h3⟩:=hs.boxes b l h
  exact ⟨h1,h2,h3.mono e rfl⟩
 ·intro b b' l l' h h'
  rw [hbb] at h h'
  exact hs.binj b b' l l' h h'
 ·intro k h
  rcases htt k h with rfl | ⟨h1,h2,h3⟩
  ·refine ⟨.inr rfl,fun hh=>?_⟩
   simp at hh ⊢
   simpa using hsp hh
  ·obtain ⟨g1,g2⟩:=hs.toks k h3
   refine ⟨.inl g1,?_⟩
   simpa [h1] using g2
 ·intro k k' h h' hkk b o hi hi'
  rcases htt k h with rfl | ⟨h1,h2,h3⟩<;>rcases htt k' h' with e' | ⟨h1',h2',h3'⟩
  ·exact hkk e'.symm
  ·simp at hi
   simp only [h1',if_false] at hi'
   obtain ⟨_,j,hj,hh⟩:=hspo b o hi
   exact hs.tdis k' j h3' (hoff j hj) (fun x=>h2' (x ▸ hj)) b o hi' hh
  ·subst e'
   simp at hi'
   simp only [h1,if_false] at hi
   obtain ⟨_,j,hj,hh⟩:=hspo b o hi'
   exact hs.tdis k j h3 (hoff j hj) (fun x=>h2 (x ▸ hj)) b o hi hh
  ·simp only [h1,h1',if_false] at hi hi'
   exact hs.tdis k k' h3 h3' hkk b o hi hi'
 ·intro k i l h h' x o ho
  rw [hbb] at h'
  rcases htt k h with rfl | ⟨h1,h2,h3⟩
  ·simp at ho
   obtain ⟨_,j,hj,hh⟩:=hspo _ o ho
   exact hs.tbox j i l (hoff j hj) h' x o hh
  ·simp only [h1,if_false] at ho
   exact hs.tbox k i l h3 h' x o ho
 ·intro b o ho hI
  rcases hown b o ho with h | ⟨h,hn⟩
  ·rcases hI with hI | hI
   ·exact (hspo b o h).1 hI
   ·exact (hJ b o hI).2.2.1 h
  ·rcases hI with hI | hI
   ·exact hs.sepI b o h hI
   ·obtain ⟨k,hk,hh⟩:=(hJ b o hI).2.1 h
    exact hn k hk hh
 ·rintro b o (h | h)
  ·exact hs.Icell b o h
  ·exact (hJ b o h).1
 ·intro b o h
  rcases hown b o h with h | ⟨h,_⟩
  ·exact .inl (hown2 b o h)
  ·exact .inl h
 ·rintro b o (h | h)
  ·exact .inl h
  ·rcases (hJ b o h).2.2.2 with h | h
   ·exact .inr (.inl h)
   ·exact .inl h
theorem RepS.rowTok {W0:World} {κ:Gh} {σ:Log} {a:Act} {w:World} (hs:RepS W0 κ σ a w) (off:Option Nat) (hoff:∀ k,off=some k→look σ (.t k)=some (.tk true))
  {id:Nat} (hid:¬ κ.Dt id) (C:Array Value) (ty:TypeId) (n m:Nat) (hm:m≤C.size)
  (δ:Log) (hδ:δ=(.t id,.tk true)::(match off with | some k=>[(.t k,.tk false)] | none=>[])) :
  RepS W0 { κ with I:=fun b o=>κ.I b o∨(b=w.heap.size∧o<n),Dt:=fun k=>κ.Dt k∨k=id,τ:=fun k=>if k=id then (w.heap.size,n,m) else κ.τ k } (δ++σ) a (w.alloc (.cells C ty)) ∧
  Step κ σ w { κ with I:=fun b o=>κ.I b o∨(b=w.heap.size∧o<n),Dt:=fun k=>κ.Dt k∨k=id,τ:=fun k=>if k=id then (w.heap.size,n,m) else κ.τ k } (δ++σ) (w.alloc (.cells C ty)) ∧
  Ext κ w { κ with I:=fun b o=>κ.I b o∨(b=w.heap.size∧o<n),Dt:=fun k=>κ.Dt k∨k=id,τ:=fun k=>if k=id then (w.heap.size,n,m) else κ.τ k } (w.alloc (.cells C ty)):=by
 have hne:∀ k,κ.Dt k→k≠id:=fun k hk e=>hid (e ▸ hk)
 have e:Ext κ w { κ with I:=fun b o=>κ.I b o∨(b=w.heap.size∧o<n),Dt:=fun k=>κ.Dt k∨k=id,τ:=fun k=>if k=id then (w.heap.size,n,m) else κ.τ k } (w.alloc (.cells C ty)):=
  ⟨fun _ _ h=>.inl h,fun b o h=>chg_alloc.cell hs h,fun _ h=>⟨h,rfl⟩,fun k h=>⟨.inl h,by simp [hne k h]⟩⟩
 have hss:∀ n,look (δ++σ) (.s n)=look σ (.s n):=by
  intro n;subst hδ;cases off<;>simp [af]
 have hbb:∀ n,look (δ++σ) (.b n)=look σ (.b n):=by
  intro n;subst hδ;cases off<;>simp [af]
 have htt:∀ k,look (δ++σ) (.t k)=some (.tk true)→k=id∨(k≠id∧look σ (.t k)=some (.tk true)):=by
  intro k h
  by_cases hk:k=id
  ·exact .inl hk
  ·subst hδ
   have hk':¬ id=k:=fun x=>hk x.symm
   cases off with
   | none=>simp [af,hk'] at h;exact .inr ⟨hk,h⟩
   | some j =>
     by_cases hj:j=k
     ·simp [af,hk',hj] at h
     ·simp [af,hk',hj] at h;exact .inr ⟨hk,h⟩
 have hold:∀ b o,Own κ σ b o→b<w.heap.size:=fun b o h=>hs.ownLt h
 have hown:∀ b o,Own { κ with I:=fun b o=>κ.I b o∨(b=w.heap.size∧o<n),Dt:=fun k=>κ.Dt k∨k=id,τ:=fun k=>if k=id then (w.heap.size,n,m) else κ.τ k } (δ++σ) b o →
   (b=w.heap.size∧n≤o)∨Own κ σ b o:=by
  rintro b o (⟨i,l,hl,hi⟩ | ⟨k,hk,hi⟩)
  ·rw [hbb] at hl;exact .inr (.inl ⟨i,l,hl,hi⟩)
  ·rcases htt k hk with rfl | ⟨h1,h3⟩
   ·simp [aZ] at hi;exact .inl ⟨hi.1.symm,hi.2.1⟩
   ·simp only [h1,if_false] at hi;exact .inr (.inr ⟨k,h3,hi⟩)
 refine ⟨⟨fun n v h=>by rw [hss] at h;exact (hs.slots n v h).mono e,?_,?_,?_,?_,?_,?_,?_,fun b o h=>.inl (hs.old b o h),?_,chg_alloc.amb hs,hs.defers,hs.os,hs.tape,hs.output⟩,
  ⟨chg_alloc,?_,fun _ _ h=>.inl h,?_,fun _ _ h=>⟨h,rfl⟩,fun k _ h=>⟨.inl h,by simp [hne k h]⟩⟩,e⟩
 ·intro b l h
  rw [hbb] at h
  obtain ⟨h1,h2,h3⟩:=hs.boxes b l h
  exact ⟨h1,h2,h3.mono e (aY h3.lt)⟩
 ·intro b b' l l' h h'
  rw [hbb] at h h'
  exact hs.binj b b' l l' h h'
 ·intro k h
  rcases htt k h with rfl | ⟨h1,h3⟩
  ·refine ⟨.inr rfl,fun hh=>?_⟩
   simp only [if_true] at hh ⊢
   exact ⟨hs.size0,C,ty,heap_alloc_new,hm⟩
  ·obtain ⟨g1,g2⟩:=hs.toks k h3
   refine ⟨.inl g1,?_⟩
   simp only [h1,if_false]
   intro hh
   obtain ⟨h5,C',ty',h6,h7⟩:=g2 hh
   exact ⟨h5,C',ty',by rw [aY (aC h6)];exact h6,h7⟩
 ·intro k k' h h' hkk b o hi hi'
  rcases htt k h with rfl | ⟨h1,h3⟩<;>rcases htt k' h' with e' | ⟨h1',h3'⟩
  ·exact hkk e'.symm
  ·simp [aZ] at hi
   simp only [h1',if_false] at hi'
   have:=hold b o (.inr ⟨k',h3',hi'⟩)
   omega
  ·subst e'
   simp [aZ] at hi'
   simp only [h1,if_false] at hi
   have:=hold b o (.inr ⟨k,h3,hi⟩)
   omega
  ·simp only [h1,h1',if_false] at hi hi'
   exact hs.tdis k k' h3 h3' hkk b o hi hi'
 ·intro k i l h h' x o ho hi
  rw [hbb] at h'
  rcases htt k h with rfl | ⟨h1,h3⟩
  ·simp [aZ] at ho
   obtain ⟨_,_,h5⟩:=hs.boxes i l h'
   have:=h5.lt
   have:=hi.1
   simp only [spb] at this
   omega
  ·simp only [h1,if_false] at ho
   exact hs.tbox k i l h3 h' x o ho hi
 ·rintro b o ho (hI | ⟨h1,h2⟩)
  ·rcases hown b o ho with ⟨h,_⟩ | h
   ·have:=hs.Icell b o hI;omega
   ·exact hs.sepI b o h hI
  ·rcases hown b o ho with ⟨_,h⟩ | h
   ·omega
   ·have:=hold b o h;omega
 ·rintro b o (h | ⟨h,_⟩)
  ·have:=hs.Icell b o h;rw [cp];omega
  ·rw [cp];omega
 ·have:=hs.size0;rw [cp];omega
 ·intro b o h
  rcases hown b o h with ⟨h,_⟩ | h
  ·exact .inr (by omega)
  ·exact .inl h
 ·rintro b o (h | ⟨h,_⟩)
  ·exact .inl h
  ·exact .inr (.inr (by omega))
end Go.Abs
namespace Go.Abs
open Go
def cw (P:Program) (ty:TypeId):Option Nat:=match P.underlying ty with
 | some (.slice e)=>(P.info? e).map (·.size)
 | _=>none
def na (z:Option Nat):Value→Option AV
 | .bool b=>some (.sc (.b b))
 | .int k n=>some (.sc (.i k n))
 | .string s=>some (.sc (.s s.data.toList))
 | .pointer none=>some (.sc .np)
 | .nilFunc=>some (.sc .nf)
 | .nilIface=>some (.sc .ni)
 | .map none=>some (.sc .nm)
 | .slice none 0 0=>z.map fun z=>.sl z [] .full
 | _=>none
def ax (z:Option Nat):Operand→Option Opd
 | .tmp t=>some (.t t)
 | .const v=>(na z v).map .c
 | .func f=>some (.c (.fn f []))
 | .global _=>none
theorem m9 {κ:Gh} {w:World} {z:Option Nat} {v:Value} {x:AV} (h:na z v=some x):RepV κ w x v∧one x=true:=by
 unfold na at h
 split at h
 ·cases h;exact ⟨.sc _,rfl⟩
 ·cases h;exact ⟨.sc _,rfl⟩
 ·rename_i s
  cases h
  refine ⟨?_,rfl⟩
  have:Value.string s=(Sc.s s.data.toList).val:=by simp [Sc.val]
  rw [this];exact .sc _
 ·cases h;exact ⟨.sc .np,rfl⟩
 ·cases h;exact ⟨.sc .nf,rfl⟩
 ·cases h;exact ⟨.sc .ni,rfl⟩
 ·cases h;exact ⟨.sc .nm,rfl⟩
 ·cases z with
  | none=>cases h
  | some z =>
    cases h
    exact ⟨.sl z [] .full _ (.nil z none) (fun a n cap e=>by cases e),rfl⟩
 ·cases h
theorem am {W0:World} {κ:Gh} {σ:Log} {a:Act} {w:World} (hs:RepS W0 κ σ a w) {z:Option Nat} {x:Operand} {y:Opd} (h:ax z x=some y):RepV κ w (ev σ y) (a.eval x):=by
 unfold ax at h
 split at h
 ·rename_i t
  cases h
  simp only [ev,Act.eval]
  split
  ·rename_i v hv;exact hs.slots t v hv
  ·exact .bad _
 ·rename_i v
  cases hc:na z v with
  | none=>simp [hc] at h
  | some c =>
    simp [hc] at h
    subst h
    exact (m9 hc).1
 ·cases h
  exact .fn _ [] #[] rfl (fun j v hj=>by simp at hj)
 ·cases h
/- inversions -/
theorem RepV.sc_inv {κ:Gh} {w:World} {c:Sc} {x:Value} (h:RepV κ w (.sc c) x):x=c.val:=by cases h;rfl
theorem RepV.sl_inv {κ:Gh} {w:World} {z:Nat} {e:List (List Data)} {t:Tok} {x:Value} (h:RepV κ w (.sl z e t) x):RepD κ.I w (.lst z e) x∧tokOK κ z t x:=by cases h;exact ⟨by assumption,by assumption⟩
theorem RepV.ptr_inv {κ:Gh} {w:World} {b o:Nat} {x:Value} (h:RepV κ w (.ptr b o) x):κ.Db b∧x=.pointer (some ⟨(κ.ι b).1,(κ.ι b).2+o,none⟩):=by cases h;exact ⟨by assumption,rfl⟩
theorem RepV.elp_inv {κ:Gh} {w:World} {l:List Data} {o:Nat} {x:Value} (h:RepV κ w (.elp l o) x) :
  ∃ b q,x=.pointer (some ⟨b,q+o,none⟩)∧∀ (j:Nat) (d:Data),l[j]? = some d→∃ c,κ.I b (q+j)∧w.cell? ⟨b,q+j,none⟩=some c∧RepD κ.I w d c:=by
 cases h;exact ⟨_,_,rfl,by assumption⟩
theorem RepV.mx_inv {κ:Gh} {w:World} {sz:Nat} {els:List (List Data)} {b n:Nat} {t:Tok} {x:Value} (h:RepV κ w (.mx sz els b n t) x) :
  ∃ off cap, κ.Db b ∧ (κ.ι b).2 = off + els.length * sz ∧ els.length + n ≤ cap ∧ RepD κ.I w (.lst sz els) (.slice (some ⟨(κ.ι b).1, off, none⟩) els.length cap) ∧
    tokOK κ sz t (.slice (some ⟨(κ.ι b).1,off,none⟩) (els.length+n) cap)∧x=.slice (some ⟨(κ.ι b).1,off,none⟩) (els.length+n) cap:=by
 cases h;exact ⟨_,_,by assumption,by assumption,by assumption,by assumption,by assumption,rfl⟩
theorem RepV.cs_inv {κ:Gh} {w:World} {sz b o n c:Nat} {t:Tok} {x:Value} (h:RepV κ w (.cs sz b o n c t) x) :
  ∃ cap,κ.Db b∧n≤c∧c≤cap∧tokOK κ sz t (.slice (some ⟨(κ.ι b).1,(κ.ι b).2+o,none⟩) c cap)∧x=.slice (some ⟨(κ.ι b).1,(κ.ι b).2+o,none⟩) n cap:=by
 cases h;exact ⟨_,by assumption,by assumption,by assumption,by assumption,rfl⟩
theorem RepV.fb_inv {κ:Gh} {w:World} {f:FuncId} {b o:Nat} {x:Value} (h:RepV κ w (.fb f b o) x):κ.Db b∧x=.func (.func f) #[.pointer (some ⟨(κ.ι b).1,(κ.ι b).2+o,none⟩)] #[]:=by
 cases h;exact ⟨by assumption,rfl⟩
theorem RepV.mr_inv {κ:Gh} {w:World} {b:Nat} {x:Value} (h:RepV κ w (.mr b) x):κ.Db b∧x=.map (some (κ.ι b).1):=by
 cases h;exact ⟨by assumption,rfl⟩
theorem RepV.agg_inv {κ:Gh} {w:World} {l:List AV} {x:Value} (h:RepV κ w (.agg l) x):∃ vs,x=.agg vs∧RepL κ w l vs:=by
 cases h with | agg l vs hs h1 h=>exact ⟨vs,rfl,hs,h1,h⟩
theorem RepV.tup_inv {κ:Gh} {w:World} {l:List AV} {x:Value} (h:RepV κ w (.tup l) x):∃ vs:Array Value,x=.tuple vs∧vs.size=l.length∧∀ (j:Nat) (v:AV),l[j]? = some v→RepV κ w v (vs.getD j undef):=by
 cases h;exact ⟨_,rfl,by assumption,by assumption⟩
theorem RepV.fn_inv {κ:Gh} {w:World} {f:FuncId} {l:List AV} {x:Value} (h:RepV κ w (.fn f l) x) :
  ∃ vs:Array Value,x=.func (.func f) #[] vs∧vs.size=l.length∧∀ (j:Nat) (v:AV),l[j]? = some v→RepV κ w v (vs.getD j undef):=by
 cases h;exact ⟨_,rfl,by assumption,by assumption⟩
theorem cl {v:AV} {F:AV→Prop}:frc v F↔v≠.bad∧F v:=by
 cases v<;>simp [frc]
theorem gR {v:AV} {F:AV→Prop}:frc1 v F↔one v=true∧F v:=by
 cases v<;>simp [frc1,one]
theorem aM {l:List AV} {F:List AV→Prop}:eF l F↔(∀ v,v∈l→one v=true)∧F l:=by
 induction l generalizing F with
 | nil=>simp [eF]
 | cons x r ih =>
   simp only [eF,gR,ih,List.mem_cons]
   constructor
   ·rintro ⟨h1,h2,h3⟩
    exact ⟨fun v hv=>hv.elim (fun e=>e ▸ h1) (h2 v),h3⟩
   ·rintro ⟨h1,h2⟩
    exact ⟨h1 x (.inl rfl),fun v hv=>h1 v (.inr hv),h2⟩
theorem Sc.val_cells (c:Sc):c.val.cells=#[c.val]:=by cases c<;>rfl
theorem Sc.val_one (c:Sc):c.val.oneCell'=true:=by cases c<;>rfl
theorem RepD.cells {I:Nat→Nat→Prop} {w:World} {d:Data} {x:Value} (h:RepD I w d x):x.cells=#[x]∧x.oneCell'=true:=by
 cases h with
 | sc c=>exact ⟨Sc.val_cells c,Sc.val_one c⟩
 | nil=>exact ⟨rfl,rfl⟩
 | lst=>exact ⟨rfl,rfl⟩
theorem j9 {κ:Gh} {w:World} {v:AV} {x:Value} (h:RepV κ w v x) (h1:one v=true):x.cells=#[x]∧x.oneCell'=true:=by
 cases h with
 | sc c=>exact ⟨Sc.val_cells c,Sc.val_one c⟩
 | sl z e t x h ht=>exact h.cells
 | ptr b o h=>exact ⟨rfl,rfl⟩
 | elp=>exact ⟨rfl,rfl⟩
 | mx=>exact ⟨rfl,rfl⟩
 | fn=>exact ⟨rfl,rfl⟩
 | mr=>exact ⟨rfl,rfl⟩
 | fb=>exact ⟨rfl,rfl⟩
 | cs=>exact ⟨rfl,rfl⟩
 | agg=>cases h1
 | tup=>cases h1
 | bad=>cases h1
theorem eH {κ:Gh} {w:World} {v:AV} {x:Value} (h:RepV κ w v x) (h1:∀ u,u∈flat v→one u=true):RepL κ w (flat v) x.cells:=by
 by_cases ho:one v=true
 ·have hf:flat v=[v]:=by cases v<;>first | rfl | cases ho
  rw [hf,(j9 h ho).1]
  refine ⟨rfl,by simpa using ho,fun j u hj=>?_⟩
  cases j with
  | zero=>simp at hj;subst hj;simpa using h
  | succ j=>simp at hj
 ·cases h with
  | agg l vs hs h1' h=>exact ⟨hs,h1',h⟩
  | sc | sl | ptr | elp | fn | mx | mr | fb | cs=>exact absurd rfl ho
  | tup l vs hs h=>exact absurd (h1 _ (by simp [flat])) ho
  | bad=>exact absurd (h1 _ (by simp [flat])) ho
theorem RepL.one {κ:Gh} {w:World} {l:List AV} {C:Array Value} (h:RepL κ w l C):∀ x,x∈C.toList→x.oneCell'=true:=by
 intro x hx
 obtain ⟨j,hj,rfl⟩:=List.mem_iff_getElem.1 hx
 have hj':j<l.length:=by rw [← h.1];simpa using hj
 have:=h.2.2 j l[j] (List.getElem?_eq_getElem hj')
 have hh:=j9 this (h.2.1 _ (List.getElem_mem hj'))
 have e:C.getD j undef=C.toList[j]:=by
  have:j<C.size:=by simpa using hj
  simp [Array.getD,this]
 rw [e] at hh
 exact hh.2
theorem ai {P:Program} {o:Oper} {a:Act} {w w':World} {K:Act→World→Prop} {Q:Exit→Act→World→Prop} {x:Value}
  (h:(execOp a.eval o).run P w=.ok (.value x) w') (hk:K (a.put o.dst x) w'):o.wp P a w K Q:=by
 unfold Oper.wp;rw [h];exact hk
theorem gv {P:Program} {o:Oper} {a:Act} {w w':World} {K:Act→World→Prop} {Q:Exit→Act→World→Prop}
  (h:(execOp a.eval o).run P w=.ok .skip w') (hk:K (a.put o.dst undef) w'):o.wp P a w K Q:=by
 unfold Oper.wp;rw [h];exact hk
structure Grow (κ κ':Gh) (id:Nat):Prop where
 db:∀ b,κ'.Db b→κ.Db b∨(id≤b∧b<id+100)
 dt:∀ k,κ'.Dt k→κ.Dt k∨(id≤k∧k<id+100)
theorem Grow.refl (κ:Gh) (id:Nat):Grow κ κ id:=⟨fun _ h=>.inl h,fun _ h=>.inl h⟩
structure Fresh (κ:Gh) (id:Nat):Prop where
 ge:1000≤id
 db:∀ b,id≤b→b<id+100→¬ κ.Db b
 dt:∀ b,id≤b→b<id+100→¬ κ.Dt b
def After (W0:World) (κ:Gh) (σ:Log) (a:Act) (w:World) (id:Nat) (F:Log→Prop) (a':Act) (w':World):Prop:=
 ∃ δ κ',F δ∧RepS W0 κ' (δ++σ) a' w'∧Step κ σ w κ' (δ++σ) w'∧a'.tmps.size=a.tmps.size∧Grow κ κ' id
theorem After.put {W0:World} {κ:Gh} {σ:Log} {a:Act} {w:World} {id:Nat} {F:Log→Prop} (hs:RepS W0 κ σ a w) {d:Nat} {v:AV} {x:Value} (hd:d<a.tmps.size)
  (hv:RepV κ w v x) (hF:F [(.s d,.av v)]):After W0 κ σ a w id F (a.put (some d) x) w:=
 ⟨_,κ,hF,hs.put hd hv,Step.put,put_size,Grow.refl _ _⟩
section ops
variable {P:Program} {W0:World} {κ:Gh} {σ:Log} {a:Act} {w:World} {id:Nat} {F:Log→Prop} {call:aX} {o:Oper} {Q:Exit→Act→World→Prop} {d:Nat} {z:Option Nat}
theorem s_mv (hs:RepS W0 κ σ a w) {x:Operand} {x':Opd} (ho:o.op=.move x∨o.op=.assign x) (hd:o.dst=some d) (hx:ax z x=some x') (hN:d<a.tmps.size)
  (h:eff call σ id (.mv d x') F):o.wp P a w (After W0 κ σ a w id F) Q:=by
 have h':frc (ev σ x') fun v=>F [(.s d,.av v)]:=h
 obtain ⟨_,h⟩:=cl.1 h'
 refine ai (x:=a.eval x) (w':=w) ?_ ?_
 ·rcases ho with ho | ho<;>simp [execOp,ho]
 ·rw [hd];exact .put hs hN (am hs hx) h
theorem s_pick (hs:RepS W0 κ σ a w) {c x y:Operand} {c' x' y':Opd} {z1:Option Nat} (ho:o.op=.pick c x y) (hd:o.dst=some d) (hc:ax z1 c=some c') (hx:ax z x=some x') (hy:ax z y=some y')
  (hN:d<a.tmps.size) (h:eff call σ id (.pick d c' x' y') F):o.wp P a w (After W0 κ σ a w id F) Q:=by
 simp only [eff] at h
 split at h
 ·rename_i t ht
  have hc':=am hs hc
  rw [ht] at hc'
  have e:=hc'.sc_inv
  cases t with
  | true =>
    obtain ⟨_,h⟩:=cl.1 h
    refine ai (x:=a.eval x) (w':=w) ?_ (by rw [hd];exact .put hs hN (am hs hx) h)
    simp [execOp,ho,e,asBool,Sc.val]
  | false =>
    obtain ⟨_,h⟩:=cl.1 h
    refine ai (x:=a.eval y) (w':=w) ?_ (by rw [hd];exact .put hs hN (am hs hy) h)
    simp [execOp,ho,e,asBool,Sc.val]
 ·exact h.elim
theorem RepV.newptr {W0:World} {κ:Gh} {σ:Log} {a:Act} {w:World} (hs:RepS W0 κ σ a w) {d id:Nat} (hN:d<a.tmps.size) (hf:Fresh κ id) {l:List AV} {C:Array Value} (hl:RepL κ w l C) (ty:TypeId)
  {F:Log→Prop} (h:F [(.s d,.av (.ptr id 0)),(.b id,.bx l)]):After W0 κ σ a w id F (a.put (some d) (.pointer (some ⟨w.heap.size,0,none⟩))) (w.alloc (.cells C ty)):=by
 obtain ⟨h1,h2,h3⟩:=hs.box (hf.db id (Nat.le_refl _) (by omega)) hl ty
 refine ⟨_,_,h,h1.put hN ?_,h2.trans Step.put,put_size,⟨?_,fun k hk=>.inl hk⟩⟩
 ·have:=RepV.ptr (κ:={ κ with Db:=fun b=>κ.Db b∨b=id,ι:=fun b=>if b=id then (w.heap.size,0) else κ.ι b }) (w:=w.alloc (.cells C ty)) id 0 (.inr rfl)
  simpa using this
 ·rintro b (hb | rfl)
  ·exact .inl hb
  ·exact .inr ⟨Nat.le_refl _,by omega⟩
theorem s_box (hs:RepS W0 κ σ a w) (hf:Fresh κ id) {x:Operand} {x':Opd} {t:TypeId} (ho:o.op=.box t x) (hd:o.dst=some d) (hx:ax z x=some x') (hN:d<a.tmps.size)
  (h:eff call σ id (.box d x') F):o.wp P a w (After W0 κ σ a w id F) Q:=by
 obtain ⟨h1,h⟩:=aM.1 h
 refine ai (x:=.pointer (some ⟨w.heap.size,0,none⟩)) (w':=w.alloc (.cells (a.eval x).cells t)) ?_ ?_
 ·simp [execOp,ho,Instr.box,newVar,newRow,newObj,Sem.run]
 ·rw [hd];exact RepV.newptr hs hN hf (eH (am hs hx) h1) t h
def repZ:AV→Value→Bool
 | .sc (.b x),.bool y=>x == y
 | .sc (.i k n),.int k' n'=>decide (k=k')&&decide (n=n')
 | .sc (.s l),.string s=>l.isEmpty&&s.data.toList.isEmpty
 | .sc .np,.pointer none=>true
 | .sc .nf,.nilFunc=>true
 | .sc .ni,.nilIface=>true
 | .sc .nm,.map none=>true
 | .sl _ [] .full,.slice none 0 0=>true
 | _,_=>false
def repZs:List AV→List Value→Bool
 | [],[]=>true
 | x::xs,y::ys=>repZ x y&&repZs xs ys
 | _,_=>false
theorem repZ_ok {x:AV} {y:Value} (h:repZ x y=true):RepV κ w x y∧one x=true:=by
 unfold repZ at h
 split at h
 ·simp at h;subst h;exact ⟨.sc _,rfl⟩
 ·simp at h;obtain ⟨rfl,rfl⟩:=h;exact ⟨.sc _,rfl⟩
 ·rename_i l s
  simp at h
  obtain ⟨h1,h2⟩:=h
  refine ⟨?_,rfl⟩
  have:Value.string s=(Sc.s l).val:=by
   cases s;rename_i dd;simp at h2;simp [Sc.val,h1,h2]
  rw [this];exact .sc _
 ·exact ⟨.sc .np,rfl⟩
 ·exact ⟨.sc .nf,rfl⟩
 ·exact ⟨.sc .ni,rfl⟩
 ·exact ⟨.sc .nm,rfl⟩
 ·exact ⟨.sl _ [] .full _ (.nil _ none) (fun a n cap e=>by cases e),rfl⟩
 ·cases h
theorem repZs_ok:∀ {xs:List AV} {ys:List Value},repZs xs ys=true→RepL κ w xs ys.toArray
 | [],[],_=>⟨rfl,by simp,fun j v hj=>by simp at hj⟩
 | x :: xs, y :: ys, h => by
   simp only [repZs,Bool.and_eq_true] at h
   obtain ⟨g1,g2,g3⟩:=repZs_ok h.2
   obtain ⟨r1,r2⟩:=repZ_ok (κ:=κ) (w:=w) h.1
   refine ⟨by simpa using g1,?_,?_⟩
   ·intro v hv
    rcases List.mem_cons.1 hv with rfl | hv
    ·exact r2
    ·exact g2 v hv
   ·intro j v hj
    cases j with
    | zero=>simp at hj;subst hj;simpa using r1
    | succ j =>
      have:=g3 j v (by simpa using hj)
      simpa [Array.getD_eq_getD_getElem?] using this
 | [],_::_,h=>by cases h
 | _::_,[],h=>by cases h
def zAV (P:Program):Nat→TypeId→List AV
 | 0,_=>[]
 | n + 1, t => match P.underlying t with
   | some .bool=>[.sc (.b false)]
   | some (.int k)=>[.sc (.i k 0)]
   | some .string=>[.sc (.s [])]
   | some (.pointer _)=>[.sc .np]
   | some (.func _ _ _)=>[.sc .nf]
   | some (.interface _)=>[.sc .ni]
   | some (.map _ _)=>[.sc .nm]
   | some (.slice e)=>[.sl (((P.info? e).map (·.size)).getD 0) [] .full]
   | some (.struct fs)=>(fs.toList.map fun f=>zAV P n f.type).flatten
   | _=>[]
def ct (P:Program) (t:TypeId):Option (List AV):=match P.info? t with
 | some i => match i.zero with
   | some v=>if repZs (zAV P 8 t) v.cells.toList then some (zAV P 8 t) else none
   | none=>none
 | none=>none
theorem cF {t:TypeId} {l:List AV} (h:ct P t=some l):∃ i v,P.info? t=some i∧i.zero=some v∧∀ (κ:Gh) (w:World),RepL κ w l v.cells:=by
 unfold ct at h
 split at h
 ·rename_i i hi
  split at h
  ·rename_i v hv
   split at h
   ·rename_i hz
    cases h
    refine ⟨i,v,hi,hv,fun κ w=>?_⟩
    have:=repZs_ok (κ:=κ) (w:=w) hz
    simpa using this
   ·cases h
  ·cases h
 ·cases h
theorem s_alloc (hs:RepS W0 κ σ a w) (hf:Fresh κ id) {t:TypeId} {l:List AV} (ho:o.op=.alloc t) (hd:o.dst=some d) (hz:ct P t=some l) (hN:d<a.tmps.size)
  (h:eff call σ id (.alloc d l) F):o.wp P a w (After W0 κ σ a w id F) Q:=by
 obtain ⟨i,v,hi,hv,hl⟩:=cF hz
 refine ai (x:=.pointer (some ⟨w.heap.size,0,none⟩)) (w':=w.alloc (.cells v.cells t)) ?_ ?_
 ·simp [execOp,ho,Instr.alloc,zeroValue,run_typeInfo w hi,hv,newVar,newRow,newObj,Sem.run]
 ·rw [hd];exact RepV.newptr hs hN hf (hl κ w) t h
end ops
end Go.Abs
namespace Go.Abs
open Go
theorem iM {α:Type}:∀ {n:Nat} {l r:List α},dX n l=some r→r.length=n∧n≤l.length∧∀ j,j<n→r[j]? = l[j]?
 | 0,l,r,h=>by simp [dX] at h;subst h;simp
 | n+1,[],r,h=>by simp [dX] at h
 | n + 1, x :: l, r, h => by
   simp only [dX] at h
   split at h
   ·cases h
   ·rename_i r' hr'
    cases h
    obtain ⟨h1,h2,h3⟩:=iM hr'
    refine ⟨by simp [h1],by simp;omega,fun j hj=>?_⟩
    cases j with
    | zero=>simp
    | succ j=>simpa using h3 j (by omega)
theorem ce {α:Type}:∀ {o n:Nat} {l r:List α},sub l o n=some r→r.length=n∧o+n≤l.length∧∀ j,j<n→r[j]? = l[o+j]?
 | 0, n, l, r, h => by
   have h':dX n l=some r:=by cases l<;>exact h
   obtain ⟨h1,h2,h3⟩:=iM h'
   exact ⟨h1,by omega,fun j hj=>by simpa using h3 j hj⟩
 | o+1,n,[],r,h=>by simp [sub] at h
 | o + 1, n, x :: l, r, h => by
   have h':sub l o n=some r:=h
   obtain ⟨h1,h2,h3⟩:=ce h'
   refine ⟨h1,by simp;omega,fun j hj=>?_⟩
   rw [h3 j hj,show o+1+j=(o+j)+1 by omega]
   simp
theorem oh {α:Type}:∀ {new l r:List α},over new l=some r→new.length≤l.length∧r.length=l.length∧∀ j,r[j]? = if j<new.length then new[j]? else l[j]?
 | [],l,r,h=>by simp [over] at h;subst h;simp
 | _::_,[],r,h=>by simp [over] at h
 | x :: xs, y :: l, r, h => by
   simp only [over] at h
   split at h
   ·cases h
   ·rename_i r' hr'
    cases h
    obtain ⟨h1,h2,h3⟩:=oh hr'
    refine ⟨by simp;omega,by simp [h2],fun j=>?_⟩
    cases j with
    | zero=>simp
    | succ j=>simpa using h3 j
theorem gz {α:Type}:∀ {o:Nat} {new l r:List α},be o new l=some r →
  o+new.length≤l.length∧r.length=l.length∧∀ j,r[j]? = if o≤j∧j<o+new.length then new[j - o]? else l[j]?
 | 0, new, l, r, h => by
   have h':over new l=some r:=by cases l<;>exact h
   obtain ⟨h1,h2,h3⟩:=oh h'
   exact ⟨by omega,h2,fun j=>by simpa using h3 j⟩
 | o+1,new,[],r,h=>by simp [be] at h
 | o + 1, new, x :: l, r, h => by
   simp only [be] at h
   split at h
   ·cases h
   ·rename_i r' hr'
    cases h
    obtain ⟨h1,h2,h3⟩:=gz hr'
    refine ⟨by simp;omega,by simp [h2],fun j=>?_⟩
    cases j with
    | zero=>simp
    | succ j =>
      rw [List.getElem?_cons_succ,h3 j]
      by_cases hh:o≤j∧j<o+new.length
      ·rw [if_pos hh,if_pos (by omega),show j+1 - (o+1)=j - o by omega]
      ·rw [if_neg hh,if_neg (by omega)];simp
theorem bg (b o n:Nat):(⟨b,o,none⟩:Addr).add n=⟨b,o+n,none⟩:=by
 unfold Addr.add;split<;>simp_all
theorem kv {κ:Gh} {w:World} {d:Data} {c:Value} (h:RepD κ.I w d c):RepV κ w (aQ d) c∧one (aQ d)=true:=by
 cases d with
 | sc s=>cases h;exact ⟨.sc s,rfl⟩
 | lst z e=>exact ⟨.sl z e .none c h trivial,rfl⟩
section ops
variable {P:Program} {W0:World} {κ:Gh} {σ:Log} {a:Act} {w:World} {id:Nat} {F:Log→Prop} {call:aX} {o:Oper} {Q:Exit→Act→World→Prop} {d:Nat} {z:Option Nat}
def At (κ:Gh) (w:World) (b o:Nat) (l:List AV):Prop:=∀ (j:Nat) (v:AV),l[j]? = some v→∃ c,w.cell? ⟨b,o+j,none⟩=some c∧RepV κ w v c∧one v=true
theorem At.sub {b p o:Nat} {l r:List AV} (h:At κ w b p l) {n:Nat} (hr:Abs.sub l o n=some r):At κ w b (p+o) r:=by
 obtain ⟨h1,h2,h3⟩:=ce hr
 intro j v hj
 have hjn:j<n:=by rw [← h1];exact (List.getElem?_eq_some_iff.1 hj).1
 rw [h3 j hjn] at hj
 obtain ⟨c,g1,g2,g3⟩:=h (o+j) v hj
 exact ⟨c,by rw [Nat.add_assoc];exact g1,g2,g3⟩
theorem At.box {b p:Nat} {l:List AV} {C:Array Value} {ty:TypeId} (hg:w.heap[b]? = some (.cells C ty (0,0))) (hl:RepC κ w l C p):At κ w b p l:=by
 intro j v hj
 have hjl:=(List.getElem?_eq_some_iff.1 hj).1
 have hjc:p+j<C.size:=Nat.lt_of_lt_of_le (Nat.add_lt_add_left hjl _) hl.1
 refine ⟨C.getD (p+j) undef,?_,hl.2.2 j v hj,hl.2.1 v (List.mem_of_getElem? hj)⟩
 rw [au hg]
 simp [Array.getD,hjc]
theorem At.load {b o:Nat} {l:List AV} (h:At κ w b o l):∃ vs:Array Value,(loadCells ⟨b,o,none⟩ l.length).run P w=.ok vs w∧RepL κ w l vs:=by
 have key:∀ j,j<l.length→∃ c,w.cell? ⟨b,o+j,none⟩=some c∧RepV κ w (l[j]?.getD .bad) c∧one (l[j]?.getD .bad)=true:=by
  intro j hj
  obtain ⟨c,h1,h2,h3⟩:=h j l[j] (List.getElem?_eq_getElem hj)
  exact ⟨c,h1,by simpa [hj] using h2,by simpa [hj] using h3⟩
 have hr:=run_loadCells (P:=P) w ⟨b,o,none⟩ l.length (fun j=>(w.cell? ⟨b,o+j,none⟩).getD undef) (fun j hj=>by
  obtain ⟨c,h1,_⟩:=key j hj
  rw [bg,h1];rfl)
 refine ⟨_,hr,by simp,?_,?_⟩
 ·intro v hv
  obtain ⟨j,hj,rfl⟩:=List.mem_iff_getElem.1 hv
  obtain ⟨c,_,_,h3⟩:=key j hj
  simpa [hj] using h3
 ·intro j v hj
  have hjl:=(List.getElem?_eq_some_iff.1 hj).1
  obtain ⟨c,h1,h2,_⟩:=key j hjl
  rw [hj] at h2
  simp [hjl,h1]
  exact h2
def fF (P:Program) (t:TypeId):Option Bool:=match P.underlying t with
 | some (.struct _)=>some true
 | some (.array _ _)=>some true
 | some _=>some false
 | none=>none
theorem dl {t:TypeId} {b:Bool} (h:fF P t=some b):(isAgg t).run P w=.ok b w:=by
 unfold fF at h
 split at h
 ·rename_i hu;cases h;simp [isAgg,run_underlying hu]
 ·rename_i hu;cases h;simp [isAgg,run_underlying hu]
 ·rename_i dd h1 h2 hu
  cases h
  rw [isAgg,Sem.run_bind,run_underlying hu]
  cases dd<;>first | rfl | exact (h1 _ rfl).elim | exact (h2 _ _ rfl).elim
 ·cases h
theorem aW {t:TypeId} {n:Nat} (h:(P.info? t).map (·.size)=some n):(sizeOf t).run P w=.ok n w:=by
 cases hi:P.info? t with
 | none=>simp [hi] at h
 | some i =>
   simp [hi] at h
   simp [Go.sizeOf,run_typeInfo w hi,h]
theorem At.var {b o':Nat} {l:List AV} (h:At κ w b o' l) {t:TypeId} {n:Nat} {ag:Bool} (ha:fF P t=some ag) (hn:(P.info? t).map (·.size)=some n) (hln:l.length=n)
  (hs:RepS W0 κ σ a w) (hN:d<a.tmps.size) (hF:ldv d ag (some l) F) :
  ∃ x,(loadVar t ⟨b,o',none⟩).run P w=.ok x w∧After W0 κ σ a w id F (a.put (some d) x) w:=by
 cases ag with
 | true =>
   simp only [ldv] at hF
   obtain ⟨h1,hF⟩:=aM.1 hF
   obtain ⟨vs,hv,hl⟩:=h.load (P:=P)
   refine ⟨.agg vs,?_,.put hs hN (.agg l vs hl.1 hl.2.1 hl.2.2) hF⟩
   simp [loadVar,dl ha,aW hn,← hln,hv]
 | false =>
   simp only [ldv] at hF
   split at hF
   ·rename_i v
    obtain ⟨h1,hF⟩:=gR.1 hF
    obtain ⟨c,g1,g2,g3⟩:=h 0 v rfl
    refine ⟨c,?_,.put hs hN g2 hF⟩
    simp only [Nat.add_zero] at g1
    simp [loadVar,dl ha,g1]
   ·exact hF.elim
theorem elp_at {κ:Gh} {w:World} {l:List Data} {b q:Nat} (h:∀ (j:Nat) (d:Data),l[j]? = some d→∃ c,κ.I b (q+j)∧w.cell? ⟨b,q+j,none⟩=some c∧RepD κ.I w d c) :
  ∀ (j:Nat) (v:AV),(l.map aQ)[j]? = some v→∃ c,w.cell? ⟨b,q+j,none⟩=some c∧RepV κ w v c∧one v=true:=by
 intro j v hj
 rw [List.getElem?_map] at hj
 cases hd:l[j]? with
 | none=>simp [hd] at hj
 | some d =>
   simp [hd] at hj
   subst hj
   obtain ⟨c,_,h2,h3⟩:=h j d hd
   exact ⟨c,h2,kv h3⟩
theorem At.elp {κ:Gh} {w:World} {l:List Data} {b q o n:Nat} {r:List AV} (h:∀ (j:Nat) (d:Data),l[j]? = some d→∃ c,κ.I b (q+j)∧w.cell? ⟨b,q+j,none⟩=some c∧RepD κ.I w d c)
  (hr:Abs.sub (l.map aQ) o n=some r):At κ w b (q+o) r:=by
 obtain ⟨h1,h2,h3⟩:=ce hr
 intro j v hj
 have hjn:j<n:=by rw [← h1];exact (List.getElem?_eq_some_iff.1 hj).1
 rw [h3 j hjn] at hj
 obtain ⟨c,g1,g2,g3⟩:=elp_at h (o+j) v hj
 exact ⟨c,by rw [Nat.add_assoc];exact g1,g2,g3⟩
theorem s_ld (hs:RepS W0 κ σ a w) {x:Operand} {x':Opd} {t:TypeId} {n:Nat} {ag:Bool} (ho:o.op=.load t x) (hd:o.dst=some d) (hx:ax z x=some x')
  (ha:fF P t=some ag) (hn:(P.info? t).map (·.size)=some n) (hN:d<a.tmps.size) (h:eff call σ id (.ld d n ag x') F):o.wp P a w (After W0 κ σ a w id F) Q:=by
 have hr:=am hs hx
 simp only [eff] at h
 split at h
 ·rename_i b o' he
  rw [he] at hr
  obtain ⟨_,hp⟩:=hr.ptr_inv
  split at h
  ·rename_i l hl
   cases hm:isM l with
   | true=>simp only [hm] at h
   | false=>
   simp only [hm] at h
   obtain ⟨_,_,hB⟩:=hs.boxes b l hl
   obtain ⟨C,ty,hg,hl'⟩:=hB.row hm
   cases hsub:sub l o' n with
   | none=>rw [hsub] at h;exact h.elim
   | some r =>
     rw [hsub] at h
     obtain ⟨v,hv,hA⟩:=((At.box hg hl').sub hsub).var (id:=id) (d:=d) (F:=F) ha hn (ce hsub).1 hs hN h
     refine ai (x:=v) (w':=w) ?_ (by rw [hd];exact hA)
     simp [execOp,ho,Instr.loadAt,Instr.sureAddr,hp,hv]
  ·exact h.elim
 ·rename_i l o' he
  rw [he] at hr
  obtain ⟨b,q,hp,hc⟩:=hr.elp_inv
  cases hsub:sub (l.map aQ) o' n with
  | none=>rw [hsub] at h;exact h.elim
  | some r =>
    rw [hsub] at h
    obtain ⟨v,hv,hA⟩:=(At.elp hc hsub).var (id:=id) (d:=d) (F:=F) ha hn (ce hsub).1 hs hN h
    refine ai (x:=v) (w':=w) ?_ (by rw [hd];exact hA)
    simp [execOp,ho,Instr.loadAt,Instr.sureAddr,hp,hv]
 ·exact h.elim
theorem du {C:Array Value} {vs:List Value} {o:Nat} (h:o+vs.length≤C.size) (j:Nat) :
  ((C.toList.take o++vs++C.toList.drop (o+vs.length)).toArray)[j]? = if o≤j∧j<o+vs.length then vs[j - o]? else C[j]?:=by
 simp only [List.getElem?_toArray]
 have ht:(C.toList.take o).length=o:=by simp;omega
 by_cases h1:j<o
 ·rw [if_neg (by omega),List.append_assoc,List.getElem?_append_left (by omega),List.getElem?_take,if_pos h1]
  simp
 ·by_cases h2:j<o+vs.length
  ·rw [if_pos (by omega),List.append_assoc,List.getElem?_append_right (by omega),List.getElem?_append_left (by omega),ht]
  ·rw [if_neg (by omega),List.getElem?_append_right (by simp;omega),List.getElem?_drop]
   simp only [List.length_append,ht,Array.getElem?_toList]
   congr 1;omega
theorem bA {C:Array Value} {vs:List Value} {o:Nat} (h:o+vs.length≤C.size):(C.toList.take o++vs++C.toList.drop (o+vs.length)).toArray.size=C.size:=by
 simp;omega
theorem dE {l new r:List AV} {C:Array Value} {V:Array Value} {p o:Nat} (hl:RepC κ w l C p) (hn:RepL κ w new V) (hr:be o new l=some r) :
  RepC κ w r (C.toList.take (p+o)++V.toList++C.toList.drop (p+o+V.toList.length)).toArray p∧p+o+V.toList.length≤C.size∧r.length=l.length ∧
  ∀ x:Nat,¬ (p≤x∧x<p+l.length)→(C.toList.take (p+o)++V.toList++C.toList.drop (p+o+V.toList.length)).toArray[x]? = C[x]?:=by
 obtain ⟨h1,h2,h3⟩:=gz hr
 have hV:V.toList.length=new.length:=by simpa using hn.1
 have hb:p+o+V.toList.length≤C.size:=by have:=hl.1;omega
 have hcase:∀ j v,r[j]? = some v→(o≤j∧j<o+new.length∧new[j - o]? = some v)∨(¬ (o≤j∧j<o+new.length)∧l[j]? = some v):=by
  intro j v hj
  rw [h3 j] at hj
  by_cases hh:o≤j∧j<o+new.length
  ·rw [if_pos hh] at hj;exact .inl ⟨hh.1,hh.2,hj⟩
  ·rw [if_neg hh] at hj;exact .inr ⟨hh,hj⟩
 refine ⟨⟨by rw [bA hb,h2];exact hl.1,?_,?_⟩,hb,h2,?_⟩
 ·intro v hv
  obtain ⟨j,hj⟩:=List.mem_iff_getElem?.1 hv
  rcases hcase j v hj with ⟨_,_,g⟩ | ⟨_,g⟩
  ·exact hn.2.1 v (List.mem_of_getElem? g)
  ·exact hl.2.1 v (List.mem_of_getElem? g)
 ·intro j v hj
  rw [Array.getD_eq_getD_getElem?,du hb (p+j),hV]
  rcases hcase j v hj with ⟨g1,g2,g3⟩ | ⟨g1,g2⟩
  ·rw [if_pos (by omega)]
   have:=hn.2.2 (j - o) v g3
   rw [Array.getD_eq_getD_getElem?] at this
   rw [show p+j - (p+o)=j - o by omega]
   simpa using this
  ·rw [if_neg (by omega)]
   have:=hl.2.2 j v g2
   rwa [Array.getD_eq_getD_getElem?] at this
 ·intro x hx
  rw [du hb x,hV,if_neg (by omega)]
theorem s_st (hs:RepS W0 κ σ a w) {x y:Operand} {x' y':Opd} {t:TypeId} {n:Nat} {z1:Option Nat} (ho:o.op=.store t x y) (hd:o.dst=none) (hx:ax z1 x=some x') (hy:ax z y=some y')
  (hn:(P.info? t).map (·.size)=some n) (h:eff call σ id (.st x' n y') F):o.wp P a w (After W0 κ σ a w id F) Q:=by
 have hrx:=am hs hx
 have hry:=am hs hy
 simp only [eff] at h
 split at h
 ·rename_i b o' he
  rw [he] at hrx
  obtain ⟨_,hp⟩:=hrx.ptr_inv
  split at h
  ·rename_i l hl
   cases hm:isM l with
   | true=>simp only [hm] at h
   | false=>
   simp only [hm] at h
   obtain ⟨h1,h⟩:=aM.1 h
   split at h
   ·rename_i hbeq
    split at h
    ·rename_i r hr
     obtain ⟨h2,h⟩:=aM.1 h
     have hlen:=Nat.eq_of_beq_eq_true hbeq
     have hv:=eH hry h1
     obtain ⟨_,_,hB⟩:=hs.boxes b l hl
     obtain ⟨C,ty,hg,hl'⟩:=hB.row hm
     obtain ⟨hnew,hfit,hll,hsame⟩:=dE hl' hv hr
     obtain ⟨s1,s2,s3⟩:=hs.store hl hg (bA hfit) hll hnew (fun x hx=>hsame x fun hh=>hx ⟨rfl,hh⟩)
     have hrun:=run_storeCells_at P (κ.ι b).1 ((κ.ι b).2+o') ty (a.eval y).cells.toList 0 C w hg (by simpa using hfit) hv.one
     simp only [Nat.add_zero] at hrun
     refine gv (w':=w.setRow (κ.ι b).1 (C.toList.take ((κ.ι b).2+o')++(a.eval y).cells.toList++C.toList.drop ((κ.ι b).2+o'+(a.eval y).cells.toList.length)).toArray) ?_ ?_
     ·have hsz:(a.eval y).cells.size=n:=by rw [hv.1,hlen]
      generalize (w.setRow (κ.ι b).1 (C.toList.take ((κ.ι b).2+o')++(a.eval y).cells.toList++C.toList.drop ((κ.ι b).2+o'+(a.eval y).cells.toList.length)).toArray)=w' at hrun ⊢
      simp [execOp,ho,Instr.storeAt,Instr.sureAddr,hp,storeVar,aW hn,hsz,hrun]
     ·rw [hd]
      exact ⟨_,κ,h,s1,s2,rfl,Grow.refl _ _⟩
    ·exact h.elim
   ·exact h.elim
  ·exact h.elim
 ·exact h.elim
theorem s_nc (hs:RepS W0 κ σ a w) {x:Operand} {x':Opd} (ho:o.op=.nilCheck x) (hd:o.dst=some d) (hx:ax z x=some x') (hN:d<a.tmps.size)
  (h:eff call σ id (.nc d x') F):o.wp P a w (After W0 κ σ a w id F) Q:=by
 have hr:=am hs hx
 simp only [eff] at h
 split at h
 ·rename_i b o' he
  rw [he] at hr
  refine ai (x:=a.eval x) (w':=w) ?_ (by rw [hd];exact .put hs hN hr h)
  obtain ⟨_,hp⟩:=hr.ptr_inv
  simp [execOp,ho,hp]
 ·rename_i b o' he
  rw [he] at hr
  refine ai (x:=a.eval x) (w':=w) ?_ (by rw [hd];exact .put hs hN hr h)
  obtain ⟨_,_,hp,_⟩:=hr.elp_inv
  simp [execOp,ho,hp]
 ·rename_i b o' he
  rw [he] at hr
  refine ai (x:=a.eval x) (w':=w) ?_ (by rw [hd];exact .put hs hN hr h)
  obtain ⟨_,hp,_⟩:=hr.fn_inv
  simp [execOp,ho,hp]
 ·rename_i f b o' he
  rw [he] at hr
  refine ai (x:=a.eval x) (w':=w) ?_ (by rw [hd];exact .put hs hN hr h)
  obtain ⟨_,hp⟩:=hr.fb_inv
  simp [execOp,ho,hp]
 ·exact h.elim
theorem s_no (hs:RepS W0 κ σ a w) {x:Operand} {x':Opd} {t:TypeId} (ho:o.op=.unOp .not t x) (hd:o.dst=some d) (hx:ax z x=some x') (hN:d<a.tmps.size)
  (h:eff call σ id (.no d x') F):o.wp P a w (After W0 κ σ a w id F) Q:=by
 have hr:=am hs hx
 simp only [eff] at h
 split at h
 ·rename_i t he
  rw [he] at hr
  have e:=hr.sc_inv
  refine ai (x:=.bool !t) (w':=w) ?_ (by rw [hd];exact .put hs hN (.sc (.b !t)) h)
  simp [execOp,ho,e,Op.unary,Sc.val]
 ·exact h.elim
theorem s_fa (hs:RepS W0 κ σ a w) {x:Operand} {x':Opd} {t:TypeId} {i:Nat} {fs:Array Field} {f:Field} (ho:o.op=.fieldAddr t x i) (hd:o.dst=some d) (hx:ax z x=some x')
  (hu:P.underlying t=some (.struct fs)) (hf:fs[i]? = some f) {n:Nat} (hn:(P.info? f.type).map (·.size)=some n) (hn0:n≠0) (hN:d<a.tmps.size)
  (h:eff call σ id (.fa d x' f.offset) F):o.wp P a w (After W0 κ σ a w id F) Q:=by
 have hr:=am hs hx
 have hrun:∀ b q,a.eval x=.pointer (some ⟨b,q,none⟩)→(execOp a.eval o).run P w=.ok (.value (.pointer (some ⟨b,q+f.offset,none⟩))) w:=by
  intro b q e
  simp [execOp,ho,e,Instr.fieldAt,run_underlying hu,hf,Instr.sureAddr,fieldPlace,aW hn,hn0,bg]
 simp only [eff] at h
 split at h
 ·rename_i b o' he
  rw [he] at hr
  obtain ⟨hb,hp⟩:=hr.ptr_inv
  exact ai (hrun _ _ hp) (by rw [hd,Nat.add_assoc];exact .put hs hN (.ptr b (o'+f.offset) hb) h)
 ·rename_i l o' he
  rw [he] at hr
  obtain ⟨b,q,hp,hc⟩:=hr.elp_inv
  exact ai (hrun _ _ hp) (by rw [hd,Nat.add_assoc];exact .put hs hN (.elp l (o'+f.offset) b q hc) h)
 ·exact h.elim
theorem s_fld (hs:RepS W0 κ σ a w) {x:Operand} {x':Opd} {t:TypeId} {i:Nat} {fs:Array Field} {f:Field} (ho:o.op=.field t x i) (hd:o.dst=some d) (hx:ax z x=some x')
  (hu:P.underlying t=some (.struct fs)) (hf:fs[i]? = some f) {n:Nat} {ag:Bool} (hn:(P.info? f.type).map (·.size)=some n) (hag:fF P f.type=some ag) (hN:d<a.tmps.size)
  (h:eff call σ id (.fld d x' f.offset n ag) F):o.wp P a w (After W0 κ σ a w id F) Q:=by
 have hr:=am hs hx
 simp only [eff] at h
 split at h
 ·rename_i l he
  rw [he] at hr
  obtain ⟨vs,hp,hl⟩:=hr.agg_inv
  cases hsub:sub l f.offset n with
  | none=>rw [hsub] at h;exact h.elim
  | some r =>
    rw [hsub] at h
    obtain ⟨g1,g2,g3⟩:=ce hsub
    have hin:f.offset+n≤vs.size:=by rw [hl.1];exact g2
    have hrl:RepL κ w r (vs.extract f.offset (f.offset+n)):=by
     refine ⟨by simp;omega,?_,?_⟩
     ·intro v hv
      obtain ⟨j,hj⟩:=List.mem_iff_getElem?.1 hv
      have hjn:j<n:=by rw [← g1];exact (List.getElem?_eq_some_iff.1 hj).1
      rw [g3 j hjn] at hj
      exact hl.2.1 v (List.mem_of_getElem? hj)
     ·intro j v hj
      have hjn:j<n:=by rw [← g1];exact (List.getElem?_eq_some_iff.1 hj).1
      rw [g3 j hjn] at hj
      have:=hl.2.2 _ v hj
      rw [Array.getD_eq_getD_getElem?] at this ⊢
      rw [Array.getElem?_extract,if_pos (by omega)]
      exact this
    cases ag with
    | true =>
      obtain ⟨h1,h⟩:=aM.1 h
      refine ai (x:=.agg (vs.extract f.offset (f.offset+n))) (w':=w) ?_ (by rw [hd];exact .put hs hN (.agg r _ hrl.1 hrl.2.1 hrl.2.2) h)
      simp [execOp,ho,hp,Instr.field,run_underlying hu,hf,asAgg,part,dl hag,aW hn]
    | false =>
      simp only [ldv] at h
      split at h
      ·rename_i v
       obtain ⟨h1,h⟩:=gR.1 h
       have hn1:n=1:=by simpa using g1.symm
       subst hn1
       have h0:=g3 0 (by omega)
       simp at h0
       have hlt:f.offset<vs.size:=by omega
       have hv:=hl.2.2 f.offset v h0.symm
       refine ai (x:=vs.getD f.offset undef) (w':=w) ?_ (by rw [hd];exact .put hs hN hv h)
       simp [execOp,ho,hp,Instr.field,run_underlying hu,hf,asAgg,part,dl hag,Array.getD,hlt]
      ·exact h.elim
 ·exact h.elim
end ops
end Go.Abs
namespace Go.Abs
open Go
theorem oI (off:Nat):∀ (l:List Value) (k:Nat) (cs:Array Value),off+k+l.length≤cs.size →
  ((l.zipIdx k).foldl (fun cs x=>cs.setIfInBounds (off+x.2) x.1) cs).size=cs.size ∧
  ∀ m,((l.zipIdx k).foldl (fun cs x=>cs.setIfInBounds (off+x.2) x.1) cs)[m]? = if off+k≤m∧m<off+k+l.length then l[m - (off+k)]? else cs[m]?
 | [],k,cs,_=>by simp;omega
 | v :: l, k, cs, h => by
   have ih:=oI off l (k+1) (cs.setIfInBounds (off+k) v) (by simp at h ⊢;omega)
   simp only [List.zipIdx_cons,List.foldl_cons]
   refine ⟨by simpa using ih.1,fun m=>?_⟩
   rw [ih.2 m]
   by_cases h1:off+(k+1)≤m∧m<off+(k+1)+l.length
   ·rw [if_pos h1,if_pos (by simp;omega)]
    rw [show m - (off+k)=(m - (off+(k+1)))+1 by omega]
    simp
   ·rw [if_neg h1]
    by_cases h2:m=off+k
    ·subst h2
     rw [if_pos (by simp)]
     simp at h
     simp [Array.getElem?_setIfInBounds];omega
    ·rw [if_neg (by simp;omega),Array.getElem?_setIfInBounds]
     have:¬ off+k=m:=fun e=>h2 e.symm
     simp [this]
def l6 (off:Nat) (cells vs:Array Value):Array Value:=vs.zipIdx.foldl (fun cs x=>cs.setIfInBounds (off+x.2) x.1) cells
theorem l5 {off:Nat} {cells vs:Array Value} (h:off+vs.size≤cells.size):(l6 off cells vs).size=cells.size ∧
  ∀ m,(l6 off cells vs)[m]? = if off≤m∧m<off+vs.size then vs[m - off]? else cells[m]?:=by
 have:=oI off vs.toList 0 cells (by simpa using h)
 simp only [Nat.add_zero] at this
 unfold l6
 rw [← Array.foldl_toList,Array.toList_zipIdx]
 simpa using this
theorem oM {place:Nat→Option (Nat × Nat)} {cells:Array Value} {i off:Nat} {v:Value} {rest:List (Nat × Value)} (hp:place i=some (off,v.cells.size)) (hf:off+v.cells.size≤cells.size) :
  Instr.fill place cells ((i,v)::rest)=Instr.fill place (l6 off cells v.cells) rest:=by
 conv=>lhs;unfold Instr.fill
 simp only [hp]
 have:¬ off+v.cells.size>cells.size:=by omega
 simp [this,l6]
theorem b9:∀ {l:List AV} {ds:List Data},bB l=some ds→ds.length=l.length∧∀ (j:Nat) (v:AV),l[j]? = some v→∃ d,ds[j]? = some d∧cellD v=some d
 | [],ds,h=>by simp [bB] at h;subst h;simp
 | x :: l, ds, h => by
   simp only [bB] at h
   split at h
   ·cases h
   ·rename_i d hd
    split at h
    ·cases h
    ·rename_i ds' hds
     cases h
     obtain ⟨h1,h2⟩:=b9 hds
     refine ⟨by simp [h1],fun j v hj=>?_⟩
     cases j with
     | zero=>simp at hj;subst hj;exact ⟨d,rfl,hd⟩
     | succ j=>simpa using h2 j v (by simpa using hj)
theorem dq {κ:Gh} {w:World} {v:AV} {c:Value} {d:Data} (h:RepV κ w v c) (hd:cellD v=some d):RepD κ.I w d c:=by
 cases v<;>simp [cellD] at hd
 ·subst hd;rw [h.sc_inv];exact .sc _
 ·subst hd;exact h.sl_inv.1
theorem oU {σ:Log} {sz:Nat}:∀ {xs:List Opd} {F:List (List Data)→Prop},lv σ sz xs F→∃ els,F els∧els.length=xs.length ∧
  ∀ (i:Nat) (x:Opd),xs[i]? = some x→∃ ds,els[i]? = some ds∧bB (flat (ev σ x))=some ds∧ds.length=sz∧∀ u,u∈flat (ev σ x)→one u=true
 | [],F,h=>⟨[],h,rfl,by simp⟩
 | x :: r, F, h => by
   simp only [lv] at h
   obtain ⟨h1,h⟩:=aM.1 h
   split at h
   ·exact h.elim
   ·rename_i ds hds
    split at h
    ·rename_i hb
     obtain ⟨els,g1,g2,g3⟩:=oU h
     refine ⟨ds::els,g1,by simp [g2],fun i y hi=>?_⟩
     cases i with
     | zero=>simp at hi;subst hi;exact ⟨ds,rfl,hds,Nat.eq_of_beq_eq_true hb,h1⟩
     | succ i=>simpa using g3 i y (by simpa using hi)
    ·exact h.elim
theorem i8 {sz:Nat}:∀ (vs:List Value) (k:Nat) (cells:Array Value),(∀ v,v∈vs→v.cells.size=sz)→cells.size=(k+vs.length) * sz →
  ∃ r, Instr.fill (fun i => some (i * sz, sz)) cells ((vs.zipIdx k).map fun p => (p.2, p.1)) = some r ∧ r.size = cells.size ∧ (∀ m, m < k * sz → r[m]? = cells[m]?) ∧
    ∀ i j (v:Value),vs[i]? = some v→j<sz→r[(k+i) * sz+j]? = v.cells[j]?
 | [],k,cells,_,_=>⟨cells,rfl,rfl,fun _ _=>rfl,fun i j v h=>by simp at h⟩
 | x :: vs, k, cells, hv, hs => by
   have hx:x.cells.size=sz:=hv x (by simp)
   have hle:k * sz+x.cells.size≤cells.size:=by
    rw [hs,hx,List.length_cons,show k+(vs.length+1)=(k+1)+vs.length by omega,Nat.add_mul (k+1),Nat.add_mul k 1];omega
   obtain ⟨p1,p2⟩:=l5 hle
   obtain ⟨r,g1,g2,g3,g4⟩:=i8 vs (k+1) (l6 (k * sz) cells x.cells) (fun v h=>hv v (by simp [h])) (by rw [p1,hs];congr 1;simp;omega)
   refine ⟨r,?_,g2.trans p1,?_,?_⟩
   ·simp only [List.zipIdx_cons,List.map_cons]
    rw [oM (off:=k * sz) (by simp [hx]) hle]
    exact g1
   ·intro m hm
    rw [g3 m (by rw [Nat.add_mul];omega),p2 m,if_neg (by omega)]
   ·intro i j v hi hj
    cases i with
    | zero =>
      simp at hi;subst hi
      rw [Nat.add_zero,g3 _ (by rw [Nat.add_mul];omega),p2,if_pos (by omega)]
      congr 1;omega
    | succ i =>
      have:=g4 i j v (by simpa using hi) hj
      rw [← this,show k+(i+1)=k+1+i by omega]
section ops
variable {P:Program} {W0:World} {κ:Gh} {σ:Log} {a:Act} {w:World} {id:Nat} {F:Log→Prop} {call:aX} {o:Oper} {Q:Exit→Act→World→Prop} {d:Nat} {z:Option Nat}
def iR (z:Option Nat):Nat→List (Nat × Operand)→Option (List Opd)
 | _,[]=>some []
 | k, (i, x) :: r => if i = k then match ax z x with
   | none=>none
   | some y => match iR z (k + 1) r with
     | none=>none
     | some ys=>some (y::ys)
   else none
theorem gG (hs:RepS W0 κ σ a w):∀ {ps:List (Nat × Operand)} {k:Nat} {xs:List Opd},iR z k ps=some xs →
  (ps.map fun p=>(p.1,a.eval p.2))=((ps.map fun p=>a.eval p.2).zipIdx k).map (fun p=>(p.2,p.1))∧xs.length=ps.length ∧
  ∀ (i:Nat) (v:Value),(ps.map fun p=>a.eval p.2)[i]? = some v→∃ x,xs[i]? = some x∧RepV κ w (ev σ x) v
 | [],k,xs,h=>by simp [iR] at h;subst h;simp
 | (i, x) :: r, k, xs, h => by
   simp only [iR] at h
   split at h
   ·rename_i hi
    subst hi
    split at h
    ·cases h
    ·rename_i y hy
     split at h
     ·cases h
     ·rename_i ys hys
      cases h
      obtain ⟨h1,h2,h3⟩:=gG hs hys
      refine ⟨by simp [h1],by simp [h2],fun j v hj=>?_⟩
      cases j with
      | zero=>simp at hj;subst hj;exact ⟨y,rfl,am hs hy⟩
      | succ j=>simpa using h3 j v (by simpa using hj)
   ·cases h
def PartsOK (κ : Gh) (σ : Log) (a : Act) (w : World) (ps : List (Nat × Operand)) (xs : List Opd) : Prop :=
    (ps.map fun p=>(p.1,a.eval p.2))=((ps.map fun p=>a.eval p.2).zipIdx 0).map (fun p=>(p.2,p.1))∧xs.length=ps.length ∧
    ∀ (i:Nat) (v:Value),(ps.map fun p=>a.eval p.2)[i]? = some v→∃ x,xs[i]? = some x∧RepV κ w (ev σ x) v
theorem s_bslG (hs:RepS W0 κ σ a w) {t e:TypeId} {n sz:Nat} {ps:Array (Nat × Operand)} {xs:List Opd} {ie:TypeInfo} {zv:Value} (ho:o.op=.buildSlice t n ps) (hd:o.dst=some d)
  (hu:P.underlying t=some (.slice e)) (hie:P.info? e=some ie) (hz:ie.zero=some zv) (hsz:ie.size=sz) (hsmall:n * sz≤2 ^ 24) (hn0:0<n) (hsz0:0<sz)
  (hps:PartsOK κ σ a w ps.toList xs) (hlen:xs.length=n) (hN:d<a.tmps.size) (h:eff call σ id (.bsl d sz xs) F):o.wp P a w (After W0 κ σ a w id F) Q:=by
 obtain ⟨els,hF,hel,hels⟩:=oU (show lv σ sz xs fun els=>F [(.s d,.av (.sl sz els .full))] from h)
 obtain ⟨p1,p2,p3⟩:=hps
 have hcellsz:∀ v,v∈(ps.toList.map fun p=>a.eval p.2)→v.cells.size=sz:=by
  intro v hv
  obtain ⟨i,hi⟩:=List.mem_iff_getElem?.1 hv
  obtain ⟨x,hx,hr⟩:=p3 i v hi
  obtain ⟨ds,_,g2,g3,g4⟩:=hels i x hx
  rw [(eH hr g4).1,← (b9 g2).1,g3]
 have hvl:(ps.toList.map fun p=>a.eval p.2).length=n:=by rw [List.length_map,← p2,hlen]
 obtain ⟨r,f1,f2,_,f4⟩:=i8 (sz:=sz) (ps.toList.map fun p=>a.eval p.2) 0 ((Array.range (n * sz)).map (zv.cells[· % zv.cells.size]!)) hcellsz (by simp [hvl,← hlen,p2])
 have hmul:n * sz≠0:=Nat.mul_ne_zero (by omega) (by omega)
 have hrun:=run_buildSlice (P:=P) w t e n (ps.map fun x=>(x.1,a.eval x.2)) r ie zv hu hie hz (by rw [hsz];omega) (by rw [hsz];exact hmul) (by
  rw [hsz,Array.toList_map]
  rw [p1];exact f1)
 refine ai (x:=.slice (some ⟨w.heap.size,0,none⟩) n n) (w':=w.alloc (.cells r e)) ?_ ?_
 ·simp only [execOp,ho,Sem.run_bind]
  rw [hrun];simp
 ·obtain ⟨s1,s2,s3⟩:=hs.row r e (n * sz)
  have heln:els.length=n:=hel.trans hlen
  have hcell:∀ i j,i<n→j<sz→∃ v,(ps.toList.map fun p=>a.eval p.2)[i]? = some v∧r[i * sz+j]? = v.cells[j]?:=by
   intro i j hi hj
   refine ⟨_,List.getElem?_eq_getElem (by rw [hvl];exact hi),?_⟩
   have:=f4 i j _ (List.getElem?_eq_getElem (by rw [hvl];exact hi)) hj
   simpa using this
  rw [hd]
  refine ⟨_,_,hF,s1.put hN ?_,s2.trans Step.put,put_size,⟨fun b hb=>.inl hb,fun k hk=>.inl hk⟩⟩
  refine .sl sz els .full _ ?_ (fun A m c e=>by cases e;rfl)
  have hD:=RepD.lst (I:=fun b o=>κ.I b o∨(b=w.heap.size∧o<n * sz)) (w:=w.alloc (.cells r e)) sz els w.heap.size 0 n (fun i j=>r.getD (i * sz+j) undef) (by omega) ?_ ?_ ?_ ?_
  ·rw [heln] at hD;exact hD
  ·intro e' he
   obtain ⟨i,hi⟩:=List.mem_iff_getElem?.1 he
   have hil:=(List.getElem?_eq_some_iff.1 hi).1
   obtain ⟨ds,g1,_,g3,_⟩:=hels i xs[i] (List.getElem?_eq_getElem (by omega))
   rw [hi] at g1;cases g1;exact g3
  ·intro i j hi hj
   refine .inr ⟨rfl,?_⟩
   have:i * sz+sz≤n * sz:=by rw [← Nat.succ_mul];exact Nat.mul_le_mul_right _ (by omega)
   omega
  ·intro i j hi hj
   obtain ⟨v,g1,g2⟩:=hcell i j (by omega) hj
   have hvs:=hcellsz v (List.mem_of_getElem? g1)
   have:(w.alloc (.cells r e)).cell? ⟨w.heap.size,0+i * sz+j,none⟩=r[0+i * sz+j]?:=au heap_alloc_new
   rw [this,Nat.zero_add,Array.getD_eq_getD_getElem?,g2]
   rw [Array.getElem?_eq_getElem (by omega)];rfl
  ·intro i j e' dd he hdd
   have hil:=(List.getElem?_eq_some_iff.1 he).1
   have hix:i<xs.length:=by omega
   obtain ⟨ds,g1,g2,g3,g4⟩:=hels i xs[i] (List.getElem?_eq_getElem hix)
   rw [he] at g1;cases g1
   have hj:j<sz:=by rw [← g3];exact (List.getElem?_eq_some_iff.1 hdd).1
   obtain ⟨v,k1,k2⟩:=hcell i j (by omega) hj
   obtain ⟨x,hx,hr⟩:=p3 i v k1
   have hx':xs[i]=x:=by rw [List.getElem?_eq_getElem hix] at hx;exact Option.some.inj hx
   subst hx'
   have hfl:=eH hr g4
   obtain ⟨c1,c2⟩:=b9 g2
   have hjl:j<(flat (ev σ xs[i])).length:=by rw [← c1,g3];exact hj
   obtain ⟨d',q1,q2⟩:=c2 j _ (List.getElem?_eq_getElem hjl)
   rw [hdd] at q1;cases q1
   have:=dq (hfl.2.2 j _ (List.getElem?_eq_getElem hjl)) q2
   rw [Array.getD_eq_getD_getElem?,k2,← Array.getD_eq_getD_getElem?]
   exact this.mono s3.I_ s3.cell
def bldC (P:Program) (fs:Array Field):List (Nat × Operand)→Option (List (Nat × Nat × Opd))
 | []=>some []
 | (i, x) :: r => match fs[i]? with
   | none=>none
   | some f => match (P.info? f.type).map (·.size) with
     | none=>none
     | some n => match ax (cw P f.type) x with
       | none=>none
       | some y => match bldC P fs r with
         | none=>none
         | some ys=>some ((f.offset,n,y)::ys)
theorem s_bsl (hs:RepS W0 κ σ a w) {t e:TypeId} {n sz:Nat} {ps:Array (Nat × Operand)} {xs:List Opd} {ie:TypeInfo} {zv:Value} (ho:o.op=.buildSlice t n ps) (hd:o.dst=some d)
  (hu:P.underlying t=some (.slice e)) (hie:P.info? e=some ie) (hz:ie.zero=some zv) (hsz:ie.size=sz) (hsmall:n * sz≤2 ^ 24) (hn0:0<n) (hsz0:0<sz)
  (hps:iR z 0 ps.toList=some xs) (hlen:xs.length=n) (hN:d<a.tmps.size) (h:eff call σ id (.bsl d sz xs) F):o.wp P a w (After W0 κ σ a w id F) Q:=
 s_bslG hs ho hd hu hie hz hsz hsmall hn0 hsz0 (gG hs hps) hlen hN h
theorem repL_put {l new r:List AV} {C V:Array Value} {o:Nat} (hl:RepL κ w l C) (hn:RepL κ w new V) (hr:be o new l=some r) :
  RepL κ w r (l6 o C V)∧o+V.size≤C.size:=by
 obtain ⟨h1,h2,h3⟩:=gz hr
 have hV:V.size=new.length:=hn.1
 have hb:o+V.size≤C.size:=by rw [hV,hl.1];exact h1
 obtain ⟨p1,p2⟩:=l5 hb
 have hcase:∀ j v,r[j]? = some v→(o≤j∧j<o+new.length∧new[j - o]? = some v)∨(¬ (o≤j∧j<o+new.length)∧l[j]? = some v):=by
  intro j v hj
  rw [h3 j] at hj
  by_cases hh:o≤j∧j<o+new.length
  ·rw [if_pos hh] at hj;exact .inl ⟨hh.1,hh.2,hj⟩
  ·rw [if_neg hh] at hj;exact .inr ⟨hh,hj⟩
 refine ⟨⟨by rw [p1,h2,hl.1],?_,?_⟩,hb⟩
 ·intro v hv
  obtain ⟨j,hj⟩:=List.mem_iff_getElem?.1 hv
  rcases hcase j v hj with ⟨_,_,g⟩ | ⟨_,g⟩
  ·exact hn.2.1 v (List.mem_of_getElem? g)
  ·exact hl.2.1 v (List.mem_of_getElem? g)
 ·intro j v hj
  rw [Array.getD_eq_getD_getElem?,p2 j,hV]
  rcases hcase j v hj with ⟨g1,g2,g3⟩ | ⟨g1,g2⟩
  ·rw [if_pos ⟨g1,g2⟩]
   have:=hn.2.2 (j - o) v g3
   rwa [Array.getD_eq_getD_getElem?] at this
  ·rw [if_neg g1]
   have:=hl.2.2 j v g2
   rwa [Array.getD_eq_getD_getElem?] at this
theorem bld_spec (hs:RepS W0 κ σ a w) {fs:Array Field} {places:Nat→Option (Nat × Nat)} (hpl:∀ (i:Nat) (f:Field) (n:Nat),fs[i]? = some f→(P.info? f.type).map (·.size)=some n→places i=some (f.offset,n)) :
  ∀ {ps:List (Nat × Operand)} {ys:List (Nat × Nat × Opd)} {l:List AV} {C:Array Value} {G:List AV→Prop},bldC P fs ps=some ys→RepL κ w l C→bld σ ys l G →
  ∃ r R,G r∧RepL κ w r R∧Instr.fill places C (ps.map fun p=>(p.1,a.eval p.2))=some R
 | [], ys, l, C, G, h, hl, hb => by
   simp [bldC] at h;subst h
   exact ⟨l,C,hb,hl,rfl⟩
 | (i, x) :: ps, ys, l, C, G, h, hl, hb => by
   simp only [bldC] at h
   split at h
   ·cases h
   ·rename_i f hf
    split at h
    ·cases h
    ·rename_i n hn
     split at h
     ·cases h
     ·rename_i y hy
      split at h
      ·cases h
      ·rename_i ys' hys
       cases h
       simp only [bld] at hb
       obtain ⟨h1,hb⟩:=aM.1 hb
       split at hb
       ·rename_i hbe
        split at hb
        ·rename_i r hr
         have hv:=eH (am hs hy) h1
         obtain ⟨k1,k2⟩:=repL_put hl hv hr
         obtain ⟨r',R',g1,g2,g3⟩:=bld_spec hs hpl hys k1 hb
         refine ⟨r',R',g1,g2,?_⟩
         have hsz:(a.eval x).cells.size=n:=by rw [hv.1,Nat.eq_of_beq_eq_true hbe]
         simp only [List.map_cons]
         rw [oM (off:=f.offset) (by rw [hpl i f n hf hn,hsz]) k2]
         exact g3
        ·exact hb.elim
       ·exact hb.elim
def pg (P:Program) (fs:Array Field):Bool:=fs.toList.all fun f=>(P.info? f.type).isSome
theorem iz {α β:Type} {P:Program} {w:World} {g:α→Go.Sem β} {r:α→β}:∀ (l:List α),(∀ x,x∈l→(g x).run P w=.ok (r x) w)→(l.mapM g).run P w=.ok (l.map r) w
 | [],_=>by simp
 | x :: l, h => by
   have ih:=iz l fun y hy=>h y (by simp [hy])
   rw [List.mapM_cons,Sem.run_bind,h x (by simp),Result.andThen_ok,Sem.run_bind,ih]
   simp
theorem run_places {fs:Array Field} (h:pg P fs=true) :
  (Array.mapM (fun f:Field=>do let s ← Go.sizeOf f.type;pure (f.offset,s)) fs:Go.Sem (Array (Nat × Nat))).run P w=.ok (fs.map fun f=>(f.offset,((P.info? f.type).map (·.size)).getD 0)) w:=by
 have hl:=iz (P:=P) (w:=w) (g:=fun f:Field=>do let s ← Go.sizeOf f.type;pure (f.offset,s)) (r:=fun f=>(f.offset,((P.info? f.type).map (·.size)).getD 0)) fs.toList (by
  intro f hf
  obtain ⟨i,hi⟩:=Option.isSome_iff_exists.1 (List.all_eq_true.1 h f hf)
  simp [Go.sizeOf,run_typeInfo w hi,hi])
 rw [Array.mapM_eq_mapM_toList]
 simp only [Sem.run_map,hl,Result.andThen_ok]
 congr 1
 apply Array.ext'
 simp
theorem s_build (hs:RepS W0 κ σ a w) {t:TypeId} {fs:Array Field} {ps:Array (Nat × Operand)} {l:List AV} {ys:List (Nat × Nat × Opd)} (ho:o.op=.build t ps) (hd:o.dst=some d)
  (hu:P.underlying t=some (.struct fs)) (hz:ct P t=some l) (hok:pg P fs=true) (hps:bldC P fs ps.toList=some ys) (hN:d<a.tmps.size)
  (h:eff call σ id (.build d l ys) F):o.wp P a w (After W0 κ σ a w id F) Q:=by
 obtain ⟨i,v,hi,hv,hl⟩:=cF hz
 have h':bld σ ys l fun z=>eF z fun z=>F [(.s d,.av (.agg z))]:=h
 obtain ⟨r,R,g1,g2,g3⟩:=bld_spec (P:=P) hs (places:=fun x=>(fs.map fun f=>(f.offset,((P.info? f.type).map (·.size)).getD 0))[x]?) (by
  intro i f n hf hn
  simp [hf,hn]) hps (hl κ w) h'
 obtain ⟨_,g1⟩:=aM.1 g1
 refine ai (x:=.agg R) (w':=w) ?_ (by rw [hd];exact .put hs hN (.agg r R g2.1 g2.2.1 g2.2.2) g1)
 have e:(Array.map (fun x:Nat × Operand=>(x.1,a.eval x.2)) ps).toList=ps.toList.map fun p=>(p.1,a.eval p.2):=by simp
 simp only [execOp,ho,Sem.run_bind,Instr.build,zeroValue,run_typeInfo w hi,hv,Result.andThen_ok,Sem.run_pure,run_underlying hu w]
 simp only [run_places hok,Result.andThen_ok]
 rw [e,g3]
 simp
end ops
end Go.Abs
namespace Go.Abs
open Go
def compB:BinOp→Option Bin
 | .add=>some .add | .sub=>some .sub | .mul=>some .mul | .quo=>some .quo | .rem=>some .rem
 | .and=>some .and | .or=>some .or | .xor=>some .xor | .andNot=>some .andNot
 | .eql=>some .eql | .neq=>some .neq | .lss=>some .lss | .leq=>some .leq | .gtr=>some .gtr | .geq=>some .geq
 | _=>none
theorem ikBeq_eq {k k':IntKind} (h:gp k k'=true):k=k'∧(k=.i64∨k=.u8∨k=.i32∨k=.u64):=by
 cases k<;>cases k'<;>simp [gp] at h ⊢
theorem ep {k:IntKind} {n:Int} (h:eK k n):k.wrap n=n:=by
 cases k<;>simp only [eK] at h
 ·exact IntWalk.i64_in n h
 ·exact IntWalk.u8_in n h
 ·exact IntWalk.u64_in n h
section ops
variable {P:Program} {W0:World} {κ:Gh} {σ:Log} {a:Act} {w:World} {id:Nat} {F:Log→Prop} {call:aX} {o:Oper} {Q:Exit→Act→World→Prop} {d:Nat} {z:Option Nat}
theorem beq_dec (m n:List UInt8):(m == n)=decide (m=n):=by
 rw [Bool.eq_iff_iff];simp
theorem size_mk (l:List UInt8):(ByteArray.mk l.toArray).size=l.length:=by simp [ByteArray.size]
theorem s_bin (hs:RepS W0 κ σ a w) {b:BinOp} {b':Bin} {t1 t2:TypeId} {x y:Operand} {x' y':Opd} {z1 z2:Option Nat} (ho:o.op=.binOp b t1 x y t2) (hd:o.dst=some d) (hx:ax z1 x=some x') (hy:ax z2 y=some y')
  (hb:compB b=some b') (hN:d<a.tmps.size) (h:eff call σ id (.bin d b' x' y') F):o.wp P a w (After W0 κ σ a w id F) Q:=by
 have hrx:=am hs hx
 have hry:=am hs hy
 simp only [eff,kz] at h
 split at h
 ·rename_i k m k' n he1 he2
  rw [he1] at hrx
  rw [he2] at hry
  have ex:=hrx.sc_inv
  have ey:=hry.sc_inv
  simp only [Sc.val] at ex ey
  split at h
  ·rename_i hk
   obtain ⟨rfl,hk2⟩:=ikBeq_eq hk
   have key:∃ c:Sc,(binOp b t1 (.int k m) (.int k n)).run P w=.ok c.val w∧F [(.s d,.av (.sc c))]:=by
    cases b<;>simp [compB] at hb<;>subst hb<;>simp only [binI] at h
    ·exact ⟨_,by simp [binOp,Op.intArith,Sc.val,ep h.1],h.2⟩
    ·exact ⟨_,by simp [binOp,Op.intArith,Sc.val,ep h.1],h.2⟩
    ·exact ⟨_,by simp [binOp,Op.intArith,Sc.val,ep h.1],h.2⟩
    ·obtain ⟨⟨f,h0,h1⟩,h2⟩:=h
     refine ⟨_,?_,h2⟩
     have hn0:n≠0:=by omega
     have hq:m.tdiv n=m / n:=Int.tdiv_eq_ediv_of_nonneg h0
     have hle:0≤m / n∧m / n≤m:=⟨Int.ediv_nonneg h0 (by omega),Int.ediv_le_self _ h0⟩
     have hf:eK k (m / n):=by
      rcases hk2 with rfl | rfl | rfl | rfl<;>simp only [eK] at f ⊢<;>omega
     simp [binOp,Op.intDiv,hn0,Sc.val,hq,ep hf]
    ·obtain ⟨⟨h0,h1⟩,h2⟩:=h
     refine ⟨_,?_,h2⟩
     have hn0:n≠0:=by omega
     simp [binOp,Op.intDiv,hn0,Sc.val,Int.tmod_eq_emod_of_nonneg h0]
    all_goals
     refine ⟨_,?_,h⟩
     simp [binOp,Op.intCmp,Sc.val]
     try rfl
   obtain ⟨c,hr,hF⟩:=key
   refine ai (x:=c.val) (w':=w) ?_ (by rw [hd];exact .put hs hN (.sc c) hF)
   simp only [execOp,ho,ex,ey]
   cases b<;>simp [eqGuard]<;>rw [hr]<;>rfl
  ·exact h.elim
 ·rename_i m n he1 he2
  rw [he1] at hrx
  rw [he2] at hry
  have ex:=hrx.sc_inv
  have ey:=hry.sc_inv
  simp only [Sc.val] at ex ey
  have key:∃ c:Sc,(binOp b t1 (.string ⟨m.toArray⟩) (.string ⟨n.toArray⟩)).run P w=.ok c.val w∧F [(.s d,.av (.sc c))]:=by
   cases b<;>simp [compB] at hb<;>subst hb<;>simp only [binS] at h
   all_goals first | exact h.elim | skip
   ·obtain ⟨h0,h1⟩:=h
    refine ⟨_,?_,h1⟩
    have hm:(ByteArray.mk m.toArray).size+(ByteArray.mk n.toArray).size=m.length+n.length:=by simp [ByteArray.size]
    have hle:¬ ((((ByteArray.mk m.toArray).size+(ByteArray.mk n.toArray).size:Nat):Int)>IntKind.i64.max):=by
     rw [hm];have:IntKind.i64.max=9223372036854775807:=by rfl
     rw [this];omega
    simp only [binOp,Op.stringOp]
    rw [if_neg hle]
    simp only [Sem.run_pure,Sc.val]
    have e:(ByteArray.mk m.toArray)++(ByteArray.mk n.toArray)=ByteArray.mk (m++n).toArray:=by
     apply ByteArray.ext
     simp
    rw [e]
   all_goals
    refine ⟨_,?_,h⟩
    simp [binOp,Op.stringOp,Sc.val,aH,beq_dec]
  obtain ⟨c,hr,hF⟩:=key
  refine ai (x:=c.val) (w':=w) ?_ (by rw [hd];exact .put hs hN (.sc c) hF)
  simp only [execOp,ho,ex,ey]
  cases b<;>simp [eqGuard]<;>rw [hr]<;>rfl
 ·exact h.elim
theorem s_ia (hs:RepS W0 κ σ a w) {t e:TypeId} {sz:Nat} {x y:Operand} {x' y':Opd} {z1 z2:Option Nat} (ho:o.op=.indexAddr t x y) (hd:o.dst=some d) (hx:ax z1 x=some x') (hy:ax z2 y=some y')
  (hu:P.underlying t=some (.slice e)) (hn:(P.info? e).map (·.size)=some sz) (hN:d<a.tmps.size) (h:eff call σ id (.ia d sz x' y') F):o.wp P a w (After W0 κ σ a w id F) Q:=by
 have hrx:=am hs hx
 have hry:=am hs hy
 simp only [eff] at h
 split at h
 ·rename_i zz els tk k n he1 he2
  rw [he1] at hrx
  rw [he2] at hry
  have ey:=hry.sc_inv
  simp only [Sc.val] at ey
  split at h
  ·rename_i hb
   obtain ⟨el,⟨h0,hel⟩,hF⟩:=h
   have hz:=Nat.eq_of_beq_eq_true hb
   subst hz
   have hlt:n.toNat<els.length:=(List.getElem?_eq_some_iff.1 hel).1
   obtain ⟨hD,_⟩:=hrx.sl_inv
   generalize hv:a.eval x=v at hD
   cases hD with
   | nil=>simp at hlt
   | lst _ _ b q cap C hnc hlen hI hc hr =>
     have hnn:n<els.length:=by omega
     refine ai (x:=.pointer (some ⟨b,q+n.toNat * sz,none⟩)) (w':=w) ?_ ?_
     ·simp [execOp,ho,hv,ey,Instr.indexAt,asIntOf,run_underlying hu,h0,hnn,aW hn,bg]
     ·rw [hd]
      have hl:=hlen el (List.mem_of_getElem? hel)
      have:=RepV.elp (κ:=κ) (w:=w) el 0 b (q+n.toNat * sz) (fun j dd hj=>by
       have hjs:j<sz:=by rw [← hl];exact (List.getElem?_eq_some_iff.1 hj).1
       exact ⟨C n.toNat j,hI _ _ hlt hjs,hc _ _ hlt hjs,hr _ _ _ _ hel hj⟩)
      exact .put hs hN this hF
  ·exact h.elim
 ·rename_i zz els b m tk k n he1 he2
  rw [he1] at hrx
  rw [he2] at hry
  have ey:=hry.sc_inv
  simp only [Sc.val] at ey
  split at h
  ·rename_i hb
   obtain ⟨⟨h0,h1,h2⟩,hF⟩:=h
   have hz:=Nat.eq_of_beq_eq_true hb
   subst hz
   obtain ⟨off,cap,hd',ho',hn',_,_,hv⟩:=hrx.mx_inv
   have hnn:n<els.length+m:=by omega
   have e:(κ.ι b).2+(n.toNat - els.length) * sz=off+n.toNat * sz:=by
    rw [ho',Nat.add_assoc,← Nat.add_mul];congr 2;omega
   have hp:=RepV.ptr (κ:=κ) (w:=w) b ((n.toNat - els.length) * sz) hd'
   rw [e] at hp
   refine ai (x:=.pointer (some ⟨(κ.ι b).1,off+n.toNat * sz,none⟩)) (w':=w) ?_ (by rw [hd];exact .put hs hN hp hF)
   have hc:(n:Int)<((els.length+m:Nat):Int):=by omega
   simp [execOp,ho,hv,ey,Instr.indexAt,asIntOf,run_underlying hu,h0,hnn,aW hn,bg]
  ·exact h.elim
 ·rename_i zz b q m c tk k n he1 he2
  rw [he1] at hrx
  rw [he2] at hry
  have ey:=hry.sc_inv
  simp only [Sc.val] at ey
  split at h
  ·rename_i hb
   obtain ⟨⟨h0,h1⟩,hF⟩:=h
   have hz:=Nat.eq_of_beq_eq_true hb
   subst hz
   obtain ⟨cap,hd',h2,h3,_,hv⟩:=hrx.cs_inv
   have hnn:n<m:=by omega
   have hp:=RepV.ptr (κ:=κ) (w:=w) b (q+n.toNat * sz) hd'
   refine ai (x:=.pointer (some ⟨(κ.ι b).1,(κ.ι b).2+(q+n.toNat * sz),none⟩)) (w':=w) ?_ (by rw [hd];exact .put hs hN hp hF)
   simp [execOp,ho,hv,ey,Instr.indexAt,asIntOf,run_underlying hu,h0,hnn,aW hn,bg,Nat.add_assoc]
  ·exact h.elim
 ·exact h.elim
theorem s_ix (hs:RepS W0 κ σ a w) {t:TypeId} {x y:Operand} {x' y':Opd} {z1 z2:Option Nat} (ho:o.op=.index t x y) (hd:o.dst=some d) (hx:ax z1 x=some x') (hy:ax z2 y=some y')
  (hu:P.underlying t=some .string) (hN:d<a.tmps.size) (h:eff call σ id (.ix d x' y') F):o.wp P a w (After W0 κ σ a w id F) Q:=by
 have hrx:=am hs hx
 have hry:=am hs hy
 simp only [eff] at h
 split at h
 ·rename_i l k n he1 he2
  rw [he1] at hrx
  rw [he2] at hry
  have ex:=hrx.sc_inv
  have ey:=hry.sc_inv
  simp only [Sc.val] at ex ey
  obtain ⟨e,⟨h0,he⟩,hF⟩:=h
  have hlt:n.toNat<l.length:=(List.getElem?_eq_some_iff.1 he).1
  refine ai (x:=.int .u8 e.toNat) (w':=w) ?_ (by rw [hd];exact .put hs hN (.sc (.i .u8 e.toNat)) hF)
  have hget:(ByteArray.mk l.toArray)[n.toNat]? = some e:=by
   have:(ByteArray.mk l.toArray).size=l.length:=by simp [ByteArray.size]
   rw [getElem?_pos _ _ (by rw [this];exact hlt)]
   have e':=(List.getElem?_eq_some_iff.1 he).2
   rw [← e'];rfl
  simp [execOp,ho,ex,ey,Instr.index,asIntOf,run_underlying hu,h0,hget]
 ·exact h.elim
theorem s_cvi (hs:RepS W0 κ σ a w) {t1 t2:TypeId} {k k0:IntKind} {x:Operand} {x':Opd} (ho:o.op=.convert t1 t2 x) (hd:o.dst=some d) (hx:ax z x=some x')
  (hu1:P.underlying t1=some (.int k0)) (hu2:P.underlying t2=some (.int k)) (hN:d<a.tmps.size) (h:eff call σ id (.cvi d k x') F):o.wp P a w (After W0 κ σ a w id F) Q:=by
 have hr:=am hs hx
 simp only [eff] at h
 split at h
 ·rename_i k' n he
  rw [he] at hr
  have e:=hr.sc_inv
  simp only [Sc.val] at e
  refine ai (x:=.int k n) (w':=w) ?_ (by rw [hd];exact .put hs hN (.sc (.i k n)) h.2)
  simp [execOp,ho,e,convert,run_underlying hu1,run_underlying hu2,Conv.intToInt,ep h.1]
 ·exact h.elim
theorem s_cvu (hs:RepS W0 κ σ a w) {t1 t2:TypeId} {x:Operand} {x':Opd} (ho:o.op=.convert t1 t2 x) (hd:o.dst=some d) (hx:ax z x=some x')
  (hu1:P.underlying t1=some (.int .u64)) (hu2:P.underlying t2=some (.int .i64)) (hN:d<a.tmps.size) (h:eff call σ id (.cvu d x') F):o.wp P a w (After W0 κ σ a w id F) Q:=by
 have hr:=am hs hx
 simp only [eff] at h
 split at h
 ·rename_i n he
  rw [he] at hr
  have e:=hr.sc_inv
  simp only [Sc.val] at e
  have hw:IntKind.i64.wrap n=n - 18446744073709551616:=by
   rw [IntKind.wrap_i64];omega
  refine ai (x:=.int .i64 (n - 18446744073709551616)) (w':=w) ?_ (by rw [hd];exact .put hs hN (.sc (.i .i64 (n - 18446744073709551616))) h.2)
  simp [execOp,ho,e,convert,run_underlying hu1,run_underlying hu2,Conv.intToInt,hw]
 ·exact h.elim
theorem s_ext (hs:RepS W0 κ σ a w) {i:Nat} {x:Operand} {x':Opd} (ho:o.op=.extract x i) (hd:o.dst=some d) (hx:ax z x=some x')
  (hN:d<a.tmps.size) (h:eff call σ id (.ext d x' i) F):o.wp P a w (After W0 κ σ a w id F) Q:=by
 have hr:=am hs hx
 simp only [eff] at h
 split at h
 ·rename_i l he
  rw [he] at hr
  obtain ⟨vs,e,hsz,hv⟩:=hr.tup_inv
  split at h
  ·rename_i v hl
   obtain ⟨_,h⟩:=cl.1 h
   have hlt:i<vs.size:=by rw [hsz];exact (List.getElem?_eq_some_iff.1 hl).1
   refine ai (x:=vs.getD i undef) (w':=w) ?_ (by rw [hd];exact .put hs hN (hv i v hl) h)
   simp [execOp,ho,e,Instr.extract,hlt,Array.getD]
  ·exact h.elim
 ·exact h.elim
theorem RepD.len {I:Nat→Nat→Prop} {w:World} {sz:Nat} {els:List (List Data)} {x:Value} (h:RepD I w (.lst sz els) x):∃ A cap,x=.slice A els.length cap:=by
 cases h with
 | nil _ a=>exact ⟨a,0,rfl⟩
 | lst=>exact ⟨_,_,rfl⟩
theorem s_len (hs:RepS W0 κ σ a w) {t e:TypeId} {x:Operand} {x':Opd} (ho:o.op=.call { callee:=.builtin .len,args:=#[x],argTypes:=#[t] }) (hd:o.dst=some d) (hx:ax z x=some x')
  (hu:P.underlying t=some (.slice e)) (hN:d<a.tmps.size) (h:eff call σ id (.len d x') F):o.wp P a w (After W0 κ σ a w id F) Q:=by
 have hr:=am hs hx
 simp only [eff] at h
 split at h
 ·rename_i zz els tk he
  rw [he] at hr
  obtain ⟨A,cap,hA⟩:=hr.sl_inv.1.len
  refine ai (x:=.int .i64 els.length) (w':=w) ?_ (by rw [hd];exact .put hs hN (.sc (.i .i64 els.length)) h)
  simp [execOp,ho,hA,resolve,invoke,builtin,Builtin.len_,run_underlying hu,goInt]
 ·rename_i zz els b n tk he
  rw [he] at hr
  obtain ⟨off,cap,_,_,_,_,_,hA⟩:=hr.mx_inv
  refine ai (x:=.int .i64 ((els.length+n:Nat):Int)) (w':=w) ?_ (by rw [hd];exact .put hs hN (.sc (.i .i64 ((els.length+n:Nat):Int))) h)
  simp [execOp,ho,hA,resolve,invoke,builtin,Builtin.len_,run_underlying hu,goInt]
 ·rename_i zz b q n c tk he
  rw [he] at hr
  obtain ⟨cap,_,_,_,_,hA⟩:=hr.cs_inv
  refine ai (x:=.int .i64 (n:Int)) (w':=w) ?_ (by rw [hd];exact .put hs hN (.sc (.i .i64 (n:Int))) h)
  simp [execOp,ho,hA,resolve,invoke,builtin,Builtin.len_,run_underlying hu,goInt]
 ·exact h.elim
theorem s_lenS (hs:RepS W0 κ σ a w) {t:TypeId} {x:Operand} {x':Opd} (ho:o.op=.call { callee:=.builtin .len,args:=#[x],argTypes:=#[t] }) (hd:o.dst=some d) (hx:ax z x=some x')
  (hu:P.underlying t=some .string) (hN:d<a.tmps.size) (h:eff call σ id (.lenS d x') F):o.wp P a w (After W0 κ σ a w id F) Q:=by
 have hr:=am hs hx
 simp only [eff] at h
 split at h
 ·rename_i l he
  rw [he] at hr
  have e:=hr.sc_inv
  simp only [Sc.val] at e
  refine ai (x:=.int .i64 l.length) (w':=w) ?_ (by rw [hd];exact .put hs hN (.sc (.i .i64 l.length)) h)
  simp [execOp,ho,e,resolve,invoke,builtin,Builtin.len_,run_underlying hu,goInt,size_mk]
 ·exact h.elim
theorem s_mx (hs:RepS W0 κ σ a w) {ts:Array TypeId} {x y:Operand} {x' y':Opd} {z1 z2:Option Nat} (ho:o.op=.call { callee:=.builtin .max,args:=#[x,y],argTypes:=ts }) (hd:o.dst=some d) (hx:ax z1 x=some x') (hy:ax z2 y=some y')
  (hN:d<a.tmps.size) (h:eff call σ id (.mx d x' y') F):o.wp P a w (After W0 κ σ a w id F) Q:=by
 have hrx:=am hs hx
 have hry:=am hs hy
 simp only [eff] at h
 split at h
 ·rename_i m n he1 he2
  rw [he1] at hrx
  rw [he2] at hry
  have ex:=hrx.sc_inv
  have ey:=hry.sc_inv
  simp only [Sc.val] at ex ey
  refine ai (x:=.int .i64 (max m n)) (w':=w) ?_ (by rw [hd];exact .put hs hN (.sc (.i .i64 (max m n))) h)
  simp [execOp,ho,ex,ey,resolve,invoke,builtin,Builtin.max_,Builtin.max2]
  have:max m n=if m<n then n else m:=by
   rw [Int.max_def];split<;>split<;>omega
  rw [this]
 ·exact h.elim
theorem s_mn (hs:RepS W0 κ σ a w) {ts:Array TypeId} {x y:Operand} {x' y':Opd} {z1 z2:Option Nat} (ho:o.op=.call { callee:=.builtin .min,args:=#[x,y],argTypes:=ts }) (hd:o.dst=some d) (hx:ax z1 x=some x') (hy:ax z2 y=some y')
  (hN:d<a.tmps.size) (h:eff call σ id (.mn d x' y') F):o.wp P a w (After W0 κ σ a w id F) Q:=by
 have hrx:=am hs hx
 have hry:=am hs hy
 simp only [eff] at h
 split at h
 ·rename_i m n he1 he2
  rw [he1] at hrx
  rw [he2] at hry
  have ex:=hrx.sc_inv
  have ey:=hry.sc_inv
  simp only [Sc.val] at ex ey
  refine ai (x:=.int .i64 (min m n)) (w':=w) ?_ (by rw [hd];exact .put hs hN (.sc (.i .i64 (min m n))) h)
  simp [execOp,ho,ex,ey,resolve,invoke,builtin,Builtin.min_,Builtin.min2]
  have:min m n=if n<m then n else m:=by
   rw [Int.min_def];split<;>split<;>omega
  rw [this]
 ·exact h.elim
theorem lF (hs:RepS W0 κ σ a w):∀ {xs:List Operand} {ys:List Opd},(∀ (i:Nat) (x:Operand),xs[i]? = some x→∃ y zz,ys[i]? = some y∧ax zz x=some y)→xs.length=ys.length →
  ∀ (j:Nat) (v:AV),(evs σ ys)[j]? = some v→RepV κ w v ((xs.map a.eval).toArray.getD j undef)
 | [],[],_,_,j,v,h=>by simp [evs] at h
 | x :: xs, y :: ys, hxy, hl, j, v, h => by
   cases j with
   | zero =>
     simp [evs] at h
     obtain ⟨y',zz,h1,h2⟩:=hxy 0 x rfl
     simp at h1;subst h1;subst h
     simpa using am hs h2
   | succ j =>
     have:=lF hs (xs:=xs) (ys:=ys) (fun i x hi=>by simpa using hxy (i+1) x (by simpa using hi)) (by simpa using hl) j v (by simpa [evs] using h)
     simpa [Array.getD_eq_getD_getElem?] using this
 | [],_::_,_,hl,_,_,_=>by simp at hl
 | _::_,[],_,hl,_,_,_=>by simp at hl
theorem fY:∀ (ys:List Opd),(evs σ ys).length=ys.length
 | []=>rfl
 | y::ys=>by simp [evs,fY ys]
def kJ (P:Program):List Operand→List TypeId→Option (List Opd)
 | [],_=>some []
 | x :: xs, ts => match ax (match ts with | t :: _ => cw P t | [] => none) x with
   | none=>none
   | some y => match kJ P xs ts.tail with
     | none=>none
     | some ys=>some (y::ys)
theorem fQ:∀ {xs:List Operand} {ts:List TypeId} {ys:List Opd},kJ P xs ts=some ys→xs.length=ys.length∧∀ (i:Nat) (x:Operand),xs[i]? = some x→∃ y zz,ys[i]? = some y∧ax zz x=some y
 | [],ts,ys,h=>by simp [kJ] at h;subst h;simp
 | x :: xs, ts, ys, h => by
   simp only [kJ] at h
   split at h
   ·cases h
   ·rename_i y hy
    split at h
    ·cases h
    ·rename_i ys' hys
     cases h
     obtain ⟨h1,h2⟩:=fQ hys
     refine ⟨by simp [h1],fun i x' hi=>?_⟩
     cases i with
     | zero=>simp at hi;subst hi;exact ⟨y,_,rfl,hy⟩
     | succ i=>simpa using h2 i x' (by simpa using hi)
theorem s_mkf (hs:RepS W0 κ σ a w) {f:FuncId} {cs:Array Operand} {ys:List Opd} {ts:List TypeId} (ho:o.op=.makeFunc (.func f) #[] cs) (hd:o.dst=some d) (hx:kJ P cs.toList ts=some ys)
  (hN:d<a.tmps.size) (h:eff call σ id (.mkf d f ys) F):o.wp P a w (After W0 κ σ a w id F) Q:=by
 obtain ⟨h1,h⟩:=aM.1 (show eF (evs σ ys) fun caps=>F [(.s d,.av (.fn f caps))] from h)
 obtain ⟨g1,g2⟩:=fQ hx
 refine ai (x:=.func (.func f) #[] (cs.map a.eval)) (w':=w) ?_ ?_
 ·simp [execOp,ho,Instr.makeFunc]
 ·rw [hd]
  refine .put hs hN (.fn f _ _ ?_ ?_) h
  ·simp [fY,← g1]
  ·intro j v hj
   have:=lF hs g2 g1 j v hj
   simpa [Array.getD_eq_getD_getElem?] using this
end ops
end Go.Abs
namespace Go.Abs
open Go
structure Flat (I:Nat→Nat→Prop) (w:World) (sz:Nat) (els:List (List Data)) (L:List Value):Prop where
 len:L.length=els.length * sz
 el:∀ e,e∈els→e.length=sz
 rep:∀ (i j:Nat) (e:List Data) (d:Data),els[i]? = some e→e[j]? = some d→RepD I w d (L.getD (i * sz+j) undef)
theorem Flat.mono {I I':Nat→Nat→Prop} {w w':World} {sz:Nat} {els:List (List Data)} {L:List Value} (hI:∀ b o,I b o→I' b o) (hc:∀ b o,I b o→w'.cell? ⟨b,o,none⟩=w.cell? ⟨b,o,none⟩)
 (h:Flat I w sz els L):Flat I' w' sz els L:=⟨h.len,h.el,fun i j e d h1 h2=>(h.rep i j e d h1 h2).mono hI hc⟩
theorem Flat.nil (I:Nat→Nat→Prop) (w:World) (sz:Nat):Flat I w sz [] []:=⟨by simp,by simp,fun i j e d h=>by simp at h⟩
theorem Flat.append {I:Nat→Nat→Prop} {w:World} {sz:Nat} {e1 e2:List (List Data)} {L1 L2:List Value} (h1:Flat I w sz e1 L1) (h2:Flat I w sz e2 L2):Flat I w sz (e1++e2) (L1++L2):=by
 refine ⟨by simp [h1.len,h2.len,Nat.add_mul],?_,?_⟩
 ·intro e he
  rcases List.mem_append.1 he with h | h
  ·exact h1.el e h
  ·exact h2.el e h
 ·intro i j e d hi hj
  have hjs:j<e.length:=(List.getElem?_eq_some_iff.1 hj).1
  by_cases hl:i<e1.length
  ·rw [List.getElem?_append_left hl] at hi
   have hes:=h1.el e (List.mem_of_getElem? hi)
   have hk:i * sz+j<L1.length:=by
    rw [h1.len]
    have:i * sz+sz≤e1.length * sz:=by rw [← Nat.succ_mul];exact Nat.mul_le_mul_right _ hl
    omega
   have:=h1.rep i j e d hi hj
   rw [List.getD_eq_getElem?_getD] at this ⊢
   rw [List.getElem?_append_left hk];exact this
  ·rw [List.getElem?_append_right (by omega)] at hi
   have hk:L1.length≤i * sz+j:=by
    rw [h1.len]
    have:e1.length * sz≤i * sz:=Nat.mul_le_mul_right _ (by omega)
    omega
   have:=h2.rep (i - e1.length) j e d hi hj
   rw [List.getD_eq_getElem?_getD] at this ⊢
   rw [List.getElem?_append_right hk,h1.len,show i * sz+j - e1.length * sz=(i - e1.length) * sz+j by
    rw [Nat.sub_mul]
    have:e1.length * sz≤i * sz:=Nat.mul_le_mul_right _ (by omega)
    omega]
   exact this
theorem Flat.one {I:Nat→Nat→Prop} {w:World} {sz:Nat} {els:List (List Data)} {L:List Value} (h:Flat I w sz els L) (hsz:0<sz):∀ u,u∈L→u.oneCell'=true:=by
 intro u hu
 obtain ⟨k,hk,rfl⟩:=List.mem_iff_getElem.1 hu
 have hk':k<els.length * sz:=by rw [← h.len];exact hk
 have hi:k / sz<els.length:=(Nat.div_lt_iff_lt_mul hsz).2 hk'
 have hes:=h.el els[k / sz] (List.getElem_mem hi)
 have hj:k % sz<els[k / sz].length:=by rw [hes];exact Nat.mod_lt _ hsz
 have:=h.rep (k / sz) (k % sz) _ _ (List.getElem?_eq_getElem hi) (List.getElem?_eq_getElem hj)
 rw [Nat.div_add_mod' k sz,List.getD_eq_getElem?_getD,List.getElem?_eq_getElem hk] at this
 exact this.cells.2
theorem Flat.shut {I:Nat→Nat→Prop} {w:World} {sz:Nat} {els:List (List Data)} {L:List Value} (h:Flat I w sz els L) {b o cap:Nat} (hn:els.length≤cap)
  (hI:∀ k,k<els.length * sz→I b (o+k)) (hc:∀ k,k<els.length * sz→w.cell? ⟨b,o+k,none⟩=L[k]?):RepD I w (.lst sz els) (.slice (some ⟨b,o,none⟩) els.length cap):=by
 have hk:∀ i j,i<els.length→j<sz→i * sz+j<els.length * sz:=by
  intro i j hi hj
  have:i * sz+sz≤els.length * sz:=by rw [← Nat.succ_mul];exact Nat.mul_le_mul_right _ hi
  omega
 refine .lst sz els b o cap (fun i j=>L.getD (i * sz+j) undef) hn h.el ?_ ?_ h.rep
 ·intro i j hi hj;rw [Nat.add_assoc];exact hI _ (hk i j hi hj)
 ·intro i j hi hj
  rw [Nat.add_assoc,hc _ (hk i j hi hj),List.getD_eq_getElem?_getD,List.getElem?_eq_getElem (by rw [h.len];exact hk i j hi hj)]
  rfl
theorem dN {P:Program} (w:World) (t ty e:TypeId) (i:TypeInfo) (z:Value) (A:Option Addr) (ht:P.underlying t=some (.slice e)) (hi:P.info? e=some i) (hz:i.zero=some z)
  (a:Addr) (n c:Nat) (news:List Value) (hl:news.length=n * i.size) (hnews:∀ j v,news[j]? = some v→w.cell? (a.add j)=some v)
  (h0:0<n) (h63:(n:Int)≤9223372036854775807) (h48:n * i.bytes≤281474976710656) :
  (Builtin.append_ #[t,t] ty #[.slice A 0 0,.slice (some a) n c]).run P w =
   .ok (.slice (some ⟨w.heap.size,0,none⟩) n (grownCap w n 0 e)) (w.drew.alloc (.cells (news.toArray++Builtin.zeroCells z.cells (grownCap w n 0 e - n)) e)):=by
 cases A with
 | none=>exact run_append_nil w t ty e i z ht hi hz a n c news hl hnews h0 h63 h48
 | some b =>
   have:=run_append_grow (P:=P) w t ty e i z ht hi hz b 0 0 [] (by simp) (by simp) a n c news hl hnews (by omega) (by omega) (by rw [Nat.zero_add,nextslicecap_zero h0];exact h48)
   simpa using this
theorem RepD.flat {I:Nat→Nat→Prop} {w:World} {sz:Nat} (hsz:0<sz) {els:List (List Data)} {x:Value} (h:RepD I w (.lst sz els) x) :
  (∃ a,x=.slice a 0 0∧els=[])∨∃ b o cap L,x=.slice (some ⟨b,o,none⟩) els.length cap∧els.length≤cap∧Flat I w sz els L ∧
   (∀ k,k<els.length * sz→I b (o+k))∧(∀ k,k<els.length * sz→w.cell? ⟨b,o+k,none⟩=L[k]?):=by
 cases h with
 | nil _ a=>exact .inl ⟨a,rfl,rfl⟩
 | lst _ _ b o cap C hn hlen hI hc hr =>
   have hd:∀ k,k<els.length * sz→k / sz<els.length∧k % sz<sz:=fun k hk=>⟨(Nat.div_lt_iff_lt_mul hsz).2 hk,Nat.mod_lt _ hsz⟩
   refine .inr ⟨b,o,cap,(List.range (els.length * sz)).map fun k=>C (k / sz) (k % sz),rfl,hn,⟨by simp,hlen,?_⟩,?_,?_⟩
   ·intro i j e d hi hj
    have hil:=(List.getElem?_eq_some_iff.1 hi).1
    have hjl:j<sz:=by rw [← hlen e (List.mem_of_getElem? hi)];exact (List.getElem?_eq_some_iff.1 hj).1
    have hk:i * sz+j<els.length * sz:=by
     have:i * sz+sz≤els.length * sz:=by rw [← Nat.succ_mul];exact Nat.mul_le_mul_right _ hil
     omega
    have h1:(i * sz+j) / sz=i:=by
     rw [Nat.mul_comm,Nat.mul_add_div hsz,Nat.div_eq_of_lt hjl];omega
    have h2:(i * sz+j) % sz=j:=by
     rw [Nat.mul_comm,Nat.mul_add_mod];exact Nat.mod_eq_of_lt hjl
    rw [List.getD_eq_getElem?_getD,List.getElem?_map,List.getElem?_range hk]
    simp only [Option.map_some,Option.getD_some,h1,h2]
    exact hr i j e d hi hj
   ·intro k hk
    obtain ⟨h1,h2⟩:=hd k hk
    have:=hI _ _ h1 h2
    rwa [Nat.add_assoc,Nat.div_add_mod' k sz] at this
   ·intro k hk
    obtain ⟨h1,h2⟩:=hd k hk
    have:=hc _ _ h1 h2
    rw [Nat.add_assoc,Nat.div_add_mod' k sz] at this
    rw [this,List.getElem?_map,List.getElem?_range hk];rfl
section ops
variable {P:Program} {W0:World} {κ:Gh} {σ:Log} {a:Act} {w:World} {id:Nat} {F:Log→Prop} {call:aX} {o:Oper} {Q:Exit→Act→World→Prop} {d:Nat} {z:Option Nat}
theorem cH (t ty e:TypeId) (i:TypeInfo) (ht:P.underlying t=some (.slice e)) (hi:P.info? e=some i)
  (g q sLen sCap:Nat) (cur:Array Value) (te:TypeId) (hg:w.heap[g]? = some (.cells cur te (0,0)))
  (A:Addr) (m c:Nat) (news:List Value) (hl:news.length=m * i.size) (hnews:∀ j u,news[j]? = some u→w.cell? (A.add j)=some u) (h1:∀ u∈news,u.oneCell'=true)
  (hroom:sLen+m≤sCap) (hfit:q+sLen * i.size+news.length≤cur.size) :
  (Builtin.append_ #[t,t] ty #[.slice (some ⟨g,q,none⟩) sLen sCap,.slice (some A) m c]).run P w =
   .ok (.slice (some ⟨g,q,none⟩) (sLen+m) sCap) (w.setRow g (cur.toList.take (q+sLen * i.size)++news++cur.toList.drop (q+sLen * i.size+news.length)).toArray):=by
 have hf:=run_firstCells_some (P:=P) w i.size m A m c news hl hnews
 have hst:=run_storeCells_at P g (q+sLen * i.size) te news 0 cur w hg (by simpa using hfit) h1
 simp only [Nat.add_zero] at hst
 generalize (w.setRow g (cur.toList.take (q+sLen * i.size)++news++cur.toList.drop (q+sLen * i.size+news.length)).toArray)=w' at hst ⊢
 simp [Builtin.append_,run_underlying ht,Go.sizeOf,typeInfo,hi,Builtin.lenOf,hroom,hf,bg,hst]
theorem dM (t ty e:TypeId) (i:TypeInfo) (ht:P.underlying t=some (.slice e)) (hi:P.info? e=some i) (A B:Option Addr) (n cap c:Nat) (hn:n≤cap) :
  (Builtin.append_ #[t,t] ty #[.slice A n cap,.slice B 0 c]).run P w=.ok (.slice A n cap) w:=by
 cases A<;>cases B<;>simp [Builtin.append_,run_underlying ht,Go.sizeOf,typeInfo,hi,Builtin.lenOf,hn,Builtin.firstCells,loadCells,loadCellsFrom,storeCells]
def spOf (κ:Gh):Option Nat→Nat × Nat × Nat
 | some k=>κ.τ k
 | none=>(0,0,0)
theorem s_app (hs:RepS W0 κ σ a w) (hf:Fresh κ id) {t e:TypeId} {sz by_:Nat} {x y:Operand} {x' y':Opd} {z1 z2:Option Nat} {ie:TypeInfo} {zv:Value}
  (ho:o.op=.call { callee:=.builtin .append,args:=#[x,y],argTypes:=#[t,t] }) (hd:o.dst=some d) (hx:ax z1 x=some x') (hy:ax z2 y=some y')
  (hu:P.underlying t=some (.slice e)) (hie:P.info? e=some ie) (hsz:ie.size=sz) (hby:ie.bytes=by_) (hz:ie.zero=some zv) (hzs:zv.cells.size=sz) (hsz0:0<sz)
  (hN:d<a.tmps.size) (h:eff call σ id (.app d sz by_ x' y') F):o.wp P a w (After W0 κ σ a w id F) Q:=by
 have hrx:=am hs hx
 have hry:=am hs hy
 simp only [eff] at h
 split at h
 ·rename_i q1 e1 t1 q2 e2 t2 he1 he2
  rw [he1] at hrx
  rw [he2] at hry
  split at h
  ·rename_i hb1 hb2
   have hq1:=Nat.eq_of_beq_eq_true hb1
   have hq2:=Nat.eq_of_beq_eq_true hb2
   subst hq1;subst hq2
   obtain ⟨hD1,hT1⟩:=hrx.sl_inv
   obtain ⟨hD2,_⟩:=hry.sl_inv
   obtain ⟨off,hoff,hoffT,hRoom,hF⟩:∃ off:Option Nat,(∀ k,off=some k→look σ (.t k)=some (.tk true))∧(t1=.full∧off=none∨∃ k,t1=.t k∧off=some k) ∧
     jU (e1.length+e2.length) by_∧F ((.s d,.av (.sl sz (e1++e2) (.t id)))::(.t id,.tk true)::(match off with | some k=>[(.t k,.tk false)] | none=>[])):=by
    split at h
    ·exact h.elim
    ·exact ⟨none,by simp,.inl ⟨rfl,rfl⟩,h.1,h.2⟩
    ·rename_i k
     split at h
     ·rename_i hk
      exact ⟨some k,fun k' e=>by cases e;exact hk,.inr ⟨k,rfl,rfl⟩,h.1,h.2⟩
     ·exact h.elim
   have hidk:∀ k,off=some k→k≠id:=fun k hk e=>hf.dt id (Nat.le_refl _) (by omega) (e ▸ (hs.toks k (hoff k hk)).1)
   have hid:¬ κ.Dt id:=hf.dt id (Nat.le_refl _) (by omega)
   have hgrow:∀ (I:Nat→Nat→Prop) (sp:Nat × Nat × Nat),Grow κ { κ with I:=I,Dt:=fun k=>κ.Dt k∨k=id,τ:=fun k=>if k=id then sp else κ.τ k } id:=fun I sp=>
    ⟨fun b hb=>.inl hb,fun k hk=>hk.elim .inl fun e=>.inr (by omega)⟩
   have same:∀ (v:Value),a.eval x=v→(execOp a.eval o).run P w=.ok (.value v) w→e2=[]→o.wp P a w (After W0 κ σ a w id F) Q:=by
    intro v hv hrun he
    subst he
    obtain ⟨r1,r2,r3⟩:=hs.retok off hoff hid hidk (fun _ _=>False) (spOf κ off) (fun _ _ h=>h.elim)
     (by
      intro hlt
      rcases hoffT with ⟨_,ho'⟩ | ⟨k,_,ho'⟩
      ·rw [ho'] at hlt;simp [spOf] at hlt
      ·rw [ho'] at hlt ⊢;exact (hs.toks k (hoff k ho')).2 hlt)
     (by
      intro b q hh
      rcases hoffT with ⟨_,ho'⟩ | ⟨k,_,ho'⟩
      ·rw [ho'] at hh;obtain ⟨_,h2,h3⟩:=hh;simp only [spOf] at h2 h3;omega
      ·rw [ho'] at hh
       exact ⟨hs.sepI b q (.inr ⟨k,hoff k ho',hh⟩),k,ho',hh⟩)
     _ rfl
    refine ai hrun ?_
    rw [hd]
    refine ⟨_,_,hF,r1.put hN ?_,r2.trans Step.put,put_size,hgrow _ _⟩
    rw [List.append_nil]
    refine .sl sz e1 _ v ?_ ⟨.inr rfl,?_⟩
    ·rw [← hv];exact hD1.mono r3.I_ r3.cell
    ·intro A n cap ev hlt
     rcases hoffT with ⟨rfl,ho'⟩ | ⟨k,rfl,ho'⟩
     ·exact absurd (hT1 A n cap (hv.trans ev)) (by omega)
     ·simp only [if_true,ho',spOf]
      exact hT1.2 A n cap (hv.trans ev) hlt
   have grown:∀ (L1 L2:List Value) (Z:Array Value) (newCap:Nat),Flat κ.I w sz e1 L1→Flat κ.I w sz e2 L2→e1.length+e2.length≤newCap→Z.size=(newCap - (e1.length+e2.length)) * sz→∀ (dr:Nat),
     (execOp a.eval o).run P w=.ok (.value (.slice (some ⟨w.heap.size,0,none⟩) (e1.length+e2.length) newCap)) (({ w with drawn:=dr }:World).alloc (.cells (L1.toArray++L2.toArray++Z) e)) →
     o.wp P a w (After W0 κ σ a w id F) Q:=by
    intro L1 L2 Z newCap f1 f2 hcap hZ dr hrun
    have fl:=f1.append f2
    have hlen:(e1++e2).length=e1.length+e2.length:=List.length_append
    have hLl:(L1++L2).length=(e1.length+e2.length) * sz:=by rw [fl.len,hlen]
    have hsize:(L1.toArray++L2.toArray++Z).size=newCap * sz:=by
     have:L1.length+L2.length=(e1.length+e2.length) * sz:=by rw [← hLl,List.length_append]
     simp only [Array.size_append,List.size_toArray,hZ,this,← Nat.add_mul]
     congr 1;omega
    obtain ⟨r1,r2,r3⟩:=(hs.drawn dr).rowTok off hoff hid (L1.toArray++L2.toArray++Z) e ((e1.length+e2.length) * sz) (newCap * sz) (by omega) _ rfl
    refine ai hrun ?_
    rw [hd]
    refine ⟨_,_,hF,r1.put hN ?_,((Step.drawn dr).trans r2).trans Step.put,put_size,hgrow _ _⟩
    refine .sl sz (e1++e2) _ _ ?_ ⟨.inr rfl,?_⟩
    ·have fl0:Flat κ.I ({ w with drawn:=dr }:World) sz (e1++e2) (L1++L2):=fl.mono (w:=w) (w':={ w with drawn:=dr }) (fun _ _ h=>h) (fun _ _ _=>rfl)
     have fl':=fl0.mono (I':=fun b o=>κ.I b o∨(b=({ w with drawn:=dr }:World).heap.size∧o<(e1.length+e2.length) * sz)) (w':=({ w with drawn:=dr }:World).alloc (.cells (L1.toArray++L2.toArray++Z) e)) r3.I_ r3.cell
     have:=fl'.shut (b:=w.heap.size) (o:=0) (cap:=newCap) (by rw [hlen];exact hcap) (by
      intro k hk;rw [hlen] at hk;exact .inr ⟨rfl,by omega⟩) (by
      intro k hk
      rw [hlen] at hk
      have hc:(({ w with drawn:=dr }:World).alloc (.cells (L1.toArray++L2.toArray++Z) e)).cell? ⟨w.heap.size,0+k,none⟩=(L1.toArray++L2.toArray++Z)[0+k]?:=
       au (heap_alloc_new (w:={ w with drawn:=dr }))
      have e12:L1.toArray++L2.toArray=(L1++L2).toArray:=by simp
      rw [hc,Nat.zero_add,e12,Array.getElem?_append_left (by rw [List.size_toArray,hLl];exact hk),List.getElem?_toArray])
     rw [hlen] at this
     exact this
    ·intro A n cap ev hlt
     cases ev
     simp
   have hexec:∀ v1 v2,a.eval x=v1→a.eval y=v2→∀ r w',(Builtin.append_ #[t,t] o.type #[v1,v2]).run P w=.ok r w'→(execOp a.eval o).run P w=.ok (.value r) w':=by
    intro v1 v2 h1 h2 r w' hr
    simp [execOp,ho,resolve,invoke,builtin,h1,h2,hr]
   subst hsz
   rcases hD2.flat hsz0 with ⟨A2,hv2,hn2⟩ | ⟨b2,o2,cap2,L2,hv2,hcap2,f2,hI2,hc2⟩
   ·obtain ⟨A,cap1,hv1⟩:=hD1.len
    have hle:e1.length≤cap1:=by
     have h2:=hD1
     rw [hv1] at h2
     cases h2<;>simp_all
    exact same _ hv1 (hexec _ _ hv1 hv2 _ _ (dM t o.type e ie hu hie A A2 e1.length cap1 0 hle)) hn2
   ·by_cases hm0:e2.length=0
    ·have he2n:e2=[]:=List.eq_nil_of_length_eq_zero hm0
     obtain ⟨A,cap1,hv1⟩:=hD1.len
     have hle:e1.length≤cap1:=by
      have h2:=hD1
      rw [hv1] at h2
      cases h2<;>simp_all
     rw [hm0] at hv2
     exact same _ hv1 (hexec _ _ hv1 hv2 _ _ (dM t o.type e ie hu hie A _ e1.length cap1 cap2 hle)) he2n
    ·have hnews:∀ j u,L2[j]? = some u→w.cell? ((⟨b2,o2,none⟩:Addr).add j)=some u:=by
      intro j u hj
      have hjl:j<e2.length * ie.size:=by rw [← f2.len];exact (List.getElem?_eq_some_iff.1 hj).1
      rw [bg,hc2 j hjl,hj]
     have hone:=f2.one hsz0
     have h63:e1.length+e2.length≤9223372036854775807:=hRoom.1
     have hbb:=hRoom.2
     rw [← hby] at hbb
     rcases hD1.flat hsz0 with ⟨A1,hv1,hn1⟩ | ⟨b1,o1,cap1,L1,hv1,hcap1,f1,hI1,hc1⟩
     ·have he1:e1.length=0:=by rw [hn1];rfl
      have hr:=dN (P:=P) w t o.type e ie zv A1 hu hie hz ⟨b2,o2,none⟩ e2.length cap2 L2 f2.len hnews (by omega) (by omega) (by rw [he1,Nat.zero_add] at hbb;omega)
      have f1:Flat κ.I w ie.size e1 []:=by rw [hn1];exact Flat.nil _ _ _
      refine grown [] L2 (Builtin.zeroCells zv.cells (grownCap w e2.length 0 e - e2.length)) (grownCap w e2.length 0 e) f1 f2 (by rw [he1,Nat.zero_add];exact grownCap_ge _ _ _ _) (by rw [size_zeroCells,hzs,he1,Nat.zero_add]) (w.drawn+1) ?_
      refine hexec _ _ hv1 hv2 _ _ ?_
      rw [hr]
      simp only [he1,Nat.zero_add]
      congr 2
      simp
     ·have hholds:∀ j u,L1[j]? = some u→w.cell? ((⟨b1,o1,none⟩:Addr).add j)=some u:=by
       intro j u hj
       have hjl:j<e1.length * ie.size:=by rw [← f1.len];exact (List.getElem?_eq_some_iff.1 hj).1
       rw [bg,hc1 j hjl,hj]
      by_cases hroom:e1.length+e2.length≤cap1
      ·
       obtain ⟨k,hk,ho'⟩:∃ k,t1=.t k∧off=some k:=by
        rcases hoffT with ⟨rfl,_⟩ | h
        ·exact absurd (hT1 _ _ _ hv1) (by omega)
        ·exact h
       subst hk
       have hτ:=hT1.2 _ _ _ hv1 (by omega)
       simp only at hτ
       have hlk:=hoff k ho'
       have hmul:e1.length * ie.size+e2.length * ie.size≤cap1 * ie.size:=by rw [← Nat.add_mul];exact Nat.mul_le_mul_right _ hroom
       have hpos:0<e2.length * ie.size:=Nat.mul_pos (by omega) hsz0
       have hlo:(κ.τ k).2.1<(κ.τ k).2.2:=by rw [hτ];simp only;omega
       obtain ⟨hblk,cur,te,hg,hfit⟩:=(hs.toks k hlk).2 hlo
       rw [hτ] at hblk hg hfit
       simp only at hblk hg hfit
       have hL2:L2.length=e2.length * ie.size:=f2.len
       have hr:=cH (P:=P) (w:=w) t o.type e ie hu hie b1 o1 e1.length cap1 cur te hg ⟨b2,o2,none⟩ e2.length cap2 L2 f2.len hnews hone hroom (by rw [hL2];omega)
       have hsplice:=fun j=>du (C:=cur) (vs:=L2) (o:=o1+e1.length * ie.size) (by rw [hL2];omega) j
       have hsplsz:=bA (C:=cur) (vs:=L2) (o:=o1+e1.length * ie.size) (by rw [hL2];omega)
       obtain ⟨s1,s2,s3⟩:=hs.spare hlk (g:=b1) (arr:=(cur.toList.take (o1+e1.length * ie.size)++L2++cur.toList.drop (o1+e1.length * ie.size+L2.length)).toArray) hg hsplsz (by
        intro j hj
        rw [hsplice j,if_neg]
        intro hh
        apply hj
        rw [hτ]
        exact ⟨rfl,hh.1,by simp only;omega⟩)
       obtain ⟨r1,r2,r3⟩:=s1.retok (some k) (fun k' e=>by cases e;exact hlk) hid (fun k' e=>by cases e;exact hidk k ho')
        (fun b q=>b=b1∧o1+e1.length * ie.size≤q∧q<o1+e1.length * ie.size+e2.length * ie.size)
        (b1,o1+e1.length * ie.size+e2.length * ie.size,o1+cap1 * ie.size)
        (by
         rintro b q ⟨rfl,hq1,hq2⟩
         have hin:aZ (κ.τ k) b q:=by rw [hτ];exact ⟨rfl,hq1,by simp only;omega⟩
         refine ⟨by rw [size_setRow];exact aC hg,fun _=>⟨k,rfl,hin⟩,?_,.inl (.inr ⟨k,hlk,hin⟩)⟩
         rintro ⟨_,h2,_⟩
         simp only at h2
         omega)
        (by
         intro _
         refine ⟨hblk,_,te,setRow_heap w b1 cur _ te (0,0) hg,?_⟩
         rw [hsplsz];exact hfit)
        (by
         rintro b q ⟨h1,h2,h3⟩
         simp only at h1 h2 h3
         have hin:aZ (κ.τ k) b q:=by rw [hτ];exact ⟨h1,by simp only;omega,by simp only;omega⟩
         exact ⟨s1.sepI b q (.inr ⟨k,hlk,hin⟩),k,rfl,hin⟩)
        _ rfl
       refine ai (hexec _ _ hv1 hv2 _ _ hr) ?_
       rw [hd]
       rw [ho'] at hF
       refine ⟨_,_,hF,r1.put hN ?_,(s2.trans r2).trans Step.put,put_size,hgrow _ _⟩
       refine .sl ie.size (e1++e2) _ _ ?_ ⟨.inr rfl,?_⟩
       ·have hlen:(e1++e2).length=e1.length+e2.length:=List.length_append
        have fl':=((f1.append f2).mono s3.I_ s3.cell).mono r3.I_ r3.cell
        have:=fl'.shut (b:=b1) (o:=o1) (cap:=cap1) (by rw [hlen];exact hroom) (by
         intro j hj
         rw [hlen,Nat.add_mul] at hj
         by_cases hj1:j<e1.length * ie.size
         ·exact .inl (hI1 j hj1)
         ·exact .inr ⟨rfl,by omega,by omega⟩) (by
         intro j hj
         rw [hlen,Nat.add_mul] at hj
         rw [au (setRow_heap w b1 cur _ te (0,0) hg),hsplice]
         by_cases hj1:j<e1.length * ie.size
         ·rw [if_neg (by omega),List.getElem?_append_left (by rw [f1.len];exact hj1)]
          have:=hc1 j hj1
          rw [au hg] at this
          exact this
         ·rw [if_pos (by rw [hL2];omega),List.getElem?_append_right (by rw [f1.len];omega),f1.len]
          congr 1;omega)
        rw [hlen] at this
        exact this
       ·intro A n cap ev hlt
        cases ev
        simp only [if_true]
        rw [Nat.add_mul]
        simp only [Nat.add_assoc]
      ·have hr:=run_append_grow (P:=P) w t o.type e ie zv hu hie hz ⟨b1,o1,none⟩ e1.length cap1 L1 f1.len hholds ⟨b2,o2,none⟩ e2.length cap2 L2 f2.len hnews (by omega) (by omega) (growslice_fits (by omega) hbb)
       refine grown L1 L2 (Builtin.zeroCells zv.cells (grownCap w (e1.length+e2.length) cap1 e - (e1.length+e2.length))) (grownCap w (e1.length+e2.length) cap1 e) f1 f2 (grownCap_ge _ _ _ _) (by rw [size_zeroCells,hzs]) (w.drawn+1) ?_
       exact hexec _ _ hv1 hv2 _ _ hr
  ·exact h.elim
 ·exact h.elim
end ops
end Go.Abs
namespace Go.Abs
open Go
section
variable {W0:World} {κ:Gh} {σ:Log} {a:Act} {w:World}
theorem RepS.freeze (hs:RepS W0 κ σ a w) {b:Nat} {l:List AV} (hb:look σ (.b b)=some (.bx l)) :
  RepS W0 { κ with I:=fun x o=>κ.I x o∨aZ (spb κ b l) x o } ((.b b,.tk false)::σ) a w ∧
  Step κ σ w { κ with I:=fun x o=>κ.I x o∨aZ (spb κ b l) x o } ((.b b,.tk false)::σ) w ∧
  Ext κ w { κ with I:=fun x o=>κ.I x o∨aZ (spb κ b l) x o } w:=by
 have e:Ext κ w { κ with I:=fun x o=>κ.I x o∨aZ (spb κ b l) x o } w:=⟨fun _ _ h=>.inl h,fun _ _ _=>rfl,fun _ h=>⟨h,rfl⟩,fun _ h=>⟨h,rfl⟩⟩
 have hB:∀ {b' m},look ((.b b,.tk false)::σ) (.b b')=some (.bx m)→b'≠b∧look σ (.b b')=some (.bx m):=by
  intro b' m h
  rw [af] at h
  by_cases hh:b=b'
  ·subst hh;simp at h
  ·simp [hh] at h;exact ⟨fun x=>hh x.symm,h⟩
 have ht:∀ k,look ((.b b,.tk false)::σ) (.t k)=look σ (.t k):=fun k=>by simp [af]
 have hss:∀ k,look ((.b b,.tk false)::σ) (.s k)=look σ (.s k):=fun k=>by simp [af]
 have hown:∀ x o,Own { κ with I:=fun x o=>κ.I x o∨aZ (spb κ b l) x o } ((.b b,.tk false)::σ) x o→Own κ σ x o∧¬ aZ (spb κ b l) x o:=by
  rintro x o (⟨id,m,hm,hi⟩ | ⟨k,hk,hi⟩)
  ·obtain ⟨h1,h2⟩:=hB hm
   exact ⟨.inl ⟨id,m,h2,hi⟩,hs.binj id b m l h2 hb h1 x o hi⟩
  ·rw [ht] at hk
   exact ⟨.inr ⟨k,hk,hi⟩,hs.tbox k b l hk hb x o hi⟩
 refine ⟨⟨fun n v h=>by rw [hss] at h;exact (hs.slots n v h).mono e,?_,?_,?_,?_,?_,?_,?_,fun b o h=>.inl (hs.old b o h),hs.size0,hs.amb,hs.defers,hs.os,hs.tape,hs.output⟩,
  ⟨.refl _ _,fun x o h=>.inl (hown x o h).1,fun _ _ h=>.inl h,?_,fun _ _ h=>⟨h,rfl⟩,fun _ _ h=>⟨h,rfl⟩⟩,e⟩
 ·intro b' m h
  obtain ⟨h1,h2,h3⟩:=hs.boxes b' m (hB h).2
  exact ⟨h1,h2,h3.mono e rfl⟩
 ·intro b1 b2 m1 m2 h1 h2
  exact hs.binj b1 b2 m1 m2 (hB h1).2 (hB h2).2
 ·intro k h;rw [ht] at h;exact hs.toks k h
 ·intro k k' h h';rw [ht] at h h';exact hs.tdis k k' h h'
 ·intro k id m h h';rw [ht] at h;exact hs.tbox k id m h (hB h').2
 ·rintro x o ho (hI | hI)
  ·exact hs.sepI x o (hown x o ho).1 hI
  ·exact (hown x o ho).2 hI
 ·rintro x o (hI | ⟨h1,_⟩)
  ·exact hs.Icell x o hI
  ·obtain ⟨_,_,h3⟩:=hs.boxes b l hb
   exact h1 ▸ h3.lt
 ·rintro x o (hI | hI)
  ·exact .inl hI
  ·exact .inr (.inl (.inl ⟨b,l,hb,hI⟩))
theorem RepS.split (hs:RepS W0 κ σ a w) {k:Nat} (hk:look σ (.t k)=some (.tk true)) {id:Nat} (hid:¬ κ.Db id) (hidt:¬ κ.Dt id) {g p q:Nat} (hτ:κ.τ k=(g,p,q)) {l:List AV} (hl0:0<l.length)
  (hfit:p+l.length≤q) {C:Array Value} {ty:TypeId} (hg:w.heap[g]? = some (.cells C ty (0,0))) (hl:RepC κ w l C p) :
  RepS W0 { κ with Db:=fun b=>κ.Db b∨b=id,ι:=fun b=>if b=id then (g,p) else κ.ι b,Dt:=fun j=>κ.Dt j∨j=id,τ:=fun j=>if j=id then (g,p+l.length,q) else κ.τ j } ((.b id,.bx l)::(.t id,.tk true)::(.t k,.tk false)::σ) a w ∧
  Step κ σ w { κ with Db:=fun b=>κ.Db b∨b=id,ι:=fun b=>if b=id then (g,p) else κ.ι b,Dt:=fun j=>κ.Dt j∨j=id,τ:=fun j=>if j=id then (g,p+l.length,q) else κ.τ j } ((.b id,.bx l)::(.t id,.tk true)::(.t k,.tk false)::σ) w ∧
  Ext κ w { κ with Db:=fun b=>κ.Db b∨b=id,ι:=fun b=>if b=id then (g,p) else κ.ι b,Dt:=fun j=>κ.Dt j∨j=id,τ:=fun j=>if j=id then (g,p+l.length,q) else κ.τ j } w:=by
 have hne:∀ b,κ.Db b→b≠id:=fun b hb e=>hid (e ▸ hb)
 have hnet:∀ j,κ.Dt j→j≠id:=fun b hb e=>hidt (e ▸ hb)
 obtain ⟨hDk,hroom⟩:=hs.toks k hk
 have hkid:k≠id:=hnet k hDk
 have hge:W0.heap.size≤g:=by
  have:=(hroom (by rw [hτ];simp only;omega)).1
  rw [hτ] at this;exact this
 have hCq:q≤C.size:=by
  obtain ⟨_,C',ty',h4,h5⟩:=hroom (by rw [hτ];simp only;omega)
  rw [hτ] at h4 h5
  rw [hg] at h4
  cases h4
  exact h5
 have e:Ext κ w { κ with Db:=fun b=>κ.Db b∨b=id,ι:=fun b=>if b=id then (g,p) else κ.ι b,Dt:=fun j=>κ.Dt j∨j=id,τ:=fun j=>if j=id then (g,p+l.length,q) else κ.τ j } w:=
  ⟨fun _ _ h=>h,fun _ _ _=>rfl,fun b h=>⟨.inl h,by simp [hne b h]⟩,fun j h=>⟨.inl h,by simp [hnet j h]⟩⟩
 have hss:∀ n,look ((.b id,.bx l)::(.t id,.tk true)::(.t k,.tk false)::σ) (.s n)=look σ (.s n):=fun n=>by simp [af]
 have hB:∀ {b m},look ((.b id,.bx l)::(.t id,.tk true)::(.t k,.tk false)::σ) (.b b)=some (.bx m)→(b=id∧m=l)∨(b≠id∧look σ (.b b)=some (.bx m)):=by
  intro b m h
  by_cases hh:b=id
  ·subst hh;simp [af] at h;exact .inl ⟨rfl,h.symm⟩
  ·have:¬ id=b:=fun x=>hh x.symm
   simp [af,this] at h;exact .inr ⟨hh,h⟩
 have hT:∀ {j},look ((.b id,.bx l)::(.t id,.tk true)::(.t k,.tk false)::σ) (.t j)=some (.tk true)→j=id∨(j≠id∧j≠k∧look σ (.t j)=some (.tk true)):=by
  intro j h
  by_cases hh:j=id
  ·exact .inl hh
  ·have h1:¬ id=j:=fun x=>hh x.symm
   by_cases hjk:j=k
   ·subst hjk;simp [af,h1] at h
   ·have h2:¬ k=j:=fun x=>hjk x.symm
    simp [af,h1,h2] at h;exact .inr ⟨hh,hjk,h⟩
 have inK:∀ {x o},aZ (g,p,p+l.length) x o→aZ (κ.τ k) x o:=by rintro x o ⟨h1,h2,h3⟩;rw [hτ];exact ⟨h1,h2,by simp only at h3 ⊢;omega⟩
 have inK':∀ {x o},aZ (g,p+l.length,q) x o→aZ (κ.τ k) x o:=by rintro x o ⟨h1,h2,h3⟩;rw [hτ];exact ⟨h1,by simp only at h2 ⊢;omega,h3⟩
 have hown:∀ x o,Own { κ with Db:=fun b=>κ.Db b∨b=id,ι:=fun b=>if b=id then (g,p) else κ.ι b,Dt:=fun j=>κ.Dt j∨j=id,τ:=fun j=>if j=id then (g,p+l.length,q) else κ.τ j } ((.b id,.bx l)::(.t id,.tk true)::(.t k,.tk false)::σ) x o→Own κ σ x o:=by
  rintro x o (⟨i,m,hm,hi⟩ | ⟨j,hj,hi⟩)
  ·rcases hB hm with ⟨rfl,rfl⟩ | ⟨h1,h2⟩
   ·simp only [spb,if_true] at hi;exact .inr ⟨k,hk,inK hi⟩
   ·simp only [spb,h1,if_false] at hi;exact .inl ⟨i,m,h2,hi⟩
  ·rcases hT hj with rfl | ⟨h1,h2,h3⟩
   ·simp only [if_true] at hi;exact .inr ⟨k,hk,inK' hi⟩
   ·simp only [h1,if_false] at hi;exact .inr ⟨j,h3,hi⟩
 refine ⟨⟨fun n v h=>by rw [hss] at h;exact (hs.slots n v h).mono e,?_,?_,?_,?_,?_,fun x o ho=>hs.sepI x o (hown x o ho),hs.Icell,hs.old,hs.size0,hs.amb,hs.defers,hs.os,hs.tape,hs.output⟩,
  ⟨.refl _ _,fun x o h=>.inl (hown x o h),fun _ _ h=>h,fun _ _ h=>.inl h,fun b _ h=>⟨.inl h,by simp [hne b h]⟩,fun j _ h=>⟨.inl h,by simp [hnet j h]⟩⟩,e⟩
 ·intro b m h
  rcases hB h with ⟨rfl,rfl⟩ | ⟨h1,h2⟩
  ·refine ⟨.inr rfl,by simpa using hge,.of (C:=C) (ty:=ty) (by simpa using hg) ?_⟩
   simp only [if_true]
   exact hl.mono e
  ·obtain ⟨g1,g2,g3⟩:=hs.boxes b m h2
   refine ⟨.inl g1,by simpa [h1] using g2,?_⟩
   simp only [h1,if_false]
   exact g3.mono e rfl
 ·intro b b' m m' h h' hbb x o hi hi'
  rcases hB h with ⟨rfl,rfl⟩ | ⟨h1,h2⟩<;>rcases hB h' with ⟨e1,e2⟩ | ⟨h1',h2'⟩
  ·exact hbb e1.symm
  ·simp only [spb,if_true] at hi
   simp only [spb,h1',if_false] at hi'
   exact hs.tbox k b' m' hk h2' x o (inK hi) hi'
  ·subst e1;subst e2
   simp only [spb,if_true] at hi'
   simp only [spb,h1,if_false] at hi
   exact hs.tbox k b m hk h2 x o (inK hi') hi
  ·simp only [spb,h1,if_false] at hi
   simp only [spb,h1',if_false] at hi'
   exact hs.binj b b' m m' h2 h2' hbb x o hi hi'
 ·intro j h
  rcases hT h with rfl | ⟨h1,h2,h3⟩
  ·refine ⟨.inr rfl,fun _=>?_⟩
   simp only [if_true]
   exact ⟨hge,C,ty,hg,hCq⟩
  ·obtain ⟨g1,g2⟩:=hs.toks j h3
   refine ⟨.inl g1,?_⟩
   simpa only [h1,if_false] using g2
 ·intro j j' h h' hjj x o hi hi'
  rcases hT h with rfl | ⟨h1,h2,h3⟩<;>rcases hT h' with e1 | ⟨h1',h2',h3'⟩
  ·exact hjj e1.symm
  ·simp only [if_true] at hi
   simp only [h1',if_false] at hi'
   exact hs.tdis k j' hk h3' (fun x=>h2' x.symm) x o (inK' hi) hi'
  ·subst e1
   simp only [if_true] at hi'
   simp only [h1,if_false] at hi
   exact hs.tdis k j hk h3 (fun x=>h2 x.symm) x o (inK' hi') hi
  ·simp only [h1,if_false] at hi
   simp only [h1',if_false] at hi'
   exact hs.tdis j j' h3 h3' hjj x o hi hi'
 ·intro j i m h h' x o hi hi'
  rcases hT h with rfl | ⟨h1,h2,h3⟩<;>rcases hB h' with ⟨e1,e2⟩ | ⟨h1',h2'⟩
  ·subst e1;subst e2
   simp only [if_true] at hi
   simp only [spb,if_true] at hi'
   have:=hi.2.1;have:=hi'.2.2
   simp only at *
   omega
  ·simp only [if_true] at hi
   simp only [spb,h1',if_false] at hi'
   exact hs.tbox k i m hk h2' x o (inK' hi) hi'
  ·subst e1;subst e2
   simp only [h1,if_false] at hi
   simp only [spb,if_true] at hi'
   exact hs.tdis k j hk h3 (fun x=>h2 x.symm) x o (inK hi') hi
  ·simp only [h1,if_false] at hi
   simp only [spb,h1',if_false] at hi'
   exact hs.tbox j i m h3 h2' x o hi hi'
theorem RepS.merge (hs:RepS W0 κ σ a w) {b:Nat} {l:List AV} (hb:look σ (.b b)=some (.bx l)) (off:Option Nat) (hoff:∀ k,off=some k→look σ (.t k)=some (.tk true))
  {id:Nat} (hid:¬ κ.Dt id) (sp:Nat × Nat × Nat) (hsp:∀ x o,aZ sp x o→aZ (spb κ b l) x o∨∃ k,off=some k∧aZ (κ.τ k) x o)
  (hroom:sp.2.1<sp.2.2→W0.heap.size≤sp.1∧∃ C ty,w.heap[sp.1]? = some (.cells C ty (0,0))∧sp.2.2≤C.size)
  (δ:Log) (hδ:δ=(.t id,.tk true)::(.b b,.tk false)::(match off with | some k=>[(.t k,.tk false)] | none=>[])) :
  RepS W0 { κ with Dt:=fun k=>κ.Dt k∨k=id,τ:=fun k=>if k=id then sp else κ.τ k } (δ++σ) a w ∧
  Step κ σ w { κ with Dt:=fun k=>κ.Dt k∨k=id,τ:=fun k=>if k=id then sp else κ.τ k } (δ++σ) w ∧
  Ext κ w { κ with Dt:=fun k=>κ.Dt k∨k=id,τ:=fun k=>if k=id then sp else κ.τ k } w:=by
 have hne:∀ k,κ.Dt k→k≠id:=fun k hk e=>hid (e ▸ hk)
 have e:Ext κ w { κ with Dt:=fun k=>κ.Dt k∨k=id,τ:=fun k=>if k=id then sp else κ.τ k } w:=
  ⟨fun _ _ h=>h,fun _ _ _=>rfl,fun _ h=>⟨h,rfl⟩,fun k h=>⟨.inl h,by simp [hne k h]⟩⟩
 have hss:∀ n,look (δ++σ) (.s n)=look σ (.s n):=by
  intro n;subst hδ;cases off<;>simp [af]
 have hB:∀ {b' m},look (δ++σ) (.b b')=some (.bx m)→b'≠b∧look σ (.b b')=some (.bx m):=by
  intro b' m h
  by_cases hh:b=b'
  ·subst hh;subst hδ;cases off<;>simp [af] at h
  ·refine ⟨fun x=>hh x.symm,?_⟩
   subst hδ;cases off<;>simpa [af,hh] using h
 have htt:∀ k,look (δ++σ) (.t k)=some (.tk true)→k=id∨(k≠id∧off≠some k∧look σ (.t k)=some (.tk true)):=by
  intro k h
  by_cases hk:k=id
  ·exact .inl hk
  ·subst hδ
   have hk':¬ id=k:=fun x=>hk x.symm
   cases off with
   | none=>simp [af,hk'] at h;exact .inr ⟨hk,by simp,h⟩
   | some j =>
     by_cases hj:j=k
     ·simp [af,hk',hj] at h
     ·simp [af,hk',hj] at h;exact .inr ⟨hk,by simp [hj],h⟩
 have hown:∀ x o,Own { κ with Dt:=fun k=>κ.Dt k∨k=id,τ:=fun k=>if k=id then sp else κ.τ k } (δ++σ) x o→Own κ σ x o:=by
  rintro x o (⟨i,m,hm,hi⟩ | ⟨k,hk,hi⟩)
  ·exact .inl ⟨i,m,(hB hm).2,hi⟩
  ·rcases htt k hk with rfl | ⟨h1,h2,h3⟩
   ·simp only [if_true] at hi
    rcases hsp x o hi with h | ⟨j,hj,h⟩
    ·exact .inl ⟨b,l,hb,h⟩
    ·exact .inr ⟨j,hoff j hj,h⟩
   ·simp only [h1,if_false] at hi;exact .inr ⟨k,h3,hi⟩
 refine ⟨⟨fun n v h=>by rw [hss] at h;exact (hs.slots n v h).mono e,?_,?_,?_,?_,?_,fun x o ho=>hs.sepI x o (hown x o ho),hs.Icell,hs.old,hs.size0,hs.amb,hs.defers,hs.os,hs.tape,hs.output⟩,
  ⟨.refl _ _,fun x o h=>.inl (hown x o h),fun _ _ h=>h,fun _ _ h=>.inl h,fun _ _ h=>⟨h,rfl⟩,fun k _ h=>⟨.inl h,by simp [hne k h]⟩⟩,e⟩
 ·intro b' m h
  obtain ⟨h1,h2,h3⟩:=hs.boxes b' m (hB h).2
  exact ⟨h1,h2,h3.mono e rfl⟩
 ·intro b1 b2 m1 m2 h1 h2
  exact hs.binj b1 b2 m1 m2 (hB h1).2 (hB h2).2
 ·intro k h
  rcases htt k h with rfl | ⟨h1,h2,h3⟩
  ·refine ⟨.inr rfl,fun hh=>?_⟩
   simp only [if_true] at hh ⊢
   exact hroom hh
  ·obtain ⟨g1,g2⟩:=hs.toks k h3
   refine ⟨.inl g1,?_⟩
   simpa only [h1,if_false] using g2
 ·intro k k' h h' hkk x o hi hi'
  rcases htt k h with rfl | ⟨h1,h2,h3⟩<;>rcases htt k' h' with e' | ⟨h1',h2',h3'⟩
  ·exact hkk e'.symm
  ·simp only [if_true] at hi
   simp only [h1',if_false] at hi'
   rcases hsp x o hi with h | ⟨j,hj,h⟩
   ·exact hs.tbox k' b l h3' hb x o hi' h
   ·exact hs.tdis j k' (hoff j hj) h3' (fun e=>h2' (e ▸ hj)) x o h hi'
  ·subst e'
   simp only [if_true] at hi'
   simp only [h1,if_false] at hi
   rcases hsp x o hi' with h | ⟨j,hj,h⟩
   ·exact hs.tbox k b l h3 hb x o hi h
   ·exact hs.tdis j k (hoff j hj) h3 (fun e=>h2 (e ▸ hj)) x o h hi
  ·simp only [h1,if_false] at hi
   simp only [h1',if_false] at hi'
   exact hs.tdis k k' h3 h3' hkk x o hi hi'
 ·intro k i m h h' x o hi hi'
  obtain ⟨hib,him⟩:=hB h'
  rcases htt k h with rfl | ⟨h1,h2,h3⟩
  ·simp only [if_true] at hi
   rcases hsp x o hi with h | ⟨j,hj,h⟩
   ·exact hs.binj b i l m hb him (fun e=>hib e.symm) x o h hi'
   ·exact hs.tbox j i m (hoff j hj) him x o h hi'
  ·simp only [h1,if_false] at hi
   exact hs.tbox k i m h3 him x o hi hi'
end
end Go.Abs
namespace Go.Abs
open Go
section ops
variable {P:Program} {W0:World} {κ:Gh} {σ:Log} {a:Act} {w:World} {id:Nat} {F:Log→Prop} {call:aX} {o:Oper} {Q:Exit→Act→World→Prop} {d:Nat} {z:Option Nat}
def lm:BinOp→Option Bool
 | .eql=>some false
 | .neq=>some true
 | _=>none
theorem s_binB (hs:RepS W0 κ σ a w) {b:BinOp} {ng:Bool} {t1 t2:TypeId} {x y:Operand} {x' y':Opd} {z1 z2:Option Nat} (ho:o.op=.binOp b t1 x y t2) (hd:o.dst=some d) (hx:ax z1 x=some x') (hy:ax z2 y=some y')
  (hb:lm b=some ng) (hu:P.underlying t1=some .bool) (hN:d<a.tmps.size) (h:eff call σ id (.binB d ng x' y') F):o.wp P a w (After W0 κ σ a w id F) Q:=by
 have hrx:=am hs hx
 have hry:=am hs hy
 simp only [eff] at h
 split at h
 ·rename_i m n he1 he2
  rw [he1] at hrx
  rw [he2] at hry
  have ex:=hrx.sc_inv
  have ey:=hry.sc_inv
  simp only [Sc.val] at ex ey
  cases b<;>simp [lm] at hb<;>subst hb<;>simp only at h
  ·refine ai (x:=.bool (m == n)) (w':=w) ?_ (by rw [hd];exact .put hs hN (.sc (.b (m == n))) h)
   simp only [execOp,ho,ex,ey]
   simp [eqGuard,binOp,run_equal_bool w t1 m n hu]
  ·refine ai (x:=.bool (m != n)) (w':=w) ?_ (by rw [hd];exact .put hs hN (.sc (.b (m != n))) h)
   simp only [execOp,ho,ex,ey]
   simp [eqGuard,binOp,run_equal_bool w t1 m n hu,bne]
 ·exact h.elim
def fk:Option Operand→Option (Option Opd)
 | none=>some none
 | some x => match ax none x with
   | none=>none
   | some y=>some (some y)
theorem cI (hs:RepS W0 κ σ a w) {x:Option Operand} {x':Option Opd} (hx:fk x=some x') {dflt:Int} {K:Int→Prop} (h:fP σ x' dflt K) :
  ∃ n,K n∧((x=none∧n=dflt)∨∃ y k,x=some y∧a.eval y=.int k n):=by
 cases x with
 | none=>simp [fk] at hx;subst hx;exact ⟨dflt,h,.inl ⟨rfl,rfl⟩⟩
 | some y =>
   simp only [fk] at hx
   split at hx
   ·cases hx
   ·rename_i y' hy
    cases hx
    simp only [fP] at h
    split at h
    ·rename_i k n he
     have:=am hs hy
     rw [he] at this
     exact ⟨n,h,.inr ⟨y,k,rfl,this.sc_inv⟩⟩
    ·exact h.elim
theorem cG {v:Value} {k:IntKind} {n:Int} {y:Nat} {c:BoundsCode} (hv:v=.int k n) (h0:0≤n) (h1:n≤y):(Instr.sliceBound v y c).run P w=.ok n.toNat w:=by
 subst hv
 simp [Instr.sliceBound,asIntOf,h0,h1]
theorem fM {isS:Bool} {len cap:Nat} {lo hi:Option Operand} {p q:Int} (hlo:(lo=none∧p=0)∨∃ y k,lo=some y∧a.eval y=.int k p) (hhi:(hi=none∧q=len)∨∃ y k,hi=some y∧a.eval y=.int k q)
  (h0:0≤p) (h1:p≤q) (h2:q≤cap):(Instr.sliceBounds isS len cap (lo.map a.eval) (hi.map a.eval) none).run P w=.ok (p.toNat,q.toNat,cap) w:=by
 rcases hlo with ⟨rfl,rfl⟩ | ⟨y,k,rfl,hy⟩<;>rcases hhi with ⟨rfl,rfl⟩ | ⟨y',k',rfl,hy'⟩
 ·simp [Instr.sliceBounds]
 ·simp [Instr.sliceBounds,cG hy' (by omega) h2]
 ·have:p≤((len:Nat):Int):=h1
  simp [Instr.sliceBounds,cG hy h0 this]
 ·have:p≤((q.toNat:Nat):Int):=by omega
  simp [Instr.sliceBounds,cG hy' (by omega) h2,cG hy h0 this]
theorem kG {isS:Bool} {len cap:Nat} {lo:Option Operand} {hi mx:Operand} {p q r:Int} (hlo:(lo=none∧p=0)∨∃ y k,lo=some y∧a.eval y=.int k p) {k' k'':IntKind} (hhi:a.eval hi=.int k' q) (hmx:a.eval mx=.int k'' r)
  (h0:0≤p) (h1:p≤q) (h2:q≤r) (h3:r≤cap):(Instr.sliceBounds isS len cap (lo.map a.eval) (some (a.eval hi)) (some (a.eval mx))).run P w=.ok (p.toNat,q.toNat,r.toNat) w:=by
 have e1:q≤((r.toNat:Nat):Int):=by omega
 have e2:p≤((q.toNat:Nat):Int):=by omega
 rcases hlo with ⟨rfl,rfl⟩ | ⟨y,k,rfl,hy⟩
 ·simp [Instr.sliceBounds,cG hmx (by omega) h3,cG hhi (by omega) e1]
 ·simp [Instr.sliceBounds,cG hmx (by omega) h3,cG hhi (by omega) e1,cG hy h0 e2]
theorem s_slS (hs:RepS W0 κ σ a w) {t:TypeId} {x:Operand} {x':Opd} {lo hi:Option Operand} {lo' hi':Option Opd} (ho:o.op=.slice t x lo hi none) (hd:o.dst=some d) (hx:ax z x=some x') (hlo:fk lo=some lo') (hhi:fk hi=some hi')
  (hu:P.underlying t=some .string) (hN:d<a.tmps.size) (h:eff call σ id (.slS d x' lo' hi') F):o.wp P a w (After W0 κ σ a w id F) Q:=by
 have hr:=am hs hx
 simp only [eff] at h
 split at h
 ·rename_i l he
  rw [he] at hr
  have e:=hr.sc_inv
  simp only [Sc.val] at e
  obtain ⟨p,h,hp⟩:=cI hs hlo h
  obtain ⟨q,h,hq⟩:=cI hs hhi h
  obtain ⟨⟨h0,h1,h2⟩,hF⟩:=h
  have hb:=fM (P:=P) (w:=w) (isS:=false) (len:=l.length) (cap:=l.length) hp hq h0 h1 h2
  refine ai (x:=.string ⟨((l.drop p.toNat).take (q.toNat - p.toNat)).toArray⟩) (w':=w) ?_ (by rw [hd];exact .put hs hN (.sc (.s _)) hF)
  have hex:(ByteArray.mk l.toArray).extract p.toNat q.toNat=ByteArray.mk ((l.drop p.toNat).take (q.toNat - p.toNat)).toArray:=by
   apply ByteArray.ext
   simp [ByteArray.data_extract]
  simp [execOp,ho,e,Instr.sliceAt,run_underlying hu,Instr.slice,size_mk,hb,hex]
 ·exact h.elim
theorem RepD.cut {I:Nat→Nat→Prop} {w:World} {sz:Nat} {els:List (List Data)} {b o cap p q:Nat} (h:RepD I w (.lst sz els) (.slice (some ⟨b,o,none⟩) els.length cap)) (h1:p≤q) (h2:q≤els.length) {m:Nat} (hm:q≤m) (o':Nat) (ho':p<q→o'=o+p * sz) :
  RepD I w (.lst sz ((els.drop p).take (q - p))) (.slice (some ⟨b,o',none⟩) (q - p) (m - p)):=by
 have hl:((els.drop p).take (q - p)).length=q - p:=by simp;omega
 have key:∀ i,i<q - p→((els.drop p).take (q - p))[i]? = els[p+i]?:=by
  intro i hi
  rw [List.getElem?_take,if_pos hi,List.getElem?_drop]
 generalize hx:(Value.slice (some ⟨b,o,none⟩) els.length cap)=x at h
 cases h with
 | nil _ A =>
   cases hx
   have hp:p=0∧q=0:=by simp at h2;omega
   obtain ⟨rfl,rfl⟩:=hp
   exact .lst sz [] b o' m (fun _ _=>undef) (Nat.zero_le _) (by simp) (by simp) (by simp) (by simp)
 | lst _ _ b1 o1 cap1 C hn hlen hI hc hr =>
   cases hx
   have hD:=RepD.lst (I:=I) (w:=w) sz ((els.drop p).take (q - p)) b o' (m - p) (fun i j=>C (p+i) j) (by rw [hl];omega) ?_ ?_ ?_ ?_
   ·rw [hl] at hD;exact hD
   ·intro e he
    exact hlen e (List.mem_of_mem_drop (List.mem_of_mem_take he))
   ·intro i j hi hj
    rw [hl] at hi
    have:=hI (p+i) j (by omega) hj
    rw [ho' (by omega)]
    rwa [Nat.add_mul,← Nat.add_assoc] at this
   ·intro i j hi hj
    rw [hl] at hi
    have:=hc (p+i) j (by omega) hj
    rw [ho' (by omega)]
    rwa [Nat.add_mul,← Nat.add_assoc] at this
   ·intro i j e dd hi hj
    have hil:=(List.getElem?_eq_some_iff.1 hi).1
    rw [hl] at hil
    rw [key i hil] at hi
    exact hr (p+i) j e dd hi hj
theorem s_slL (hs:RepS W0 κ σ a w) (hf:Fresh κ id) {t e:TypeId} {sz:Nat} {x:Operand} {x':Opd} {lo hi mx:Option Operand} {lo' hi' mx':Option Opd} (ho:o.op=.slice t x lo hi mx) (hd:o.dst=some d) (hx:ax z x=some x')
  (hlo:fk lo=some lo') (hhi:fk hi=some hi') (hmx:fk mx=some mx') (hm3:mx.isSome=true→hi.isSome=true)
  (hu:P.underlying t=some (.slice e)) (hn:(P.info? e).map (·.size)=some sz) (hN:d<a.tmps.size) (h:eff call σ id (.slL d sz x' lo' hi' mx') F):o.wp P a w (After W0 κ σ a w id F) Q:=by
 have hr:=am hs hx
 simp only [eff] at h
 split at h
 ·rename_i zz b n tk he
  rw [he] at hr
  split at h
  ·rename_i hb
   have hq:=Nat.eq_of_beq_eq_true hb
   subst hq
   split at h
   ·rename_i hi0 l hl
    obtain ⟨q,⟨⟨hq0,hln,hmm⟩,h⟩,hqe⟩:=cI hs hhi h
    subst hq0
    obtain ⟨off,cap,hDb,hoff,hn',_,hT,hv⟩:=hr.mx_inv
    simp only [List.length_nil,Nat.zero_add,Nat.zero_mul,Nat.add_zero] at hoff hn' hT hv
    have hlo0:lo=none:=by cases lo<;>simp [fk] at hlo ⊢<;>(split at hlo<;>cases hlo)
    have hmx0:mx=none:=by cases mx<;>simp [fk] at hmx ⊢<;>(split at hmx<;>cases hmx)
    have hrun:(execOp a.eval o).run P w=.ok (.value (.slice (some ⟨(κ.ι b).1,off,none⟩) 0 cap)) w:=by
     have hbnd:=fM (P:=P) (w:=w) (a:=a) (isS:=true) (len:=n) (cap:=cap) (lo:=lo) (hi:=hi) (p:=0) (q:=0) (.inl ⟨hlo0,rfl⟩) (by
      rcases hqe with ⟨e1,e2⟩ | ⟨y,k,e1,e2⟩
      ·cases hi<;>simp [fk] at hhi e1
      ·exact .inr ⟨y,k,e1,e2⟩) (by omega) (by omega) (by omega)
     subst hmx0
     simp [execOp,ho,hv,Instr.sliceAt,run_underlying hu,Instr.slice,hbnd,aW hn,bg]
    obtain ⟨_,hW,hB⟩:=hs.boxes b l hl
    obtain ⟨C,ty,hC,hR⟩:=hB.row hmm
    have main:∀ (off':Option Nat),(∀ k,off'=some k→look σ (.t k)=some (.tk true))→(n<cap→∃ k,off'=some k∧tk=.t k)→F ((.s d,.av (.sl sz [] (.t id)))::(.t id,.tk true)::(.b b,.tk false)::(match off' with | some k=>[(.t k,.tk false)] | none=>[])) →
      o.wp P a w (After W0 κ σ a w id F) Q:=by
     intro off' hoff' hk hF
     have hτ:n<cap→∃ k,off'=some k∧κ.τ k=((κ.ι b).1,off+n * sz,off+cap * sz):=fun hlt=>by
      obtain ⟨k,h1,h2⟩:=hk hlt
      subst h2
      exact ⟨k,h1,hT.2 _ _ _ rfl hlt⟩
     obtain ⟨r1,r2,r3⟩:=hs.merge hl off' hoff' (hf.dt id (Nat.le_refl _) (by omega)) ((κ.ι b).1,off,off+cap * sz) (by
       rintro x o' ⟨h1,h2,h3⟩
       simp only at h1 h2 h3
       by_cases hlt:o'<off+n * sz
       ·exact .inl ⟨h1,by simp only [spb];omega,by simp only [spb,hln];omega⟩
       ·have hnc:n<cap:=by
         rcases Nat.lt_or_ge n cap with h | h
         ·exact h
         ·have:cap=n:=by omega
          subst this;omega
        obtain ⟨k,g1,g2⟩:=hτ hnc
        exact .inr ⟨k,g1,by rw [g2];exact ⟨h1,by simp only;omega,h3⟩⟩)
      (by
       intro hlt
       simp only at hlt
       refine ⟨hW,?_⟩
       by_cases hnc:n<cap
       ·obtain ⟨k,g1,g2⟩:=hτ hnc
        have hlt2:off+n * sz<off+cap * sz:=by
         have hsz:0<sz:=by
          rcases Nat.eq_zero_or_pos sz with h | h
          ·subst h;simp at hlt
          ·exact h
         have:=Nat.mul_lt_mul_of_pos_right hnc hsz
         omega
        obtain ⟨_,C',ty',g3,g4⟩:=(hs.toks k (hoff' k g1)).2 (by rw [g2];exact hlt2)
        rw [g2] at g3 g4
        exact ⟨C',ty',g3,g4⟩
       ·have:cap=n:=by omega
        subst this
        exact ⟨C,ty,hC,by have:=hR.1;simp only;omega⟩)
      _ rfl
     refine ai hrun ?_
     rw [hd]
     refine ⟨_,_,hF,r1.put hN ?_,r2.trans Step.put,put_size,⟨fun b hb=>.inl hb,fun k hk=>hk.elim .inl fun e=>.inr (by omega)⟩⟩
     refine .sl sz [] _ _ (.lst sz [] _ off cap (fun _ _=>undef) (Nat.zero_le _) (by simp) (by simp) (by simp) (by simp)) ⟨.inr rfl,?_⟩
     intro A n' cap' ev hlt
     cases ev
     simp
    cases tk with
    | none=>exact h.elim
    | full =>
      refine main none (by simp) (fun hlt=>?_) h
      have:=hT _ _ _ rfl
      omega
    | t k =>
      simp only at h
      split at h
      ·rename_i hk
       exact main (some k) (fun k' e=>by cases e;exact hk) (fun _=>⟨k,rfl,rfl⟩) h
      ·exact h.elim
   ·exact h.elim
  ·exact h.elim
 ·rename_i zz els tk he
  rw [he] at hr
  split at h
  ·rename_i hb
   have hq:=Nat.eq_of_beq_eq_true hb
   subst hq
   obtain ⟨p,h,hp⟩:=cI hs hlo h
   obtain ⟨q,h,hq⟩:=cI hs hhi h
   obtain ⟨hD,hTk⟩:=hr.sl_inv
   obtain ⟨A,cap,hA⟩:=hD.len
   have hcap:els.length≤cap:=by
    have h2:=hD
    rw [hA] at h2
    cases h2<;>simp_all
   have value:∀ m,0≤p→p≤q→q≤els.length→q.toNat≤m→m≤cap→(Instr.sliceBounds true els.length cap (lo.map a.eval) (hi.map a.eval) (mx.map a.eval)).run P w=.ok (p.toNat,q.toNat,m) w →
     ∃ v, (execOp a.eval o).run P w = .ok (.value v) w ∧ RepD κ.I w (.lst sz ((els.drop p.toNat).take (q.toNat - p.toNat))) v ∧ (∀ A' n' c', v = .slice A' n' c' → n' = q.toNat - p.toNat ∧ c' = m - p.toNat) ∧
       v=.slice (if m=p.toNat then A else A.map (·.add (p.toNat * sz))) (q.toNat - p.toNat) (m - p.toNat):=by
    intro m h0 h1 h2 h3 h4 hrun
    have hrunx:(execOp a.eval o).run P w=.ok (.value (.slice (if m=p.toNat then A else A.map (·.add (p.toNat * sz))) (q.toNat - p.toNat) (m - p.toNat))) w:=by
     simp [execOp,ho,hA,Instr.sliceAt,run_underlying hu,Instr.slice,hrun,aW hn]
    refine ⟨_,hrunx,?_,fun A' n' c' ev=>by cases ev;exact ⟨rfl,rfl⟩,rfl⟩
    rw [hA] at hD
    by_cases hnil:els=[]∧cap=0
    ·obtain ⟨rfl,rfl⟩:=hnil
     simp at h2
     have hp0:p.toNat=0:=by omega
     have hq0:q.toNat=0:=by omega
     have hm0:m=0:=by omega
     simp [hp0,hq0,hm0]
     exact .nil sz A
    ·obtain ⟨b,off,hAe⟩:∃ b off,A=some ⟨b,off,none⟩:=by
      cases hD with
      | nil=>exact absurd ⟨rfl,rfl⟩ hnil
      | lst=>exact ⟨_,_,rfl⟩
     subst hAe
     by_cases hmp:m=p.toNat
     ·rw [if_pos hmp]
      exact hD.cut (by omega) (by omega) h3 off (fun hlt=>by omega)
     ·rw [if_neg hmp]
      simp only [Option.map_some,bg]
      exact hD.cut (by omega) (by omega) h3 _ (fun _=>rfl)
   cases mx with
   | none =>
     simp [fk] at hmx
     subst hmx
     simp only at h
     obtain ⟨t',⟨⟨h0,h1,h2⟩,ht'⟩,hF⟩:=h
     obtain ⟨v,hv,hDv,hnc,hve⟩:=value cap h0 h1 h2 (by omega) (Nat.le_refl _) (fM hp hq h0 h1 (by omega))
     have hTok:tokOK κ sz t' v:=by
      rcases ht' with rfl | ⟨rfl,hqe⟩
      ·trivial
      ·subst hqe
       cases t' with
       | none=>trivial
       | full =>
         intro A' n' c' ev
         obtain ⟨e1,e2⟩:=hnc _ _ _ ev
         cases A with
         | none =>
           rw [hve] at ev
           split at ev<;>cases ev
         | some A0 =>
           have:=hTk A0 els.length cap hA
           omega
       | t k =>
         refine ⟨hTk.1,fun A' n' c' ev hlt=>?_⟩
         obtain ⟨e1,e2⟩:=hnc _ _ _ ev
         cases A with
         | none =>
           rw [hve] at ev
           split at ev<;>cases ev
         | some A0 =>
           have hτ:=hTk.2 A0 els.length cap hA (by omega)
           obtain ⟨bb,oo,rfl⟩:∃ b o,A0=⟨b,o,none⟩:=by
            rw [hA] at hD
            cases hD with
            | nil=>simp at e1 e2;omega
            | lst=>exact ⟨_,_,rfl⟩
           rw [hve,if_neg (by omega)] at ev
           simp only [Option.map_some,bg] at ev
           cases ev
           rw [hτ,e1,e2]
           have q1:oo+p.toNat * sz+((els.length:Int).toNat - p.toNat) * sz=oo+els.length * sz:=by
            rw [Nat.add_assoc,← Nat.add_mul];congr 2;omega
           have q2:oo+p.toNat * sz+(cap - p.toNat) * sz=oo+cap * sz:=by
            rw [Nat.add_assoc,← Nat.add_mul];congr 2;omega
           simp only [q1,q2]
     exact ai hv (by rw [hd];exact .put hs hN (.sl sz _ t' v hDv hTok) hF)
   | some mx =>
     obtain ⟨mx'',hmx''⟩:∃ y,mx'=some y:=by
      simp only [fk] at hmx
      split at hmx<;>cases hmx
      exact ⟨_,rfl⟩
     subst hmx''
     simp only at h
     obtain ⟨c,h,hc⟩:=cI hs hmx h
     obtain ⟨⟨h0,h1,hbc,h2⟩,hF⟩:=h
     obtain ⟨hi',rfl⟩:∃ y,hi=some y:=Option.isSome_iff_exists.1 (hm3 rfl)
     have hq':∃ k,a.eval hi'=.int k q:=by
      rcases hq with ⟨h,_⟩ | ⟨y,k,h,hy⟩
      ·cases h
      ·cases h;exact ⟨k,hy⟩
     have hc':∃ k,a.eval mx=.int k c:=by
      rcases hc with ⟨h,_⟩ | ⟨y,k,h,hy⟩
      ·cases h
      ·cases h;exact ⟨k,hy⟩
     obtain ⟨k1,hk1⟩:=hq'
     obtain ⟨k2,hk2⟩:=hc'
     have hrun:=kG (P:=P) (w:=w) (isS:=true) (len:=els.length) (cap:=cap) hp hk1 hk2 h0 h1 (by omega) (by omega)
     obtain ⟨v,hv,hDv,hcv⟩:=value c.toNat h0 h1 h2 (by omega) (by omega) hrun
     have hT:tokOK κ sz .full v:=by
      intro A' n' c' ev
      obtain ⟨e1,e2⟩:=hcv.1 _ _ _ ev
      omega
     exact ai hv (by rw [hd];exact .put hs hN (.sl sz _ .full v hDv hT) hF)
  ·exact h.elim
 ·rename_i zz b o' n c tk he
  rw [he] at hr
  split at h
  ·rename_i hb
   have hq:=Nat.eq_of_beq_eq_true hb
   subst hq
   obtain ⟨p,h,hp⟩:=cI hs hlo h
   obtain ⟨q,h,hq⟩:=cI hs hhi h
   obtain ⟨cap,hDb,hnc,hcc,hT,hA⟩:=hr.cs_inv
   cases mx with
   | some mx =>
     obtain ⟨mx'',hmx''⟩:∃ y,mx'=some y:=by
      simp only [fk] at hmx
      split at hmx<;>cases hmx
      exact ⟨_,rfl⟩
     subst hmx''
     simp only at h
     obtain ⟨r,h,hc⟩:=cI hs hmx h
     obtain ⟨⟨rfl,rfl,rfl⟩,hF⟩:=h
     obtain ⟨hi',rfl⟩:∃ y,hi=some y:=Option.isSome_iff_exists.1 (hm3 rfl)
     have hq':∃ k,a.eval hi'=.int k 0:=by
      rcases hq with ⟨h,_⟩ | ⟨y,k,h,hy⟩
      ·cases h
      ·cases h;exact ⟨k,hy⟩
     have hc':∃ k,a.eval mx=.int k 0:=by
      rcases hc with ⟨h,_⟩ | ⟨y,k,h,hy⟩
      ·cases h
      ·cases h;exact ⟨k,hy⟩
     obtain ⟨k1,hk1⟩:=hq'
     obtain ⟨k2,hk2⟩:=hc'
     have hrun:=kG (P:=P) (w:=w) (isS:=true) (len:=n) (cap:=cap) hp hk1 hk2 (by omega) (by omega) (by omega) (by omega)
     have hrunx:(execOp a.eval o).run P w=.ok (.value (.slice (some ⟨(κ.ι b).1,(κ.ι b).2+o',none⟩) 0 0)) w:=by
      simp at hrun
      simp [execOp,ho,hA,Instr.sliceAt,run_underlying hu,Instr.slice,hrun,aW hn]
     refine ai hrunx (by rw [hd];exact .put hs hN (.sl sz [] .full _ (.lst sz [] _ _ 0 (fun _ _=>undef) (Nat.le_refl _) (by simp) (by simp) (by simp) (by simp)) (fun A m k ev=>by cases ev;rfl)) hF)
   | none =>
     simp [fk] at hmx
     subst hmx
     obtain ⟨v,⟨⟨h0,h1,h2⟩,hvv⟩,hF⟩:=h
     have hbnd:=fM (P:=P) (w:=w) (isS:=true) (len:=n) (cap:=cap) hp hq h0 h1 (by omega)
     rcases hvv with ⟨h3,rfl⟩ | ⟨h3,rfl⟩
     rotate_left
     ·have hq0:q.toNat - p.toNat=0:=by omega
      have hT0:∀ A:Addr,tokOK κ sz (tokE tk) (.slice (some A) 0 (cap - p.toNat)):=by
       intro A
       cases tk with
       | none=>trivial
       | t k=>trivial
       | full =>
         intro A' m k ev
         have:=hT _ _ _ rfl
         cases ev
         omega
      by_cases hne:cap=p.toNat
      ·have hrunx:(execOp a.eval o).run P w=.ok (.value (.slice (some ⟨(κ.ι b).1,(κ.ι b).2+o',none⟩) 0 (cap - p.toNat))) w:=by
        simp [execOp,ho,hA,Instr.sliceAt,run_underlying hu,Instr.slice,hbnd,aW hn,← hne,hq0]
        omega
       exact ai hrunx (by rw [hd];exact .put hs hN (.sl sz [] _ _ (.lst sz [] _ _ _ (fun _ _=>undef) (Nat.zero_le _) (by simp) (by simp) (by simp) (by simp)) (hT0 _)) hF)
      ·have hrunx:(execOp a.eval o).run P w=.ok (.value (.slice (some ⟨(κ.ι b).1,(κ.ι b).2+(o'+p.toNat * sz),none⟩) 0 (cap - p.toNat))) w:=by
        simp [execOp,ho,hA,Instr.sliceAt,run_underlying hu,Instr.slice,hbnd,aW hn,hne,hq0,bg,Nat.add_assoc]
       exact ai hrunx (by rw [hd];exact .put hs hN (.sl sz [] _ _ (.lst sz [] _ _ _ (fun _ _=>undef) (Nat.zero_le _) (by simp) (by simp) (by simp) (by simp)) (hT0 _)) hF)
     have hne:¬ cap=p.toNat:=by omega
     have hrunx:(execOp a.eval o).run P w=.ok (.value (.slice (some ⟨(κ.ι b).1,(κ.ι b).2+(o'+p.toNat * sz),none⟩) (q.toNat - p.toNat) (cap - p.toNat))) w:=by
      simp [execOp,ho,hA,Instr.sliceAt,run_underlying hu,Instr.slice,hbnd,aW hn,hne,bg,Nat.add_assoc]
     have hT':tokOK κ sz tk (.slice (some ⟨(κ.ι b).1,(κ.ι b).2+(o'+p.toNat * sz),none⟩) (c - p.toNat) (cap - p.toNat)):=by
      cases tk with
      | none=>trivial
      | full =>
        intro A m k ev
        have:=hT _ _ _ rfl
        cases ev
        omega
      | t k =>
        refine ⟨hT.1,fun A m k' ev hlt=>?_⟩
        have hτ:=hT.2 _ _ _ rfl (by cases ev;omega)
        cases ev
        rw [hτ]
        have q1:(κ.ι b).2+o'+c * sz=(κ.ι b).2+(o'+p.toNat * sz)+(c - p.toNat) * sz:=by
         have:c * sz=p.toNat * sz+(c - p.toNat) * sz:=by rw [← Nat.add_mul];congr 1;omega
         omega
        have q2:(κ.ι b).2+o'+cap * sz=(κ.ι b).2+(o'+p.toNat * sz)+(cap - p.toNat) * sz:=by
         have:cap * sz=p.toNat * sz+(cap - p.toNat) * sz:=by rw [← Nat.add_mul];congr 1;omega
         omega
        simp only [q1,q2]
     exact ai hrunx (by rw [hd];exact .put hs hN (.cs sz b _ _ _ tk (cap - p.toNat) hDb (by omega) (by omega) hT') hF)
  ·exact h.elim
 ·exact h.elim
end ops
end Go.Abs
namespace Go.Abs
open Go
theorem bT {α:Type} (z:List α):∀ (n j:Nat),(List.replicate n z).flatten[j]? = if j<n * z.length then z[j % z.length]? else none
 | 0,j=>by simp
 | n + 1, j => by
   rw [List.replicate_succ,List.flatten_cons]
   by_cases h:j<z.length
   ·rw [List.getElem?_append_left h,if_pos (by rw [Nat.succ_mul];omega),Nat.mod_eq_of_lt h]
   ·rw [List.getElem?_append_right (by omega),bT z n (j - z.length)]
    have h1:j % z.length=(j - z.length) % z.length:=by rw [Nat.mod_eq_sub_mod (by omega)]
    rw [h1]
    by_cases h2:j - z.length<n * z.length
    ·rw [if_pos h2,if_pos (by rw [Nat.succ_mul];omega)]
    ·rw [if_neg h2,if_neg (by rw [Nat.succ_mul];omega)]
def dU (W0:World) (g:Nat) (cells:List Data):Prop:=g<W0.heap.size∧∀ (j:Nat) (d:Data),cells[j]? = some d→∃ c,W0.cell? ⟨g,j,none⟩=some c∧RepD (fun b _=>b<W0.heap.size) W0 d c
section ops
variable {P:Program} {W0:World} {κ:Gh} {σ:Log} {a:Act} {w:World} {id:Nat} {F:Log→Prop} {call:aX} {o:Oper} {Q:Exit→Act→World→Prop} {d:Nat} {z:Option Nat}
theorem RepS.oldcell (hs:RepS W0 κ σ a w) {b q:Nat} (hb:b<W0.heap.size):w.cell? ⟨b,q,none⟩=W0.cell? ⟨b,q,none⟩:=by
 have h:=hs.amb b hb
 simp [World.cell?,h]
theorem RepS.glob (hs:RepS W0 κ σ a w) {g:Nat} {cells:List Data} (hg:dU W0 g cells):RepV κ w (.elp cells 0) (.pointer (some ⟨g,0,none⟩)):=by
 have:=RepV.elp (κ:=κ) (w:=w) cells 0 g 0 fun j dd hj=>by
  obtain ⟨c,h1,h2⟩:=hg.2 j dd hj
  rw [Nat.zero_add]
  exact ⟨c,hs.old g j hg.1,(hs.oldcell hg.1).trans h1,h2.mono (fun b o hb=>hs.old b o hb) (fun b o hb=>hs.oldcell hb)⟩
 simpa using this
theorem s_iaG (hs:RepS W0 κ σ a w) {t e:TypeId} {g n sz:Nat} {y:Operand} {y':Opd} {cells:List Data} (ho:o.op=.indexAddr t (.global g) y) (hd:o.dst=some d) (hy:ax z y=some y')
  (hu:P.underlying t=some (.array n e)) (hn:(P.info? e).map (·.size)=some sz) (hc:cells.length=n * sz) (hsz:0<sz) (hg:dU W0 g cells) (hN:d<a.tmps.size) (h:eff call σ id (.iaG d cells sz y') F):o.wp P a w (After W0 κ σ a w id F) Q:=by
 have hry:=am hs hy
 simp only [eff] at h
 split at h
 ·rename_i k i he
  rw [he] at hry
  have ey:=hry.sc_inv
  simp only [Sc.val] at ey
  obtain ⟨⟨h0,h1⟩,hF⟩:=h
  have hin:i<n:=by
   rcases Nat.lt_or_ge i.toNat n with h | h
   ·omega
   ·have:=Nat.mul_le_mul_right sz h
    omega
  have hp:RepV κ w (.elp cells (i.toNat * sz)) (.pointer (some ⟨g,0+i.toNat * sz,none⟩)):=by
   obtain ⟨b,q,e1,e2⟩:=(hs.glob hg).elp_inv
   cases e1
   exact .elp cells _ g 0 e2
  refine ai (x:=.pointer (some ⟨g,0+i.toNat * sz,none⟩)) (w':=w) ?_ (by rw [hd];exact .put hs hN hp hF)
  have eg:a.eval (.global g)=.pointer (some ⟨g,0,none⟩):=rfl
  simp [execOp,ho,ey,eg,Instr.indexAt,asIntOf,run_underlying hu,h0,hin,aW hn,bg,Instr.sureAddr]
 ·exact h.elim
theorem s_cap (hs:RepS W0 κ σ a w) {t e:TypeId} {x:Operand} {x':Opd} (ho:o.op=.call { callee:=.builtin .cap,args:=#[x],argTypes:=#[t] }) (hd:o.dst=some d) (hx:ax z x=some x')
  (hu:P.underlying t=some (.slice e)) (hN:d<a.tmps.size) (h:eff call σ id (.cap d x') F):o.wp P a w (After W0 κ σ a w id F) Q:=by
 have hr:=am hs hx
 simp only [eff] at h
 split at h
 ·rename_i zz els he
  rw [he] at hr
  obtain ⟨hD,hT⟩:=hr.sl_inv
  obtain ⟨A,cap,hA⟩:=hD.len
  have hcap:cap=els.length:=by
   cases A with
   | none=>rw [hA] at hD;cases hD;rfl
   | some A=>exact (hT A _ _ hA).symm
  subst hcap
  refine ai (x:=.int .i64 els.length) (w':=w) ?_ (by rw [hd];exact .put hs hN (.sc (.i .i64 els.length)) h)
  simp [execOp,ho,hA,resolve,invoke,builtin,Builtin.cap_,run_underlying hu,goInt]
 ·rename_i zz els b n he
  rw [he] at hr
  obtain ⟨off,cap,_,_,_,_,hT,hA⟩:=hr.mx_inv
  have hcap:els.length+n=cap:=hT _ _ _ rfl
  subst hcap
  refine ai (x:=.int .i64 ((els.length+n:Nat):Int)) (w':=w) ?_ (by rw [hd];exact .put hs hN (.sc (.i .i64 ((els.length+n:Nat):Int))) h)
  simp [execOp,ho,hA,resolve,invoke,builtin,Builtin.cap_,run_underlying hu,goInt]
 ·exact h.elim
theorem s_inv (hs:RepS W0 κ σ a w) {t:TypeId} {x:Operand} {x':Opd} (ho:o.op=.unOp .xor t x) (hd:o.dst=some d) (hx:ax z x=some x') (hN:d<a.tmps.size)
  (h:eff call σ id (.bin d .xor (.c (.sc (.i .i64 (-1)))) x') F):o.wp P a w (After W0 κ σ a w id F) Q:=by
 have hr:=am hs hx
 simp only [eff] at h
 have e0:ev σ (.c (.sc (.i .i64 (-1))))=.sc (.i .i64 (-1)):=rfl
 rw [e0] at h
 simp only [kz] at h
 split at h
 ·rename_i k m k' n he1 he2
  cases he1
  rw [he2] at hr
  have e:=hr.sc_inv
  simp only [Sc.val] at e
  cases k'<;>simp only [gp] at h<;>first | exact h.elim | skip
  simp only [binI] at h
  refine ai (x:=.int .i64 (bits .xor .i64 (-1) n)) (w':=w) ?_ (by rw [hd];exact .put hs hN (.sc (.i .i64 (bits .xor .i64 (-1) n))) h)
  simp [execOp,ho,e,unary_xor,intBits_xor,IntKind.signed]
 ·rename_i he _;cases he
 ·exact h.elim
theorem s_neg (hs:RepS W0 κ σ a w) {t:TypeId} {x:Operand} {x':Opd} (ho:o.op=.unOp .neg t x) (hd:o.dst=some d) (hx:ax z x=some x') (hN:d<a.tmps.size)
  (h:eff call σ id (.bin d .sub (.c (.sc (.i .i64 0))) x') F):o.wp P a w (After W0 κ σ a w id F) Q:=by
 have hr:=am hs hx
 simp only [eff] at h
 have e0:ev σ (.c (.sc (.i .i64 0)))=.sc (.i .i64 0):=rfl
 rw [e0] at h
 simp only [kz] at h
 split at h
 ·rename_i k m k' n he1 he2
  cases he1
  rw [he2] at hr
  have e:=hr.sc_inv
  simp only [Sc.val] at e
  cases k'<;>simp only [gp] at h<;>first | exact h.elim | skip
  simp only [binI] at h
  obtain ⟨hfit,h⟩:=h
  have hw:IntKind.i64.wrap (0 - n)=0 - n:=ep hfit
  refine ai (x:=.int .i64 (0 - n)) (w':=w) ?_ (by rw [hd];exact .put hs hN (.sc (.i .i64 (0 - n))) h)
  show (execOp a.eval o).run P w=_
  have hu:Op.unary .neg (.int .i64 n)=Op.intArith .sub .i64 0 n:=rfl
  rw [Int.zero_sub] at hw
  simp [execOp,ho,e,hu,Op.intArith,hw]
 ·rename_i he _;cases he
 ·exact h.elim
theorem s_negu (hs:RepS W0 κ σ a w) {t:TypeId} {x:Operand} {x':Opd} (ho:o.op=.unOp .neg t x) (hd:o.dst=some d) (hx:ax z x=some x') (hN:d<a.tmps.size)
  (h:eff call σ id (.bin d .sub (.c (.sc (.i .u64 18446744073709551616))) x') F):o.wp P a w (After W0 κ σ a w id F) Q:=by
 have hr:=am hs hx
 simp only [eff] at h
 have e0:ev σ (.c (.sc (.i .u64 18446744073709551616)))=.sc (.i .u64 18446744073709551616):=rfl
 rw [e0] at h
 simp only [kz] at h
 split at h
 ·rename_i k m k' n he1 he2
  cases he1
  rw [he2] at hr
  have e:=hr.sc_inv
  simp only [Sc.val] at e
  cases k'<;>simp only [gp] at h<;>first | exact h.elim | skip
  simp only [binI] at h
  obtain ⟨hfit,h⟩:=h
  have hw:IntKind.u64.wrap (-n)=18446744073709551616 - n:=by
   have hf:(0:Int)≤18446744073709551616 - n∧18446744073709551616 - n≤18446744073709551615:=hfit
   have hu:IntKind.u64.wrap (-n)=(-n) % 18446744073709551616:=by simp [IntKind.wrap,IntKind.bits,IntKind.signed]
   rw [hu];omega
  refine ai (x:=.int .u64 (18446744073709551616 - n)) (w':=w) ?_ (by rw [hd];exact .put hs hN (.sc (.i .u64 (18446744073709551616 - n))) h)
  show (execOp a.eval o).run P w=_
  have hu:Op.unary .neg (.int .u64 n)=Op.intArith .sub .u64 0 n:=rfl
  simp [execOp,ho,e,hu,Op.intArith,hw]
 ·rename_i he _;cases he
 ·exact h.elim
theorem s_mk (hs:RepS W0 κ σ a w) (hf:Fresh κ id) {t e:TypeId} {sz by_:Nat} {x:Operand} {x':Opd} {zl:List AV} {i:TypeInfo} {v:Value}
  (ho:o.op=.makeSlice t x x) (hd:o.dst=some d) (hx:ax z x=some x') (hu:P.underlying t=some (.slice e)) (hi:P.info? e=some i) (hiv:i.zero=some v) (hsz:i.size=sz) (hby:i.bytes=by_)
  (hz:∀ (κ:Gh) (w:World),RepL κ w zl v.cells) (hvs:v.cells.size=sz) (hN:d<a.tmps.size) (h:eff call σ id (.mk d sz by_ zl x') F):o.wp P a w (After W0 κ σ a w id F) Q:=by
 have hr:=am hs hx
 simp only [eff] at h
 split at h
 ·rename_i n he
  rw [he] at hr
  have ex:=hr.sc_inv
  simp only [Sc.val] at ex
  obtain ⟨⟨h0,hR1,hR2⟩,hF⟩:=h
  have hzl:zl.length=sz:=by rw [← (hz κ w).1,hvs]
  have hrun:=run_make (P:=P) w t e i v hu hi hiv .i64 .i64 n n h0 (Int.le_refl _) (by
   rw [hby]
   have h1:((n.toNat * by_:Nat):Int)≤140737488355328:=by omega
   have h2:((n.toNat * by_:Nat):Int)=n * by_:=by rw [Int.natCast_mul,Int.toNat_of_nonneg h0]
   rw [Int.mul_comm];omega) (by omega)
  have hexec:(execOp a.eval o).run P w=.ok (.value (.slice (some ⟨w.heap.size,0,none⟩) n.toNat n.toNat)) (w.alloc (.cells (madeCells v.cells (n.toNat * sz)) e)):=by
   simp only [execOp,ho,ex]
   rw [hsz] at hrun
   simp [hrun]
  have hL:RepL κ w (List.replicate n.toNat zl).flatten (madeCells v.cells (n.toNat * sz)):=by
   refine ⟨by rw [size_madeCells];simp [hzl],?_,fun j u hj=>?_⟩
   ·intro u hu'
    obtain ⟨l,hl,hul⟩:=List.mem_flatten.1 hu'
    rw [List.eq_of_mem_replicate hl] at hul
    exact (hz κ w).2.1 u hul
   ·rw [bT,hzl] at hj
    split at hj
    ·rename_i hlt
     have:=(hz κ w).2.2 _ u hj
     have e1:(madeCells v.cells (n.toNat * sz)).getD j undef=v.cells.getD (j % sz) undef:=by
      have hszp:0<sz:=by
       rcases Nat.eq_zero_or_pos sz with h | h
       ·subst h;simp at hlt
       ·exact h
      have hm:j % sz<v.cells.size:=by rw [hvs];exact Nat.mod_lt _ hszp
      simp [madeCells,Array.getD,hlt,hvs,Nat.mod_lt _ hszp]
     rw [e1];exact this
    ·cases hj
  obtain ⟨h1,h2,h3⟩:=hs.box (hf.db id (Nat.le_refl _) (by omega)) hL e
  refine ai hexec ?_
  rw [hd]
  refine ⟨_,_,hF,h1.put hN ?_,h2.trans Step.put,put_size,⟨?_,fun k hk=>.inl hk⟩⟩
  ·have hp:=RepV.mx (κ:={ κ with Db:=fun b=>κ.Db b∨b=id,ι:=fun b=>if b=id then (w.heap.size,0) else κ.ι b }) (w:=w.alloc (.cells (madeCells v.cells (n.toNat * sz)) e)) sz [] id n.toNat .full 0 n.toNat (.inr rfl)
    (by simp) (by simp) (.lst sz [] _ _ _ (fun _ _=>undef) (Nat.zero_le _) (by simp) (by simp) (by simp) (by simp)) (fun A m c ev=>by cases ev;simp)
   simpa using hp
  ·rintro b (hb | rfl)
   ·exact .inl hb
   ·exact .inr ⟨Nat.le_refl _,by omega⟩
 ·exact h.elim
end ops
end Go.Abs
namespace Go.Abs
open Go
theorem i7 {κ:Gh} {w:World} {sz:Nat} {els:List (List Data)} {L:List Value} (h:Flat κ.I w sz els L):(els.flatten.map aQ).length=L.length ∧
  ∀ (j:Nat) (v:AV),(els.flatten.map aQ)[j]? = some v→RepV κ w v (L.getD j undef)∧one v=true:=by
 have hlen:els.flatten.length=els.length * sz:=by
  have:=h.el
  clear h
  induction els with
  | nil=>simp
  | cons e r ih =>
    rw [List.flatten_cons,List.length_append,this e (by simp),ih (fun e he=>this e (by simp [he])),List.length_cons,Nat.succ_mul];omega
 refine ⟨by rw [List.length_map,hlen,h.len],fun j v hj=>?_⟩
 rw [List.getElem?_map] at hj
 cases hd:els.flatten[j]? with
 | none=>rw [hd] at hj;cases hj
 | some d =>
   rw [hd] at hj
   simp only [Option.map_some,Option.some.injEq] at hj
   subst hj
   have hjl:j<els.length * sz:=by rw [← hlen];exact (List.getElem?_eq_some_iff.1 hd).1
   have hsz:0<sz:=by
    rcases Nat.eq_zero_or_pos sz with h | h
    ·subst h;simp at hjl
    ·exact h
   have hi:j / sz<els.length:=(Nat.div_lt_iff_lt_mul hsz).2 hjl
   have hes:=h.el els[j / sz] (List.getElem_mem hi)
   have hjm:j % sz<els[j / sz].length:=by rw [hes];exact Nat.mod_lt _ hsz
   have hf:∀ (ch:List (List Data)) (i k:Nat) (e:List Data) (d:Data),(∀ e,e∈ch→e.length=sz)→ch[i]? = some e→e[k]? = some d→ch.flatten[i * sz+k]? = some d:=by
    intro ch
    induction ch with
    | nil=>intro i k e d _ h _;simp at h
    | cons x ch ih =>
      intro i k e d hs h hj
      have hx:=hs x (by simp)
      rw [List.flatten_cons]
      cases i with
      | zero =>
        simp at h;subst h
        rw [Nat.zero_mul,Nat.zero_add,List.getElem?_append_left (List.getElem?_eq_some_iff.1 hj).1];exact hj
      | succ i =>
        have:=ih i k e d (fun e he=>hs e (by simp [he])) (by simpa using h) hj
        rw [List.getElem?_append_right (by rw [hx,Nat.succ_mul];omega),hx,show (i+1) * sz+k - sz=i * sz+k by rw [Nat.succ_mul];omega]
        exact this
   have h1:=hf els (j / sz) (j % sz) _ _ h.el (List.getElem?_eq_getElem hi) (List.getElem?_eq_getElem hjm)
   rw [Nat.div_add_mod' j sz,hd] at h1
   have h2:=h.rep (j / sz) (j % sz) _ _ (List.getElem?_eq_getElem hi) (List.getElem?_eq_getElem hjm)
   rw [Nat.div_add_mod' j sz] at h2
   cases h1
   exact kv h2
section ops
variable {P:Program} {W0:World} {κ:Gh} {σ:Log} {a:Act} {w:World} {id:Nat} {F:Log→Prop} {call:aX} {o:Oper} {Q:Exit→Act→World→Prop} {d:Nat} {z:Option Nat}
theorem s_mkF (hs:RepS W0 κ σ a w) {t e:TypeId} {sz by_:Nat} {x:Operand} {x':Opd} {zl:List AV} {zd:List Data} {i:TypeInfo} {v:Value}
  (ho:o.op=.makeSlice t x x) (hd:o.dst=some d) (hx:ax z x=some x') (hu:P.underlying t=some (.slice e)) (hi:P.info? e=some i) (hiv:i.zero=some v) (hsz:i.size=sz) (hby:i.bytes=by_)
  (hz:∀ (κ:Gh) (w:World),RepL κ w zl v.cells) (hvs:v.cells.size=sz) (hcd:bB zl=some zd) (hN:d<a.tmps.size) (h:eff call σ id (.mkF d sz by_ zd x') F):o.wp P a w (After W0 κ σ a w id F) Q:=by
 have hr:=am hs hx
 simp only [eff] at h
 split at h
 ·rename_i n he
  rw [he] at hr
  have ex:=hr.sc_inv
  simp only [Sc.val] at ex
  obtain ⟨⟨h0,hR1,hR2⟩,hF⟩:=h
  have hzl:zl.length=sz:=by rw [← (hz κ w).1,hvs]
  obtain ⟨hzd,hcell⟩:=b9 hcd
  have hrun:=run_make (P:=P) w t e i v hu hi hiv .i64 .i64 n n h0 (Int.le_refl _) (by
   rw [hby]
   have h1:((n.toNat * by_:Nat):Int)≤140737488355328:=by omega
   have h2:((n.toNat * by_:Nat):Int)=n * by_:=by rw [Int.natCast_mul,Int.toNat_of_nonneg h0]
   rw [Int.mul_comm];omega) (by omega)
  have hexec:(execOp a.eval o).run P w=.ok (.value (.slice (some ⟨w.heap.size,0,none⟩) n.toNat n.toNat)) (w.alloc (.cells (madeCells v.cells (n.toNat * sz)) e)):=by
   simp only [execOp,ho,ex]
   rw [hsz] at hrun
   simp [hrun]
  obtain ⟨h1,h2,h3⟩:=hs.row (madeCells v.cells (n.toNat * sz)) e (n.toNat * sz)
  refine ai hexec ?_
  rw [hd]
  refine ⟨_,_,hF,h1.put hN ?_,h2.trans Step.put,put_size,⟨fun b hb=>.inl hb,fun k hk=>.inl hk⟩⟩
  refine .sl sz _ .full _ ?_ (fun A m c ev=>by cases ev;rfl)
  have hk:∀ p q,p<n.toNat→q<sz→p * sz+q<n.toNat * sz:=by
   intro p q hp hq
   have:p * sz+sz≤n.toNat * sz:=by rw [← Nat.succ_mul];exact Nat.mul_le_mul_right _ hp
   omega
  have hel:∀ p e',(List.replicate n.toNat zd)[p]? = some e'→p<n.toNat∧e'=zd:=by
   intro p e' hp
   rw [List.getElem?_replicate] at hp
   split at hp
   ·rename_i hlt;cases hp;exact ⟨hlt,rfl⟩
   ·cases hp
  have:=RepD.lst (I:=fun b o=>κ.I b o∨(b=w.heap.size∧o<n.toNat * sz)) (w:=w.alloc (.cells (madeCells v.cells (n.toNat * sz)) e)) sz (List.replicate n.toNat zd) w.heap.size 0 n.toNat (fun _ q=>v.cells.getD q undef) (by simp)
   (fun e' he'=>by rw [List.eq_of_mem_replicate he',hzd,hzl])
   (fun p q hp hq=>by simp only [List.length_replicate] at hp;exact .inr ⟨rfl,by have:=hk p q hp hq;omega⟩)
   (fun p q hp hq=>by
    simp only [List.length_replicate] at hp
    have hlt:=hk p q hp hq
    have hszp:0<sz:=by omega
    have hm:(p * sz+q) % sz=q:=by rw [Nat.mul_comm,Nat.mul_add_mod];exact Nat.mod_eq_of_lt hq
    rw [au (heap_alloc_new (w:=w)),Nat.zero_add]
    simp [madeCells,hlt,hvs,hm,hq,Array.getD])
   (fun p q e' dd he' hd'=>by
    obtain ⟨_,rfl⟩:=hel p e' he'
    have hql:q<zl.length:=by rw [← hzd];exact (List.getElem?_eq_some_iff.1 hd').1
    obtain ⟨d',g1,g2⟩:=hcell q _ (List.getElem?_eq_getElem hql)
    rw [hd'] at g1
    cases g1
    exact dq (κ:={ κ with I:=fun b o=>κ.I b o∨(b=w.heap.size∧o<n.toNat * sz) }) ((hz _ _).2.2 q _ (List.getElem?_eq_getElem hql)) g2)
  simpa using this
 ·exact h.elim
end ops
end Go.Abs
namespace Go.Abs
open Go
section ops
variable {P:Program} {W0:World} {κ:Gh} {σ:Log} {a:Act} {w:World} {id:Nat} {F:Log→Prop} {call:aX} {o:Oper} {Q:Exit→Act→World→Prop} {d:Nat} {z:Option Nat}
theorem j8 {κ1:Gh} {σ1:Log} {w1:World} (hs:RepS W0 κ1 σ1 a w1) {k id:Nat} (hk:look σ1 (.t k)=some (.tk true)) (hid:¬ κ1.Db id) (hidt:¬ κ1.Dt id) {g p sz cap off:Nat} {e1 e2:List (List Data)} {L2:List Value}
  (hp:p=off+e1.length * sz) (hτ:κ1.τ k=(g,p,off+cap * sz)) (hpos:0<e2.length * sz) (hcap:e1.length+e2.length≤cap) (f2:Flat κ1.I w1 sz e2 L2) {C:Array Value} {ty:TypeId} (hg:w1.heap[g]? = some (.cells C ty (0,0)))
  (hC:∀ j,j<L2.length→C[p+j]? = L2[j]?) (hCs:off+cap * sz≤C.size) (hD:RepD κ1.I w1 (.lst sz e1) (.slice (some ⟨g,off,none⟩) e1.length cap)) :
  ∃ κ2, RepS W0 κ2 ((.b id, .bx (e2.flatten.map aQ)) :: (.t id, .tk true) :: (.t k, .tk false) :: σ1) a w1 ∧ Step κ1 σ1 w1 κ2 ((.b id, .bx (e2.flatten.map aQ)) :: (.t id, .tk true) :: (.t k, .tk false) :: σ1) w1 ∧
    RepV κ2 w1 (.mx sz e1 id e2.length (.t id)) (.slice (some ⟨g,off,none⟩) (e1.length+e2.length) cap)∧(∀ b,κ2.Db b→κ1.Db b∨b=id)∧(∀ b,κ2.Dt b→κ1.Dt b∨b=id):=by
 obtain ⟨hl,hrep⟩:=i7 f2
 have hll:(e2.flatten.map aQ).length=e2.length * sz:=by rw [hl,f2.len]
 have hfit:p+(e2.flatten.map aQ).length≤off+cap * sz:=by
  rw [hll,hp,Nat.add_assoc,← Nat.add_mul]
  exact Nat.add_le_add_left (Nat.mul_le_mul_right _ hcap) _
 have hR:RepC κ1 w1 (e2.flatten.map aQ) C p:=by
  refine ⟨Nat.le_trans hfit hCs,fun v hv=>?_,fun j v hj=>?_⟩
  ·obtain ⟨j,hj⟩:=List.mem_iff_getElem?.1 hv
   exact (hrep j v hj).2
  ·have hjl:j<L2.length:=by rw [← hl];exact (List.getElem?_eq_some_iff.1 hj).1
   have:=(hrep j v hj).1
   rw [List.getD_eq_getElem?_getD] at this
   rw [Array.getD_eq_getD_getElem?,hC j hjl]
   exact this
 obtain ⟨r,s,e⟩:=hs.split hk hid hidt hτ (by rw [hll];exact hpos) hfit hg hR
 refine ⟨_,r,s,?_,fun b hb=>hb,fun b hb=>hb⟩
 have:=RepV.mx (κ:={ κ1 with Db:=fun b=>κ1.Db b∨b=id,ι:=fun b=>if b=id then (g,p) else κ1.ι b,Dt:=fun j=>κ1.Dt j∨j=id,τ:=fun j=>if j=id then (g,p+(e2.flatten.map aQ).length,off+cap * sz) else κ1.τ j })
  (w:=w1) sz e1 id e2.length (.t id) off cap (.inr rfl) (by simpa using hp) hcap (by simpa using hD) ⟨.inr rfl,by
   intro A n c ev _
   simp only [if_true,Value.slice.injEq,Option.some.injEq] at ev
   obtain ⟨rfl,rfl,rfl⟩:=ev
   simp only [if_true,hll,hp,Nat.add_mul,Nat.add_assoc]⟩
 simpa using this
end ops
end Go.Abs
namespace Go.Abs
open Go
section ops
variable {P:Program} {W0:World} {κ:Gh} {σ:Log} {a:Act} {w:World} {id:Nat} {F:Log→Prop} {call:aX} {o:Oper} {Q:Exit→Act→World→Prop} {d:Nat} {z:Option Nat}
theorem s_appM (hs:RepS W0 κ σ a w) (hf:Fresh κ id) {t e:TypeId} {sz by_:Nat} {x y:Operand} {x' y':Opd} {z1 z2:Option Nat} {ie:TypeInfo} {zv:Value}
  (ho:o.op=.call { callee:=.builtin .append,args:=#[x,y],argTypes:=#[t,t] }) (hd:o.dst=some d) (hx:ax z1 x=some x') (hy:ax z2 y=some y')
  (hu:P.underlying t=some (.slice e)) (hie:P.info? e=some ie) (hsz:ie.size=sz) (hby:ie.bytes=by_) (hz:ie.zero=some zv) (hzs:zv.cells.size=sz) (hsz0:0<sz)
  (hN:d<a.tmps.size) (h:eff call σ id (.appM d sz by_ x' y') F):o.wp P a w (After W0 κ σ a w id F) Q:=by
 have hrx:=am hs hx
 have hry:=am hs hy
 simp only [eff] at h
 split at h
 ·rename_i q1 e1 t1 q2 e2 t2 he1 he2
  rw [he1] at hrx
  rw [he2] at hry
  split at h
  ·rename_i hb1 hb2
   have hq1:=Nat.eq_of_beq_eq_true hb1
   have hq2:=Nat.eq_of_beq_eq_true hb2
   subst hq1;subst hq2
   obtain ⟨hD1,hT1⟩:=hrx.sl_inv
   obtain ⟨hD2,_⟩:=hry.sl_inv
   obtain ⟨off,hoff,hoffT,hpos2,hRoom,hF⟩:∃ off:Option Nat,(∀ k,off=some k→look σ (.t k)=some (.tk true))∧(t1=.full∧off=none∨∃ k,t1=.t k∧off=some k) ∧
     0<e2.length∧jU (e1.length+e2.length) by_∧F ((.s d,.av (.mx sz e1 (id+1) e2.length (.t (id+1))))::(.b (id+1),.bx (e2.flatten.map aQ))::(.t (id+1),.tk true)::(.t id,.tk false)::(.t id,.tk true)::(match off with | some k=>[(.t k,.tk false)] | none=>[])):=by
    split at h
    ·exact h.elim
    ·exact ⟨none,by simp,.inl ⟨rfl,rfl⟩,h.1.1,h.1.2,h.2⟩
    ·rename_i k
     split at h
     ·rename_i hk
      exact ⟨some k,fun k' e=>by cases e;exact hk,.inr ⟨k,rfl,rfl⟩,h.1.1,h.1.2,h.2⟩
     ·exact h.elim
   have hidk:∀ k,off=some k→k≠id:=fun k hk e=>hf.dt id (Nat.le_refl _) (by omega) (e ▸ (hs.toks k (hoff k hk)).1)
   have hid:¬ κ.Dt id:=hf.dt id (Nat.le_refl _) (by omega)
   have hmul2:0<e2.length * sz:=Nat.mul_pos hpos2 hsz0
   have grown:∀ (L1 L2:List Value) (Z:Array Value) (newCap:Nat),Flat κ.I w sz e1 L1→Flat κ.I w sz e2 L2→e1.length+e2.length≤newCap→Z.size=(newCap - (e1.length+e2.length)) * sz→∀ (dr:Nat),
     (execOp a.eval o).run P w=.ok (.value (.slice (some ⟨w.heap.size,0,none⟩) (e1.length+e2.length) newCap)) (({ w with drawn:=dr }:World).alloc (.cells (L1.toArray++L2.toArray++Z) e)) →
     o.wp P a w (After W0 κ σ a w id F) Q:=by
    intro L1 L2 Z newCap f1 f2 hcap hZ dr hrun
    have hsize:(L1.toArray++L2.toArray++Z).size=newCap * sz:=by
     simp only [Array.size_append,List.size_toArray,hZ,f1.len,f2.len,← Nat.add_mul]
     congr 1;omega
    have hle1:e1.length * sz≤newCap * sz:=Nat.mul_le_mul_right _ (by omega)
    obtain ⟨r1,r2,r3⟩:=(hs.drawn dr).rowTok off hoff hid (L1.toArray++L2.toArray++Z) e (e1.length * sz) (newCap * sz) (by omega) _ rfl
    have hcell:∀ j,(({ w with drawn:=dr }:World).alloc (.cells (L1.toArray++L2.toArray++Z) e)).cell? ⟨w.heap.size,j,none⟩=(L1.toArray++L2.toArray++Z)[j]?:=fun j=>
     au (heap_alloc_new (w:={ w with drawn:=dr }))
    have mono:=fun {els:List (List Data)} {L:List Value} (fl:Flat κ.I w sz els L)=>
     (fl.mono (w:=w) (w':={ w with drawn:=dr }) (fun _ _ h=>h) (fun _ _ _=>rfl)).mono (I':=fun b o=>κ.I b o∨(b=({ w with drawn:=dr }:World).heap.size∧o<e1.length * sz)) (w':=({ w with drawn:=dr }:World).alloc (.cells (L1.toArray++L2.toArray++Z) e)) r3.I_ r3.cell
    have hsh:=(mono f1).shut (b:=w.heap.size) (o:=0) (cap:=newCap) (by omega) (fun k hk=>.inr ⟨rfl,by omega⟩) (fun k hk=>by
     rw [Nat.zero_add,hcell,Array.append_assoc,Array.getElem?_append_left (by rw [List.size_toArray,f1.len];exact hk),List.getElem?_toArray])
    obtain ⟨κ2,q1,q2,q3,q4,q5⟩:=j8 (id:=id+1) (off:=0) (cap:=newCap) (p:=e1.length * sz) (g:=w.heap.size) (e1:=e1) r1 (k:=id) (by simp [af])
     (fun hh=>hf.db (id+1) (by omega) (by omega) hh) (fun hh=>hh.elim (hf.dt (id+1) (by omega) (by omega)) (fun e=>by omega)) (by omega) (by simp) hmul2 hcap (mono f2)
     (heap_alloc_new (w:={ w with drawn:=dr })) (fun j hj=>by
      rw [Array.append_assoc,Array.getElem?_append_right (by rw [List.size_toArray,f1.len];omega),List.size_toArray,f1.len,Nat.add_sub_cancel_left,Array.getElem?_append_left (by rw [List.size_toArray];exact hj),List.getElem?_toArray]) (by omega) hsh
    refine ai hrun ?_
    rw [hd]
    refine ⟨_,κ2,hF,q1.put hN q3,(((Step.drawn dr).trans r2).trans q2).trans Step.put,put_size,⟨fun b hb=>?_,fun k hk=>?_⟩⟩
    ·rcases q4 b hb with h | h
     ·exact .inl h
     ·exact .inr ⟨by omega,by omega⟩
    ·rcases q5 k hk with h | h
     ·exact h.elim .inl fun e=>.inr ⟨by omega,by omega⟩
     ·exact .inr ⟨by omega,by omega⟩
   have hexec:∀ v1 v2,a.eval x=v1→a.eval y=v2→∀ r w',(Builtin.append_ #[t,t] o.type #[v1,v2]).run P w=.ok r w'→(execOp a.eval o).run P w=.ok (.value r) w':=by
    intro v1 v2 h1 h2 r w' hr
    simp [execOp,ho,resolve,invoke,builtin,h1,h2,hr]
   subst hsz
   rcases hD2.flat hsz0 with ⟨A2,hv2,hn2⟩ | ⟨b2,o2,cap2,L2,hv2,hcap2,f2,hI2,hc2⟩
   ·rw [hn2] at hpos2;simp at hpos2
   ·have hnews:∀ j u,L2[j]? = some u→w.cell? ((⟨b2,o2,none⟩:Addr).add j)=some u:=by
     intro j u hj
     have hjl:j<e2.length * ie.size:=by rw [← f2.len];exact (List.getElem?_eq_some_iff.1 hj).1
     rw [bg,hc2 j hjl,hj]
    have hone:=f2.one hsz0
    have h63:e1.length+e2.length≤9223372036854775807:=hRoom.1
    have hbb:=hRoom.2
    rw [← hby] at hbb
    rcases hD1.flat hsz0 with ⟨A1,hv1,hn1⟩ | ⟨b1,o1,cap1,L1,hv1,hcap1,f1,hI1,hc1⟩
    ·have he1:e1.length=0:=by rw [hn1];rfl
     have hr:=dN (P:=P) w t o.type e ie zv A1 hu hie hz ⟨b2,o2,none⟩ e2.length cap2 L2 f2.len hnews (by omega) (by omega) (by rw [he1,Nat.zero_add] at hbb;omega)
     have f1:Flat κ.I w ie.size e1 []:=by rw [hn1];exact Flat.nil _ _ _
     refine grown [] L2 (Builtin.zeroCells zv.cells (grownCap w e2.length 0 e - e2.length)) (grownCap w e2.length 0 e) f1 f2 (by rw [he1,Nat.zero_add];exact grownCap_ge _ _ _ _) (by rw [size_zeroCells,hzs,he1,Nat.zero_add]) (w.drawn+1) ?_
     refine hexec _ _ hv1 hv2 _ _ ?_
     rw [hr]
     simp only [he1,Nat.zero_add]
     congr 2
     simp
    ·have hholds:∀ j u,L1[j]? = some u→w.cell? ((⟨b1,o1,none⟩:Addr).add j)=some u:=by
      intro j u hj
      have hjl:j<e1.length * ie.size:=by rw [← f1.len];exact (List.getElem?_eq_some_iff.1 hj).1
      rw [bg,hc1 j hjl,hj]
     by_cases hroom:e1.length+e2.length≤cap1
     ·obtain ⟨k,hk,ho'⟩:∃ k,t1=.t k∧off=some k:=by
       rcases hoffT with ⟨rfl,_⟩ | h
       ·exact absurd (hT1 _ _ _ hv1) (by omega)
       ·exact h
      subst hk
      have hτ:=hT1.2 _ _ _ hv1 (by omega)
      simp only at hτ
      have hlk:=hoff k ho'
      have hmul:e1.length * ie.size+e2.length * ie.size≤cap1 * ie.size:=by rw [← Nat.add_mul];exact Nat.mul_le_mul_right _ hroom
      have hlo:(κ.τ k).2.1<(κ.τ k).2.2:=by rw [hτ];simp only;omega
      obtain ⟨hblk,cur,te,hg,hfit⟩:=(hs.toks k hlk).2 hlo
      rw [hτ] at hblk hg hfit
      simp only at hblk hg hfit
      have hL2:L2.length=e2.length * ie.size:=f2.len
      have hr:=cH (P:=P) (w:=w) t o.type e ie hu hie b1 o1 e1.length cap1 cur te hg ⟨b2,o2,none⟩ e2.length cap2 L2 f2.len hnews hone hroom (by rw [hL2];omega)
      have hsplice:=fun j=>du (C:=cur) (vs:=L2) (o:=o1+e1.length * ie.size) (by rw [hL2];omega) j
      have hsplsz:=bA (C:=cur) (vs:=L2) (o:=o1+e1.length * ie.size) (by rw [hL2];omega)
      obtain ⟨s1,s2,s3⟩:=hs.spare hlk (g:=b1) (arr:=(cur.toList.take (o1+e1.length * ie.size)++L2++cur.toList.drop (o1+e1.length * ie.size+L2.length)).toArray) hg hsplsz (by
       intro j hj
       rw [hsplice j,if_neg]
       intro hh
       apply hj
       rw [hτ]
       exact ⟨rfl,hh.1,by simp only;omega⟩)
      obtain ⟨r1,r2,r3⟩:=s1.retok (some k) (fun k' e=>by cases e;exact hlk) hid (fun k' e=>by cases e;exact hidk k ho') (fun _ _=>False) (b1,o1+e1.length * ie.size,o1+cap1 * ie.size)
       (fun _ _ h=>h.elim)
       (by
        intro _
        refine ⟨hblk,_,te,setRow_heap w b1 cur _ te (0,0) hg,?_⟩
        rw [hsplsz];exact hfit)
       (by
        intro b q hh
        have hin:aZ (κ.τ k) b q:=by rw [hτ];exact hh
        exact ⟨s1.sepI b q (.inr ⟨k,hlk,hin⟩),k,rfl,hin⟩)
       _ rfl
      have f1':=((f1.mono s3.I_ s3.cell).mono r3.I_ r3.cell)
      have f2':=((f2.mono s3.I_ s3.cell).mono r3.I_ r3.cell)
      have hsh:=f1'.shut (b:=b1) (o:=o1) (cap:=cap1) hcap1 (fun j hj=>.inl (hI1 j hj)) (fun j hj=>by
       rw [au (setRow_heap w b1 cur _ te (0,0) hg),hsplice,if_neg (by omega)]
       have:=hc1 j hj
       rw [au hg] at this
       exact this)
      obtain ⟨κ2,q1,q2,q3,q4,q5⟩:=j8 (id:=id+1) (off:=o1) (cap:=cap1) (p:=o1+e1.length * ie.size) (g:=b1) (e1:=e1) r1 (k:=id) (by simp [af])
       (fun hh=>hf.db (id+1) (by omega) (by omega) hh) (fun hh=>hh.elim (hf.dt (id+1) (by omega) (by omega)) (fun e=>by omega)) rfl (by simp) hmul2 hroom f2'
       (setRow_heap w b1 cur _ te (0,0) hg) (fun j hj=>by
        rw [hsplice,if_pos (by omega)]
        congr 1;omega) (by rw [hsplsz];exact hfit) hsh
      refine ai (hexec _ _ hv1 hv2 _ _ hr) ?_
      rw [hd]
      rw [ho'] at hF
      refine ⟨_,κ2,hF,q1.put hN q3,((s2.trans r2).trans q2).trans Step.put,put_size,⟨fun b hb=>?_,fun k hk=>?_⟩⟩
      ·rcases q4 b hb with h | h
       ·exact .inl h
       ·exact .inr ⟨by omega,by omega⟩
      ·rcases q5 k hk with h | h
       ·exact h.elim .inl fun e=>.inr ⟨by omega,by omega⟩
       ·exact .inr ⟨by omega,by omega⟩
     ·have hr:=run_append_grow (P:=P) w t o.type e ie zv hu hie hz ⟨b1,o1,none⟩ e1.length cap1 L1 f1.len hholds ⟨b2,o2,none⟩ e2.length cap2 L2 f2.len hnews (by omega) (by omega) (growslice_fits (by omega) hbb)
      refine grown L1 L2 (Builtin.zeroCells zv.cells (grownCap w (e1.length+e2.length) cap1 e - (e1.length+e2.length))) (grownCap w (e1.length+e2.length) cap1 e) f1 f2 (grownCap_ge _ _ _ _) (by rw [size_zeroCells,hzs]) (w.drawn+1) ?_
      exact hexec _ _ hv1 hv2 _ _ hr
  ·exact h.elim
 ·exact h.elim
end ops
end Go.Abs
namespace Go.Abs
open Go
theorem j6 {P:Program} (w:World) (t tn ty e:TypeId) (i:TypeInfo) (z:Value) (kn:IntKind) (base:Option Addr) (ht:P.underlying t=some (.slice e)) (htn:P.underlying tn=some (.int kn)) (hi:P.info? e=some i) (hz:i.zero=some z)
  (n:Nat) (h0:0<n) (hs:0<i.size) (h63:(n:Int)≤9223372036854775807) (h48:n * i.bytes≤281474976710656) :
  (Builtin.append_ #[t,tn] ty #[.slice base 0 0,.int .i64 n]).run P w =
   .ok (.slice (some ⟨w.heap.size,0,none⟩) n (grownCap w n 0 e)) (w.drew.alloc (.cells (Builtin.zeroCells z.cells n++Builtin.zeroCells z.cells (grownCap w n 0 e - n)) e)):=by
 have hn:n≠0:=by omega
 have hw:IntKind.i64.wrap (n:Int)=n:=by rw [IntKind.wrap_i64];omega
 have h63':¬ (9223372036854775807<(n:Int)):=by omega
 have h48':¬ (281474976710656<Builtin.nextslicecap n 0 * i.bytes):=by rw [nextslicecap_zero h0];omega
 have h48i:¬ (281474976710656<(n:Int) * (i.bytes:Int)):=by
  rw [← Int.natCast_mul]
  omega
 have hneg:¬ ((n:Int)<0):=by omega
 have hns:¬ (n * i.size=0):=Nat.mul_ne_zero hn (by omega)
 have hf:∀ (w:World),(Builtin.firstCells i.size 0 (.slice base 0 0)).run P w=.ok #[] w:=by
  intro w
  cases base with
  | none=>simp [run_firstCells_none]
  | some b=>simpa using run_firstCells_some (P:=P) w i.size 0 b 0 0 [] (by simp) (by simp)
 simp [Builtin.append_,run_underlying ht,run_underlying htn,sizeOf,typeInfo,zeroValue,hi,hz,asInt,asIntOf,hw,hn,hneg,hns,h63',h48',h48i,Question.forced,hf,newRow,grownCap]
section ops
variable {P:Program} {W0:World} {κ:Gh} {σ:Log} {a:Act} {w:World} {id:Nat} {F:Log→Prop} {call:aX} {o:Oper} {Q:Exit→Act→World→Prop} {d:Nat} {z:Option Nat}
theorem s_appZ (hs:RepS W0 κ σ a w) (hf:Fresh κ id) {t tn e:TypeId} {sz by_:Nat} {x y:Operand} {x' y':Opd} {z1 z2:Option Nat} {ie:TypeInfo} {v:Value} {kn:IntKind} {zl:List AV} {zd:List Data}
  (ho:o.op=.call { callee:=.builtin .append,args:=#[x,y],argTypes:=#[t,tn] }) (hd:o.dst=some d) (hx:ax z1 x=some x') (hy:ax z2 y=some y')
  (hu:P.underlying t=some (.slice e)) (hun:P.underlying tn=some (.int kn)) (hie:P.info? e=some ie) (hiv:ie.zero=some v) (hsz:ie.size=sz) (hby:ie.bytes=by_)
  (hz:∀ (κ:Gh) (w:World),RepL κ w zl v.cells) (hvs:v.cells.size=sz) (hcd:bB zl=some zd) (hsz0:0<sz)
  (hN:d<a.tmps.size) (h:eff call σ id (.appZ d sz by_ zd x' y') F):o.wp P a w (After W0 κ σ a w id F) Q:=by
 have hrx:=am hs hx
 have hry:=am hs hy
 simp only [eff] at h
 split at h
 ·rename_i q n he1 he2
  rw [he1] at hrx
  rw [he2] at hry
  split at h
  ·rename_i hb1
   have hq1:=Nat.eq_of_beq_eq_true hb1
   subst hq1
   obtain ⟨hD1,hT1⟩:=hrx.sl_inv
   have ex:=hry.sc_inv
   simp only [Sc.val] at ex
   obtain ⟨⟨h0,hR1,hR2⟩,hF⟩:=h
   obtain ⟨m,rfl⟩:∃ m:Nat,n=(m:Int):=⟨n.toNat,by omega⟩
   simp only [Int.toNat_natCast] at hR1 hR2 hF
   have hm0:0<m:=by omega
   obtain ⟨base,hv1⟩:∃ base,a.eval x=.slice base 0 0:=by
    subst hsz
    rcases hD1.flat hsz0 with ⟨A1,hv1,hn1⟩ | ⟨b1,o1,cap1,L1,hv1,hcap1,f1,hI1,hc1⟩
    ·exact ⟨_,hv1⟩
    ·have:=hT1 _ _ _ hv1
     subst this
     exact ⟨_,hv1⟩
   have hzl:zl.length=sz:=by rw [← (hz κ w).1,hvs]
   obtain ⟨hzd,hcell⟩:=b9 hcd
   have hid:¬ κ.Dt id:=hf.dt id (Nat.le_refl _) (by omega)
   have hrun:=j6 (P:=P) w t tn o.type e ie v kn base hu hun hie hiv m hm0 (by omega) (by omega) (by rw [hby];omega)
   have hexec:(execOp a.eval o).run P w=.ok (.value (.slice (some ⟨w.heap.size,0,none⟩) m (grownCap w m 0 e))) (w.drew.alloc (.cells (Builtin.zeroCells v.cells m++Builtin.zeroCells v.cells (grownCap w m 0 e - m)) e)):=by
    simp [execOp,ho,resolve,invoke,builtin,hv1,ex,hrun]
   have hcap:=grownCap_ge w m 0 e
   generalize grownCap w m 0 e=newCap at hexec hcap
   have hL2:Flat κ.I w sz (List.replicate m zd) (Builtin.zeroCells v.cells m).toList:=by
    refine ⟨by rw [Array.length_toList,size_zeroCells,hvs,List.length_replicate],fun e' he'=>by rw [List.eq_of_mem_replicate he',hzd,hzl],fun p q e' dd he' hd'=>?_⟩
    rw [List.getElem?_replicate] at he'
    split at he'
    ·rename_i hlt
     cases he'
     have hql:q<zl.length:=by rw [← hzd];exact (List.getElem?_eq_some_iff.1 hd').1
     have hqs:q<sz:=by omega
     obtain ⟨d',g1,g2⟩:=hcell q _ (List.getElem?_eq_getElem hql)
     rw [hd'] at g1
     cases g1
     have hlt2:p * sz+q<m * sz:=by
      have:p * sz+sz≤m * sz:=by rw [← Nat.succ_mul];exact Nat.mul_le_mul_right _ hlt
      omega
     have hm:(p * sz+q) % sz=q:=by rw [Nat.mul_comm,Nat.mul_add_mod];exact Nat.mod_eq_of_lt hqs
     have hget:(Builtin.zeroCells v.cells m).toList.getD (p * sz+q) undef=v.cells.getD q undef:=by
      simp [Builtin.zeroCells,List.getD_eq_getElem?_getD,hvs,hlt2,hm,hqs,Array.getD]
     rw [hget]
     exact dq ((hz κ w).2.2 q _ (List.getElem?_eq_getElem hql)) g2
    ·cases he'
   have hsize:(Builtin.zeroCells v.cells m++Builtin.zeroCells v.cells (newCap - m)).size=newCap * sz:=by
    rw [Array.size_append,size_zeroCells,size_zeroCells,hvs,← Nat.add_mul];congr 1;omega
   obtain ⟨r1,r2,r3⟩:=(hs.drawn (w.drawn+1)).rowTok none (by simp) hid (Builtin.zeroCells v.cells m++Builtin.zeroCells v.cells (newCap - m)) e 0 (newCap * sz) (by omega) _ rfl
   have f2:=(hL2.mono (w:=w) (w':={ w with drawn:=w.drawn+1 }) (fun _ _ h=>h) (fun _ _ _=>rfl)).mono r3.I_ r3.cell
   have f1:Flat (fun b o=>κ.I b o∨(b=({ w with drawn:=w.drawn+1 }:World).heap.size∧o<0)) (({ w with drawn:=w.drawn+1 }:World).alloc (.cells (Builtin.zeroCells v.cells m++Builtin.zeroCells v.cells (newCap - m)) e)) sz [] []:=Flat.nil _ _ _
   have hsh:=f1.shut (b:=w.heap.size) (o:=0) (cap:=newCap) (by simp) (fun k hk=>by simp at hk) (fun k hk=>by simp at hk)
   obtain ⟨κ2,q1,q2,q3,q4,q5⟩:=j8 (id:=id+1) (off:=0) (cap:=newCap) (p:=0) (g:=w.heap.size) (e1:=[]) (e2:=List.replicate m zd) r1 (k:=id) (by simp [af])
    (fun hh=>hf.db (id+1) (by omega) (by omega) hh) (fun hh=>hh.elim (hf.dt (id+1) (by omega) (by omega)) (fun e=>by omega)) (by simp) (by simp) (by rw [List.length_replicate];exact Nat.mul_pos hm0 hsz0) (by simpa using hcap) f2
    (heap_alloc_new (w:={ w with drawn:=w.drawn+1 })) (fun j hj=>by
     rw [Nat.zero_add,Array.getElem?_append_left (by simpa using hj),Array.getElem?_toList]) (by omega) hsh
   refine ai hexec ?_
   rw [hd]
   simp only [List.length_replicate,List.length_nil,Nat.zero_add] at q3
   refine ⟨_,κ2,hF,q1.put hN q3,(((Step.drawn _).trans r2).trans q2).trans Step.put,put_size,⟨fun b hb=>?_,fun k hk=>?_⟩⟩
   ·rcases q4 b hb with h | h
    ·exact .inl h
    ·exact .inr ⟨by omega,by omega⟩
   ·rcases q5 k hk with h | h
    ·exact h.elim .inl fun e=>.inr ⟨by omega,by omega⟩
    ·exact .inr ⟨by omega,by omega⟩
  ·exact h.elim
 ·exact h.elim
def okEq (P:Program):List Field→Nat→Option (List Nat)
 | [],_=>some []
 | f :: fs, i => match decide (f.name ≠ "_" ∧ f.offset = i), okEq P fs (i + 1), P.underlying f.type with
   | true,some ks,some .bool=>some (0::ks)
   | true,some ks,some (.int _)=>some (1::ks)
   | true,some ks,some .string=>some (2::ks)
   | _,_,_=>none
theorem run_part {t:TypeId} {xs:Array Value} {i:Nat} {v:Value} (ha:fF P t=some false) (h:xs[i]? = some v):(part t xs i).run P w=.ok v w:=by
 simp [part,dl ha,h]
theorem eX (a b:List UInt8):((ByteArray.mk a.toArray).toList == (ByteArray.mk b.toArray).toList)=aH a b:=by
 rw [ByteArray.toList_eq,ByteArray.toList_eq]
 simp [aH,Bool.beq_eq_decide_eq]
theorem eqF:∀ {fs:List Field} {i dep:Nat} {ks:List Nat} {l m:List AV} {b:Bool} {xs ys:Array Value},okEq P fs i=some ks→eqL ks l m=some b →
  (∀ j c,l[j]? = some (.sc c)→xs[i+j]? = some c.val)→(∀ j c,m[j]? = some (.sc c)→ys[i+j]? = some c.val)→(Op.eqFields (dep+1) xs ys fs).run P w=.ok b w
 | [], i, dep, ks, l, m, b, xs, ys, hk, he, hx, hy => by
   simp only [okEq,Option.some.injEq] at hk;subst hk
   unfold eqL at he
   split at he<;>first | contradiction | skip
   cases he;simp [Op.eqFields]
 | f :: fs, i, dep, ks, l, m, b, xs, ys, hk, he, hx, hy => by
   simp only [okEq] at hk
   have nxt:∀ {k:Nat} {ks':List Nat} {x y:Sc} {r s:List AV} {c b':Bool},okEq P fs (i+1)=some ks'→eqL ks' r s=some b'→l=.sc x::r→m=.sc y::s→f.name≠ "_"→f.offset=i→fF P f.type=some false →
     (Op.equalIn (dep+1) f.type x.val y.val).run P w=.ok c w→(Op.eqFields (dep+1) xs ys (f::fs)).run P w=.ok (c&&b') w:=by
    intro k ks' x y r s c b' h1 h2 h3 h4 h5 h6 h7 h8
    subst h3;subst h4
    have ih:=eqF (dep:=dep) h1 h2 (xs:=xs) (ys:=ys) (fun j c hj=>by have:=hx (j+1) c (by simpa using hj);rwa [show i+(j+1)=i+1+j by omega] at this)
     (fun j c hj=>by have:=hy (j+1) c (by simpa using hj);rwa [show i+(j+1)=i+1+j by omega] at this)
    have p1:=run_part (P:=P) (w:=w) h7 (by have:=hx 0 x rfl;simpa using this)
    have p2:=run_part (P:=P) (w:=w) h7 (by have:=hy 0 y rfl;simpa using this)
    simp only [Op.eqFields,if_pos h5,h6,Sem.run_bind,p1,p2,Result.andThen_ok,h8]
    cases c
    ·simp
    ·simpa using ih
   split at hk<;>first | (cases hk;done) | skip
   all_goals
    rename_i ks' hd hks hu
    cases hk
    obtain ⟨g1,g2⟩:=of_decide_eq_true hd
    unfold eqL at he
    split at he<;>first | contradiction | (rename_i hcx;simp at hcx;done) | skip
   ·rename_i ks2 x r y s hh
    cases hh
    split at he
    ·rename_i b' hb'
     cases he
     exact nxt (k:=0) hks hb' rfl rfl g1 g2 (by simp [fF,hu]) (run_equalIn_bool' w dep f.type x y hu)
    ·cases he
   ·rename_i ks2 k x r k' y s hh
    cases hh
    split at he
    ·rename_i hkk
     obtain ⟨rfl,_⟩:=ikBeq_eq hkk
     split at he
     ·rename_i b' hb'
      cases he
      refine nxt (k:=0) hks hb' rfl rfl g1 g2 (by simp [fF,hu]) ?_
      have:=run_equalIn_int (P:=P) w dep f.type k _ x y hu
      rw [show (x == y)=decide (x=y) from rfl] at this;exact this
     ·cases he
    ·cases he
   ·rename_i ks2 x r y s hh
    cases hh
    split at he
    ·rename_i b' hb'
     cases he
     refine nxt (k:=0) hks hb' rfl rfl g1 g2 (by simp [fF,hu]) ?_
     have:=run_equalIn_string (P:=P) w dep f.type ⟨x.toArray⟩ ⟨y.toArray⟩ hu
     rw [eX] at this
     exact this
    ·cases he
theorem s_eqA (hs:RepS W0 κ σ a w) {b:BinOp} {ng:Bool} {t1 t2:TypeId} {x y:Operand} {x' y':Opd} {z1 z2:Option Nat} {fs:Array Field} {ks:List Nat} (ho:o.op=.binOp b t1 x y t2) (hd:o.dst=some d) (hx:ax z1 x=some x') (hy:ax z2 y=some y')
  (hb:lm b=some ng) (hu:P.underlying t1=some (.struct fs)) (hk:okEq P fs.toList 0=some ks) (hst:P.stoodInHeld t1=false) (hg:P.eqGuardType P.depth t1=false) (hN:d<a.tmps.size) (h:eff call σ id (.eqA d ng ks x' y') F):o.wp P a w (After W0 κ σ a w id F) Q:=by
 have hrx:=am hs hx
 have hry:=am hs hy
 simp only [eff] at h
 split at h
 ·rename_i l m he1 he2
  rw [he1] at hrx
  rw [he2] at hry
  obtain ⟨xs,ex,hxs,_,hx'⟩:=hrx.agg_inv
  obtain ⟨ys,ey,hys,_,hy'⟩:=hry.agg_inv
  split at h
  ·rename_i v hv
   have cells:∀ {l:List AV} {xs:Array Value},xs.size=l.length→(∀ (j:Nat) (v:AV),l[j]? = some v→RepV κ w v (xs.getD j undef))→∀ j c,l[j]? = some (.sc c)→xs[0+j]? = some c.val:=by
    intro l xs hs h j c hj
    have hjl:j<xs.size:=by rw [hs];exact (List.getElem?_eq_some_iff.1 hj).1
    have:=(h j _ hj).sc_inv
    rw [Array.getD_eq_getD_getElem?,Array.getElem?_eq_getElem hjl,Option.getD_some] at this
    rw [Nat.zero_add,Array.getElem?_eq_getElem hjl,this]
   have hfo:P.fieldsOf t1=fs:=by simp [Program.fieldsOf,hu]
   have hrun:(Op.equalIn 10000 t1 (.agg xs) (.agg ys)).run P w=.ok v w:=by
    rw [run_equalIn_agg w 9999 t1 xs ys (by rw [hfo];exact hu) hst,hfo]
    exact eqF (dep:=9998) hk hv (cells hxs hx') (cells hys hy')
   have hgd:=run_eqGuard_agg (P:=P) w b t1 x y xs ys hg
   cases b<;>simp only [lm,Option.some.injEq,reduceCtorEq] at hb<;>subst hb<;>simp only at h
   ·refine ai (x:=.bool v) (w':=w) ?_ (by rw [hd];exact .put hs hN (.sc (.b v)) h)
    have key:(binOp .eql t1 (.agg xs) (.agg ys)).run P w=.ok (.bool v) w:=by rw [run_eql_struct,hrun];rfl
    simp [execOp,ho,ex,ey,hgd,key]
   ·refine ai (x:=.bool (!v)) (w':=w) ?_ (by rw [hd];exact .put hs hN (.sc (.b (!v))) h)
    have key:(binOp .neq t1 (.agg xs) (.agg ys)).run P w=.ok (.bool (!v)) w:=by rw [run_neq_struct,hrun];rfl
    simp [execOp,ho,ex,ey,hgd,key]
  ·exact h.elim
 ·exact h.elim
end ops
end Go.Abs
