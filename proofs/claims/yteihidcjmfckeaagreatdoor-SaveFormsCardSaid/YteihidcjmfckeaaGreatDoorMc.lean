/- Regions in whatever order: one goal, in the text's order, serves all. -/
import Derived.Test.YteihidcjmfckeaaGreatDoorMb
import Derived.LoopN
import Derived.KernelRfl
set_option linter.all false
namespace Go.Abs
open Go
theorem gH {x:Loc}:∀ {l:List Loc},pn x l=true↔x∈l
 | []=>by simp [pn]
 | y :: l => by
   simp only [pn,List.mem_cons]
   cases hb:Loc.beq y x with
   | true=>have:=Loc.beq_iff.1 hb;subst this;simp
   | false =>
     have hne:¬ x=y:=fun e=>by subst e;rw [Loc.beq_self] at hb;cases hb
     simp [hne,gH]
theorem bO:∀ {l m:List Loc},eQ l m=false→∀ x,x∈l→x ∉ m
 | [],m,_,x,h=>by cases h
 | y :: l, m, h, x, hx => by
   simp only [eQ] at h
   split at h
   ·cases h
   ·rename_i hm
    rcases List.mem_cons.1 hx with rfl | hx
    ·intro hh;rw [gH.2 hh] at hm;cases hm
    ·exact bO h x hx
theorem eW {p:Nat} {R W:List Loc}:∀ {fs:List (Nat × List Loc × List Loc)},bh p R W fs=false→∀ i Ri Wi,(i,Ri,Wi)∈fs→dJ p i=true∨(eQ Wi R=false∧eQ Wi W=false∧eQ Ri W=false)
 | [],_,i,Ri,Wi,h=>by cases h
 | (k, Rk, Wk) :: fs, h, i, Ri, Wi, hm => by
   simp only [bh] at h
   have rest:bh p R W fs=false∧(dJ p k=true∨(eQ Wk R=false∧eQ Wk W=false∧eQ Rk W=false)):=by
    split at h
    ·rename_i hb;exact ⟨h,.inl hb⟩
    ·split at h
     ·cases h
     ·split at h
      ·cases h
      ·split at h
       ·cases h
       ·exact ⟨h,.inr ⟨by assumption,by assumption,by assumption⟩⟩
   rcases List.mem_cons.1 hm with e | hm
   ·cases e;exact rest.2
   ·exact eW rest.1 i Ri Wi hm
theorem iU {ks:List Loc} {l:Loc} [Decidable (l∈ks)]:∀ {δ:Log},look (bR ks δ) l=if l∈ks then none else look δ l
 | []=>by simp [bR,look]
 | (k, c) :: r => by
   have ih:=iU (ks:=ks) (l:=l) (δ:=r)
   simp only [bR]
   cases hm:pn k ks with
   | true =>
     have hk:=gH.1 hm
     simp only
     rw [ih,af]
     by_cases hl:l∈ks
     ·simp [hl]
     ·have:¬ k=l:=fun e=>hl (e ▸ hk)
      simp [hl,this]
   | false =>
     have hk:¬ k∈ks:=fun h=>by rw [gH.2 h] at hm;cases hm
     simp only
     rw [af,af,ih]
     by_cases he:k=l
     ·subst he;simp [hk]
     ·simp [he]
theorem keys_dropK {ks:List Loc} {δ:Log} {l:Loc} (h:l∈ar δ) (hk:¬ l∈ks):l∈ar (bR ks δ):=by
 classical
 rw [mj] at h ⊢
 rw [iU,if_neg hk]
 exact h
def Exec (call:aX) (g:GOp) (id:Nat) (σ:Log) (R:List Loc) (δ:Log):Prop:=
 ∀ σ', (∀ l, l ∈ R ∨ l ∈ ar δ → look σ' l = look σ l) →
   (cT σ' g.g=some true∧∃ δ',eff call σ' id g.o (·=δ')∧Same (δ'++σ') (δ++σ'))∨(cT σ' g.g=some false∧δ=bp g.o.dst (.tup []))
def TrOK (call:aX):List GOp→List Nat→Nat→Nat→Log→List (Nat × List Loc × List Loc)→List (List Loc × Log)→(Log→Prop)→Prop
 | [],_,_,_,σ,_,[],K=>∃ σ',Same σ σ'∧K σ'
 | g::gs,p::ps,j,id,σ,fs,(R,δ)::ds,K=>Exec call g id σ R δ∧bh p R (ar δ) fs=false∧TrOK call gs ps (j+1) (id+100) (δ++σ) ((j,R,ar δ)::fs) ds K
 | _,_,_,_,_,_,_,_=>False
theorem Same.trans {σ σ' σ'':Log} (h:Same σ σ') (g:Same σ' σ''):Same σ σ'':=fun l=>(g l).trans (h l)
theorem Same.symm {σ σ':Log} (h:Same σ σ'):Same σ' σ:=fun l=>(h l).symm
theorem Same.append {σ σ' δ:Log} (h:Same σ σ'):Same (δ++σ) (δ++σ'):=fun l=>by rw [aG,aG,h l]
theorem fG {call:aX}:∀ {gs:List GOp} {ps:List Nat} {j id:Nat} {σ σ':Log} {fs:List (Nat × List Loc × List Loc)} {ds:List (List Loc × Log)} {K:Log→Prop},Same σ σ'→TrOK call gs ps j id σ' fs ds K→TrOK call gs ps j id σ fs ds K
 | [], ps, j, id, σ, σ', fs, [], K, hs, h => by
   obtain ⟨σ'',h1,h2⟩:=(show ∃ σ'',Same σ' σ''∧K σ'' by cases ps<;>exact h)
   have:∃ σ'',Same σ σ''∧K σ'':=⟨σ'',hs.trans h1,h2⟩
   cases ps<;>exact this
 | g :: gs, p :: ps, j, id, σ, σ', fs, (R, δ) :: ds, K, hs, h => by
   obtain ⟨h1,h2,h3⟩:=h
   exact ⟨fun τ ha=>h1 τ fun l hl=>(ha l hl).trans (hs l).symm,h2,fG hs.append h3⟩
 | [],ps,j,id,σ,σ',fs,_::_,K,hs,h=>by cases ps<;>exact h.elim
 | _::_,[],_,_,_,_,_,_,_,_,h=>by exact (show False from h).elim
 | _::_,_::_,_,_,_,_,_,[],_,_,h=>h.elim
theorem eb {σ σ':Log} {g:Option (Nat × Bool)} (h:∀ l,l∈bw g→look σ' l=look σ l):cT σ' g=cT σ g:=by
 cases g with
 | none=>rfl
 | some p =>
   obtain ⟨n,wt⟩:=p
   simp only [cT]
   rw [eI (x:=.t n) fun l hl=>h l (by simpa [bw,ay] using hl)]
theorem nA {call:aX}:∀ {gs:List GOp} {ps:List Nat} {j id:Nat} {σ:Log} {fs:List (Nat × List Loc × List Loc)} {K:Log→Prop},lc call gs ps j id σ fs K→∃ ds,TrOK call gs ps j id σ fs ds K
 | [], ps, j, id, σ, fs, K, h => by
   refine ⟨[],?_⟩
   have h':K σ:=by cases ps<;>exact h
   have:∃ σ',Same σ σ'∧K σ':=⟨σ,fun _=>rfl,h'⟩
   cases ps<;>exact this
 | _::_,[],_,_,_,_,_,h=>h.elim
 | g :: gs, p :: ps, j, id, σ, fs, K, h => by
   simp only [lc] at h
   obtain ⟨σ1,hs,h⟩:=iX h
   rcases h with ⟨hv,h⟩ | ⟨hv,h⟩
   ·obtain ⟨δ,h,hp⟩:=eff_pick h
    rw [cm,cm] at h
    split at h
    ·exact h.elim
    ·rename_i hc
     obtain ⟨ds,hd⟩:=nA h
     refine ⟨(bw g.g++g.o.rd σ1,δ)::ds,?_,hc,fG hs.append hd⟩
     intro σ' ha
     refine .inl ⟨?_,δ,hp σ' fun l hl=>?_,fun _=>rfl⟩
     ·exact (eb (σ:=σ) (σ':=σ') fun l hl=>ha l (.inl (List.mem_append_left _ hl))).trans hv
     ·rw [ha l (hl.imp (fun h=>List.mem_append_right _ h) (fun h=>h))]
      exact (hs l).symm
   ·rw [cm,cm] at h
    split at h
    ·exact h.elim
    ·rename_i hc
     obtain ⟨ds,hd⟩:=nA h
     refine ⟨(bw g.g,bp g.o.dst (.tup []))::ds,?_,hc,fG hs.append hd⟩
     intro σ' ha
     refine .inr ⟨?_,rfl⟩
     exact (eb (σ:=σ) (σ':=σ') fun l hl=>ha l (.inl hl)).trans hv
open Classical in
theorem nr {call:aX}:∀ {gs:List GOp} {ps:List Nat} {j id:Nat} {σ:Log} {fs:List (Nat × List Loc × List Loc)} {K:Log→Prop},nz call gs ps j id σ fs K→∃ ds,TrOK call gs ps j id σ fs ds K
 | [], ps, j, id, σ, fs, K, h => by
   refine ⟨[],?_⟩
   have h':K σ:=by cases ps<;>exact h
   have:∃ σ',Same σ σ'∧K σ':=⟨σ,fun _=>rfl,h'⟩
   cases ps<;>exact this
 | _::_,[],_,_,_,_,_,h=>h.elim
 | g :: gs, p :: ps, j, id, σ, fs, K, h => by
   simp only [nz] at h
   obtain ⟨σ1,hs,h⟩:=iX h
   rcases h with ⟨hv,h⟩ | ⟨hv,h⟩
   ·obtain ⟨δ,h,hp⟩:=eff_pick h
    obtain ⟨ks,⟨hks,hc⟩,h⟩:=h
    obtain ⟨ds,hd⟩:=nr h
    refine ⟨((bw g.g++g.o.rd σ1)++ks,bR ks δ)::ds,?_,hc,fG hs.append hd⟩
    intro σ' ha
    have hag:∀ l,l∈g.o.rd σ1∨l∈ar δ→look σ' l=look σ1 l:=by
     intro l hl
     rw [ha l ?_]
     ·exact (hs l).symm
     ·rcases hl with hl | hl
      ·exact .inl (List.mem_append_left _ (List.mem_append_right _ hl))
      ·by_cases hk:l∈ks
       ·exact .inl (List.mem_append_right _ hk)
       ·exact .inr (keys_dropK hl hk)
    refine .inl ⟨?_,δ,hp σ' hag,fun l=>?_⟩
    ·exact (eb (σ:=σ) (σ':=σ') fun l hl=>ha l (.inl (List.mem_append_left _ (List.mem_append_left _ hl)))).trans hv
    ·rw [aG,aG,iU]
     by_cases hk:l∈ks
     ·have h1:=hks l hk
      rw [aG] at h1
      rw [if_pos hk]
      cases hδ:look δ l with
      | none=>rfl
      | some c =>
        rw [hδ] at h1
        show look σ' l=some c
        rw [hag l (.inr (mj.2 (by rw [hδ];simp)))]
        exact h1.symm
     ·rw [if_neg hk]
   ·obtain ⟨hc,h⟩:=h
    obtain ⟨ds,hd⟩:=nr h
    refine ⟨(bw g.g,bp g.o.dst (.tup []))::ds,?_,hc,fG hs.append hd⟩
    intro σ' ha
    refine .inr ⟨?_,rfl⟩
    exact (eb (σ:=σ) (σ':=σ') fun l hl=>ha l (.inl hl)).trans hv
def dL (ds:List (List Loc × Log)) (i:Nat):Log:=match ds[i]? with | some d=>d.2 | none=>[]
def rL (ds:List (List Loc × Log)) (i:Nat):List Loc:=match ds[i]? with | some d=>d.1 | none=>[]
theorem oA {δ:Nat→Log} {σ:Log} (m:Nat):lay δ σ (List.range (m+1))=lay (fun i=>δ (i+1)) (δ 0++σ) (List.range m):=by
 rw [List.range_succ_eq_map]
 simp only [lay,List.foldl_cons,List.foldl_map]
theorem o4 {call:aX}:∀ {gs:List GOp} {ps:List Nat} {j id:Nat} {σ:Log} {fs:List (Nat × List Loc × List Loc)} {ds:List (List Loc × Log)} {K:Log→Prop},TrOK call gs ps j id σ fs ds K →
  (∃ σ',Same (lay (dL ds) σ (List.range gs.length)) σ'∧K σ') ∧
  ∀ (i : Nat) (g : GOp), gs[i]? = some g → Exec call g (id + 100 * i) (lay (dL ds) σ (List.range i)) (rL ds i) (dL ds i) ∧
    ∃ p fs',ps[i]? = some p∧bh p (rL ds i) (ar (dL ds i)) fs'=false∧(∀ x,x∈fs→x∈fs')∧∀ k,k<i→(j+k,rL ds k,ar (dL ds k))∈fs'
 | [], ps, j, id, σ, fs, [], K, h => by
   have h':∃ σ',Same σ σ'∧K σ':=by cases ps<;>exact h
   exact ⟨h',fun i g hi=>by simp at hi⟩
 | g :: gs, p :: ps, j, id, σ, fs, (R, δ) :: ds, K, h => by
   obtain ⟨h1,h2,h3⟩:=h
   obtain ⟨g1,g2⟩:=o4 h3
   have e:(fun i=>dL ((R,δ)::ds) (i+1))=dL ds:=by funext i;simp [dL]
   refine ⟨?_,fun i g' hi=>?_⟩
   ·rw [List.length_cons,oA,e]
    exact g1
   ·cases i with
    | zero =>
      simp at hi;subst hi
      exact ⟨by simpa [dL,rL,lay] using h1,p,fs,rfl,by simpa [dL,rL] using h2,fun x hx=>hx,fun k hk=>by omega⟩
    | succ i =>
      obtain ⟨k1,q,fs',k2,k3,k4,k5⟩:=g2 i g' (by simpa using hi)
      refine ⟨?_,q,fs',by simpa using k2,by simpa [dL,rL] using k3,fun x hx=>k4 x (by simp [hx]),fun k hk=>?_⟩
      ·rw [oA,e]
       have:dL ((R,δ)::ds) (i+1)=dL ds i:=by simp [dL]
       have hr:rL ((R,δ)::ds) (i+1)=rL ds i:=by simp [rL]
       rw [this,hr,show id+100 * (i+1)=id+100+100 * i by omega]
       exact k1
      ·cases k with
       | zero=>exact k4 _ (by simp [dL,rL])
       | succ k =>
         have:=k5 k (by omega)
         rw [show j+(k+1)=j+1+k by omega]
         simpa [dL,rL] using this
 | [],ps,j,id,σ,fs,_::_,K,h=>by cases ps<;>exact h.elim
 | _::_,[],_,_,_,_,_,_,h=>by exact (show False from h).elim
 | _::_,_::_,_,_,_,_,[],_,h=>h.elim
/- which operations an operation waits for -/
def mkMask (es:List Edge) (ms:List Nat):Nat:=es.foldl (fun m e=>match Region.binds .any e with | true=>(m ||| (1 <<< e.on)) ||| ms.getD e.on 0 | false=>m) 0
def jv:List Oper→List Nat→List Nat
 | [],ms=>ms
 | o::r,ms=>jv r (ms++[mkMask o.after.toList ms])
theorem ff (p i:Nat):dJ p i=p.testBit i:=by
 rw [Nat.testBit_eq_decide_div_mod_eq]
 unfold dJ
 rw [Bool.eq_iff_iff]
 simp only [Nat.beq_eq,decide_eq_true_eq]
 exact Iff.rfl
theorem bitOf_or (p q i:Nat):dJ (p ||| q) i=(dJ p i||dJ q i):=by simp [ff,Nat.testBit_or]
theorem bitOf_one (k i:Nat) (h:dJ (1 <<< k) i=true):i=k:=by
 rw [ff,Nat.one_shiftLeft,Nat.testBit_two_pow] at h
 simpa [eq_comm] using h
theorem mg {ms:List Nat} {i:Nat}:∀ {es:List Edge} {m:Nat},dJ (es.foldl (fun m e=>match Region.binds .any e with | true=>(m ||| (1 <<< e.on)) ||| ms.getD e.on 0 | false=>m) m) i=true →
  dJ m i=true∨∃ e,e∈es∧Region.binds .any e=true∧(i=e.on∨dJ (ms.getD e.on 0) i=true)
 | [],m,h=>.inl h
 | e :: es, m, h => by
   simp only [List.foldl_cons] at h
   rcases mg h with h | ⟨e',h1,h2,h3⟩
   ·split at h
    ·rename_i hb
     rw [bitOf_or,bitOf_or,Bool.or_eq_true,Bool.or_eq_true] at h
     rcases h with (h | h) | h
     ·exact .inl h
     ·exact .inr ⟨e,by simp,hb,.inl (bitOf_one _ _ h)⟩
     ·exact .inr ⟨e,by simp,hb,.inr h⟩
    ·exact .inl h
   ·exact .inr ⟨e',by simp [h1],h2,h3⟩
def jP:List Oper→Nat→Bool
 | [],_=>true
 | o::r,j=>o.after.toList.all (fun e=>!Region.binds .any e||Nat.blt e.on j)&&jP r (j+1)
theorem jO:∀ {l:List Oper} {j:Nat},jP l j=true→∀ (i:Nat) (o:Oper) (e:Edge),l[i]? = some o→e∈o.after.toList→Region.binds .any e=true→e.on<j+i
 | [],j,_,i,o,e,h,_,_=>by simp at h
 | o' :: l, j, h, i, o, e, hi, he, hb => by
   simp only [jP,Bool.and_eq_true] at h
   cases i with
   | zero =>
     simp at hi;subst hi
     have:=List.all_eq_true.1 h.1 e he
     rw [hb] at this
     simpa [Nat.blt_eq] using this
   | succ i =>
     have:=jO h.2 i o e (by simpa using hi) he hb
     omega
section
variable {ops:Array Oper}
def qc (ops:Array Oper) (S:Nat→Prop):Prop:=∀ (k:Nat) (o:Oper) (e:Edge),S k→ops[k]? = some o→e∈o.after.toList→Region.binds .any e=true→S e.on
def GoodM (ops:Array Oper) (j m:Nat):Prop:=∀ i,dJ m i=true→∀ S:Nat→Prop,qc ops S→(∀ (o:Oper) (e:Edge),ops[j]? = some o→e∈o.after.toList→Region.binds .any e=true→S e.on)→S i
theorem mo (hE:∀ (i:Nat) (o:Oper) (e:Edge),ops[i]? = some o→e∈o.after.toList→Region.binds .any e=true→e.on<i):∀ (l:List Oper) (ms:List Nat),(∀ i,l[i]? = ops[ms.length+i]?)→(∀ j m,ms[j]? = some m→GoodM ops j m) →
  ∀ (j m:Nat),(jv l ms)[j]? = some m→GoodM ops j m
 | [],ms,_,h,j,m,hj=>h j m hj
 | o :: l, ms, hl, h, j, m, hj => by
   refine mo hE l (ms++[mkMask o.after.toList ms]) ?_ ?_ j m hj
   ·intro i
    have:=hl (i+1)
    rw [List.length_append,List.length_singleton,show ms.length+1+i=ms.length+(i+1) by omega]
    simpa using this
   ·intro j' m' hj'
    by_cases hlt:j'<ms.length
    ·rw [List.getElem?_append_left hlt] at hj'
     exact h j' m' hj'
    ·rw [List.getElem?_append_right (by omega)] at hj'
     have e0:j' - ms.length=0:=by
      have:=(List.getElem?_eq_some_iff.1 hj').1
      simp at this;omega
     rw [e0] at hj'
     simp at hj'
     have ej:j'=ms.length:=by omega
     subst hj'
     subst ej
     have ho:ops[ms.length]? = some o:=by have:=hl 0;simpa using this.symm
     intro i hi S hS hr
     rcases mg hi with hh | ⟨e,h1,h2,h3⟩
     ·rw [ff] at hh;simp at hh
     ·have hSe:=hr o e ho h1 h2
      rcases h3 with rfl | h3
      ·exact hSe
      ·have hlt':=hE _ o e ho h1 h2
       have hm:ms[e.on]? = some (ms.getD e.on 0):=by
        rw [List.getD_eq_getElem?_getD,List.getElem?_eq_getElem hlt'];rfl
       exact h e.on _ hm i h3 S hS fun o' e' ho' he' hb'=>hS e.on o' e' hSe ho' he' hb'
theorem ju:∀ (l:List Oper) (ms:List Nat),(jv l ms).length=ms.length+l.length
 | [],ms=>rfl
 | o::l,ms=>by rw [jv,ju];simp;omega
end
theorem iI {p q:Nat→Bool}:∀ {l:List Nat},(∀ k,k∈l→q k=true→p k=true)→∀ {i},i∈l→p i=true→q i=false→(l.filter q).length<(l.filter p).length
 | [],_,i,hi,_,_=>by cases hi
 | x :: l, h, i, hi, hp, hq => by
   have hle:∀ {m:List Nat},(∀ k,k∈m→q k=true→p k=true)→(m.filter q).length≤(m.filter p).length:=by
    intro m
    induction m with
    | nil=>intro _;exact Nat.le_refl _
    | cons y m ih =>
      intro hm
      have:=ih fun k hk=>hm k (by simp [hk])
      cases hqy:q y with
      | true=>simp [hqy,hm y (by simp) hqy];exact this
      | false=>cases hpy:p y<;>simp [hqy,hpy]<;>omega
   rcases List.mem_cons.1 hi with rfl | hi
   ·have:=hle fun k hk=>h k (List.mem_cons_of_mem _ hk)
    simp [hp,hq];omega
   ·have:=iI (fun k hk=>h k (by simp [hk])) hi hp hq
    cases hqx:q x with
    | true=>simp [hqx,h x (by simp) hqx];exact this
    | false=>cases hpx:p x<;>simp [hqx,hpx]<;>omega
end Go.Abs
namespace Go.Abs
open Go
section
variable {P:Program} {W0:World} {call:aX} {Q:Exit→Act→World→Prop} {N:Nat} {ops:Array Oper} {an:Ann}
structure Ids (κ:Gh) (id n:Nat) (S:Nat→Bool):Prop where
 db:∀ b,κ.Db b→b<id∨∃ j,j<n∧S j=true∧id+100 * j≤b∧b<id+100 * j+100
 dt:∀ b,κ.Dt b→b<id∨∃ j,j<n∧S j=true∧id+100 * j≤b∧b<id+100 * j+100
theorem Ids.fresh {κ:Gh} {id n i:Nat} {S:Nat→Bool} (h:Ids κ id n S) (hid:1000≤id) (hS:S i=false):Fresh κ (id+100 * i):=by
 refine ⟨by omega,fun b h1 h2 hb=>?_,fun b h1 h2 hb=>?_⟩
 ·rcases h.db b hb with q | ⟨j,_,q1,q2,q3⟩
  ·omega
  ·have:j=i:=by omega
   subst this;rw [hS] at q1;cases q1
 ·rcases h.dt b hb with q | ⟨j,_,q1,q2,q3⟩
  ·omega
  ·have:j=i:=by omega
   subst this;rw [hS] at q1;cases q1
theorem Ids.grow {κ κ':Gh} {id n i:Nat} {S:Nat→Bool} (h:Ids κ id n S) (hi:i<n) (g:Grow κ κ' (id+100 * i)):Ids κ' id n (fun k=>S k||decide (k=i)):=by
 refine ⟨fun b hb=>?_,fun b hb=>?_⟩
 ·rcases g.db b hb with q | q
  ·rcases h.db b q with q | ⟨j,q0,q1,q2,q3⟩
   ·exact .inl q
   ·exact .inr ⟨j,q0,by simp [q1],q2,q3⟩
  ·exact .inr ⟨i,hi,by simp,q.1,q.2⟩
 ·rcases g.dt b hb with q | q
  ·rcases h.dt b q with q | ⟨j,q0,q1,q2,q3⟩
   ·exact .inl q
   ·exact .inr ⟨j,q0,by simp [q1],q2,q3⟩
  ·exact .inr ⟨i,hi,by simp,q.1,q.2⟩
theorem draw_sound (hG:∀ g cells,an.gl g=some cells→dU W0 g cells) (hcall:∀ f args H res H',call f args H res H'→Ctr P W0 f args H res H') {gs:List GOp} (hgs:jQ P an N ops ops.toList=some gs) (hE:jP ops.toList 0=true)
  {κ:Gh} {σ:Log} {a:Act} {w:World} {id:Nat} {K:Log→Prop} (hs:RepS W0 κ σ a w) (hb:Bel κ id) (hN:a.tmps.size=N) (h:∃ ds,TrOK call gs (jv ops.toList []) 0 id σ [] ds K)
  (hQ:∀ σ' κ' a' w',K σ'→RepS W0 κ' σ' a' w'→Step κ σ w κ' σ' w'→a'.tmps.size=N→Bel κ' (id+100 * gs.length)→Q .normal a' w') :
  wpAny P .any ops Q ops.size (Array.replicate ops.size false) a w:=by
 obtain ⟨ds,htr⟩:=h
 obtain ⟨⟨σf,hσf,hK⟩,hex⟩:=o4 htr
 obtain ⟨hlen,hcomp⟩:=jb hgs
 have hn:gs.length=ops.size:=by rw [hlen,Array.length_toList]
 have hop:∀ i:Nat,ops.toList[i]? = ops[i]?:=fun i=>Array.getElem?_toList
 have hEd:∀ (i:Nat) (o:Oper) (e:Edge),ops[i]? = some o→e∈o.after.toList→Region.binds .any e=true→e.on<i:=fun i o e h1 h2 h3=>by
  have:=jO hE i o e (by rw [hop];exact h1) h2 h3
  omega
 have hgood:=mo hEd ops.toList [] (fun i=>by rw [List.length_nil,Nat.zero_add,hop]) (fun j m hj=>by cases hj)
 let δ:=dL ds
 let R:=rL ds
 have hmask:∀ i,i<ops.size→∃ m,(jv ops.toList [])[i]? = some m:=fun i hi=>⟨_,List.getElem?_eq_getElem (by rw [ju];simpa using hi)⟩
 have hwk:∀ {loc k},wr δ loc k=true↔loc∈ar (δ k):=by
  intro loc k
  rw [mj];unfold wr
  cases look (δ k) loc<;>simp
 have hconf:∀ i k m,i<k→k<ops.size→(jv ops.toList [])[k]? = some m→dJ m i=true∨((∀ loc,wr δ loc i=true→loc ∉ R k)∧(∀ loc,wr δ loc i=true→wr δ loc k=false)∧∀ loc,loc∈R i→wr δ loc k=false):=by
  intro i k m hik hk hm
  obtain ⟨_,p,fs',k1,k2,_,k4⟩:=hex k gs[k] (List.getElem?_eq_getElem (by omega))
  rw [hm] at k1;cases k1
  have hmem:=k4 i hik
  rw [Nat.zero_add] at hmem
  rcases eW k2 _ _ _ hmem with hh | ⟨h1,h2,h3⟩
  ·exact .inl hh
  ·refine .inr ⟨fun loc hw=>bO h1 loc (hwk.1 hw),fun loc hw=>?_,fun loc hr=>?_⟩
   ·cases hh:wr δ loc k with
    | false=>rfl
    | true=>exact absurd (hwk.1 hh) (bO h2 loc (hwk.1 hw))
   ·cases hh:wr δ loc k with
    | false=>rfl
    | true=>exact absurd (hwk.1 hh) (bO h3 loc hr)
 have hback:∀ (S:Nat→Bool) (i k:Nat),qc ops (fun j=>S j=true)→S i=false→i<k→k<ops.size→S k=true→(∀ loc,wr δ loc i=true→wr δ loc k=false)∧∀ loc,loc∈R i→wr δ loc k=false:=by
  intro S i k hS hi hik hk hSk
  obtain ⟨m,hm⟩:=hmask k hk
  rcases hconf i k m hik hk hm with hh | ⟨_,h2,h3⟩
  ·have:=hgood k m hm i hh _ hS fun o e ho he hb=>hS k o e hSk ho he hb
   have this':S i=true:=this
   rw [hi] at this';cases this'
  ·exact ⟨h2,h3⟩
 have main:∀ (fuel:Nat) (listed:Array Bool) (κ':Gh) (a':Act) (w':World),listed.size=ops.size→qc ops (fun j=>listed.getD j false=true) →
   ((List.range ops.size).filter fun k=>!listed.getD k false).length≤fuel→RepS W0 κ' (fj δ σ ops.size fun k=>listed.getD k false) a' w' →
   Step κ σ w κ' (fj δ σ ops.size fun k=>listed.getD k false) w'→a'.tmps.size=N→Ids κ' id ops.size (fun k=>listed.getD k false)→wpAny P .any ops Q fuel listed a' w':=by
  intro fuel
  have done:∀ (listed:Array Bool) (κ':Gh) (a':Act) (w':World),(∀ k,k<ops.size→listed.getD k false=true)→RepS W0 κ' (fj δ σ ops.size fun k=>listed.getD k false) a' w' →
    Step κ σ w κ' (fj δ σ ops.size fun k=>listed.getD k false) w'→a'.tmps.size=N→Ids κ' id ops.size (fun k=>listed.getD k false)→Q .normal a' w':=by
   intro listed κ' a' w' hall r s n ids
   have e:(List.range ops.size).filter (fun k=>listed.getD k false)=List.range ops.size:=List.filter_eq_self.2 fun k hk=>hall k (List.mem_range.1 hk)
   have e2:fj δ σ ops.size (fun k=>listed.getD k false)=lay δ σ (List.range gs.length):=by unfold fj;rw [e,hn]
   rw [e2] at r s
   refine hQ σf κ' a' w' hK (r.same hσf) (Step.same (fun _=>rfl) hσf s) n ⟨by have:=hb.ge;omega,fun b hbb=>?_,fun b hbb=>?_⟩
   ·rcases ids.db b hbb with q | ⟨j,q0,_,q2,q3⟩
    ·omega
    ·rw [hn];omega
   ·rcases ids.dt b hbb with q | ⟨j,q0,_,q2,q3⟩
    ·omega
    ·rw [hn];omega
  induction fuel with
  | zero =>
    intro listed κ' a' w' hsz hS hf r s n ids
    have hall:∀ k,k<ops.size→listed.getD k false=true:=by
     intro k hk
     cases hh:listed.getD k false with
     | true=>rfl
     | false =>
       have:k∈((List.range ops.size).filter fun k=>!listed.getD k false):=List.mem_filter.2 ⟨List.mem_range.2 hk,by simp only [hh];rfl⟩
       have:=List.length_pos_of_mem this
       omega
    refine ⟨?_,done listed κ' a' w' hall r s n ids⟩
    unfold Region.ready
    rw [List.filter_eq_nil_iff]
    intro k hk
    have hk':=List.mem_range.1 hk
    have:=hall k hk'
    have e:listed.getD k true=true:=by
     rw [Array.getD_eq_getD_getElem?] at this ⊢
     rw [Array.getElem?_eq_getElem (by omega)] at this ⊢
     exact this
    simp [e]
  | succ fuel ih =>
    intro listed κ' a' w' hsz hS hf r s n ids
    have gd:∀ k,k<ops.size→listed.getD k true=listed.getD k false:=by
     intro k hk
     rw [Array.getD_eq_getD_getElem?,Array.getD_eq_getD_getElem?,Array.getElem?_eq_getElem (by omega)];rfl
    refine ⟨fun hr=>?_,fun i hi=>?_⟩
    ·refine done listed κ' a' w' ?_ r s n ids
     intro k
     induction k using Nat.strongRecOn with
     | _ k ihk =>
       intro hk
       cases hh:listed.getD k false with
       | true=>rfl
       | false =>
         have:k∈Region.ready .any ops listed:=by
          unfold Region.ready
          refine List.mem_filter.2 ⟨List.mem_range.2 hk,?_⟩
          rw [gd k hk,hh,Array.getElem?_eq_getElem hk]
          simp only [Bool.not_false,Bool.true_and,Option.map_some,Option.getD_some]
          rw [Array.all_eq_true]
          intro j hj
          cases hb':Region.binds .any (ops[k].after[j]) with
          | false=>rfl
          | true =>
            have hlt:=hEd k ops[k] _ (Array.getElem?_eq_getElem hk) (by simp) hb'
            simpa using ihk _ hlt (by omega)
         rw [hr] at this;cases this
    ·unfold Region.ready at hi
     obtain ⟨hi1,hi2⟩:=List.mem_filter.1 hi
     have hin:=List.mem_range.1 hi1
     rw [Bool.and_eq_true,gd i hin] at hi2
     have hSi:listed.getD i false=false:=by simpa using hi2.1
     have hedge:∀ (o:Oper) (e:Edge),ops[i]? = some o→e∈o.after.toList→Region.binds .any e=true→listed.getD e.on false=true:=by
      intro o e ho he hb'
      have h2:=hi2.2
      rw [ho] at h2
      simp only [Option.map_some,Option.getD_some] at h2
      rw [← Array.all_toList] at h2
      have:=List.all_eq_true.1 h2 e he
      rw [hb'] at this
      simpa using this
     have ho:ops[i]? = some ops[i]:=Array.getElem?_eq_getElem hin
     obtain ⟨g,hg,hcg⟩:=hcomp i ops[i] (by rw [hop];exact ho)
     obtain ⟨hexec,_⟩:=hex i g hg
     obtain ⟨c1,c2,c3,_⟩:=jc hcg
     have agree:∀ loc,loc∈R i∨loc∈ar (δ i)→look (fj δ σ ops.size fun k=>listed.getD k false) loc=look (lay δ σ (List.range i)) loc:=by
      intro loc hloc
      rw [← runS_lt (Nat.le_of_lt hin)]
      refine gj fun k hk hw=>?_
      by_cases h1:k<i
      ·have:listed.getD k false=true:=by
        obtain ⟨m,hm⟩:=hmask i hin
        rcases hconf k i m h1 hin hm with hh | ⟨q1,q2,_⟩
        ·exact hgood i m hm k hh _ hS hedge
        ·rcases hloc with hl | hl
         ·exact absurd hl (q1 loc hw)
         ·have:=q2 loc hw;rw [hwk.2 hl] at this;cases this
       simp only [this,h1,decide_true]
      ·by_cases h2:k=i
       ·subst h2;rw [hSi];simp
       ·have:listed.getD k false=false:=by
         cases hh:listed.getD k false with
         | false=>rfl
         | true =>
           obtain ⟨q1,q2⟩:=hback _ i k hS hSi (by omega) hk hh
           rcases hloc with hl | hl
           ·have:=q2 loc hl;rw [hw] at this;cases this
           ·have:=q1 loc (hwk.2 hl);rw [hw] at this;cases this
        simp only [this,h1,decide_false]
     have hS':(fun k=>(listed.setIfInBounds i true).getD k false)=fun k=>listed.getD k false||decide (k=i):=by
      funext k
      rw [Array.getD_eq_getD_getElem?,Array.getD_eq_getD_getElem?,Array.getElem?_setIfInBounds]
      by_cases hk:i=k
      ·subst hk;simp [hsz,hin]
      ·have:¬ k=i:=fun e=>hk e.symm
       simp [hk,this]
     have hadd:=runS_add (δ:=δ) (σ:=σ) (n:=ops.size) hin (S:=fun k=>listed.getD k false) (by
      intro loc k hk hSk hwi hwk'
      by_cases h1:k<i
      ·exact h1
      ·by_cases h2:k=i
       ·subst h2
        have hSk':listed.getD k false=true:=hSk
        rw [hSi] at hSk';cases hSk'
       ·have:=(hback _ i k hS hSi (by omega) hk hSk).1 loc hwi
        rw [hwk'] at this;cases this)
     have hclosed:qc ops (fun j=>(listed.setIfInBounds i true).getD j false=true):=by
      intro k o e hk ho' he hb'
      have hk':(listed.setIfInBounds i true).getD k false=(listed.getD k false||decide (k=i)):=congrFun hS' k
      have he'':(listed.setIfInBounds i true).getD e.on false=(listed.getD e.on false||decide (e.on=i)):=congrFun hS' e.on
      have hk2:(listed.setIfInBounds i true).getD k false=true:=hk
      show (listed.setIfInBounds i true).getD e.on false=true
      rw [he'']
      rw [hk'] at hk2
      have hk:=hk2
      rw [Bool.or_eq_true] at hk ⊢
      rcases hk with hk | hk
      ·exact .inl (hS k o e hk ho' he hb')
      ·have:k=i:=of_decide_eq_true hk
       subst this
       exact .inl (hedge o e ho' he hb')
     have hcount:((List.range ops.size).filter fun k=>!(listed.setIfInBounds i true).getD k false).length≤fuel:=by
      have:=iI (l:=List.range ops.size) (p:=fun k=>!listed.getD k false) (q:=fun k=>!(listed.setIfInBounds i true).getD k false) (by
       intro k _ hk
       have e:(listed.setIfInBounds i true).getD k false=(listed.getD k false||decide (k=i)):=congrFun hS' k
       have hk:(!(listed.setIfInBounds i true).getD k false)=true:=hk
       rw [e] at hk
       cases hh:listed.getD k false with
       | false=>rfl
       | true=>rw [hh] at hk;simp at hk) hi1 (by simp only [hSi];rfl) (by
       have e:(listed.setIfInBounds i true).getD i false=(listed.getD i false||decide (i=i)):=congrFun hS' i
       rw [e];simp)
      omega
     have step:∀ (κ'':Gh) (a'':Act) (w'':World),RepS W0 κ'' (δ i++fj δ σ ops.size fun k=>listed.getD k false) a'' w''→Step κ' (fj δ σ ops.size fun k=>listed.getD k false) w' κ'' (δ i++fj δ σ ops.size fun k=>listed.getD k false) w'' →
       a''.tmps.size=N→Grow κ' κ'' (id+100 * i)→wpAny P .any ops Q fuel (listed.setIfInBounds i true) a'' w'':=by
      intro κ'' a'' w'' r' s' n' gr
      refine ih _ κ'' a'' w'' (by simp [hsz]) hclosed hcount ?_ ?_ n' ?_
      ·rw [hS'];exact r'.same hadd
      ·rw [hS'];exact s.trans (Step.same (fun _=>rfl) hadd s')
      ·rw [hS'];exact ids.grow hin gr
     unfold wpOp
     rw [ho]
     simp only
     have hd:∀ d',ops[i].dst=some d'→d'<a'.tmps.size:=fun d' h'=>by rw [n];exact c2 d' h'
     rcases hexec _ agree with ⟨hv,δ1,heff,hsame⟩ | ⟨hv,hδ⟩
     ·rw [fW r hcg hv,if_pos rfl]
      refine .inl (Oper.wp_mono ?_ (mY (Q:=Q) hG hcall r (ids.fresh hb.ge hSi) c1 hd heff))
      rintro a'' w'' ⟨δ',κ'',rfl,r',s',n',gr⟩
      exact step κ'' a'' w'' (r'.same hsame) (Step.same (fun _=>rfl) hsame s') (n'.trans n) gr
     ·rw [fW r hcg hv]
      simp only [Bool.false_eq_true,if_false]
      obtain ⟨r',s'⟩:=skip_rep r hd
      have hdst:bp ops[i].dst (.tup [])=δ i:=by rw [← c3];exact hδ.symm
      rw [hdst] at r' s'
      exact step κ' _ w' r' s' (put_size.trans n) (Grow.refl _ _)
 have hfalse:∀ k,(Array.replicate ops.size false).getD k false=false:=by
  intro k
  rw [Array.getD_eq_getD_getElem?,Array.getElem?_replicate]
  split<;>rfl
 have e0:fj δ σ ops.size (fun k=>(Array.replicate ops.size false).getD k false)=σ:=by
  unfold fj
  have:(List.range ops.size).filter (fun k=>(Array.replicate ops.size false).getD k false)=[]:=by
   rw [List.filter_eq_nil_iff];intro k _;rw [hfalse];simp
  rw [this];rfl
 refine main ops.size _ κ a w (by simp) ?_ ?_ (by rw [e0];exact hs) (by rw [e0];exact Step.refl _ _ _) hN ⟨fun b hbb=>.inl (hb.db b hbb),fun b hbb=>.inl (hb.dt b hbb)⟩
 ·intro k o e hk
  have hk':(Array.replicate ops.size false).getD k false=true:=hk
  rw [hfalse] at hk';cases hk'
 ·exact Nat.le_trans (List.length_filter_le _ _) (by simp)
end
end Go.Abs
namespace Go.Abs
open Go
def ρτ (κ:Gh) (ρ:List (Nat × Nat)) (k:Nat):Nat × Nat × Nat:=match Nat.blt k 1000 with
 | true=>κ.τ k
 | false => match fD ρ k with
   | some k'=>κ.τ k'
   | none=>(0,0,0)
def less (κ:Gh) (ρ:List (Nat × Nat)) (n:Nat):Gh:={
 I:=κ.I
 Db:=fun b=>κ.Db b∧b<n
 Dt:=fun k=>k<n∧(k<1000→κ.Dt k)
 ι:=κ.ι
 τ:=ρτ κ ρ }
section
variable {W0:World} {κ:Gh} {σ σ':Log} {a:Act} {w:World} {ρ:List (Nat × Nat)} {n:Nat}
theorem jY {t t':Tok} {z:Nat} {x:Value} (ht:tokR ρ t t') (hb:∀ k,t'=.t k→k<n) (h2:tokOK κ z t x):tokOK (less κ ρ n) z t' x:=by
 unfold tokR at ht
 split at ht
 ·trivial
 ·exact h2
 ·rename_i k
  split at ht
  ·exact ht.elim
  ·rename_i hk
   have hkn:k<n:=hb k rfl
   have hk':¬ k<1000:=fun hh=>by rw [← Nat.blt_eq] at hh;rw [hh] at hk;cases hk
   exact ⟨⟨hkn,fun hh=>absurd hh hk'⟩,fun A m c e l=>absurd (h2 A m c e) (by omega)⟩
 ·rename_i k' k
  have hkn:k<n:=hb k rfl
  split at ht
  ·rename_i hk
   subst ht
   refine ⟨⟨hkn,fun _=>h2.1⟩,fun A m c e l=>?_⟩
   simp only [less,ρτ,hk]
   exact h2.2 A m c e l
  ·rename_i hk
   have hk':¬ k<1000:=fun hh=>by rw [← Nat.blt_eq] at hh;rw [hh] at hk;cases hk
   refine ⟨⟨hkn,fun hh=>absurd hh hk'⟩,fun A m c e l=>?_⟩
   simp only [less,ρτ,hk,ht]
   exact h2.2 A m c e l
 ·exact ht.elim
theorem RepV.less1 {u v:AV} {x:Value} (hu:RepV κ w u x) (h:o5 ρ u v) (hb:cE n v=true):RepV (less κ ρ n) w v x:=by
 unfold o5 at h
 split at h
 ·rename_i z e t z' e' t'
  obtain ⟨rfl,rfl,ht⟩:=h
  obtain ⟨h1,h2⟩:=hu.sl_inv
  refine .sl z e t' x h1 (jY ht (fun k e=>?_) h2)
  subst e
  simpa [cE,Nat.blt_eq] using hb
 ·rename_i z e b m t z' e' b' m' t'
  obtain ⟨rfl,rfl,rfl,rfl,ht⟩:=h
  obtain ⟨off,cap,h1,h2,h3,h4,h5,rfl⟩:=hu.mx_inv
  have hh:b<n∧∀ k,t'=.t k→k<n:=by
   cases t' with
   | none=>exact ⟨by simpa [cE,Nat.blt_eq] using hb,fun k e=>by cases e⟩
   | full=>exact ⟨by simpa [cE,Nat.blt_eq] using hb,fun k e=>by cases e⟩
   | t j =>
     simp only [cE] at hb
     split at hb
     ·rename_i hj
      exact ⟨by simpa [Nat.blt_eq] using hb,fun k e=>by cases e;simpa [Nat.blt_eq] using hj⟩
     ·cases hb
  exact RepV.mx (κ:=less κ ρ n) z e b m t' off cap ⟨h1,hh.1⟩ h2 h3 h4 (jY ht hh.2 h5)
 ·rename_i z b o m c t z' b' o' m' c' t'
  obtain ⟨rfl,rfl,rfl,rfl,rfl,ht⟩:=h
  obtain ⟨cap,h1,h2,h3,h4,rfl⟩:=hu.cs_inv
  have hh:b<n∧∀ k,t'=.t k→k<n:=by
   cases t' with
   | none=>exact ⟨by simpa [cE,Nat.blt_eq] using hb,fun k e=>by cases e⟩
   | full=>exact ⟨by simpa [cE,Nat.blt_eq] using hb,fun k e=>by cases e⟩
   | t j =>
     simp only [cE] at hb
     split at hb
     ·rename_i hj
      exact ⟨by simpa [Nat.blt_eq] using hb,fun k e=>by cases e;simpa [Nat.blt_eq] using hj⟩
     ·cases hb
  exact RepV.cs (κ:=less κ ρ n) z b o m c t' cap ⟨h1,hh.1⟩ h2 h3 (jY ht hh.2 h4)
 ·exact .bad x
 ·subst h
  cases hu with
  | sc c=>exact .sc c
  | ptr b o hd=>exact RepV.ptr (κ:=less κ ρ n) b o ⟨hd,by simpa [cE,Nat.blt_eq] using hb⟩
  | mr b hd=>exact RepV.mr (κ:=less κ ρ n) b ⟨hd,by simpa [cE,Nat.blt_eq] using hb⟩
  | fb f b o hd=>exact RepV.fb (κ:=less κ ρ n) f b o ⟨hd,by simpa [cE,Nat.blt_eq] using hb⟩
  | elp cells o b q hc=>exact .elp cells o b q hc
  | sl z e t x' h1 h2 =>
    rename_i _ hnot _ _
    exact (hnot z e t z e t rfl rfl).elim
  | mx z e b m t off cap =>
    rename_i hnot _
    exact (hnot z e b m t z e b m t rfl rfl).elim
  | cs z b o m c t cap =>
    rename_i hnot
    exact (hnot z b o m c t z b o m c t rfl rfl).elim
  | fn=>cases hb
  | agg=>cases hb
  | tup=>cases hb
  | bad=>exact .bad x
theorem fH:∀ {l m:List AV},wkRL1 ρ l m→m.length=l.length∧∀ (j:Nat) (u:AV),m[j]? = some u→∃ v,l[j]? = some v∧o5 ρ v u
 | [],[],_=>⟨rfl,fun j u h=>by simp at h⟩
 | x :: l, y :: m, h => by
   obtain ⟨h1,h2⟩:=h
   obtain ⟨g1,g2⟩:=fH h2
   refine ⟨by simp [g1],fun j u hj=>?_⟩
   cases j with
   | zero=>simp at hj;subst hj;exact ⟨x,rfl,h1⟩
   | succ j=>simpa using g2 j u (by simpa using hj)
 | [],_::_,h=>h.elim
 | _::_,[],h=>h.elim
theorem cR:∀ {l m:List AV},n8 ρ l m→m.length=l.length∧∀ (j:Nat) (u:AV),m[j]? = some u→∃ v,l[j]? = some v∧wkR2 ρ v u
 | [],[],_=>⟨rfl,fun j u h=>by simp at h⟩
 | x :: l, y :: m, h => by
   obtain ⟨h1,h2⟩:=h
   obtain ⟨g1,g2⟩:=cR h2
   refine ⟨by simp [g1],fun j u hj=>?_⟩
   cases j with
   | zero=>simp at hj;subst hj;exact ⟨x,rfl,h1⟩
   | succ j=>simpa using g2 j u (by simpa using hj)
 | [],_::_,h=>h.elim
 | _::_,[],h=>h.elim
theorem cK:∀ {l:List AV},dg n l=true→∀ v,v∈l→cE n v=true
 | [],_,v,h=>by cases h
 | x :: r, h, v, hv => by
   simp only [dg] at h
   split at h
   ·rename_i hx
    rcases List.mem_cons.1 hv with rfl | hv
    ·exact hx
    ·exact cK h v hv
   ·cases h
theorem ei:∀ {l:List AV},gb n l=true→∀ v,v∈l→kA n v=true
 | [],_,v,h=>by cases h
 | x :: r, h, v, hv => by
   simp only [gb] at h
   split at h
   ·rename_i hx
    rcases List.mem_cons.1 hv with rfl | hv
    ·exact hx
    ·exact ei h v hv
   ·cases h
theorem oi:∀ {l:List AV},oneL l=true→∀ v,v∈l→one v=true
 | [],_,v,h=>by cases h
 | x :: r, h, v, hv => by
   simp only [oneL] at h
   split at h
   ·rename_i hx
    rcases List.mem_cons.1 hv with rfl | hv
    ·exact hx
    ·exact oi h v hv
   ·cases h
theorem wkR1_one {u v:AV} (h:o5 ρ u v) (h1:one u=true):v=.bad∨one v=true:=by
 unfold o5 at h
 split at h
 ·exact .inr rfl
 ·exact .inr rfl
 ·exact .inr rfl
 ·exact .inl rfl
 ·subst h;exact .inr h1
theorem RepMM.less:∀ {ks:List Sc} {vs:List AV} {E:List MapEntry},dg n vs=true→RepMM κ w ks vs E→RepMM (less κ ρ n) w ks vs E
 | [],[],[],_,_=>trivial
 | k :: ks, v :: vs, x :: s, hb, ⟨⟨h1, h2, h3⟩, h4⟩ => by
   have hv:=cK hb v (by simp)
   have hw:o5 ρ v v:=by
    cases v<;>first | exact rfl | cases h2 | skip
    rename_i t
    cases t<;>first | exact ⟨rfl,rfl,trivial⟩ | (simp [mval] at h2)
   refine ⟨⟨h1,h2,h3.less1 hw hv⟩,RepMM.less ?_ h4⟩
   simp only [dg,hv] at hb;exact hb
 | [],[],_::_,_,h=>h.elim
 | [],_::_,_,_,h=>h.elim
 | _::_,[],_,_,h=>h.elim
 | _::_,_::_,[],_,h=>h.elim
theorem RepV.less2 {u v:AV} {x:Value} (hu:RepV κ w u x) (h:wkR2 ρ u v) (hb:kA n v=true):RepV (less κ ρ n) w v x:=by
 unfold wkR2 at h
 split at h
 ·obtain ⟨rfl,h⟩:=h
  obtain ⟨vs,rfl,hs,hc⟩:=hu.fn_inv
  obtain ⟨g1,g2⟩:=fH h
  refine .fn _ _ vs (by rw [hs,g1]) fun j u hj=>?_
  obtain ⟨v,h1,h2⟩:=g2 j u hj
  exact (hc j v h1).less1 h2 (cK hb u (List.mem_of_getElem? hj))
 ·rename_i l l'
  obtain ⟨vs,rfl,hl⟩:=hu.agg_inv
  obtain ⟨g1,g2⟩:=fH h
  refine .agg _ vs (by rw [hl.1,g1]) ?_ fun j u hj=>?_
  ·intro u hu'
   obtain ⟨j,hj⟩:=List.mem_iff_getElem?.1 hu'
   obtain ⟨v,h1,h2⟩:=g2 j u hj
   rcases wkR1_one h2 (hl.2.1 v (List.mem_of_getElem? h1)) with rfl | h
   ·have:=cK (show dg n l'=true from hb) _ hu'
    simp [cE] at this
   ·exact h
  ·obtain ⟨v,h1,h2⟩:=g2 j u hj
   exact (hl.2.2 j v h1).less1 h2 (cK (show dg n l'=true from hb) u (List.mem_of_getElem? hj))
 ·obtain ⟨vs,rfl,hs,hc⟩:=hu.tup_inv
  obtain ⟨g1,g2⟩:=fH h
  refine .tup _ vs (by rw [hs,g1]) fun j u hj=>?_
  obtain ⟨v,h1,h2⟩:=g2 j u hj
  exact (hc j v h1).less1 h2 (cK hb u (List.mem_of_getElem? hj))
 ·rename_i hn1 hn2 hn3
  by_cases hv:(∃ f c,v=.fn f c)∨(∃ l,v=.agg l)∨(∃ l,v=.tup l)
  ·exfalso
   unfold o5 at h
   split at h
   ·rcases hv with ⟨_,_,e⟩ | ⟨_,e⟩ | ⟨_,e⟩<;>cases e
   ·rcases hv with ⟨_,_,e⟩ | ⟨_,e⟩ | ⟨_,e⟩<;>cases e
   ·rcases hv with ⟨_,_,e⟩ | ⟨_,e⟩ | ⟨_,e⟩<;>cases e
   ·rcases hv with ⟨_,_,e⟩ | ⟨_,e⟩ | ⟨_,e⟩<;>cases e
   ·subst h
    rcases hv with ⟨f,c,e⟩ | ⟨l,e⟩ | ⟨l,e⟩
    ·exact hn1 f c f c e e
    ·exact hn2 l l e e
    ·exact hn3 l l e e
  ·have hb':cE n v=true:=by
    cases v with
    | mm k l =>
      have h':u=.mm k l:=by cases u<;>exact h
      subst h'
      cases hu
    | _=>first | exact hb | exact absurd (by simp) hv
   exact hu.less1 h hb'
theorem RepL.less {l m:List AV} {C:Array Value} (hl:RepL κ w l C) (h:n8 ρ l m) (hb:gb n m=true) (h1:oneL m=true):RepL (less κ ρ n) w m C:=by
 obtain ⟨g1,g2⟩:=cR h
 refine ⟨by rw [hl.1,g1],oi h1,fun j u hj=>?_⟩
 obtain ⟨v,h1,h2⟩:=g2 j u hj
 exact (hl.2.2 j v h1).less2 h2 (ei hb u (List.mem_of_getElem? hj))
theorem RepC.less {l m:List AV} {C:Array Value} {o:Nat} (hl:RepC κ w l C o) (h:n8 ρ l m) (hb:gb n m=true) (h1:oneL m=true):RepC (less κ ρ n) w m C o:=by
 have g:=dF.1 hl
 have g1:=(cR h).1
 refine dF.2 ⟨by rw [g1];exact g.1,?_⟩
 rw [g1]
 exact g.2.less h hb h1
theorem ow:∀ {τ:Log},leP ρ σ τ→bY n τ=true→∀ m v,look τ (.s m)=some (.av v)→(∃ u,look σ (.s m)=some (.av u)∧wkR2 ρ u v)∧kA n v=true
 | [],_,_,m,v,h=>by simp [look] at h
 | (k, c) :: τ, hl, hb, m, v, h => by
   rw [af] at h
   cases k with
   | s k =>
     cases c with
     | av x =>
       simp only [leP] at hl
       simp only [bY] at hb
       split at hb
       ·rename_i hx
        by_cases e:k=m
        ·subst e
         simp at h;subst h
         refine ⟨?_,hx⟩
         obtain ⟨h1,_⟩:=hl
         split at h1
         ·rename_i u hu;exact ⟨u,hu,h1⟩
         ·exact h1.elim
        ·simp [e] at h;exact ow hl.2 hb m v h
       ·cases hb
     | bx=>simp [leP] at hl
     | tk=>simp [leP] at hl
   | b k =>
     cases c with
     | bx x =>
       simp only [leP] at hl
       simp only [bY] at hb
       split at hb
       ·simp at h;exact ow hl.2 hb m v h
       ·cases hb
     | av=>simp [leP] at hl
     | tk =>
       simp only [leP] at hl
       simp only [bY] at hb
       simp at h
       exact ow hl hb m v h
   | t k =>
     cases c with
     | tk on =>
       simp only [bY] at hb
       split at hb
       ·simp at h
        cases on with
        | true=>simp only [leP] at hl;exact ow hl.2 hb m v h
        | false=>simp only [leP] at hl;exact ow hl hb m v h
       ·cases hb
     | av=>simp [leP] at hl
     | bx=>simp [leP] at hl
theorem oz:∀ {τ:Log},leP ρ σ τ→bY n τ=true→∀ m v,look τ (.b m)=some (.bx v)→(∃ u,look σ (.b m)=some (.bx u)∧n8 ρ u v)∧gb n v=true∧oneL v=true∧m<n
 | [],_,_,m,v,h=>by simp [look] at h
 | (k, c) :: τ, hl, hb, m, v, h => by
   rw [af] at h
   cases k with
   | s k =>
     cases c with
     | av x =>
       simp only [leP] at hl
       simp only [bY] at hb
       split at hb
       ·simp at h;exact oz hl.2 hb m v h
       ·cases hb
     | bx=>simp [leP] at hl
     | tk=>simp [leP] at hl
   | b k =>
     cases c with
     | bx x =>
       simp only [leP] at hl
       simp only [bY] at hb
       split at hb
       ·rename_i hx1 hx2 hx3
        by_cases e:k=m
        ·subst e
         simp at h;subst h
         refine ⟨?_,hx2,hx3,by simpa [Nat.blt_eq] using hx1⟩
         obtain ⟨h1,_⟩:=hl
         split at h1
         ·rename_i u hu;exact ⟨u,hu,h1⟩
         ·exact h1.elim
        ·simp [e] at h;exact oz hl.2 hb m v h
       ·cases hb
     | av=>simp [leP] at hl
     | tk =>
       simp only [leP] at hl
       simp only [bY] at hb
       by_cases e:k=m
       ·simp [e] at h
       ·simp [e] at h;exact oz hl hb m v h
   | t k =>
     cases c with
     | tk on =>
       simp only [bY] at hb
       split at hb
       ·simp at h
        cases on with
        | true=>simp only [leP] at hl;exact oz hl.2 hb m v h
        | false=>simp only [leP] at hl;exact oz hl hb m v h
       ·cases hb
     | av=>simp [leP] at hl
     | bx=>simp [leP] at hl
def Stands (σ:Log) (ρ:List (Nat × Nat)) (τ:Log) (n m:Nat):Prop:=
 m<n∧((m<1000∧look σ (.t m)=some (.tk true)∧m∈cQ τ)∨(¬ m<1000∧(fD ρ m=none∨∃ k,fD ρ m=some k∧look σ (.t k)=some (.tk true))))
theorem ov:∀ {τ:Log},leP ρ σ τ→bY n τ=true→∀ m,look τ (.t m)=some (.tk true)→Stands σ ρ τ n m
 | [],_,_,m,h=>by simp [look] at h
 | (k, c) :: τ, hl, hb, m, h => by
   rw [af] at h
   have up:∀ {q},(∀ x,x∈cQ τ→x∈cQ (q::τ))→Stands σ ρ τ n m→Stands σ ρ (q::τ) n m:=by
    rintro q hq ⟨h1,h2⟩
    refine ⟨h1,?_⟩
    rcases h2 with ⟨g1,g2,g3⟩ | h2
    ·exact .inl ⟨g1,g2,hq m g3⟩
    ·exact .inr h2
   cases k with
   | s k =>
     cases c with
     | av x =>
       simp only [leP] at hl
       simp only [bY] at hb
       split at hb
       ·simp at h;exact up (fun x hx=>hx) (ov hl.2 hb m h)
       ·cases hb
     | bx=>simp [leP] at hl
     | tk=>simp [leP] at hl
   | b k =>
     cases c with
     | bx x =>
       simp only [leP] at hl
       simp only [bY] at hb
       split at hb
       ·simp at h;exact up (fun x hx=>hx) (ov hl.2 hb m h)
       ·cases hb
     | av=>simp [leP] at hl
     | tk =>
       simp only [leP] at hl
       simp only [bY] at hb
       simp at h
       exact up (fun x hx=>hx) (ov hl hb m h)
   | t k =>
     cases c with
     | tk on =>
       simp only [bY] at hb
       split at hb
       ·rename_i hk
        have hkn:k<n:=by simpa [Nat.blt_eq] using hk
        cases on with
        | true =>
          simp only [leP] at hl
          obtain ⟨h1,h2⟩:=hl
          by_cases e:k=m
          ·subst e
           refine ⟨hkn,?_⟩
           split at h1
           ·rename_i hlt
            refine .inl ⟨by simpa [Nat.blt_eq] using hlt,?_,?_⟩
            ·split at h1
             ·assumption
             ·exact h1.elim
            ·simp only [cQ,hlt];simp
           ·rename_i hlt
            refine .inr ⟨(fun hh=>by rw [← Nat.blt_eq] at hh;rw [hh] at hlt;cases hlt),?_⟩
            split at h1
            ·rename_i ha;exact .inl ha
            ·rename_i k' ha
             refine .inr ⟨k',ha,?_⟩
             split at h1
             ·assumption
             ·exact h1.elim
          ·simp [e] at h
           refine up (fun x hx=>?_) (ov h2 hb m h)
           simp only [cQ]
           split
           ·simp [hx]
           ·exact hx
        | false =>
          simp only [leP] at hl
          by_cases e:k=m
          ·simp [e] at h
          ·simp [e] at h
           exact up (fun x hx=>hx) (ov hl hb m h)
       ·cases hb
     | av=>simp [leP] at hl
     | bx=>simp [leP] at hl
theorem iu:∀ {ρ:List (Nat × Nat)} {k x:Nat},fD ρ k=some x→∃ i:Nat,ρ[i]? = some (k,x)
 | [],k,x,h=>by simp [fD] at h
 | (k', x') :: ρ, k, x, h => by
   simp only [fD] at h
   split at h
   ·rename_i hb
    have:=Nat.eq_of_beq_eq_true hb
    subst this
    cases h
    exact ⟨0,rfl⟩
   ·obtain ⟨i,hi⟩:=iu h
    exact ⟨i+1,by simpa using hi⟩
theorem nJ (h:Le σ n σ') (hs:RepS W0 κ σ a w):∃ κ',RepS W0 κ' σ' a w∧Step κ σ w κ' σ' w∧Bel κ' n:=by
 obtain ⟨ρ,⟨n1,n2,n3,n4⟩,hl⟩:=h
 have hn:1000≤n:=Nat.le_of_ble_eq_true n3
 have hS:=ow (n:=n) hl n4
 have hB:=oz (n:=n) hl n4
 have hT:=ov (n:=n) hl n4
 have inj:∀ k k' x,fD ρ k=some x→fD ρ k'=some x→k=k':=by
  intro k k' x h1 h2
  obtain ⟨i,hi⟩:=iu h1
  obtain ⟨j,hj⟩:=iu h2
  have:=cV n1 i j x (by rw [List.getElem?_map,hi];rfl) (by rw [List.getElem?_map,hj];rfl)
  subst this
  rw [hi] at hj
  cases hj
  rfl
 have lown:∀ k k',k∈cQ σ'→fD ρ k'=some k→False:=by
  intro k k' h1 h2
  have:=List.all_eq_true.1 n2 k h1
  obtain ⟨i,hi⟩:=iu h2
  have hm:(ρ.map (·.2)).contains k=true:=List.contains_iff_mem.2 (List.mem_of_getElem? (i:=i) (by rw [List.getElem?_map,hi];rfl))
  rw [hm] at this;cases this
 have room:∀ m,look σ' (.t m)=some (.tk true)→(∀ b o,¬ aZ (ρτ κ ρ m) b o)∨∃ k,look σ (.t k)=some (.tk true)∧ρτ κ ρ m=κ.τ k∧((m<1000∧k=m)∨(¬ m<1000∧fD ρ m=some k)):=by
  intro m hm
  obtain ⟨_,h2⟩:=hT m hm
  rcases h2 with ⟨g1,g2,g3⟩ | ⟨g1,g2⟩
  ·refine .inr ⟨m,g2,?_,.inl ⟨g1,rfl⟩⟩
   have:Nat.blt m 1000=true:=by rw [Nat.blt_eq];exact g1
   simp only [ρτ,this]
  ·have hb:Nat.blt m 1000=false:=by
    cases hh:Nat.blt m 1000 with
    | false=>rfl
    | true=>rw [Nat.blt_eq] at hh;exact absurd hh g1
   rcases g2 with g2 | ⟨k,g2,g3⟩
   ·refine .inl fun b o=>?_
    simp only [ρτ,hb,g2]
    rintro ⟨_,_,h3⟩
    simp at h3
   ·refine .inr ⟨k,g3,?_,.inr ⟨g1,g2⟩⟩
    simp only [ρτ,hb,g2]
 have hown:∀ b o,Own (less κ ρ n) σ' b o→Own κ σ b o:=by
  rintro b o (⟨i,l,hl',hi⟩ | ⟨k,hk,hi⟩)
  ·obtain ⟨⟨u,hu,g⟩,_⟩:=hB i l hl'
   have e:spb (less κ ρ n) i l=spb κ i u:=by simp only [spb,less,(cR g).1]
   exact .inl ⟨i,u,hu,e ▸ hi⟩
  ·rcases room k hk with h | ⟨k',h1,h2,_⟩
   ·exact absurd hi (h b o)
   ·exact .inr ⟨k',h1,by rw [← h2];exact hi⟩
 refine ⟨less κ ρ n,⟨?_,?_,?_,?_,?_,?_,fun b o ho=>hs.sepI b o (hown b o ho),hs.Icell,hs.old,hs.size0,hs.amb,hs.defers,hs.os,hs.tape,hs.output⟩,
  ⟨Chg.refl _ _,fun b o ho=>.inl (hown b o ho),fun _ _ h=>h,fun _ _ h=>.inl h,fun b hb hd=>⟨⟨hd,by omega⟩,rfl⟩,fun k hk hd=>⟨⟨by omega,fun _=>hd⟩,?_⟩⟩,⟨hn,fun b hb=>hb.2,fun k hk=>hk.1⟩⟩
 ·intro m v hv
  obtain ⟨⟨u,hu,hw⟩,hb⟩:=hS m v hv
  exact (hs.slots m u hu).less2 hw hb
 ·intro b l hl'
  obtain ⟨⟨u,hu,hw⟩,hb,h1,hbn⟩:=hB b l hl'
  obtain ⟨g1,g2,g3⟩:=hs.boxes b u hu
  refine ⟨⟨g1,hbn⟩,g2,?_⟩
  cases hm:isM u with
  | false =>
    obtain ⟨C,ty,g4,g5⟩:=g3.row hm
    exact .of (C:=C) (ty:=ty) g4 (g5.less hw hb h1)
  | true =>
    obtain ⟨x,rfl,hA⟩:=fV.1 hm
    have hl2:l=[x]:=by
     cases l with
     | nil=>exact hw.elim
     | cons v r =>
       obtain ⟨w1,w2⟩:=hw
       cases r with
       | nil =>
         have hv:x=v:=by cases x<;>first | (cases hA;done) | (cases v<;>first | exact w1 | cases h1)
         rw [hv]
       | cons u r=>exact w2.elim
    rw [hl2] at hb ⊢
    rcases g3 with ⟨h0,_⟩ | ⟨m,ob,e1,e2,e3,e4⟩
    ·rw [h0] at hm;cases hm
    ·cases e1
     refine .inr ⟨x,ob,rfl,e2,e3,?_⟩
     cases x<;>first | (cases hA;done) | skip
     ·rename_i es
      cases es with
      | m es=>exact e4
      | it s p=>exact e4
      | ie b=>exact absurd (ei hb _ (List.mem_singleton.2 rfl)) (by simp [kA,cE])
     cases ob<;>first | exact e4.elim | skip
     refine RepMM.less ?_ e4
     exact ei hb _ (List.mem_singleton.2 rfl)
 ·intro b b' l l' h1 h2 hne x o hi hi'
  obtain ⟨⟨u,hu,g⟩,_⟩:=hB b l h1
  obtain ⟨⟨u',hu',g'⟩,_⟩:=hB b' l' h2
  have e:spb (less κ ρ n) b l=spb κ b u:=by simp only [spb,less,(cR g).1]
  have e':spb (less κ ρ n) b' l'=spb κ b' u':=by simp only [spb,less,(cR g').1]
  rw [e] at hi
  rw [e'] at hi'
  exact hs.binj b b' u u' hu hu' hne x o hi hi'
 ·intro k hk
  obtain ⟨h1,h2⟩:=hT k hk
  refine ⟨⟨h1,fun hlt=>?_⟩,?_⟩
  ·rcases h2 with ⟨_,g2,_⟩ | ⟨g1,_⟩
   ·exact (hs.toks k g2).1
   ·exact absurd hlt g1
  ·intro hh
   rcases room k hk with h | ⟨k',g1,g2,_⟩
   ·exact absurd ⟨rfl,Nat.le_refl _,hh⟩ (h _ _)
   ·have hh':(κ.τ k').2.1<(κ.τ k').2.2:=by rw [← g2];exact hh
    have:=(hs.toks k' g1).2 hh'
    show W0.heap.size≤(ρτ κ ρ k).1∧_
    rw [g2]
    refine ⟨this.1,?_⟩
    obtain ⟨C,ty,q1,q2⟩:=this.2
    refine ⟨C,ty,?_,?_⟩
    ·show w.heap[(ρτ κ ρ k).1]? = _
     rw [g2];exact q1
    ·show (ρτ κ ρ k).2.2≤_
     rw [g2];exact q2
 ·intro k k' hk hk' hne b o hi hi'
  rcases room k hk with h | ⟨j,g1,g2,g3⟩
  ·exact h b o hi
  ·rcases room k' hk' with h | ⟨j',g1',g2',g3'⟩
   ·exact h b o hi'
   ·have hi:aZ (ρτ κ ρ k) b o:=hi
    have hi':aZ (ρτ κ ρ k') b o:=hi'
    rw [g2] at hi
    rw [g2'] at hi'
    refine hs.tdis j j' g1 g1' ?_ b o hi hi'
    intro e
    subst e
    have low:∀ q,q<1000→look σ' (.t q)=some (.tk true)→q∈cQ σ':=by
     intro q hq hlq
     obtain ⟨_,h2⟩:=hT q hlq
     rcases h2 with ⟨_,_,h3⟩ | ⟨h3,_⟩
     ·exact h3
     ·exact absurd hq h3
    rcases g3 with ⟨q1,q2⟩ | ⟨q1,q2⟩<;>rcases g3' with ⟨q1',q2'⟩ | ⟨q1',q2'⟩
    ·exact hne (by omega)
    ·subst q2;exact lown _ _ (low _ q1 hk) q2'
    ·subst q2';exact lown _ _ (low _ q1' hk') q2
    ·exact hne (inj k k' j q2 q2')
 ·intro k i l hk hl' x o hi hi'
  obtain ⟨⟨u,hu,g⟩,_⟩:=hB i l hl'
  rcases room k hk with h | ⟨k',h1,h2,_⟩
  ·exact h _ o hi
  ·have hi:aZ (ρτ κ ρ k) x o:=hi
   rw [h2] at hi
   have e:spb (less κ ρ n) i l=spb κ i u:=by simp only [spb,less,(cR g).1]
   rw [e] at hi'
   exact hs.tbox k' i u h1 hu x o hi hi'
 ·have:Nat.blt k 1000=true:=by rw [Nat.blt_eq];exact hk
  simp only [less,ρτ,this]
end
end Go.Abs
namespace Go.Abs
open Go
theorem gS {α:Type} {sz:Nat}:∀ {ch:List (List α)} {i j:Nat} {e:List α} {d:α},(∀ e,e∈ch→e.length=sz)→ch[i]? = some e→e[j]? = some d→ch.flatten[i * sz+j]? = some d
 | [],i,j,e,d,_,h,_=>by simp at h
 | x :: ch, i, j, e, d, hs, h, hj => by
   have hx:=hs x (by simp)
   rw [List.flatten_cons]
   cases i with
   | zero =>
     simp at h;subst h
     have hlt:=(List.getElem?_eq_some_iff.1 hj).1
     rw [Nat.zero_mul,Nat.zero_add,List.getElem?_append_left hlt]
     exact hj
   | succ i =>
     have:=gS (ch:=ch) (fun e he=>hs e (by simp [he])) (by simpa using h) hj
     rw [List.getElem?_append_right (by rw [hx,Nat.succ_mul];omega),hx]
     rw [show (i+1) * sz+j - sz=i * sz+j by rw [Nat.succ_mul];omega]
     exact this
theorem fp {b sz n:Nat} {ch:List (List Data)}:∀ {σ:Log} {l:Loc},look (iL b sz n ch σ) l=(look σ l).map (gh b sz n ch)
 | [],l=>rfl
 | (k, c) :: r, l => by
   rw [iL,af,af,fp]
   by_cases h:k=l<;>simp [h]
section
variable {W0:World} {κ:Gh} {σ:Log} {a:Act} {w:World}
theorem thaw_rep (hs:RepS W0 κ σ a w) {b sz n:Nat} {l:List AV} (hb:look σ (.b b)=some (.bx l)) {ch:List (List Data)} (hc:bB l=some ch.flatten) (hn:ch.length=n) (hz:∀ e,e∈ch→e.length=sz)
  {els:List (List Data)} {t:Tok} {x:Value} (hv:RepV { κ with I:=fun x o=>κ.I x o∨aZ (spb κ b l) x o } w (.mx sz els b n t) x) :
  RepV { κ with I:=fun x o=>κ.I x o∨aZ (spb κ b l) x o } w (.sl sz (els++ch) t) x:=by
 obtain ⟨off,cap,h1,h2,h3,h4,h5,rfl⟩:=hv.mx_inv
 have h2:(κ.ι b).2=off+els.length * sz:=h2
 obtain ⟨_,_,hB⟩:=hs.boxes b l hb
 obtain ⟨C,ty,hC,hR⟩:=hB.row (kW hc)
 obtain ⟨hcl,hcd⟩:=b9 hc
 have hfl:ch.flatten.length=n * sz:=by
  rw [← hn]
  clear hc hn hcl hcd
  induction ch with
  | nil=>simp
  | cons e ch ih =>
    rw [List.flatten_cons,List.length_append,hz e (by simp),ih (fun e he=>hz e (by simp [he])),List.length_cons,Nat.succ_mul]
    omega
 have hll:l.length=n * sz:=by rw [← hcl,hfl]
 have hlen:(els++ch).length=els.length+n:=by rw [List.length_append,hn]
 have key:∀ (i j:Nat),i<els.length+n→j<sz→∃ c,(κ.I (κ.ι b).1 (off+i * sz+j)∨aZ (spb κ b l) (κ.ι b).1 (off+i * sz+j))∧w.cell? ⟨(κ.ι b).1,off+i * sz+j,none⟩=some c ∧
   ∀ e d,(els++ch)[i]? = some e→e[j]? = some d→RepD (fun x o=>κ.I x o∨aZ (spb κ b l) x o) w d c:=by
  intro i j hi hj
  by_cases hie:i<els.length
  ·generalize hD:Value.slice (some ⟨(κ.ι b).1,off,none⟩) els.length cap=v at h4
   cases h4 with
   | nil=>simp at hie
   | lst _ _ b' q cap' C' hnc hl hI hcc hr =>
     cases hD
     refine ⟨C' i j,hI i j hie hj,hcc i j hie hj,fun e d he hd=>?_⟩
     rw [List.getElem?_append_left hie] at he
     exact hr i j e d he hd
  ·have hk:(i - els.length) * sz+j<l.length:=by
    rw [hll]
    have:(i - els.length) * sz+sz≤n * sz:=by
     rw [← Nat.succ_mul]
     exact Nat.mul_le_mul_right _ (by omega)
    omega
   have hoff:off+i * sz+j=(κ.ι b).2+((i - els.length) * sz+j):=by
    rw [h2]
    have:i * sz=els.length * sz+(i - els.length) * sz:=by rw [← Nat.add_mul];congr 1;omega
    omega
   have hCs:(κ.ι b).2+((i - els.length) * sz+j)<C.size:=by have:=hR.1;omega
   refine ⟨C.getD ((κ.ι b).2+((i - els.length) * sz+j)) undef,.inr ⟨rfl,by simp only [spb];omega,by simp only [spb];omega⟩,?_,fun e d he hd=>?_⟩
   ·rw [hoff,au hC]
    simp [Array.getD,hCs]
   ·rw [List.getElem?_append_right (by omega)] at he
    have hf:=gS hz he hd
    obtain ⟨d',hd',hcell⟩:=hcd _ _ (List.getElem?_eq_getElem hk)
    rw [hf] at hd'
    cases hd'
    have hrep:=hR.2.2 _ _ (List.getElem?_eq_getElem hk)
    exact (dq hrep hcell).mono (fun _ _ h=>.inl h) (fun _ _ _=>rfl)
 refine .sl sz (els++ch) t _ ?_ h5
 rw [← hlen]
 refine .lst sz (els++ch) _ off cap (fun i j=>(w.cell? ⟨(κ.ι b).1,off+i * sz+j,none⟩).getD undef) (by rw [hlen];exact h3) ?_ ?_ ?_ ?_
 ·intro e he
  rcases List.mem_append.1 he with he | he
  ·generalize hD:Value.slice (some ⟨(κ.ι b).1,off,none⟩) els.length cap=v at h4
   cases h4 with
   | nil=>simp at he
   | lst _ _ b' q cap' C' hnc hl hI hcc hr=>exact hl e he
  ·exact hz e he
 ·intro i j hi hj
  rw [hlen] at hi
  obtain ⟨c,g1,_⟩:=key i j hi hj
  exact g1
 ·intro i j hi hj
  rw [hlen] at hi
  obtain ⟨c,_,g2,_⟩:=key i j hi hj
  rw [g2];rfl
 ·intro i j e d he hd
  have hi:i<els.length+n:=by rw [← hlen];exact (List.getElem?_eq_some_iff.1 he).1
  have hj:j<sz:=by
   have hel:e.length=sz:=by
    rcases List.mem_append.1 (List.mem_of_getElem? he) with he | he
    ·generalize hD:Value.slice (some ⟨(κ.ι b).1,off,none⟩) els.length cap=v at h4
     cases h4 with
     | nil=>simp at he
     | lst _ _ b' q cap' C' hnc hl hI hcc hr=>exact hl e he
    ·exact hz e he
   rw [← hel];exact (List.getElem?_eq_some_iff.1 hd).1
  obtain ⟨c,_,g2,g3⟩:=key i j hi hj
  simp only [g2,Option.getD_some]
  exact g3 e d he hd
theorem RepS.reput (hs:RepS W0 κ σ a w) {n:Nat} {v:AV} (hv:RepV κ w v (a.tmps.getD n undef)):RepS W0 κ ((.s n,.av v)::σ) a w∧Step κ σ w κ ((.s n,.av v)::σ) w:=by
 have hb:∀ b,look ((.s n,.av v)::σ) (.b b)=look σ (.b b):=fun b=>by simp [af]
 have ht:∀ b,look ((.s n,.av v)::σ) (.t b)=look σ (.t b):=fun b=>by simp [af]
 have ho:∀ b o,Own κ ((.s n,.av v)::σ) b o→Own κ σ b o:=fun b o h=>Own_s.1 h
 refine ⟨⟨fun m u h=>?_,fun b l h=>hs.boxes b l (hb b ▸ h),fun b b' l l' h h'=>hs.binj b b' l l' (hb b ▸ h) (hb b' ▸ h'),fun k h=>hs.toks k (ht k ▸ h),fun k k' h h'=>hs.tdis k k' (ht k ▸ h) (ht k' ▸ h'),fun k i l h h'=>hs.tbox k i l (ht k ▸ h) (hb i ▸ h'),
  fun b o h=>hs.sepI b o (ho b o h),hs.Icell,hs.old,hs.size0,hs.amb,hs.defers,hs.os,hs.tape,hs.output⟩,
  ⟨.refl _ _,fun b o h=>.inl (ho b o h),fun _ _ h=>h,fun _ _ h=>.inl h,fun _ _ h=>⟨h,rfl⟩,fun _ _ h=>⟨h,rfl⟩⟩⟩
 rw [af] at h
 by_cases hm:n=m
 ·subst hm;simp at h;subst h;exact hv
 ·have:(Loc.s n=Loc.s m)=False:=by simp [hm]
  simp only [this,if_false] at h
  exact hs.slots m u h
theorem RepS.frzC (hs:RepS W0 κ σ a w) {x sz b o n c:Nat} {t:Tok} (hx:ev σ (.t x)=.cs sz b o n c t) {l:List AV} (hb:look σ (.b b)=some (.bx l)) {ds:List Data} {ch:List (List Data)} (hc:bB l=some ds)
  (hp:sub ds o (n * sz)=some ch.flatten) (hn:ch.length=n) (hz:∀ e,e∈ch→e.length=sz) :
  RepS W0 { κ with I:=fun x o=>κ.I x o∨aZ (spb κ b l) x o } ((.s x,.av (.sl sz ch (tokF t n c)))::(.b b,.tk false)::σ) a w ∧
  Step κ σ w { κ with I:=fun x o=>κ.I x o∨aZ (spb κ b l) x o } ((.s x,.av (.sl sz ch (tokF t n c)))::(.b b,.tk false)::σ) w:=by
 obtain ⟨r,s,e⟩:=hs.freeze hb
 have hsl:look σ (.s x)=some (.av (.cs sz b o n c t)):=by
  simp only [ev] at hx
  split at hx
  ·rename_i v hv;rw [hv,hx]
  ·cases hx
 obtain ⟨cap,hDb,hnc,hcc,hT,hv⟩:=(hs.slots x _ hsl).cs_inv
 obtain ⟨_,hW,hB⟩:=hs.boxes b l hb
 obtain ⟨C,ty,hC,hR⟩:=hB.row (kW hc)
 obtain ⟨hcl,hcd⟩:=b9 hc
 obtain ⟨p1,p2,p3⟩:=ce hp
 have key:∀ i j,i<n→j<sz→o+(i * sz+j)<l.length∧(κ.ι b).2+(o+(i * sz+j))<C.size:=by
  intro i j hi hj
  have h1:i * sz+j<n * sz:=by
   have:i * sz+sz≤n * sz:=by
    rw [← Nat.succ_mul]
    exact Nat.mul_le_mul_right _ (by omega)
   omega
  have:=hR.1
  omega
 refine ⟨(r.reput ?_).1,s.trans (r.reput ?_).2⟩
 all_goals
  rw [hv]
  refine .sl sz ch _ _ ?_ ?_
  ·rw [← hn]
   refine .lst sz ch (κ.ι b).1 ((κ.ι b).2+o) cap (fun i j=>C.getD ((κ.ι b).2+(o+(i * sz+j))) undef) (by omega) hz (fun i j hi hj=>?_) (fun i j hi hj=>?_) (fun i j q d hq hd=>?_)
   ·obtain ⟨g1,g2⟩:=key i j (by omega) hj
    exact .inr ⟨rfl,by simp only [spb];omega,by simp only [spb];omega⟩
   ·obtain ⟨g1,g2⟩:=key i j (by omega) hj
    rw [show (κ.ι b).2+o+i * sz+j=(κ.ι b).2+(o+(i * sz+j)) by omega,au hC]
    simp [Array.getD,g2]
   ·have hi:i<n:=by rw [← hn];exact (List.getElem?_eq_some_iff.1 hq).1
    have hj:j<sz:=by rw [← hz q (List.mem_of_getElem? hq)];exact (List.getElem?_eq_some_iff.1 hd).1
    obtain ⟨g1,g2⟩:=key i j hi hj
    have hf:=gS hz hq hd
    have h1:i * sz+j<n * sz:=by
     have:i * sz+sz≤n * sz:=by
      rw [← Nat.succ_mul]
      exact Nat.mul_le_mul_right _ (by omega)
     omega
    rw [p3 _ h1] at hf
    obtain ⟨d',hd',hcell⟩:=hcd _ _ (List.getElem?_eq_getElem g1)
    rw [hf] at hd'
    cases hd'
    have hrep:=hR.2.2 _ _ (List.getElem?_eq_getElem g1)
    exact (dq hrep hcell).mono (fun _ _ h=>.inl h) (fun _ _ _=>rfl)
  ·unfold tokF
   cases hq:Nat.beq n c with
   | false=>trivial
   | true =>
     have h1:=Nat.eq_of_beq_eq_true hq
     subst h1
     exact hT.mono fun k h=>⟨h,rfl⟩
theorem RepS.frz (hs:RepS W0 κ σ a w) {b sz n:Nat} {l:List AV} (hb:look σ (.b b)=some (.bx l)) {ch:List (List Data)} (hc:bB l=some ch.flatten) (hn:ch.length=n) (hz:∀ e,e∈ch→e.length=sz) :
  RepS W0 { κ with I:=fun x o=>κ.I x o∨aZ (spb κ b l) x o } ((.b b,.tk false)::iL b sz n ch σ) a w ∧
  Step κ σ w { κ with I:=fun x o=>κ.I x o∨aZ (spb κ b l) x o } ((.b b,.tk false)::iL b sz n ch σ) w:=by
 obtain ⟨r,s,e⟩:=hs.freeze hb
 have tr:=fun (els:List (List Data)) (t:Tok) (x:Value)=>thaw_rep hs hb hc hn hz (els:=els) (t:=t) (x:=x)
 generalize hκ:({ κ with I:=fun x o=>κ.I x o∨aZ (spb κ b l) x o }:Gh)=κ' at r s e tr ⊢
 have ls:∀ m,look ((.b b,.tk false)::iL b sz n ch σ) (.s m)=(look ((.b b,.tk false)::σ) (.s m)).map (gh b sz n ch):=by
  intro m;simp [af,fp]
 have lt:∀ m,look ((.b b,.tk false)::iL b sz n ch σ) (.t m)=(look ((.b b,.tk false)::σ) (.t m)).map (gh b sz n ch):=by
  intro m;simp [af,fp]
 have lb:∀ m,look ((.b b,.tk false)::iL b sz n ch σ) (.b m)=(look ((.b b,.tk false)::σ) (.b m)).map (gh b sz n ch):=by
  intro m
  by_cases h:b=m
  ·simp [af,h,gh]
  ·simp [af,h,fp]
 have ht:∀ k,look ((.b b,.tk false)::iL b sz n ch σ) (.t k)=some (.tk true)→look ((.b b,.tk false)::σ) (.t k)=some (.tk true):=by
  intro k h
  rw [lt] at h
  cases hk:look ((.b b,.tk false)::σ) (.t k) with
  | none=>rw [hk] at h;cases h
  | some c =>
    rw [hk] at h
    simp only [Option.map_some,Option.some.injEq] at h
    unfold gh at h
    split at h
    ·split at h<;>cases h
    ·cases h
    ·rw [h]
 have ht':∀ k,look ((.b b,.tk false)::σ) (.t k)=some (.tk true)→look ((.b b,.tk false)::iL b sz n ch σ) (.t k)=some (.tk true):=by
  intro k h
  rw [lt,h];rfl
 have hB:∀ m l',look ((.b b,.tk false)::iL b sz n ch σ) (.b m)=some (.bx l')→∃ l0,look ((.b b,.tk false)::σ) (.b m)=some (.bx l0)∧l'.length=l0.length∧(∀ C o,RepC κ' w l0 C o→RepC κ' w l' C o)∧(isM l0=true→l'=l0):=by
  intro m l' h
  rw [lb] at h
  cases hk:look ((.b b,.tk false)::σ) (.b m) with
  | none=>rw [hk] at h;cases h
  | some c =>
    rw [hk] at h
    simp only [Option.map_some,Option.some.injEq] at h
    unfold gh at h
    split at h
    ·split at h<;>cases h
    ·rename_i l0
     simp only [Cell.bx.injEq] at h
     subst h
     refine ⟨l0,rfl,by simp,fun C o hR=>⟨by simpa using hR.1,?_,fun j v hj=>?_⟩,fun hm=>by obtain ⟨m,rfl,hA⟩:=fV.1 hm;cases m<;>first | (cases hA;done) | rfl⟩
     ·intro v hv
      obtain ⟨u,hu,rfl⟩:=List.mem_map.1 hv
      have h1:=hR.2.1 u hu
      split
      ·split<;>first | rfl | exact h1
      ·exact h1
     ·rw [List.getElem?_map] at hj
      cases hu:l0[j]? with
      | none=>rw [hu] at hj;cases hj
      | some u =>
        rw [hu] at hj
        simp only [Option.map_some,Option.some.injEq] at hj
        subst hj
        have h1:=hR.2.2 j u hu
        split
        ·split
         ·rename_i q1 q2 q3
          have q1:=Nat.eq_of_beq_eq_true q1
          have q2:=Nat.eq_of_beq_eq_true q2
          have q3:=Nat.eq_of_beq_eq_true q3
          subst q1;subst q2;subst q3
          exact tr _ _ _ h1
         ·exact h1
        ·exact h1
    ·rw [h];exact ⟨l',rfl,rfl,fun C o hR=>hR,fun _=>rfl⟩
 have hown:∀ x o,Own κ' ((.b b,.tk false)::iL b sz n ch σ) x o→Own κ' ((.b b,.tk false)::σ) x o:=by
  rintro x o (⟨i,m,hm,hi⟩ | ⟨k,hk,hi⟩)
  ·obtain ⟨l0,h1,h2,_⟩:=hB i m hm
   exact .inl ⟨i,l0,h1,by simpa only [spb,h2] using hi⟩
  ·exact .inr ⟨k,ht k hk,hi⟩
 refine ⟨⟨?_,?_,?_,?_,?_,?_,fun x o h=>r.sepI x o (hown x o h),r.Icell,r.old,r.size0,r.amb,r.defers,r.os,r.tape,r.output⟩,⟨s.chg,fun x o h=>s.own x o (hown x o h),s.I_,s.In,s.low,s.lowt⟩⟩
 ·intro m v h
  rw [ls] at h
  cases hk:look ((.b b,.tk false)::σ) (.s m) with
  | none=>rw [hk] at h;cases h
  | some c =>
    rw [hk] at h
    simp only [Option.map_some,Option.some.injEq] at h
    unfold gh at h
    split at h
    ·rename_i sz' els b' n' t
     have h1:=r.slots m _ hk
     split at h
     ·rename_i q1
      simp only [Cell.av.injEq] at h
      subst h
      simp only [thaw1]
      split
      ·rename_i p1 p2 p3
       have p1:=Nat.eq_of_beq_eq_true p1
       have p2:=Nat.eq_of_beq_eq_true p2
       have p3:=Nat.eq_of_beq_eq_true p3
       subst p1;subst p2;subst p3
       exact tr _ _ _ h1
      ·exact .bad _
     ·simp only [Cell.av.injEq] at h
      subst h
      exact h1
    ·cases h
    ·rw [h] at hk
     exact r.slots m v hk
 ·intro m l' h
  obtain ⟨l0,h1,h2,h3,h4⟩:=hB m l' h
  obtain ⟨g1,g2,g3⟩:=r.boxes m l0 h1
  refine ⟨g1,g2,?_⟩
  cases hm:isM l0 with
  | true=>rw [h4 hm];exact g3
  | false =>
    obtain ⟨C,ty,g4,g5⟩:=g3.row hm
    exact .of g4 (h3 _ _ g5)
 ·intro m m' l1 l2 h h' hne x o hi hi'
  obtain ⟨l1',h1,h2,_⟩:=hB m l1 h
  obtain ⟨l2',h1',h2',_⟩:=hB m' l2 h'
  exact r.binj m m' l1' l2' h1 h1' hne x o (by simpa only [spb,h2] using hi) (by simpa only [spb,h2'] using hi')
 ·intro k h;exact r.toks k (ht k h)
 ·intro k k' h h';exact r.tdis k k' (ht k h) (ht k' h')
 ·intro k m l' h h' x o hi hi'
  obtain ⟨l0,h1,h2,_⟩:=hB m l' h'
  exact r.tbox k m l0 (ht k h) h1 x o hi (by simpa only [spb,h2] using hi')
end
end Go.Abs
namespace Go.Abs
open Go
def wrapF:List Nat→AC→AC
 | [],ac=>ac
 | x::r,ac=>wrapF r (.seq ac (.frz x))
def cutF:Bool→AC→AC
 | true,ac=>.seq .cut ac
 | false,ac=>ac
def compR (P:Program) (an:Ann) (N:Nat) (ops:Array Oper) (draw slm:Bool):AC:=match jQ P an N ops ops.toList with
 | none=>.stuck
 | some gs => match draw with
   | false=>.reg gs
   | true => match jP ops.toList 0 with
     | true => (match slm with
       | false=>.regD gs (jv ops.toList [])
       | true=>.regE gs (jv ops.toList []))
     | false=>.stuck
def eJ (P:Program) (an:Ann) (N:Nat):Code→Option AC
 | .region id ops draw=>some (cutF (an.cut id) (wrapF (an.frz id) (compR P an N ops draw (an.slm id))))
 | .seq x y => match eJ P an N x, eJ P an N y with
   | some x,some y=>some (.seq x y)
   | _,_=>none
 | .cond c x y => match ax none c, eJ P an N x, eJ P an N y with
   | some c,some x,some y=>some (.cond c x y)
   | _,_,_=>none
 | .block n c=>match eJ P an N c with | some c=>some (.block n c) | none=>none
 | .loop c=>match eJ P an N c with | some c=>some (.loop c) | none=>none
 | .exit n=>some (.exit n)
 | .ret=>some .ret
 | .skip=>some .skip
 | _=>some .stuck
def exitIs:Exit→Ex→Prop
 | .normal,.n=>True
 | .exit i,.e j=>i=j
 | .ret,.r=>True
 | _,_=>False
def lh (W0:World) (κ:Gh) (σ:Log) (w:World) (N:Nat) (R:Ex→Nat→Log→Prop):Exit→Act→World→Prop:=fun e a' w'=>
 ∃ ex nx κ' σ',exitIs e ex∧R ex nx σ'∧RepS W0 κ' σ' a' w'∧Step κ σ w κ' σ' w'∧a'.tmps.size=N∧Bel κ' nx
theorem kH {P:Program} {c:Code} {Q:Exit→Act→World→Prop}:∀ {n m:Nat} {a:Act} {w:World},n≤m→Code.rounds P c Q n a w→Code.rounds P c Q m a w
 | 0,m,a,w,_,h=>h.elim
 | n+1,0,a,w,hm,_=>absurd hm (by omega)
 | n + 1, m + 1, a, w, hm, h => by
   rw [rounds_succ] at h ⊢
   refine wp_mono h fun e a' w' he=>?_
   cases e<;>first | exact kH (by omega) he | exact he
section
variable {P:Program} {W0:World} {call:aX} {N:Nat} {an:Ann}
theorem lI {c:Code} {nx:Nat} {κ:Gh} {σ:Log} {a:Act} {w:World}:∀ (L:List Nat) (ac:AC),(∀ R,awp call ac nx σ R→c.wp P (lh W0 κ σ w N R) a w)→∀ R,awp call (wrapF L ac) nx σ R→c.wp P (lh W0 κ σ w N R) a w
 | [],ac,h,R,hR=>h R hR
 | x :: L, ac, h, R, hR => by
   refine lI L (.seq ac (.frz x)) (fun R hR=>?_) R hR
   refine wp_mono (h _ hR) ?_
   rintro e a' w' ⟨ex,nx',κ',σ',he,hR,r,s,n,b⟩
   cases ex with
   | n =>
     simp only [awp] at hR
     split at hR
     ·rename_i sz els b' m t hx
      split at hR
      ·rename_i l hl
       obtain ⟨ch,⟨h1,h2,h3⟩,hR⟩:=hR
       obtain ⟨r',s'⟩:=r.frz hl h1 h2 h3
       exact ⟨.n,nx',_,_,he,hR,r',s.trans s',n,⟨b.ge,b.db,b.dt⟩⟩
      ·exact hR.elim
     ·exact ⟨.n,nx',κ',σ',he,hR,r,s,n,b⟩
     ·rename_i sz b' o' m c t hx
      split at hR
      ·rename_i l hl
       obtain ⟨ds,ch,⟨h1,h2,h3,h4⟩,hR⟩:=hR
       obtain ⟨r',s'⟩:=r.frzC hx hl h1 h2 h3 h4
       exact ⟨.n,nx',_,_,he,hR,r',s.trans s',n,⟨b.ge,b.db,b.dt⟩⟩
      ·exact hR.elim
     ·exact hR.elim
   | e i=>exact ⟨.e i,nx',κ',σ',he,hR,r,s,n,b⟩
   | r=>exact ⟨.r,nx',κ',σ',he,hR,r,s,n,b⟩
theorem cX (hm:P.follows .mixedOrders=true) (hG:∀ g cells,an.gl g=some cells→dU W0 g cells) (hcall:∀ f args H res H',call f args H res H'→Ctr P W0 f args H res H'):∀ (c:Code) (ac:AC) (nx:Nat) (κ:Gh) (σ:Log) (a:Act) (w:World) (R:Ex→Nat→Log→Prop),
  eJ P an N c=some ac→RepS W0 κ σ a w→Bel κ nx→a.tmps.size=N→awp call ac nx σ R→c.wp P (lh W0 κ σ w N R) a w
 | .region id ops draw, ac, nx, κ, σ, a, w, R, hc, hs, hb, hN, h => by
   simp only [eJ] at hc
   cases hc
   have main:∀ (nx:Nat) (κ:Gh) (σ:Log) (R:Ex→Nat→Log→Prop),RepS W0 κ σ a w→Bel κ nx→awp call (wrapF (an.frz id) (compR P an N ops draw (an.slm id))) nx σ R→(Code.region id ops draw).wp P (lh W0 κ σ w N R) a w:=by
    intro nx κ σ R hs hb h
    refine lI (an.frz id) _ (fun R h=>?_) R h
    unfold compR at h
    split at h
    ·exact h.elim
    ·rename_i gs hgs
     split at h
     ·refine wp_region ?_
      rw [List.range_eq_range']
      have:=nq (Q:=lh W0 κ σ w N R) (ops:=ops) (N:=N) hG hcall gs ops.toList 0 σ κ a w nx _ hgs (fun j=>by simp) hs hb hN h (fun σ' κ' a' w' hK r s n b=>⟨.n,_,κ',σ',trivial,hK,r,s,n,b⟩)
      rwa [Array.length_toList] at this
     ·split at h
      ·rename_i hE
       refine wp_region_any hm ?_
       refine draw_sound (Q:=lh W0 κ σ w N R) hG hcall hgs hE (hs.drawn _) hb hN (K:=fun σ=>R .n (nx+100 * gs.length) σ) (by
        split at h
        ·exact nA h
        ·exact nr h) (fun σ' κ' a' w' hK r s n b=>⟨.n,_,κ',σ',trivial,hK,r,(Step.drawn _).trans s,n,b⟩)
      ·exact h.elim
   cases hcut:an.cut id with
   | false=>rw [hcut] at h;exact main nx κ σ R hs hb h
   | true =>
     rw [hcut] at h
     rcases (show CutP (fun n σ=>awp call (wrapF (an.frz id) (compR P an N ops draw (an.slm id))) n σ R) nx σ from h) with h | ⟨n,σ',hle,h⟩
     ·exact main nx κ σ R hs hb h
     ·obtain ⟨κ0,r0,s0,b0⟩:=nJ hle hs
      refine wp_mono (main n κ0 σ' R r0 b0 h) ?_
      rintro e a' w' ⟨ex,nx',κ',σ'',he,hR,r,s,n,b⟩
      exact ⟨ex,nx',κ',σ'',he,hR,r,s0.trans s,n,b⟩
 | .seq x y, ac, nx, κ, σ, a, w, R, hc, hs, hb, hN, h => by
   simp only [eJ] at hc
   split at hc<;>first | cases hc | skip
   rename_i x' y' hx hy
   refine wp_seq (wp_mono (cX hm hG hcall x x' nx κ σ a w _ hx hs hb hN h) ?_)
   rintro e a' w' ⟨ex,nx',κ',σ',he,hR,r,s,n,b⟩
   cases ex with
   | n =>
     cases e<;>first | exact he.elim | skip
     refine wp_mono (cX hm hG hcall y y' nx' κ' σ' a' w' R hy r b n hR) ?_
     rintro e a'' w'' ⟨ex,nx'',κ'',σ'',he,hR,r',s',n',b'⟩
     exact ⟨ex,nx'',κ'',σ'',he,hR,r',s.trans s',n',b'⟩
   | e i =>
     cases e<;>first | exact he.elim | skip
     exact ⟨.e i,nx',κ',σ',he,hR,r,s,n,b⟩
   | r =>
     cases e<;>first | exact he.elim | skip
     exact ⟨.r,nx',κ',σ',he,hR,r,s,n,b⟩
 | .cond c x y, ac, nx, κ, σ, a, w, R, hc, hs, hb, hN, h => by
   simp only [eJ] at hc
   split at hc<;>first | cases hc | skip
   rename_i c' x' y' hcc hx hy
   simp only [awp] at h
   split at h
   ·rename_i v hv
    have hr:=am hs hcc
    rw [hv] at hr
    have e:=hr.sc_inv
    simp only [Sc.val] at e
    have same:∀ b,v=b→Same σ (nM c' b σ):=by
     intro b hb
     subst hb
     cases c' with
     | t n =>
       refine known ?_
       simp only [ev] at hv
       split at hv
       ·rename_i u hu;rw [hu,hv]
       ·cases hv
     | c=>exact fun _=>rfl
    refine wp_cond e ?_
    cases v with
    | true =>
      refine wp_mono (cX hm hG hcall x x' nx κ _ a w R hx (hs.same (same true rfl)) hb hN h) ?_
      rintro e a' w' ⟨ex,nx',κ',σ',he,hR,r,s,n,b⟩
      exact ⟨ex,nx',κ',σ',he,hR,r,Step.same (Same.symm (same true rfl)) (fun _=>rfl) s,n,b⟩
    | false =>
      refine wp_mono (cX hm hG hcall y y' nx κ _ a w R hy (hs.same (same false rfl)) hb hN h) ?_
      rintro e a' w' ⟨ex,nx',κ',σ',he,hR,r,s,n,b⟩
      exact ⟨ex,nx',κ',σ',he,hR,r,Step.same (Same.symm (same false rfl)) (fun _=>rfl) s,n,b⟩
   ·exact h.elim
 | .block k c, ac, nx, κ, σ, a, w, R, hc, hs, hb, hN, h => by
   simp only [eJ] at hc
   split at hc<;>first | cases hc | skip
   rename_i c' hcc
   refine wp_block (wp_mono (cX hm hG hcall c c' nx κ σ a w _ hcc hs hb hN h) ?_)
   rintro e a' w' ⟨ex,nx',κ',σ',he,hR,r,s,n,b⟩
   cases ex with
   | n =>
     cases e<;>first | exact he.elim | skip
     exact ⟨.n,nx',κ',σ',trivial,hR,r,s,n,b⟩
   | e i =>
     cases e<;>first | exact he.elim | skip
     rename_i j
     have hji:j=i:=he
     subst hji
     simp only at hR
     simp only [Exit.inBlock]
     split at hR
     ·rename_i hk
      rw [if_pos (Nat.eq_of_beq_eq_true hk)]
      exact ⟨.n,nx',κ',σ',trivial,hR,r,s,n,b⟩
     ·rename_i hk
      rw [if_neg (fun e=>by rw [e,Nat.beq_refl] at hk;cases hk)]
      exact ⟨.e j,nx',κ',σ',rfl,hR,r,s,n,b⟩
   | r =>
     cases e<;>first | exact he.elim | skip
     exact ⟨.r,nx',κ',σ',trivial,hR,r,s,n,b⟩
 | .loop c, ac, nx, κ, σ, a, w, R, hc, hs, hb, hN, h => by
   simp only [eJ] at hc
   split at hc<;>first | cases hc | skip
   rename_i c' hcc
   rcases h with ⟨k,h⟩ | ⟨J,⟨m0,n0,σ0,hle,hJ⟩,hround⟩
   ·have key:∀ (k:Nat) (n1:Nat) (κ1:Gh) (σ1:Log) (a1:Act) (w1:World),iter (fun n σ Q=>awp call c' n σ Q) R k n1 σ1→RepS W0 κ1 σ1 a1 w1→Step κ σ w κ1 σ1 w1→Bel κ1 n1→a1.tmps.size=N→Code.rounds P c (lh W0 κ σ w N R) k a1 w1:=by
     intro k
     induction k with
     | zero=>intro n1 κ1 σ1 a1 w1 hi;exact hi.elim
     | succ k ih =>
       intro n1 κ1 σ1 a1 w1 hi r1 s1 b1 hN1
       rw [rounds_succ]
       refine wp_mono (cX hm hG hcall c c' n1 κ1 σ1 a1 w1 _ hcc r1 b1 hN1 hi) ?_
       rintro e a' w' ⟨ex,nx',κ',σ',he,hR,r,s,n,b⟩
       cases ex with
       | n =>
         cases e<;>first | exact he.elim | skip
         exact ih nx' κ' σ' a' w' hR r (s1.trans s) b n
       | e i =>
         cases e<;>first | exact he.elim | skip
         exact ⟨.e i,nx',κ',σ',he,hR,r,s1.trans s,n,b⟩
       | r =>
         cases e<;>first | exact he.elim | skip
         exact ⟨.r,nx',κ',σ',he,hR,r,s1.trans s,n,b⟩
    exact wp_loop_rounds k (key k nx κ σ a w h hs (Step.refl _ _ _) hb hN)
   obtain ⟨κ0,r0,s0,b0⟩:=nJ hle hs
   have key:∀ (m:Nat) (n1:Nat) (κ1:Gh) (σ1:Log) (a1:Act) (w1:World),J m n1 σ1→RepS W0 κ1 σ1 a1 w1→Step κ σ w κ1 σ1 w1→Bel κ1 n1→a1.tmps.size=N→Code.rounds P c (lh W0 κ σ w N R) (m+1) a1 w1:=by
    intro m
    induction m using Nat.strongRecOn with
    | _ m ih =>
      intro n1 κ1 σ1 a1 w1 hJ1 r1 s1 b1 hN1
      rw [rounds_succ]
      refine wp_mono (cX hm hG hcall c c' n1 κ1 σ1 a1 w1 _ hcc r1 b1 hN1 (hround m n1 σ1 hJ1)) ?_
      rintro e a' w' ⟨ex,nx',κ',σ',he,hR,r,s,n,b⟩
      cases ex with
      | n =>
        cases e<;>first | exact he.elim | skip
        obtain ⟨m',n'',σ'',hlt,hle',hJ'⟩:=hR
        obtain ⟨κ'',r'',s'',b''⟩:=nJ hle' r
        exact kH (by omega) (ih m' hlt n'' κ'' σ'' a' w' hJ' r'' ((s1.trans s).trans s'') b'' n)
      | e i =>
        cases e<;>first | exact he.elim | skip
        exact ⟨.e i,nx',κ',σ',he,hR,r,s1.trans s,n,b⟩
      | r =>
        cases e<;>first | exact he.elim | skip
        exact ⟨.r,nx',κ',σ',he,hR,r,s1.trans s,n,b⟩
   exact wp_loop_rounds (m0+1) (key m0 n0 κ0 σ0 a w hJ r0 s0 b0 hN)
 | .exit i, ac, nx, κ, σ, a, w, R, hc, hs, hb, hN, h => by
   cases hc
   exact wp_exit ⟨.e i,nx,κ,σ,rfl,h,hs,Step.refl _ _ _,hN,hb⟩
 | .ret, ac, nx, κ, σ, a, w, R, hc, hs, hb, hN, h => by
   cases hc
   exact wp_ret ⟨.r,nx,κ,σ,trivial,h,hs,Step.refl _ _ _,hN,hb⟩
 | .skip, ac, nx, κ, σ, a, w, R, hc, hs, hb, hN, h => by
   cases hc
   exact wp_skip ⟨.n,nx,κ,σ,trivial,h,hs,Step.refl _ _ _,hN,hb⟩
 | .rangeFunc ..,ac,nx,κ,σ,a,w,R,hc,hs,hb,hN,h=>by cases hc;exact h.elim
 | .scope ..,ac,nx,κ,σ,a,w,R,hc,hs,hb,hN,h=>by cases hc;exact h.elim
 | .label ..,ac,nx,κ,σ,a,w,R,hc,hs,hb,hN,h=>by cases hc;exact h.elim
 | .goto ..,ac,nx,κ,σ,a,w,R,hc,hs,hb,hN,h=>by cases hc;exact h.elim
 | .refuse ..,ac,nx,κ,σ,a,w,R,hc,hs,hb,hN,h=>by cases hc;exact h.elim
theorem dk:∀ n,(upN n).length=n
 | 0=>rfl
 | n+1=>by simp [upN,dk n]
theorem o9:∀ {n i:Nat},i<n→(upN n)[i]? = some i
 | 0,i,h=>by omega
 | n + 1, i, h => by
   rw [upN]
   by_cases hi:i<n
   ·rw [List.getElem?_append_left (by rw [dk];exact hi)];exact o9 hi
   ·have:i=n:=by omega
    subst this
    rw [List.getElem?_append_right (by rw [dk];omega),dk];simp
theorem RepV.wk3 {κ:Gh} {w:World} {v u:AV} {x:Value} (hv:RepV κ w v x) (h:wk3 v u):RepV κ w u x:=by
 unfold Abs.wk3 at h
 split at h
 ·obtain ⟨vs,rfl,hs,hc⟩:=hv.tup_inv
  obtain ⟨g1,g2⟩:=dj h
  refine .tup _ vs (by rw [hs,g1]) fun j u hj=>?_
  obtain ⟨v,h1,h2⟩:=g2 j u hj
  exact ((hc j v h1).wk2 h2).1
 ·exact (hv.wk2 h).1
theorem RepV.un3 {κ κc:Gh} {w:World} {bs ts:List Nat} {id:Nat} (h:Un κ κc bs ts) {v:AV} {x:Value} (hi:inR bs.length ts.length v=true) (hv:RepV κ w (Abs.ren bs ts id v) x):RepV κc w v x:=by
 by_cases ht:∃ l,v=.tup l
 ·obtain ⟨l,rfl⟩:=ht
  obtain ⟨vs,rfl,hs,hc⟩:=hv.tup_inv
  refine .tup l vs (by simpa using hs) fun j u hj=>?_
  exact (hc j _ (by rw [List.getElem?_map,hj];rfl)).un2 h (bF hi u (List.mem_of_getElem? hj))
 ·have e1:Abs.ren bs ts id v=Abs.ren2 bs ts id v:=by cases v<;>first | rfl | exact absurd ⟨_,rfl⟩ ht
  have e2:inR bs.length ts.length v=in2 bs.length ts.length v:=by cases v<;>first | rfl | exact absurd ⟨_,rfl⟩ ht
  rw [e1] at hv;rw [e2] at hi
  exact hv.un2 h hi
theorem fin_rep {κ:Gh} {σ:Log} {a:Act} {w:World} {bs ts:List Nat} {res:AV} {H':List (List AV)} {v:Value} (hs:RepS W0 κ σ a w) (n1:bE bs=true) (n2:bE ts=true)
  (i1:inR bs.length ts.length res=true) (i2:inH bs.length ts.length H'=true) (hv:RepV κ w (ren bs ts 0 res) v) (w2:iJ σ bs ts 0 bs H')
  (w3:dA σ ((toks res++H'.flatMap fun h=>h.flatMap bt).map (rb ts 0))) :
  RepS W0 (cv κ bs ts) (aV res H') ⟨#[v],[]⟩ w∧∀ b o,Own (cv κ bs ts) (aV res H') b o→Own κ σ b o:=by
 obtain ⟨b1,b2⟩:=jd w2
 have gD:∀ (l:List Nat) (i x:Nat),l[i]? = some x→l.getD i 0=x:=fun l i x h=>by rw [List.getD_eq_getElem?_getD,h];rfl
 have un:Un κ (cv κ bs ts) bs ts:=⟨fun _ _ h=>h,fun b x hx _=>⟨(List.getElem?_eq_some_iff.1 hx).1,by simp only [cv,gD _ _ _ hx]⟩,fun k x hx _=>⟨(List.getElem?_eq_some_iff.1 hx).1,by simp only [cv,gD _ _ _ hx]⟩⟩
 have e:aO [res] H'=toks res++(H'.flatMap fun h=>h.flatMap bt):=by simp [aO]
 have htin:∀ k,k∈aO [res] H'→k<ts.length:=gg (fun v hv=>by simp at hv;subst hv;exact i1) i2
 have htl:∀ k,k∈aO [res] H'→∃ x,ts[k]? = some x∧look σ (.t x)=some (.tk true):=by
  intro k hk
  have hlt:=htin k hk
  refine ⟨ts[k],List.getElem?_eq_getElem hlt,?_⟩
  have:=fT w3 (rb ts 0 k) (List.mem_map_of_mem (f:=rb ts 0) (e ▸ hk))
  simpa [rb,List.getElem?_eq_getElem hlt] using this
 have lt:∀ k,look (aV res H') (.t k)=some (.tk true)→k∈aO [res] H':=by
  intro k hk
  unfold aV at hk
  rw [bo] at hk
  by_cases hm:k∈aO [res] H'
  ·exact hm
  ·rw [if_neg hm] at hk;cases hk
 have lb:∀ b l,look (aV res H') (.b b)=some (.bx l)→H'[b]? = some l:=by
  intro b l h
  unfold aV at h
  rw [aK] at h
  cases hn:H'[b]? with
  | none=>rw [hn] at h;cases h
  | some u=>rw [hn] at h;simp at h;rw [h]
 have hspb:∀ (i x:Nat) (h m:List AV),bs[i]? = some x→gt m (h.map (ren2 bs ts 0))→spb (cv κ bs ts) i h=spb κ x m:=by
  intro i x h m hx hw
  have hl:=(dj hw).1
  rw [List.length_map] at hl
  simp only [spb,cv,gD _ _ _ hx,hl]
 have hown:∀ b o,Own (cv κ bs ts) (aV res H') b o→Own κ σ b o:=by
  rintro b o (⟨i,l,hl,hi⟩ | ⟨k,hk,hi⟩)
  ·obtain ⟨x,m,h1,h2,h3⟩:=b2 i l (lb i l hl)
   exact .inl ⟨x,m,h2,hspb i x l m h1 h3 ▸ hi⟩
  ·obtain ⟨x,hx,hl⟩:=htl k (lt k hk)
   refine .inr ⟨x,hl,?_⟩
   simpa only [cv,gD _ _ _ hx] using hi
 refine ⟨⟨?_,?_,?_,?_,?_,?_,fun b o ho=>hs.sepI b o (hown b o ho),hs.Icell,hs.old,hs.size0,hs.amb,rfl,hs.os,hs.tape,hs.output⟩,hown⟩
 ·intro n u h
  unfold aV at h
  rw [bJ] at h
  cases n with
  | zero =>
    simp at h;subst h
    simpa using hv.un3 un i1
  | succ n=>simp at h
 ·intro b l h
  have hn:=lb b l h
  obtain ⟨x,m,h1,h2,h3⟩:=b2 b l hn
  obtain ⟨k1,k2,k3⟩:=hs.boxes x m h2
  refine ⟨(List.getElem?_eq_some_iff.1 h1).1,?_,?_⟩
  ·simp only [cv,gD _ _ _ h1];exact k2
  ·have:=(k3.wk h3).un un (gO i2 l (List.mem_of_getElem? hn))
   simpa only [cv,gD _ _ _ h1] using this
 ·intro b b' l l' h h' hne y o hi
  obtain ⟨x,m,h1,h2,h3⟩:=b2 b l (lb b l h)
  obtain ⟨x',m',h1',h2',h3'⟩:=b2 b' l' (lb b' l' h')
  rw [hspb b x l m h1 h3] at hi
  rw [hspb b' x' l' m' h1' h3']
  exact hs.binj x x' m m' h2 h2' (fun e=>hne (cV n1 b b' x h1 (e ▸ h1'))) y o hi
 ·intro k h
  obtain ⟨x,hx,hl⟩:=htl k (lt k h)
  refine ⟨(List.getElem?_eq_some_iff.1 hx).1,?_⟩
  simp only [cv,gD _ _ _ hx]
  exact (hs.toks x hl).2
 ·intro k k' h h' hne b o hi
  obtain ⟨x,hx,hl⟩:=htl k (lt k h)
  obtain ⟨x',hx',hl'⟩:=htl k' (lt k' h')
  simp only [cv,gD _ _ _ hx,gD _ _ _ hx'] at hi ⊢
  exact hs.tdis x x' hl hl' (fun e=>hne (cV n2 k k' x hx (e ▸ hx'))) b o hi
 ·intro k i l h h' q o hi
  obtain ⟨x,hx,hl⟩:=htl k (lt k h)
  obtain ⟨y,m,h1,h2,h3⟩:=b2 i l (lb i l h')
  rw [hspb i y l m h1 h3]
  simp only [cv,gD _ _ _ hx] at hi
  exact hs.tbox x y m hl h2 q o hi
def rsC (P:Program):List ResultVar→Option (List (Nat × Nat))
 | []=>some []
 | .tmp t::r=>match rsC P r with | some l=>some ((t,0)::l) | none=>none
 | .cell t ty :: r => match fF P ty with
   | some true => (match (P.info? ty).map (·.size) with
     | some (n+1)=>(match rsC P r with | some l=>some ((t,n+1)::l) | none=>none)
     | _=>none)
   | _=>none
theorem lY {κ:Gh} {σ:Log} {a:Act} {w:World} (hs:RepS W0 κ σ a w) {g:ResultVar→Go.Sem Value} (hg:∀ t,g (.tmp t)=pure (a.tmps.getD t undef))
  (hg':∀ t ty,g (.cell t ty)=(asAddr (a.tmps.getD t undef)).bind fun x=>loadVar ty x) :
  ∀ {l:List ResultVar} {rs:List (Nat × Nat)} {K:List AV→Prop},rsC P l=some rs→nT σ rs K→∃ vs xs,K vs∧(l.mapM g).run P w=.ok xs w∧xs.length=vs.length∧∀ (j:Nat) (v:AV),vs[j]? = some v→RepV κ w v (xs.getD j undef)
 | [], rs, K, h, hK => by
   simp only [rsC,Option.some.injEq] at h;subst h
   exact ⟨[],[],hK,rfl,rfl,fun j v hj=>by simp at hj⟩
 | .tmp t :: r, rs, K, h, hK => by
   simp only [rsC] at h
   split at h
   ·rename_i l hl
    cases h
    simp only [nT] at hK
    obtain ⟨vs,xs,h1,h2,h3,h4⟩:=lY hs hg hg' hl hK
    refine ⟨_,a.tmps.getD t undef::xs,h1,?_,by simp [h3],?_⟩
    ·simp [List.mapM_cons,hg,h2]
    ·intro j v hj
     cases j with
     | zero=>simp at hj;subst hj;exact am hs (z:=none) (x:=.tmp t) rfl
     | succ j=>simpa using h4 j v (by simpa using hj)
   ·cases h
 | .cell t ty :: r, rs, K, h, hK => by
   simp only [rsC] at h
   split at h
   ·rename_i hag
    split at h
    ·rename_i n hn
     split at h
     ·rename_i l hl
      cases h
      simp only [nT] at hK
      have hr:=am hs (z:=none) (x:=.tmp t) (y:=.t t) rfl
      split at hK
      ·rename_i b he
       rw [he] at hr
       obtain ⟨_,hp⟩:=hr.ptr_inv
       split at hK
       ·rename_i bl hbl
        cases hm:isM bl with
        | true=>simp only [hm] at hK
        | false=>
        simp only [hm] at hK
        obtain ⟨_,_,hB⟩:=hs.boxes b bl hbl
        obtain ⟨C,cty,hgc,hl'⟩:=hB.row hm
        cases hbeq:Nat.beq bl.length (n+1) with
        | false=>rw [hbeq] at hK;exact hK.elim
        | true =>
          rw [hbeq] at hK
          have hlen:=Nat.eq_of_beq_eq_true hbeq
          obtain ⟨vs,xs,h1,h2,h3,h4⟩:=lY hs hg hg' hl hK
          obtain ⟨ls,hv,hll⟩:=(At.box hgc hl').load (P:=P)
          refine ⟨_,.agg ls::xs,h1,?_,by simp [h3],?_⟩
          ·have e:(g (.cell t ty)).run P w=.ok (.agg ls) w:=by
            have hp':a.tmps.getD t undef=.pointer (some ⟨(κ.ι b).1,(κ.ι b).2,none⟩):=hp
            rw [hg',hp']
            show ((pure ⟨(κ.ι b).1,(κ.ι b).2,none⟩:Go.Sem Addr) >>= fun x=>loadVar ty x).run P w=_
            simp [loadVar,dl hag,aW hn,← hlen,hv]
           simp [List.mapM_cons,e,h2]
          ·intro j v hj
           cases j with
           | zero=>simp at hj;subst hj;exact .agg bl ls hll.1 hll.2.1 hll.2.2
           | succ j=>simpa using h4 j v (by simpa using hj)
       ·exact hK.elim
      ·exact hK.elim
     ·cases h
    ·cases h
   ·cases h
theorem run_results {fn:Func} {κ:Gh} {σ:Log} {a:Act} {w:World} {rs:List (Nat × Nat)} {K:AV→Prop} (hs:RepS W0 κ σ a w) (h:rsC P fn.results.toList=some rs) (hK:resP σ rs K) :
  ∃ v x,K v∧(results fn a.tmps).run P w=.ok x w∧RepV κ w v x:=by
 unfold resP at hK
 obtain ⟨vs,xs,h1,h2,h3,h4⟩:=lY hs (g:=fun
  | .tmp t=>pure (a.tmps.getD t undef)
  | .cell b t=>do loadVar t (← asAddr (a.tmps.getD b undef))) (fun _=>rfl) (fun _ _=>rfl) h hK
 have key:(results fn a.tmps).run P w=.ok (if h:xs.toArray.size=1 then xs.toArray[0] else .tuple xs.toArray) w:=by
  have e:∀ g:ResultVar→Go.Sem Value,(fn.results.toList.mapM g).run P w=.ok xs w→(fn.results.mapM g).run P w=.ok xs.toArray w:=by
   intro g hg
   rw [Array.mapM_eq_mapM_toList]
   simp only [Sem.run_map,hg,Result.andThen_ok]
  unfold results
  rw [Sem.run_bind]
  exact congrArg (fun x:Result (Array Value)=>x.andThen fun a w'=>(pure (if h:a.size=1 then a[0] else Value.tuple a):Go.Sem Value).run P w') (e _ h2)
 match vs,xs,h1,h3,h4,key with
 | [v], [x], h1, _, h4, key =>
   refine ⟨v,x,h1,key,by simpa using h4 0 v rfl⟩
 | [],[],h1,_,_,key=>exact ⟨_,_,h1,key,.tup [] #[] rfl fun j v hj=>by simp at hj⟩
 | v1 :: v2 :: vs, x1 :: x2 :: xs, h1, h3, h4, key =>
   refine ⟨_,_,h1,key,?_⟩
   rw [dif_neg (by simp)]
   refine .tup _ _ (by simpa using h3) fun j v hj=>?_
   have:=h4 j v hj
   rwa [List.getD_eq_getElem?_getD,← List.getElem?_toArray,← Array.getD_eq_getD_getElem?] at this
theorem ctr_of (hm:P.follows .mixedOrders=true) (hG:∀ g cells,an.gl g=some cells→dU W0 g cells) (hcall:∀ f args H res H',call f args H res H'→Ctr P W0 f args H res H') {f:FuncId} {fn:Func} {c:Code} {ac:AC} {rs:List (Nat × Nat)} (hf:P.funcs[f]? = some fn) (hb:fn.body=some c)
  (hnm:cg P f=true) (hc:eJ P an fn.ntmps c=some ac) (hrs:rsC P fn.results.toList=some rs) {args:List AV} {H:List (List AV)} {res:AV} {H':List (List AV)} (ha:Nat.ble args.length fn.ntmps=true) (hH:Nat.ble (H.length+dK args H) 900=true)
  (h:aD call ac rs args H res H'):Ctr P W0 f args H res H':=by
 refine ⟨hnm,fun κ w vals hsz hdb hdt hs=>calls_of_wp hf hb ?_⟩
 have hle:=Nat.le_of_ble_eq_true ha
 have hle2:=Nat.le_of_ble_eq_true hH
 have hs':RepS W0 κ (aA args H) { tmps:=vals++Array.replicate (fn.ntmps - vals.size) undef,defers:=[] } w:=by
  refine ⟨?_,hs.boxes,hs.binj,hs.toks,hs.tdis,hs.tbox,hs.sepI,hs.Icell,hs.old,hs.size0,hs.amb,rfl,hs.os,hs.tape,hs.output⟩
  intro n v hv
  have:=hs.slots n v hv
  rw [bJ] at hv
  have hn:n<args.length:=by
   cases hh:args[n]? with
   | none=>rw [hh] at hv;cases hv
   | some u=>exact (List.getElem?_eq_some_iff.1 hh).1
  rw [Array.getD_eq_getD_getElem?] at this ⊢
  rw [Array.getElem?_append_left (by omega)]
  exact this
 have hbel:Bel κ 1000:=⟨Nat.le_refl _,fun b hb=>by have:=hdb b hb;omega,fun k hk=>by have:=hdt k hk;omega⟩
 refine wp_mono (cX (N:=fn.ntmps) hm hG hcall c ac 1000 κ (aA args H) _ w _ hc hs' hbel (by simp;omega) h) ?_
 rintro e a' w' ⟨ex,nx,κ',σ',he,hR,r,s,n,b⟩
 have main:resP σ' rs (fun v=>FinOK σ' v H.length (dK args H) res H')→a'.defers=[]∧∃ v,(results fn a'.tmps).run P w'=.ok v w'∧∃ v' κ'',Ending.returned v=.returned v'∧RepS W0 κ'' (aV res H') ⟨#[v'],[]⟩ w'∧Step κ (aA args H) w κ'' (aV res H') w':=by
  intro hP
  obtain ⟨v0,x0,⟨⟨bn,tn,⟨n1,n2,i1,i2⟩,w1,w2,w3⟩⟩,hrun,hrep⟩:=run_results r hrs hP
  refine ⟨r.defers,_,hrun,_,cv κ' (upN H.length++bn) (upN (dK args H)++tn),rfl,?_,?_⟩
  ·exact (fin_rep r n1 n2 i1 i2 (hrep.wk3 w1) w2 w3).1
  ·have ho:=(fin_rep r n1 n2 i1 i2 (hrep.wk3 w1) w2 w3).2
   refine ⟨s.chg,fun b o hh=>s.own b o (ho b o hh),s.I_,s.In,fun b hb hd=>?_,fun k hk hd=>?_⟩
   ·have hlt:=hdb b hd
    have e:(upN H.length++bn)[b]? = some b:=by rw [List.getElem?_append_left (by rw [dk];exact hlt)];exact o9 hlt
    refine ⟨(List.getElem?_eq_some_iff.1 e).1,?_⟩
    simp only [cv,List.getD_eq_getElem?_getD,e,Option.getD_some]
    exact (s.low b hb hd).2
   ·have hlt:=hdt k hd
    have e:(upN (dK args H)++tn)[k]? = some k:=by rw [List.getElem?_append_left (by rw [dk];exact hlt)];exact o9 hlt
    refine ⟨(List.getElem?_eq_some_iff.1 e).1,?_⟩
    simp only [cv,List.getD_eq_getElem?_getD,e,Option.getD_some]
    exact (s.lowt k hk hd).2
 cases ex with
 | n=>cases e<;>first | exact he.elim | exact main hR
 | e i=>exact hR.elim
 | r=>cases e<;>first | exact he.elim | exact main hR
end
end Go.Abs
namespace Go.Abs
open Go
section run
variable {R:Type}
def gQ (v:AV) (F:AV→Option R):Option R:=match v with
 | .bad=>none
 | v=>F v
def frc1X (v:AV) (F:AV→Option R):Option R:=match v with
 | .sc c=>F (.sc c)
 | .sl a b c=>F (.sl a b c)
 | .ptr a b=>F (.ptr a b)
 | .elp a b=>F (.elp a b)
 | .mx a b c d e=>F (.mx a b c d e)
 | .fn a b=>F (.fn a b)
 | .fb a b c=>F (.fb a b c)
 | .mr a=>F (.mr a)
 | .mpv a=>F (.mpv a)
 | .mm a b=>F (.mm a b)
 | .cs a b c d e f=>F (.cs a b c d e f)
 | _=>none
def bc:List AV→(List AV→Option R)→Option R
 | [],F=>F []
 | v::r,F=>frc1X v fun v=>bc r fun r=>F (v::r)
def tst (b:Bool) (F:Option R):Option R:=match b with | true=>F | false=>none
def binSX:Bin→List UInt8→List UInt8→(AV→Option R)→Option R
 | .eql,a,b,K=>K (.sc (.b (aH a b)))
 | .neq,a,b,K=>K (.sc (.b (!aH a b)))
 | .add,a,b,K=>tst (Nat.ble (a.length+b.length) 9223372036854775807) (K (.sc (.s (a++b))))
 | .lss,a,b,K=>K (.sc (.b (Op.bytesLess a b)))
 | .leq,a,b,K=>K (.sc (.b (Op.bytesLess a b||aH a b)))
 | .gtr,a,b,K=>K (.sc (.b (!(Op.bytesLess a b||aH a b))))
 | .geq,a,b,K=>K (.sc (.b (!(Op.bytesLess a b))))
 | _,_,_,_=>none
def leI (a b:Int):Bool:=decide (a≤b)
def jK:IntKind→Int→Bool
 | .i64,n=>leI (-9223372036854775808) n&&leI n 9223372036854775807
 | .u8,n=>leI 0 n&&leI n 255
 | .u64,n=>leI 0 n&&leI n 18446744073709551615
 | _,_=>false
def bI (n by_:Nat):Bool:=Nat.ble n 9223372036854775807&&Nat.ble (n * by_) 140737488355328
def binIX:Bin→IntKind→Int→Int→(AV→Option R)→Option R
 | .add,k,a,b,K=>tst (jK k (a+b)) (K (.sc (.i k (a+b))))
 | .sub,k,a,b,K=>tst (jK k (a - b)) (K (.sc (.i k (a - b))))
 | .mul,k,a,b,K=>tst (jK k (a * b)) (K (.sc (.i k (a * b))))
 | .quo,k,a,b,K=>tst (jK k a&&leI 0 a&&leI 1 b) (K (.sc (.i k (a / b))))
 | .rem,k,a,b,K=>tst (leI 0 a&&leI 1 b) (K (.sc (.i k (a % b))))
 | .eql,_,a,b,K=>K (.sc (.b (decide (a=b))))
 | .neq,_,a,b,K=>K (.sc (.b (!decide (a=b))))
 | .lss,_,a,b,K=>K (.sc (.b (decide (a<b))))
 | .leq,_,a,b,K=>K (.sc (.b (decide (a≤b))))
 | .gtr,_,a,b,K=>K (.sc (.b (decide (b<a))))
 | .geq,_,a,b,K=>K (.sc (.b (decide (b≤a))))
 | .and,k,a,b,K=>K (.sc (.i k (bits .and k a b)))
 | .or,k,a,b,K=>K (.sc (.i k (bits .or k a b)))
 | .xor,k,a,b,K=>K (.sc (.i k (bits .xor k a b)))
 | .andNot,k,a,b,K=>K (.sc (.i k (bits .andNot k a b)))
def binX (o:Bin) (x y:AV) (K:AV→Option R):Option R:=
 match x,y with
 | .sc (.i k a),.sc (.i k' b)=>match gp k k' with | true=>binIX o k a b K | false=>none
 | .sc (.s a),.sc (.s b)=>binSX o a b K
 | _,_=>none
def mA (d:Nat) (ag:Bool) (l:Option (List AV)) (F:Log→Option R):Option R:=match l with
 | none=>none
 | some l => match ag with
   | true=>bc l fun l=>F [(.s d,.av (.agg l))]
   | false => match l with
     | [v]=>frc1X v fun v=>F [(.s d,.av v)]
     | _=>none
def bldX (σ:Log):List (Nat × Nat × Opd)→List AV→(List AV→Option R)→Option R
 | [],z,F=>F z
 | (o, n, x) :: r, z, F => bc (flat (ev σ x)) fun v => match Nat.beq v.length n with
   | true=>(match be o v z with | some z=>bldX σ r z F | none=>none)
   | false=>none
def bslX (σ:Log) (sz:Nat):List Opd→(List (List Data)→Option R)→Option R
 | [],F=>F []
 | x :: r, F => bc (flat (ev σ x)) fun v => match bB v with
   | none=>none
   | some ds => match Nat.beq ds.length sz with
     | true=>bslX σ sz r fun els=>F (ds::els)
     | false=>none
def bslAX (σ:Log) (sz:Nat):List Opd→(List AV→Option R)→Option R
 | [],F=>F []
 | x :: r, F => bc (flat (ev σ x)) fun v => match Nat.beq v.length sz with
   | true=>bslAX σ sz r fun vs=>F (v++vs)
   | false=>none
def ma (σ:Log) (x:Option Opd) (z:Int) (K:Int→Option R):Option R:=match x with
 | none=>K z
 | some x=>match ev σ x with | .sc (.i _ n)=>K n | _=>none
def idx:List Nat→Nat→Nat→Option Nat
 | [],_,_=>none
 | x::r,k,i=>match Nat.beq x k with | true=>some i | false=>idx r k (i+1)
def un1 (bs ts:List Nat):AV→Option AV
 | .sl z e (.t k)=>match idx ts k 0 with | some i=>some (.sl z e (.t i)) | none=>some (.sl z e .none)
 | .ptr b o=>match idx bs b 0 with | some i=>some (.ptr i o) | none=>none
 | .mx z e b n (.t k) => match idx bs b 0 with
   | some i=>(match idx ts k 0 with | some j=>some (.mx z e i n (.t j)) | none=>some (.mx z e i n .none))
   | none=>none
 | .mx z e b n t=>match idx bs b 0 with | some i=>some (.mx z e i n t) | none=>none
 | .mr b=>match idx bs b 0 with | some i=>some (.mr i) | none=>none
 | .fb f b o=>match idx bs b 0 with | some i=>some (.fb f i o) | none=>none
 | .cs z b o n c (.t k) => match idx bs b 0 with
   | some i=>(match idx ts k 0 with | some j=>some (.cs z i o n c (.t j)) | none=>some (.cs z i o n c .none))
   | none=>none
 | .cs z b o n c t=>match idx bs b 0 with | some i=>some (.cs z i o n c t) | none=>none
 | v=>some v
def unL1 (bs ts:List Nat):List AV→Option (List AV)
 | []=>some []
 | x::r=>match un1 bs ts x with | none=>none | some y=>match unL1 bs ts r with | none=>none | some s=>some (y::s)
def unM (bs:List Nat):List AV→Option (List AV)
 | []=>some []
 | .sc c::r=>match unM bs r with | none=>none | some s=>some (.sc c::s)
 | .sl z e .none::r=>match unM bs r with | none=>none | some s=>some (.sl z e .none::s)
 | .ptr b o::r=>match idx bs b 0,unM bs r with | some i,some s=>some (.ptr i o::s) | _,_=>none
 | _=>none
def un2 (bs ts:List Nat):AV→Option AV
 | .mm ks vs=>match unM bs vs with | none=>none | some c=>some (.mm ks c)
 | .fn f c=>match unL1 bs ts c with | none=>none | some c=>some (.fn f c)
 | .agg l=>match unL1 bs ts l with | none=>none | some c=>some (.agg c)
 | v=>un1 bs ts v
def pb (bs ts:List Nat):List AV→Option (List AV)
 | []=>some []
 | x::r=>match un2 bs ts x with | none=>none | some y=>match pb bs ts r with | none=>none | some s=>some (y::s)
def un3 (bs ts:List Nat):AV→Option AV
 | .tup l=>match pb bs ts l with | none=>none | some c=>some (.tup c)
 | v=>un2 bs ts v
def unH (σ:Log) (bs ts:List Nat):List Nat→Option (List (List AV))
 | []=>some []
 | b :: r => match look σ (.b b) with
   | some (.bx l) => (match pb bs ts l with
     | none=>none
     | some h=>match unH σ bs ts r with | none=>none | some H=>some (h::H))
   | _=>none
def liveB (σ:Log):List Nat→Bool
 | []=>true
 | k::r=>match look σ (.t k) with | some (.tk true)=>liveB σ r | _=>false
def nI (x:Nat) (l:List Nat):List Nat:=match l.contains x with | true=>l | false=>l++[x]
def bx1 (l:List Nat):AV→List Nat
 | .ptr b _=>nI b l
 | .mx _ _ b _ _=>nI b l
 | .mr b=>nI b l
 | .fb _ b _=>nI b l
 | .cs _ b _ _ _ _=>nI b l
 | _=>l
def bx2 (l:List Nat):AV→List Nat
 | .mm _ c=>c.foldl bx1 l
 | .fn _ c=>c.foldl bx1 l
 | .agg c=>c.foldl bx1 l
 | v=>bx1 l v
def bx3 (l:List Nat):AV→List Nat
 | .tup c=>c.foldl bx2 l
 | v=>bx2 l v
def bxAll (σ:Log):Nat→List Nat→List Nat→List Nat
 | 0,_,l=>l
 | _+1,[],l=>l
 | n + 1, b :: todo, l => match look σ (.b b) with
   | some (.bx c)=>bxAll σ n (todo++(c.foldl bx2 l).drop l.length) (c.foldl bx2 l)
   | _=>bxAll σ n todo l
def tk1 (σ:Log) (l:List Nat):AV→List Nat
 | .sl _ _ (.t k)=>match look σ (.t k) with | some (.tk true)=>nI k l | _=>l
 | .mx _ _ _ _ (.t k)=>match look σ (.t k) with | some (.tk true)=>nI k l | _=>l
 | .cs _ _ _ _ _ (.t k)=>match look σ (.t k) with | some (.tk true)=>nI k l | _=>l
 | _=>l
def tk2 (σ:Log) (l:List Nat):AV→List Nat
 | .fn _ c=>c.foldl (tk1 σ) l
 | .agg c=>c.foldl (tk1 σ) l
 | v=>tk1 σ l v
def tk3 (σ:Log) (l:List Nat):AV→List Nat
 | .tup c=>c.foldl (tk2 σ) l
 | v=>tk2 σ l v
def tkH (σ:Log):List Nat→List Nat→List Nat
 | [],l=>l
 | b :: r, l => match look σ (.b b) with
   | some (.bx c)=>tkH σ r (c.foldl (tk2 σ) l)
   | _=>tkH σ r l
abbrev Rec:=FuncId→List AV→List (List AV)→Option (AV × List (List AV))
def erS:AV→AV
 | .sl z e _=>.sl z e .none
 | v=>v
def oH (rc:Rec) (σ:Log) (f:FuncId) (args:List AV):Option (AV × List (List AV) × List Nat × List Nat):=
 match bxAll σ 100 (args.foldl bx2 []) (args.foldl bx2 []) with
 | bs => match tkH σ bs (args.foldl (tk2 σ) []) with
   | ts => match pb bs ts args, unH σ bs ts bs with
     | some args', some H => (match rc f args' H with
       | some (res, H') => (match bE bs && bE ts && Nat.ble bs.length H'.length && Nat.ble H'.length (bs.length + 50) && Nat.ble (bs.length + ts.length) 900 && Nat.beq ts.length (dK args' H) &&
          dI bs.length ts.length args'&&inH bs.length ts.length H&&inR H'.length (ts.length+50) res&&inH H'.length (ts.length+50) H'&&liveB σ ts with
         | true=>some (res,H',bs,ts)
         | false=>none)
       | none=>none)
     | _,_=>none
def oT (rc:Rec) (σ:Log) (id:Nat) (d:Option Nat) (f:FuncId) (args:List AV) (F:Log→Option R):Option R:=
 match (match dI 0 0 (args.map bf) with
  | true => (match rc f (args.map bf) [] with
    | some (res, H') => (match inR H'.length 50 res && inH H'.length 50 H' && Nat.ble H'.length 50 && Nat.beq (dK (args.map bf) []) 0 with
      | true=>some (res,H')
      | false=>none)
    | none=>none)
  | false=>none) with
 | some (res,[])=>F (bp d (ren [] [] id res)++bK [] id (toks res))
 | some (res,h::H')=>F (bp d (ren [] [] id res)++aT [] [] id 0 (h::H')++bK [] id (toks res++((h::H').flatMap fun h=>h.flatMap bt))++bC [])
 | none => match oH rc σ f (args.map erS) with
   | some (res,H',bs,ts)=>F (bp d (ren bs ts id res)++aT bs ts id 0 H'++bK ts id (toks res++(H'.flatMap fun h=>h.flatMap bt))++bC ts)
   | none => match oH rc σ f args with
     | some (res,H',bs,ts)=>F (bp d (ren bs ts id res)++aT bs ts id 0 H'++bK ts id (toks res++(H'.flatMap fun h=>h.flatMap bt))++bC ts)
     | none=>none
def bP (rc:Rec) (σ:Log) (id:Nat):AOp→(Log→Option R)→Option R
 | .mv d x,F=>gQ (ev σ x) fun v=>F [(.s d,.av v)]
 | .pick d c a b, F => match ev σ c with
   | .sc (.b t) => (match t with
     | false=>gQ (ev σ b) fun v=>F [(.s d,.av v)]
     | true=>gQ (ev σ a) fun v=>F [(.s d,.av v)])
   | _=>none
 | .box d x,F=>bc (flat (ev σ x)) fun l=>F [(.s d,.av (.ptr id 0)),(.b id,.bx l)]
 | .alloc d z,F=>F [(.s d,.av (.ptr id 0)),(.b id,.bx z)]
 | .build d z ps,F=>bldX σ ps z fun z=>bc z fun z=>F [(.s d,.av (.agg z))]
 | .bsl d sz xs,F=>bslX σ sz xs fun els=>F [(.s d,.av (.sl sz els .full))]
 | .ld d n ag a,F=>match ev σ a with
  | .ptr b o => (match look σ (.b b) with
    | some (.bx l) => (match isM l with
      | true=>none
      | false=>mA d ag (sub l o n) F)
    | _=>none)
  | .elp l o=>mA d ag (sub (l.map aQ) o n) F
  | _=>none
 | .st a n x,F=>match ev σ a with
  | .ptr b o => (match look σ (.b b) with
    | some (.bx l) => (match isM l with
      | true=>none
      | false => bc (flat (ev σ x)) fun v => (match Nat.beq v.length n with
        | true=>(match be o v l with | some l=>bc l fun l=>F [(.b b,.bx l)] | none=>none)
        | false=>none))
    | _=>none)
  | _=>none
 | .nc d x,F=>match ev σ x with
  | .ptr b o=>F [(.s d,.av (.ptr b o))]
  | .elp b o=>F [(.s d,.av (.elp b o))]
  | .fn b o=>F [(.s d,.av (.fn b o))]
  | .fb f b o=>F [(.s d,.av (.fb f b o))]
  | _=>none
 | .bin d o x y,F=>binX o (ev σ x) (ev σ y) fun v=>F [(.s d,.av v)]
 | .binB d neg x y,F=>match ev σ x,ev σ y with
  | .sc (.b a), .sc (.b b) => (match neg with
    | true=>F [(.s d,.av (.sc (.b (a != b))))]
    | false=>F [(.s d,.av (.sc (.b (a == b))))])
  | _,_=>none
 | .no d x,F=>match ev σ x with | .sc (.b t)=>F [(.s d,.av (.sc (.b (!t))))] | _=>none
 | .fa d x off,F=>match ev σ x with
  | .ptr b o=>F [(.s d,.av (.ptr b (o+off)))]
  | .elp l o=>F [(.s d,.av (.elp l (o+off)))]
  | _=>none
 | .fld d x off n ag,F=>match ev σ x with
  | .agg l=>mA d ag (sub l off n) F
  | _=>none
 | .ia d sz x i,F=>match ev σ x,ev σ i with
  | .sl z els _, .sc (.i _ n) => (match Nat.beq sz z with
    | true => (match els[n.toNat]? with
      | some e=>tst (leI 0 n) (F [(.s d,.av (.elp e 0))])
      | none=>none)
    | false=>none)
  | .mx z els b m _, .sc (.i _ n) => (match Nat.beq sz z with
    | true=>tst (leI 0 n&&Nat.ble els.length n.toNat&&Nat.blt n.toNat (els.length+m)) (F [(.s d,.av (.ptr b ((n.toNat - els.length) * sz)))])
    | false=>none)
  | .cs z b o m _ _, .sc (.i _ n) => (match Nat.beq sz z with
    | true=>tst (leI 0 n&&Nat.blt n.toNat m) (F [(.s d,.av (.ptr b (o+n.toNat * sz)))])
    | false=>none)
  | _,_=>none
 | .ix d x i,F=>match ev σ x,ev σ i with
  | .sc (.s l), .sc (.i _ n) => (match l[n.toNat]? with
    | some e=>tst (leI 0 n) (F [(.s d,.av (.sc (.i .u8 e.toNat)))])
    | none=>none)
  | _,_=>none
 | .slS d x lo hi,F=>match ev σ x with
  | .sc (.s l)=>ma σ lo 0 fun a=>ma σ hi l.length fun b=>
   tst (leI 0 a&&leI a b&&leI b l.length) (F [(.s d,.av (.sc (.s ((l.drop a.toNat).take (b.toNat - a.toNat)))))])
  | _=>none
 | .slL d sz x lo hi mx,F=>match ev σ x with
  | .mx z [] b n t => (match Nat.beq sz z with
    | true => (match lo, hi, mx, look σ (.b b) with
      | none, some hi, none, some (.bx l) => ma σ (some hi) 0 fun c => tst (decide (c = 0) && Nat.beq l.length (n * sz) && !isM l) (match t with
        | .none=>none
        | .full=>F [(.s d,.av (.sl z [] (.t id))),(.t id,.tk true),(.b b,.tk false)]
        | .t k => (match look σ (.t k) with
          | some (.tk true)=>F [(.s d,.av (.sl z [] (.t id))),(.t id,.tk true),(.b b,.tk false),(.t k,.tk false)]
          | _=>none))
      | _,_,_,_=>none)
    | false=>none)
  | .sl z els t => (match Nat.beq sz z with
    | true => ma σ lo 0 fun a => ma σ hi els.length fun b => match mx with
      | none => tst (leI 0 a && leI a b && leI b els.length) (match decide (b = els.length) with
        | true=>F [(.s d,.av (.sl z ((els.drop a.toNat).take (b.toNat - a.toNat)) t))]
        | false=>F [(.s d,.av (.sl z ((els.drop a.toNat).take (b.toNat - a.toNat)) .none))])
      | some _=>ma σ mx 0 fun c=>tst (leI 0 a&&leI a b&&decide (b=c)&&leI b els.length) (F [(.s d,.av (.sl z ((els.drop a.toNat).take (b.toNat - a.toNat)) .full))])
    | false=>none)
  | .cs z b o n c t => (match Nat.beq sz z with
    | true => ma σ lo 0 fun p => ma σ hi n fun q => (match mx with
      | none => tst (leI 0 p && leI p q && leI q c) (match decide (p < c) with
        | true=>F [(.s d,.av (.cs z b (o+p.toNat * sz) (q.toNat - p.toNat) (c - p.toNat) t))]
        | false=>F [(.s d,.av (.sl z [] (tokE t)))])
      | some _=>ma σ mx 0 fun r=>tst (decide (p=0)&&decide (q=0)&&decide (r=0)) (F [(.s d,.av (.sl z [] .full))]))
    | false=>none)
  | _=>none
 | .cvi d k x,F=>match ev σ x with | .sc (.i _ n)=>tst (jK k n) (F [(.s d,.av (.sc (.i k n)))]) | _=>none
 | .cvu d x,F=>match ev σ x with | .sc (.i .u64 n)=>tst (leI 9223372036854775808 n&&leI n 18446744073709551615) (F [(.s d,.av (.sc (.i .i64 (n - 18446744073709551616))))]) | _=>none
 | .ext d x i,F=>match ev σ x with
  | .tup l=>(match l[i]? with | some v=>gQ v fun v=>F [(.s d,.av v)] | none=>none)
  | _=>none
 | .call d f as_,F=>match ev σ f with
  | .fn f caps=>oT rc σ id d f (evs σ as_++caps) F
  | .fb f b o=>oT rc σ id d f (.ptr b o::evs σ as_) F
  | _=>none
 | .app d sz by_ a x,F=>match ev σ a,ev σ x with
  | .sl z e1 t1, .sl z' e2 _ => (match Nat.beq sz z, Nat.beq sz z' with
    | true, true => (match t1 with
      | .none=>none
      | .full=>tst (bI (e1.length+e2.length) by_) (F [(.s d,.av (.sl sz (e1++e2) (.t id))),(.t id,.tk true)])
      | .t k => (match look σ (.t k) with
        | some (.tk true)=>tst (bI (e1.length+e2.length) by_) (F [(.s d,.av (.sl sz (e1++e2) (.t id))),(.t id,.tk true),(.t k,.tk false)])
        | _=>none))
    | _,_=>none)
  | _,_=>none
 | .len d x,F=>match ev σ x with
  | .sl _ els _=>F [(.s d,.av (.sc (.i .i64 els.length)))]
  | .mx _ els _ n _=>F [(.s d,.av (.sc (.i .i64 (els.length+n:Nat))))]
  | .cs _ _ _ n _ _=>F [(.s d,.av (.sc (.i .i64 n)))]
  | _=>none
 | .lenS d x,F=>match ev σ x with
  | .sc (.s l)=>F [(.s d,.av (.sc (.i .i64 l.length)))]
  | _=>none
 | .mx d x y,F=>match ev σ x,ev σ y with
  | .sc (.i .i64 a),.sc (.i .i64 b)=>F [(.s d,.av (.sc (.i .i64 (max a b))))]
  | _,_=>none
 | .rngE d x,F=>match ev σ x with
  | .mr b => (match look σ (.b b) with
    | some (.bx [.mm [] []])=>F [(.s d,.av (.ptr id 0)),(.b id,.bx [.mpv (.ie b)])]
    | _=>none)
  | _=>none
 | .nxtE d x,F=>match ev σ x with
  | .ptr i 0 => (match look σ (.b i) with
    | some (.bx [.mpv (.ie b)]) => (match look σ (.b b) with
      | some (.bx [.mm [] []])=>F [(.s d,.av (.tup [.sc (.b false)]))]
      | _=>none)
    | _=>none)
  | _=>none
 | .eqN d ng x,F=>match ev σ x with
  | .sl _ (_::_) _=>F [(.s d,.av (.sc (.b ng)))]
  | .cs _ _ _ _ _ _=>F [(.s d,.av (.sc (.b ng)))]
  | .mx _ _ _ _ _=>F [(.s d,.av (.sc (.b ng)))]
  | _=>none
 | .bslZ d sz,F=>F [(.s d,.av (.sl sz [] .full))]
 | .mkC d sz by_ z x,F=>match ev σ x with
  | .sc (.i .i64 n)=>tst (leI 0 n&&bI n.toNat by_) (bc (List.replicate n.toNat z).flatten fun L=>F [(.s d,.av (.cs sz id 0 n.toNat n.toNat .full)),(.b id,.bx L)])
  | _=>none
 | .cpy d sz x y,F=>match ev σ x with
  | .cs q b o n _ _ => (match Nat.beq sz q with
    | true => (match zq σ sz (ev σ y) with
      | true=>F (bp d (.sc (.i .i64 0)))
      | false => (match ysl σ sz (ev σ y), look σ (.b b) with
        | some (m, V), some (.bx l) => (match isM l with
          | true=>none
          | false => (match dX (Nat.min m n * sz) V with
            | some V' => (match be o V' l with
              | some l'=>tst (Nat.blt 0 m) (bc l' fun L=>F (bp d (.sc (.i .i64 (Nat.min m n:Nat)))++[(.b b,.bx L)]))
              | none=>none)
            | none=>none))
        | _,_=>none))
    | false=>none)
  | _=>none
 | .mn d x y,F=>match ev σ x,ev σ y with
  | .sc (.i .i64 a),.sc (.i .i64 b)=>F [(.s d,.av (.sc (.i .i64 (min a b))))]
  | _,_=>none
 | .mkf d f caps,F=>bc (evs σ caps) fun caps=>F [(.s d,.av (.fn f caps))]
 | .mkfb d f x,F=>match ev σ x with
  | .ptr b o=>F [(.s d,.av (.fb f b o))]
  | _=>none
 | .mk d sz by_ z x,F=>match ev σ x with
  | .sc (.i .i64 n)=>tst (leI 0 n&&bI n.toNat by_) (F [(.s d,.av (.mx sz [] id n.toNat .full)),(.b id,.bx (List.replicate n.toNat z).flatten)])
  | _=>none
 | .mkF d sz by_ z x,F=>match ev σ x with
  | .sc (.i .i64 n)=>tst (leI 0 n&&bI n.toNat by_) (F [(.s d,.av (.sl sz (List.replicate n.toNat z) .full))])
  | _=>none
 | .bslM d sz xs,F=>bslAX σ sz xs fun vs=>F [(.s d,.av (.cs sz id 0 xs.length xs.length .full)),(.b id,.bx vs)]
 | .appM d sz by_ a x,F=>match ev σ a,ev σ x with
  | .sl z e1 t1, .sl z' e2 _ => (match Nat.beq sz z, Nat.beq sz z' with
    | true, true => (match t1 with
      | .none=>none
      | .full=>tst (Nat.blt 0 e2.length&&bI (e1.length+e2.length) by_) (F [(.s d,.av (.mx sz e1 (id+1) e2.length (.t (id+1)))),(.b (id+1),.bx (e2.flatten.map aQ)),(.t (id+1),.tk true),(.t id,.tk false),(.t id,.tk true)])
      | .t k => (match look σ (.t k) with
        | some (.tk true)=>tst (Nat.blt 0 e2.length&&bI (e1.length+e2.length) by_) (F [(.s d,.av (.mx sz e1 (id+1) e2.length (.t (id+1)))),(.b (id+1),.bx (e2.flatten.map aQ)),(.t (id+1),.tk true),(.t id,.tk false),(.t id,.tk true),(.t k,.tk false)])
        | _=>none))
    | _,_=>none)
  | _,_=>none
 | .cap d x,F=>match ev σ x with
  | .sl _ els .full=>F [(.s d,.av (.sc (.i .i64 els.length)))]
  | .mx _ els _ n .full=>F [(.s d,.av (.sc (.i .i64 (els.length+n:Nat))))]
  | _=>none
 | .iaG d cells sz x,F=>match ev σ x with
  | .sc (.i _ n)=>tst (leI 0 n&&Nat.ble (n.toNat * sz+sz) cells.length) (F [(.s d,.av (.elp cells (n.toNat * sz)))])
  | _=>none
 | .eqA d ng ks x y,F=>match ev σ x,ev σ y with
  | .agg l, .agg m => (match eqL ks l m with
    | some b => (match ng with
      | true=>F [(.s d,.av (.sc (.b (!b))))]
      | false=>F [(.s d,.av (.sc (.b b)))])
    | none=>none)
  | _,_=>none
 | .appZ d sz by_ z a x,F=>match ev σ a,ev σ x with
  | .sl q [] .full, .sc (.i .i64 n) => (match Nat.beq sz q with
    | true=>tst (leI 1 n&&bI n.toNat by_) (F [(.s d,.av (.mx sz [] (id+1) n.toNat (.t (id+1)))),(.b (id+1),.bx ((List.replicate n.toNat z).flatten.map aQ)),(.t (id+1),.tk true),(.t id,.tk false),(.t id,.tk true)])
    | false=>none)
  | _,_=>none
 | .mkM d,F=>F [(.s d,.av (.mr id)),(.b id,.bx [.mpv (.m [])])]
 | .lkM d z x k,F=>match ev σ x,ev σ k with
  | .mr b, .sc (.i .i64 n) => (match look σ (.b b) with
    | some (.bx [.mpv (.m es)]) => (match gU n es with
      | some ds=>F [(.s d,.av (.tup [.agg (ds.map aQ),.sc (.b true)]))]
      | none=>F [(.s d,.av (.tup [.agg (z.map aQ),.sc (.b false)]))])
    | _=>none)
  | _,_=>none
 | .upM x k v,F=>match ev σ x,ev σ k with
  | .mr b, .sc (.i .i64 n) => (match look σ (.b b) with
    | some (.bx [.mpv (.m es)]) => (match ev σ v with
      | .agg l => bc l fun l => (match bB l with
        | some ds=>F [(.b b,.bx [.mpv (.m (ln n ds es))])]
        | none=>none)
      | _=>none)
    | _=>none)
  | _,_=>none
 | .appC d sz by_ a x, F => match zq σ sz (ev σ x) with
   | true => (match app0 sz (ev σ a) with
     | true=>gQ (ev σ a) fun v=>F [(.s d,.av v)]
     | false=>none)
   | false => match ysl σ sz (ev σ x) with
     | none=>none
     | some (m, V) => (match ev σ a with
       | .sl z e1 .full => (match Nat.beq sz z with
         | true=>tst (Nat.blt 0 m&&bI (e1.length+m) by_) (bc (e1.flatten.map aQ++V) fun L=>F [(.s d,.av (.cs sz (id+1) 0 (e1.length+m) (e1.length+m) (.t (id+1)))),(.b (id+1),.bx L),(.t (id+1),.tk true),(.t id,.tk false),(.t id,.tk true)])
         | false=>none)
       | .cs z b o n c t => (match Nat.beq sz z with
         | true => (match look σ (.b b) with
           | some (.bx l) => (match isM l with
             | true=>none
             | false => (match Nat.ble (n + m) c with
               | true => (match be (o + n * sz) V l with
                 | some l'=>tst (Nat.blt 0 m) (F [(.s d,.av (.cs sz b o (n+m) c t)),(.b b,.bx l')])
                 | none=>none)
               | false => (match sub l o (n * sz) with
                 | none=>none
                 | some l0 => (match t with
                   | .none=>none
                   | .full=>tst (Nat.blt 0 m&&bI (n+m) by_) (bc (l0++V) fun L=>F [(.s d,.av (.cs sz (id+1) 0 (n+m) (n+m) (.t (id+1)))),(.b (id+1),.bx L),(.t (id+1),.tk true),(.t id,.tk false),(.t id,.tk true)])
                   | .t k => (match look σ (.t k) with
                     | some (.tk true)=>tst (Nat.ble (o+c * sz) l.length&&Nat.blt 0 m&&bI (n+m) by_) (bc (l0++V) fun L=>F [(.s d,.av (.cs sz (id+1) 0 (n+m) (n+m) (.t (id+1)))),(.b b,.bx []),(.b (id+1),.bx L),(.t (id+1),.tk true),(.t (id+2),.tk false),(.t (id+2),.tk true),(.t id,.tk false),(.t id,.tk true),(.b b,.tk false),(.t k,.tk false)])
                     | _=>none)))))
           | _=>none)
         | false=>none)
       | _=>none)
 | .clrC sz z x,F=>match ev σ x with
  | .cs q b o n _ _ => (match Nat.beq sz q with
    | true => (match look σ (.b b) with
      | some (.bx l) => (match isM l with
        | true=>none
        | false => (match be o (List.replicate n z).flatten l with
          | some l'=>tst (Nat.blt 0 n) (F [(.b b,.bx l')])
          | none=>none))
      | _=>none)
    | false=>none)
  | _=>none
 | .eqP d fn neg x y,F=>match fn,ev σ x,ev σ y with
  | false, .ptr b o, .ptr b' o' => (match Nat.beq b b' with
    | true=>F [(.s d,.av (.sc (.b (xor (Nat.beq o o') neg))))]
    | false=>none)
  | false,.ptr _ _,.sc .np=>F [(.s d,.av (.sc (.b neg)))]
  | false,.elp _ _,.sc .np=>F [(.s d,.av (.sc (.b neg)))]
  | false,.sc .np,.ptr _ _=>F [(.s d,.av (.sc (.b neg)))]
  | false,.sc .np,.sc .np=>F [(.s d,.av (.sc (.b (!neg))))]
  | true,.fn _ _,.sc .nf=>F [(.s d,.av (.sc (.b neg)))]
  | true,.sc .nf,.sc .nf=>F [(.s d,.av (.sc (.b (!neg))))]
  | _,_,_=>none
 | .rngS d x,F=>match ev σ x with
  | .sc (.s l)=>F [(.s d,.av (.ptr id 0)),(.b id,.bx [.mpv (.it l 0)])]
  | _=>none
 | .mkS d,F=>F [(.s d,.av (.mr id)),(.b id,.bx [.mm [] []])]
 | .lkS d ok st z x k,F=>(match lkR σ st x k with
  | some r=>F [(.s d,.av (lkV ok z r))]
  | none=>none)
 | .upS st x k v,F=>(match upR σ st x k v with
  | some (b,m)=>F [(.b b,.bx [m])]
  | none=>none)
 | .nxtS d x,F=>match ev σ x with
  | .ptr b 0 => (match look σ (.b b) with
    | some (.bx [.mpv (.it l p)]) => (match l[p]? with
      | none=>tst (Nat.ble l.length p) (F [(.s d,.av (.tup [.sc (.b false)])),(.b b,.bx [.mpv (.it l p)])])
      | some c=>tst (Nat.blt c.toNat 128) (F [(.s d,.av (.tup [.sc (.b true),.sc (.i .i64 p),.sc (.i .i32 c.toNat)])),(.b b,.bx [.mpv (.it l (p+1))])]))
    | _=>none)
  | _=>none
def mM (σ:Log) (g:Option (Nat × Bool)) (A B:Log→Option R):Option R:=
 match g with
 | none=>A σ
 | some (n, w) => match ev σ (.t n) with
   | .sc (.b t)=>(match t with
    | false=>(match w with | false=>A | true=>B) ((.s n,.av (.sc (.b false)))::σ)
    | true=>(match w with | true=>A | false=>B) ((.s n,.av (.sc (.b true)))::σ))
   | .tup _=>B σ
   | _=>none
def aopsX (rc:Rec):List GOp→Nat→Log→(Log→Option R)→Option R
 | [],_,σ,K=>K σ
 | o :: r, id, σ, K => mM σ o.g (fun σ => bP rc σ id o.o fun δ => aopsX rc r (id + 100) (δ ++ σ) K)
     (fun σ=>aopsX rc r (id+100) (bp o.o.dst (.tup [])++σ) K)
def p6 (rc:Rec):List GOp→List Nat→Nat→Nat→Log→List (Nat × List Loc × List Loc)→(Log→Option R)→Option R
 | [],_,_,_,σ,_,K=>K σ
 | _::_,[],_,_,_,_,_=>none
 | o :: r, p :: ps, j, id, σ, fs, K => mM σ o.g
     (fun σ=>bP rc σ id o.o fun δ=>match bh p (bw o.g++o.o.rd σ) (ar δ) fs with
      | true=>none
      | false=>p6 rc r ps (j+1) (id+100) (δ++σ) ((j,bw o.g++o.o.rd σ,ar δ)::fs) K)
     (fun σ=>match bh p (bw o.g) (ar (bp o.o.dst (.tup []))) fs with
      | true=>none
      | false=>p6 rc r ps (j+1) (id+100) (bp o.o.dst (.tup [])++σ) ((j,bw o.g,ar (bp o.o.dst (.tup [])))::fs) K)
/- equality,looked at -/
def fZ {α:Type} (f:α→α→Bool):List α→List α→Bool
 | [],[]=>true
 | x::r,y::s=>match f x y with | true=>fZ f r s | false=>false
 | _,_=>false
def eqSc:Sc→Sc→Bool
 | .b x,.b y=>(match x,y with | true,true=>true | false,false=>true | _,_=>false)
 | .i k n,.i k' m=>(match gp k k' with | true=>decide (n=m) | false=>false)
 | .s l,.s m=>aH l m
 | .np,.np=>true
 | .nf,.nf=>true
 | .ni,.ni=>true
 | .nm,.nm=>true
 | _,_=>false
def eqD:Nat→Data→Data→Bool
 | _,.sc a,.sc b=>eqSc a b
 | n+1,.lst z e,.lst z' e'=>(match Nat.beq z z' with | true=>fZ (fZ (eqD n)) e e' | false=>false)
 | _,_,_=>false
def eqTok:Tok→Tok→Bool
 | .none,.none=>true
 | .full,.full=>true
 | .t k,.t k'=>Nat.beq k k'
 | _,_=>false
def nY:Nat→AV→AV→Bool
 | _,.sc a,.sc b=>eqSc a b
 | _,.sl z e t,.sl z' e' t'=>Nat.beq z z'&&(eqTok t t'&&fZ (fZ (eqD 40)) e e')
 | _,.ptr b o,.ptr b' o'=>Nat.beq b b'&&Nat.beq o o'
 | _,.elp l o,.elp l' o'=>Nat.beq o o'&&fZ (eqD 40) l l'
 | _,.mr b,.mr b'=>Nat.beq b b'
 | _,.fb f b o,.fb f' b' o'=>Nat.beq f f'&&(Nat.beq b b'&&Nat.beq o o')
 | _,.mx z e b n t,.mx z' e' b' n' t'=>Nat.beq z z'&&(Nat.beq b b'&&(Nat.beq n n'&&(eqTok t t'&&fZ (fZ (eqD 40)) e e')))
 | _,.cs z b o n c t,.cs z' b' o' n' c' t'=>Nat.beq z z'&&(Nat.beq b b'&&(Nat.beq o o'&&(Nat.beq n n'&&(Nat.beq c c'&&eqTok t t'))))
 | k+1,.fn f c,.fn f' c'=>Nat.beq f f'&&fZ (nY k) c c'
 | k+1,.agg c,.agg c'=>fZ (nY k) c c'
 | k+1,.mm ks c,.mm ks' c'=>fZ eqSc ks ks'&&fZ (nY k) c c'
 | _,_,_=>false
def sameK (σ' σ:Log) (k:Loc):Bool:=match look σ' k,look σ k with
 | some (.bx l),some (.bx m)=>fZ (nY 4) l m
 | some (.tk true),some (.tk true)=>true
 | some (.tk false),some (.tk false)=>true
 | _,_=>false
def kO (σ' σ:Log):List Loc→List Loc
 | []=>[]
 | .s _::r=>kO σ' σ r
 | k::r=>match sameK σ' σ k with | true=>k::kO σ' σ r | false=>kO σ' σ r
def eD:AOp→Bool
 | .call _ _ _=>true
 | _=>false
def pZ (rc:Rec):List GOp→List Nat→Nat→Nat→Log→List (Nat × List Loc × List Loc)→(Log→Option R)→Option R
 | [],_,_,_,σ,_,K=>K σ
 | _::_,[],_,_,_,_,_=>none
 | o :: r, p :: ps, j, id, σ, fs, K => mM σ o.g
     (fun σ=>bP rc σ id o.o fun δ=>match (match eD o.o with | true=>kO (δ++σ) σ (ar δ) | false=>[]) with
      | ks => match bh p ((bw o.g ++ o.o.rd σ) ++ ks) (ar (bR ks δ)) fs with
        | true=>none
        | false=>pZ rc r ps (j+1) (id+100) (bR ks δ++σ) ((j,(bw o.g++o.o.rd σ)++ks,ar (bR ks δ))::fs) K)
     (fun σ=>match bh p (bw o.g) (ar (bp o.o.dst (.tup []))) fs with
      | true=>none
      | false=>pZ rc r ps (j+1) (id+100) (bp o.o.dst (.tup [])++σ) ((j,bw o.g,ar (bp o.o.dst (.tup [])))::fs) K)
def iterX (f:Nat→Log→(Ex→Nat→Log→Option R)→Option R) (Q:Ex→Nat→Log→Option R):Nat→Nat→Log→Option R
 | 0,_,_=>none
 | k + 1, n, σ => f n σ fun e n' σ' => match e with
   | .n=>iterX f Q k n' σ'
   | .e i=>Q (.e i) n' σ'
   | .r=>Q .r n' σ'
def jS (sz:Nat):Nat→List Data→Option (List (List Data))
 | 0,[]=>some []
 | 0,_=>none
 | n + 1, l => match dX sz l with
   | some e=>(match jS sz n (l.drop sz) with | some r=>some (e::r) | none=>none)
   | none=>none
def nn (rc:Rec):AC→Nat→Log→(Ex→Nat→Log→Option R)→Option R
 | .reg ops,nx,σ,Q=>aopsX rc ops nx σ fun σ=>Q .n (nx+100 * ops.length) σ
 | .regD ops pre,nx,σ,Q=>p6 rc ops pre 0 nx σ [] fun σ=>Q .n (nx+100 * ops.length) σ
 | .regE ops pre,nx,σ,Q=>pZ rc ops pre 0 nx σ [] fun σ=>Q .n (nx+100 * ops.length) σ
 | .frz x, nx, σ, Q => match ev σ (.t x) with
   | .mx sz _ b n _ => (match look σ (.b b) with
     | some (.bx l) => (match bB l with
       | some ds => (match jS sz n ds with
         | some ch=>Q .n nx ((.b b,.tk false)::iL b sz n ch σ)
         | none=>none)
       | none=>none)
     | _=>none)
   | .sl _ _ _=>Q .n nx σ
   | .cs sz b o n c t => (match look σ (.b b) with
     | some (.bx l) => (match bB l with
       | some ds => (match sub ds o (n * sz) with
         | some p => (match jS sz n p with
           | some ch=>Q .n nx ((.s x,.av (.sl sz ch (tokF t n c)))::(.b b,.tk false)::σ)
           | none=>none)
         | none=>none)
       | none=>none)
     | _=>none)
   | _=>none
 | .seq x y, nx, σ, Q => nn rc x nx σ fun e nx σ => match e with
   | .n=>nn rc y nx σ Q
   | .e i=>Q (.e i) nx σ
   | .r=>Q .r nx σ
 | .cond x t e, nx, σ, Q => match ev σ x with
   | .sc (.b v)=>(match v with | false=>nn rc e nx (nM x false σ) Q | true=>nn rc t nx (nM x true σ) Q)
   | _=>none
 | .block n c, nx, σ, Q => nn rc c nx σ fun e nx σ => match e with
   | .n=>Q .n nx σ
   | .e i=>(match Nat.beq i n with | true=>Q .n nx σ | false=>Q (.e i) nx σ)
   | .r=>Q .r nx σ
 | .loop c,nx,σ,Q=>iterX (fun n σ Q=>nn rc c n σ Q) Q 1000 nx σ
 | .exit n,nx,σ,Q=>Q (.e n) nx σ
 | .ret,nx,σ,Q=>Q .r nx σ
 | .skip,nx,σ,Q=>Q .n nx σ
 | .cut,nx,σ,Q=>Q .n nx σ
 | .stuck,_,_,_=>none
def resLX (σ:Log):List (Nat × Nat)→(List AV→Option R)→Option R
 | [],K=>K []
 | (r,0)::t,K=>resLX σ t fun l=>K (ev σ (.t r)::l)
 | (r, n + 1) :: t, K => match ev σ (.t r) with
   | .ptr b 0 => (match look σ (.b b) with
     | some (.bx l) => (match isM l with
       | true=>none
       | false => (match Nat.beq l.length (n + 1) with
         | true=>resLX σ t fun r=>K (.agg l::r)
         | false=>none))
     | _=>none)
   | _=>none
def resPX (σ:Log) (rs:List (Nat × Nat)) (K:AV→Option R):Option R:=resLX σ rs fun l=>match l with
 | [v]=>K v
 | l=>K (.tup l)
end run
def finX (σ:Log) (v:AV) (nb nt:Nat):Option (AV × List (List AV)):=
 match bxAll σ 100 (bx3 (upN nb) v) (bx3 (upN nb) v) with
 | bs => match tkH σ bs (tk3 σ (upN nt) v) with
   | ts => match un3 bs ts v, unH σ bs ts bs with
     | some res,some H'=>tst (bE bs&&bE ts&&(bs.take nb == upN nb)&&(ts.take nt == upN nt)&&inR bs.length ts.length res&&inH bs.length ts.length H' &&
      liveB σ ((toks res++H'.flatMap fun h=>h.flatMap bt).map (rb ts 0))) (some (res,H'))
     | _,_=>none
structure Fn where
 ac:AC
 rs:List (Nat × Nat)
 nt:Nat
 tk:List Nat:=[]
def noRoom (args:List AV) (i:Nat):Bool:=match args[i]? with
 | some (.sl _ _ .none)=>true
 | _=>false
def bodyX (rc:Rec) (c:AC) (rs:List (Nat × Nat)) (args:List AV) (H:List (List AV)):Option (AV × List (List AV)):=
 nn rc c 1000 (aA args H) fun e _ σ=>match e with
  | .e _=>none
  | _=>resPX σ rs fun v=>finX σ v H.length (dK args H)
def runX (T:FuncId→Option Fn) (lib:FuncId→List AV→List (List AV)→Option (AV × List (List AV))):Nat→Rec
 | 0=>fun _ _ _=>none
 | k + 1 => fun f args H => match lib f args H with
   | some res=>some res
   | none => match T f with
     | none=>none
     | some F=>tst (Nat.ble args.length F.nt&&Nat.ble (H.length+dK args H) 900&&!(F.tk.any (noRoom args))) (bodyX (runX T lib k) F.ac F.rs args H)
end Go.Abs
namespace Go.Abs
open Go
section
variable {R:Type} {r:R}
theorem mS {v:AV} {F:AV→Option R} {G:AV→Prop} (h:gQ v F=some r) (k:∀ v,F v=some r→G v):frc v G:=by
 cases v<;>simp only [gQ] at h<;>first | exact k _ h | cases h
theorem frc1X_s {v:AV} {F:AV→Option R} {G:AV→Prop} (h:frc1X v F=some r) (k:∀ v,F v=some r→G v):frc1 v G:=by
 cases v<;>simp only [frc1X] at h<;>first | exact k _ h | cases h
theorem de:∀ {l:List AV} {F:List AV→Option R} {G:List AV→Prop},bc l F=some r→(∀ l,F l=some r→G l)→eF l G
 | [],_,_,h,k=>k _ h
 | _::_,_,_,h,k=>frc1X_s h fun _ h=>de h fun _ h=>k _ h
theorem bH {b:Bool} {F:Option R} (h:tst b F=some r):b=true∧F=some r:=by
 cases b<;>simp_all [tst]
theorem pG {k:IntKind} {n:Int} (h:jK k n=true):eK k n:=by
 cases k<;>simp_all [jK,eK,leI]
theorem cZ {n b:Nat} (h:bI n b=true):jU n b:=by
 simp only [bI,Bool.and_eq_true] at h
 exact ⟨Nat.le_of_ble_eq_true h.1,Nat.le_of_ble_eq_true h.2⟩
theorem binSX_s {o:Bin} {a b:List UInt8} {F:AV→Option R} {G:AV→Prop} (h:binSX o a b F=some r) (k:∀ v,F v=some r→G v):binS o a b G:=by
 cases o<;>simp only [binSX] at h<;>first | exact k _ h | cases h | (obtain ⟨h1,h2⟩:=bH h;exact ⟨Nat.le_of_ble_eq_true h1,k _ h2⟩)
theorem binIX_s {o:Bin} {ik:IntKind} {a b:Int} {F:AV→Option R} {G:AV→Prop} (h:binIX o ik a b F=some r) (k:∀ v,F v=some r→G v):binI o ik a b G:=by
 cases o<;>simp only [binIX] at h
 case quo=>
  obtain ⟨h1,h2⟩:=bH h
  simp only [Bool.and_eq_true,leI,decide_eq_true_eq] at h1
  exact ⟨⟨pG h1.1.1,h1.1.2,by omega⟩,k _ h2⟩
 case rem=>
  obtain ⟨h1,h2⟩:=bH h
  simp only [Bool.and_eq_true,leI,decide_eq_true_eq] at h1
  exact ⟨⟨h1.1,by omega⟩,k _ h2⟩
 all_goals first | exact k _ h | (obtain ⟨h1,h2⟩:=bH h;exact ⟨pG h1,k _ h2⟩)
theorem binX_s {o:Bin} {x y:AV} {F:AV→Option R} {G:AV→Prop} (h:binX o x y F=some r) (k:∀ v,F v=some r→G v):kz o x y G:=by
 unfold binX at h
 split at h
 ·rename_i k1 a k2 b
  simp only [kz]
  cases hk:gp k1 k2 with
  | false=>rw [hk] at h;cases h
  | true=>rw [hk] at h;exact binIX_s h k
 ·exact binSX_s h k
 ·cases h
theorem ldvX_s {d:Nat} {ag:Bool} {l:Option (List AV)} {F:Log→Option R} {G:Log→Prop} (h:mA d ag l F=some r) (k:∀ v,F v=some r→G v):ldv d ag l G:=by
 unfold mA at h
 split at h
 ·cases h
 ·split at h
  ·exact de h fun _ h=>k _ h
  ·split at h
   ·exact frc1X_s h fun _ h=>k _ h
   ·cases h
theorem bldX_s {σ:Log}:∀ {ps:List (Nat × Nat × Opd)} {z:List AV} {F:List AV→Option R} {G:List AV→Prop},bldX σ ps z F=some r→(∀ v,F v=some r→G v)→bld σ ps z G
 | [],_,_,_,h,k=>k _ h
 | (o, n, x) :: ps, z, F, G, h, k => by
   simp only [bldX] at h
   simp only [bld]
   refine de h fun v h=>?_
   revert h
   cases Nat.beq v.length n with
   | false=>intro h;cases h
   | true =>
     cases be o v z with
     | none=>intro h;cases h
     | some z=>intro h;exact bldX_s h k
theorem bslX_s {σ:Log} {sz:Nat}:∀ {xs:List Opd} {F:List (List Data)→Option R} {G:List (List Data)→Prop},bslX σ sz xs F=some r→(∀ v,F v=some r→G v)→lv σ sz xs G
 | [],_,_,h,k=>k _ h
 | x :: xs, F, G, h, k => by
   simp only [bslX] at h
   simp only [lv]
   refine de h fun v h=>?_
   revert h
   cases bB v with
   | none=>intro h;cases h
   | some ds =>
     cases hb:Nat.beq ds.length sz with
     | false=>intro h;simp [hb] at h
     | true=>intro h;simp only [hb] at h;simp only [hb];exact bslX_s h fun _ h=>k _ h
theorem bslAX_s {σ:Log} {sz:Nat}:∀ {xs:List Opd} {F:List AV→Option R} {G:List AV→Prop},bslAX σ sz xs F=some r→(∀ v,F v=some r→G v)→lw σ sz xs G
 | [],_,_,h,k=>k _ h
 | x :: xs, F, G, h, k => by
   simp only [bslAX] at h
   simp only [lw]
   refine de h fun v h=>?_
   revert h
   cases hb:Nat.beq v.length sz with
   | false=>intro h;cases h
   | true=>intro h;exact bslAX_s h fun _ h=>k _ h
theorem im:∀ {l:List AV} {F:List AV→Option R},bc l F=some r→F l=some r
 | [],_,h=>h
 | v :: _, F, h => by
   cases v<;>simp only [bc,frc1X] at h<;>first | exact im (F:=fun r=>F (_::r)) h | cases h
theorem fO {σ:Log} {x:Option Opd} {z:Int} {F:Int→Option R} {G:Int→Prop} (h:ma σ x z F=some r) (k:∀ v,F v=some r→G v):fP σ x z G:=by
 unfold ma at h
 unfold fP
 split at h
 ·exact k _ h
 ·split at h
  ·rename_i he;simp only [he];exact k _ h
  ·cases h
theorem idx_spec:∀ {bs:List Nat} {k i j:Nat},idx bs k i=some j→∃ m,j=i+m∧bs[m]? = some k
 | [],_,_,_,h=>by cases h
 | x :: r, k, i, j, h => by
   simp only [idx] at h
   split at h
   ·rename_i hx
    cases h
    exact ⟨0,rfl,by rw [Nat.eq_of_beq_eq_true hx];rfl⟩
   ·obtain ⟨m,rfl,hm⟩:=idx_spec h
    exact ⟨m+1,by omega,hm⟩
theorem cS {bs:List Nat} {k j id:Nat} (h:idx bs k 0=some j):rb bs id j=k:=by
 obtain ⟨m,rfl,hm⟩:=idx_spec h
 simp [rb,hm]
variable {bs ts:List Nat} {id:Nat} {σ:Log}
theorem lQ {v v':AV} (h:un1 bs ts v=some v'):wk1 v (ren1 bs ts id v'):=by
 cases v with
 | sl z e t =>
   cases t with
   | none=>simp only [un1,Option.some.injEq] at h;subst h;exact ⟨rfl,rfl,.inl rfl⟩
   | full=>simp only [un1,Option.some.injEq] at h;subst h;exact ⟨rfl,rfl,.inr rfl⟩
   | t k =>
     simp only [un1] at h
     split at h
     ·rename_i i hi
      cases h
      exact ⟨rfl,rfl,.inr (by rw [cS hi])⟩
     ·cases h;exact ⟨rfl,rfl,.inl rfl⟩
 | ptr b o =>
   simp only [un1] at h
   split at h
   ·rename_i i hi
    cases h
    simp only [ren1,cS hi]
    rfl
   ·cases h
 | mx z e b n t =>
   cases t with
   | none =>
     simp only [un1] at h
     split at h
     ·rename_i i hi
      cases h
      exact ⟨rfl,rfl,(cS hi).symm,rfl,.inl rfl⟩
     ·cases h
   | full =>
     simp only [un1] at h
     split at h
     ·rename_i i hi
      cases h
      exact ⟨rfl,rfl,(cS hi).symm,rfl,.inr rfl⟩
     ·cases h
   | t k =>
     simp only [un1] at h
     split at h
     ·rename_i i hi
      split at h
      ·rename_i j hj
       cases h
       exact ⟨rfl,rfl,(cS hi).symm,rfl,.inr (by rw [cS hj])⟩
      ·cases h
       exact ⟨rfl,rfl,(cS hi).symm,rfl,.inl rfl⟩
     ·cases h
 | mr b =>
   simp only [un1] at h
   split at h
   ·rename_i i hi
    cases h
    simp only [ren1,cS hi]
    rfl
   ·cases h
 | fb f b o =>
   simp only [un1] at h
   split at h
   ·rename_i i hi
    cases h
    simp only [ren1,cS hi]
    rfl
   ·cases h
 | cs z b o n c t =>
   cases t with
   | none =>
     simp only [un1] at h
     split at h
     ·rename_i i hi
      cases h
      exact ⟨rfl,(cS hi).symm,rfl,rfl,rfl,.inl rfl⟩
     ·cases h
   | full =>
     simp only [un1] at h
     split at h
     ·rename_i i hi
      cases h
      exact ⟨rfl,(cS hi).symm,rfl,rfl,rfl,.inr rfl⟩
     ·cases h
   | t k =>
     simp only [un1] at h
     split at h
     ·rename_i i hi
      split at h
      ·rename_i j hj
       cases h
       exact ⟨rfl,(cS hi).symm,rfl,rfl,rfl,.inr (by rw [cS hj])⟩
      ·cases h
       exact ⟨rfl,(cS hi).symm,rfl,rfl,rfl,.inl rfl⟩
     ·cases h
 | _=>simp only [un1,Option.some.injEq] at h;subst h;rfl
theorem unL1_s:∀ {l l':List AV},unL1 bs ts l=some l'→wkL1 l (l'.map (ren1 bs ts id))
 | [],_,h=>by cases h;trivial
 | x :: xs, l', h => by
   simp only [unL1] at h
   split at h
   ·cases h
   ·rename_i y hy
    split at h
    ·cases h
    ·rename_i s hs
     cases h
     exact ⟨lQ hy,unL1_s hs⟩
theorem unM_s:∀ {l l':List AV},unM bs l=some l'→l=l'.map (ren1 bs ts id)
 | [],_,h=>by cases h;rfl
 | .sc c :: r, l', h => by
   simp only [unM] at h
   split at h
   ·cases h
   ·rename_i s hs;cases h;rw [List.map_cons,← unM_s hs];rfl
 | .sl z e .none :: r, l', h => by
   simp only [unM] at h
   split at h
   ·cases h
   ·rename_i s hs;cases h;rw [List.map_cons,← unM_s hs];rfl
 | .ptr b o :: r, l', h => by
   simp only [unM] at h
   split at h
   ·rename_i i s hi hs
    cases h
    rw [List.map_cons,← unM_s hs]
    simp only [ren1,cS hi]
   ·cases h
 | .sl z e .full::r,l',h=>by simp only [unM] at h;cases h
 | .sl z e (.t k)::r,l',h=>by simp only [unM] at h;cases h
 | .elp ..::r,l',h=>by simp only [unM] at h;cases h
 | .mx ..::r,l',h=>by simp only [unM] at h;cases h
 | .fn ..::r,l',h=>by simp only [unM] at h;cases h
 | .agg ..::r,l',h=>by simp only [unM] at h;cases h
 | .tup ..::r,l',h=>by simp only [unM] at h;cases h
 | .mr ..::r,l',h=>by simp only [unM] at h;cases h
 | .fb ..::r,l',h=>by simp only [unM] at h;cases h
 | .mpv ..::r,l',h=>by simp only [unM] at h;cases h
 | .mm ..::r,l',h=>by simp only [unM] at h;cases h
 | .cs ..::r,l',h=>by simp only [unM] at h;cases h
 | .bad::r,l',h=>by simp only [unM] at h;cases h
theorem un2_s {v v':AV} (h:un2 bs ts v=some v'):wk2 v (ren2 bs ts id v'):=by
 cases v with
 | mm ks vs =>
   simp only [un2] at h
   split at h
   ·cases h
   ·rename_i c hc
    cases h
    have:=unM_s (id:=id) (ts:=ts) hc
    show AV.mm ks vs=.mm ks (c.map (ren1 bs ts id))
    rw [← this]
 | fn f c =>
   simp only [un2] at h
   split at h
   ·cases h
   ·rename_i c' hc;cases h;exact ⟨rfl,unL1_s hc⟩
 | agg l =>
   simp only [un2] at h
   split at h
   ·cases h
   ·rename_i c' hc;cases h;exact unL1_s hc
 | sl z e t =>
   have h1:=lQ (id:=id) (show un1 bs ts (.sl z e t)=some v' from h)
   cases v'<;>first | exact h1 | (simp only [ren1,wk1] at h1;cases h1)
 | ptr b o =>
   have h1:=lQ (id:=id) (show un1 bs ts (.ptr b o)=some v' from h)
   cases v'<;>first | exact h1 | (simp only [ren1,wk1] at h1;cases h1)
 | mx z e b n t =>
   have h1:=lQ (id:=id) (show un1 bs ts (.mx z e b n t)=some v' from h)
   cases v'<;>first | exact h1 | (simp only [ren1,wk1] at h1;cases h1)
 | mr b =>
   have h1:=lQ (id:=id) (show un1 bs ts (.mr b)=some v' from h)
   cases v'<;>first | exact h1 | (simp only [ren1,wk1] at h1;cases h1)
 | fb f b o =>
   have h1:=lQ (id:=id) (show un1 bs ts (.fb f b o)=some v' from h)
   cases v'<;>first | exact h1 | (simp only [ren1,wk1] at h1;cases h1)
 | cs z b o n c t =>
   have h1:=lQ (id:=id) (show un1 bs ts (.cs z b o n c t)=some v' from h)
   cases v'<;>first | exact h1 | (simp only [ren1,wk1] at h1;cases h1)
 | _=>simp only [un2,un1,Option.some.injEq] at h;subst h;rfl
theorem pa:∀ {l l':List AV},pb bs ts l=some l'→gt l (l'.map (ren2 bs ts id))
 | [],_,h=>by cases h;trivial
 | x :: xs, l', h => by
   simp only [pb] at h
   split at h
   ·cases h
   ·rename_i y hy
    split at h
    ·cases h
    ·rename_i s hs
     cases h
     exact ⟨un2_s hy,pa hs⟩
theorem un2_tup {v v':AV} (h:un2 bs ts v=some v') (hv:∀ l,v≠.tup l):∀ l,v'≠.tup l:=by
 intro l e
 subst e
 cases v with
 | tup l=>exact hv l rfl
 | sl z e t=>cases t<;>simp only [un2,un1] at h<;>(try split at h)<;>cases h
 | mx z e b n t=>cases t<;>simp only [un2,un1] at h<;>(try split at h)<;>(try split at h)<;>cases h
 | cs z b o n c t=>cases t<;>simp only [un2,un1] at h<;>(try split at h)<;>(try split at h)<;>cases h
 | _=>simp only [un2,un1] at h<;>(try split at h)<;>cases h
theorem un3_s {v v':AV} (h:un3 bs ts v=some v'):wk3 v (ren bs ts id v'):=by
 cases v with
 | tup l =>
   simp only [un3] at h
   split at h
   ·cases h
   ·rename_i c' hc;cases h;exact pa hc
 | _ =>
   simp only [un3] at h
   have h1:=un2_s (id:=id) h
   have h2:=un2_tup h (fun l e=>by cases e)
   cases v'<;>first | exact h1 | exact absurd rfl (h2 _)
theorem unH_s:∀ {xs:List Nat} {H:List (List AV)},unH σ bs ts xs=some H→iJ σ bs ts id xs H
 | [],_,h=>by cases h;trivial
 | b :: xs, H, h => by
   simp only [unH] at h
   split at h
   ·rename_i l hl
    split at h
    ·cases h
    ·rename_i h' hh
     split at h
     ·cases h
     ·rename_i H' hH
      cases h
      refine ⟨?_,unH_s hH⟩
      rw [hl]
      exact pa hh
   ·cases h
theorem po:∀ {l:List Nat},liveB σ l=true→dA σ l
 | [],_=>trivial
 | k :: l, h => by
   simp only [liveB] at h
   split at h
   ·rename_i hk
    exact ⟨by rw [hk];trivial,po h⟩
   ·cases h
variable {call:aX} {rc:Rec}
theorem wk1_erS {x y:AV} (h:wk1 (erS x) y):wk1 x y:=by
 cases x<;>try exact h
 cases y<;>first | (cases h;done) | skip
 obtain ⟨h1,h2,h3⟩:=h
 exact ⟨h1,h2,.inl (by rcases h3 with h3 | h3<;>exact h3)⟩
theorem wk2_erS {x y:AV} (h:wk2 (erS x) y):wk2 x y:=by
 cases x<;>try exact h
 rename_i z e t
 cases y<;>first | (cases h;done) | skip
 rename_i z' e' t'
 have h2:wk1 (erS (.sl z e t)) (.sl z' e' t'):=h
 exact wk1_erS h2
theorem wkL2_erS:∀ {l m:List AV},gt (l.map erS) m→gt l m
 | [],[],_=>trivial
 | [],_::_,h=>h
 | _::_,[],h=>h
 | _::_,_::_,h=>⟨wk2_erS h.1,wkL2_erS h.2⟩
theorem fullX_s (hrc:∀ f args H res H',rc f args H=some (res,H')→call f args H res H') {f:FuncId} {args:List AV} {res:AV} {H':List (List AV)} {bs ts:List Nat} (h:oH rc σ f args=some (res,H',bs,ts)) (id:Nat) :
  ∃ args' H, call f args' H res H' ∧ (bE bs = true ∧ bE ts = true ∧ Nat.ble bs.length H'.length = true ∧ Nat.ble H'.length (bs.length + 50) = true ∧ Nat.ble (bs.length + ts.length) 900 = true ∧ Nat.beq ts.length (dK args' H) = true ∧
    dI bs.length ts.length args'=true∧inH bs.length ts.length H=true∧inR H'.length (ts.length+50) res=true∧inH H'.length (ts.length+50) H'=true ∧
    gt args (args'.map (ren2 bs ts id))∧iJ σ bs ts id bs H∧dA σ ts):=by
 unfold oH at h
 dsimp only at h
 split at h
 ·rename_i args' H ha hH
  split at h
  ·rename_i res2 H2 hr
   split at h
   ·rename_i h1
    cases h
    simp only [Bool.and_eq_true] at h1
    obtain ⟨⟨⟨⟨⟨⟨⟨⟨⟨⟨c1,c2⟩,c3⟩,c4⟩,c5⟩,c6⟩,c7⟩,c8⟩,c9⟩,c10⟩,c11⟩:=h1
    exact ⟨args',H,hrc _ _ _ _ _ hr,c1,c2,c3,c4,c5,c6,c7,c8,c9,c10,pa ha,unH_s hH,po c11⟩
   ·cases h
  ·cases h
 ·cases h
theorem callX_s (hrc:∀ f args H res H',rc f args H=some (res,H')→call f args H res H') {d:Option Nat} {f:FuncId} {args:List AV} {F:Log→Option R} {G:Log→Prop} (h:oT rc σ id d f args F=some r) (k:∀ v,F v=some r→G v):callP call σ id d f args G:=by
 unfold oT at h
 have key:∀ {res:AV} {H':List (List AV)},(match dI 0 0 (args.map bf) with
  | true => (match rc f (args.map bf) [] with
    | some (res, H') => (match inR H'.length 50 res && inH H'.length 50 H' && Nat.ble H'.length 50 && Nat.beq (dK (args.map bf) []) 0 with
      | true=>some (res,H')
      | false=>none)
    | none=>none)
  | false=>none)=some (res,H')→dI 0 0 (args.map bf)=true∧call f (args.map bf) [] res H'∧inR H'.length 50 res=true∧inH H'.length 50 H'=true∧Nat.ble H'.length 50=true∧Nat.beq (dK (args.map bf) []) 0=true:=by
  intro res H' hh
  split at hh
  ·rename_i h1
   split at hh
   ·rename_i hr
    split at hh
    ·rename_i hc
     cases hh
     simp only [Bool.and_eq_true] at hc
     exact ⟨h1,hrc _ _ _ _ _ hr,hc.1.1.1,hc.1.1.2,hc.1.2,hc.2⟩
    ·cases hh
   ·cases hh
  ·cases hh
 split at h
 ·rename_i res hres
  obtain ⟨h1,h2,h3,_⟩:=key hres
  exact .pure res h2 ⟨h1,h3⟩ (k _ h)
 ·rename_i res h0 H' hres
  obtain ⟨h1,h2,h3,h4,h5,h6⟩:=key hres
  have h6':=Nat.eq_of_beq_eq_true h6
  refine .full [] [] (args.map bf) [] (h0::H') res h2 ⟨rfl,rfl,by simp,by simpa using h5,rfl,by rw [h6'];rfl,h1,rfl,h3,h4,iK h1,trivial,trivial⟩ (k _ h)
 ·split at h
  ·rename_i hg
   obtain ⟨args',H,hc,c1,c2,c3,c4,c5,c6,c7,c8,c9,c10,c11,c12,c13⟩:=fullX_s hrc hg id
   exact .full _ _ args' H _ _ hc ⟨c1,c2,c3,c4,c5,c6,c7,c8,c9,c10,wkL2_erS c11,c12,c13⟩ (k _ h)
  ·split at h
   ·rename_i hg
    obtain ⟨args',H,hc,c1,c2,c3,c4,c5,c6,c7,c8,c9,c10,c11,c12,c13⟩:=fullX_s hrc hg id
    exact .full _ _ args' H _ _ hc ⟨c1,c2,c3,c4,c5,c6,c7,c8,c9,c10,c11,c12,c13⟩ (k _ h)
   ·cases h
theorem kq (hrc:∀ f args H res H',rc f args H=some (res,H')→call f args H res H') {o:AOp} {F:Log→Option R} {G:Log→Prop} (h:bP rc σ id o F=some r) (k:∀ v,F v=some r→G v):eff call σ id o G:=by
 cases o with
 | mv d x=>exact mS h fun _ h=>k _ h
 | pick d c a b =>
   simp only [bP] at h
   simp only [eff]
   split at h
   ·rename_i t ht
    rw [ht]
    cases t with
    | false=>exact mS h fun _ h=>k _ h
    | true=>exact mS h fun _ h=>k _ h
   ·cases h
 | box d x=>exact de h fun _ h=>k _ h
 | alloc d z=>exact k _ h
 | build d z ps=>exact bldX_s h fun _ h=>de h fun _ h=>k _ h
 | bsl d sz xs=>exact bslX_s h fun _ h=>k _ h
 | ld d n ag a =>
   simp only [bP] at h
   simp only [eff]
   split at h
   ·rename_i b o he
    rw [he]
    dsimp only
    split at h
    ·rename_i l hl
     rw [hl]
     dsimp only
     cases hm:isM l with
     | true=>simp only [hm] at h;cases h
     | false=>simp only [hm] at h;exact ldvX_s h k
    ·cases h
   ·rename_i l o he
    rw [he]
    exact ldvX_s h k
   ·cases h
 | st a n x =>
   simp only [bP] at h
   simp only [eff]
   split at h
   ·rename_i b o he
    rw [he]
    dsimp only
    split at h
    ·rename_i l hl
     rw [hl]
     dsimp only
     cases hm:isM l with
     | true=>simp only [hm] at h;cases h
     | false=>
     simp only [hm] at h
     dsimp only
     refine de h fun v h=>?_
     revert h
     cases Nat.beq v.length n with
     | false=>intro h;cases h
     | true =>
       cases be o v l with
       | none=>intro h;cases h
       | some z=>intro h;exact de h fun _ h=>k _ h
    ·cases h
   ·cases h
 | nc d x =>
   simp only [bP] at h
   simp only [eff]
   split at h
   ·rename_i he;rw [he];exact k _ h
   ·rename_i he;rw [he];exact k _ h
   ·rename_i he;rw [he];exact k _ h
   ·rename_i he;rw [he];exact k _ h
   ·cases h
 | bin d o x y=>exact binX_s h fun _ h=>k _ h
 | binB d ng x y =>
   simp only [bP] at h
   simp only [eff]
   split at h
   ·rename_i a b hx hy
    rw [hx,hy]
    cases ng with
    | false=>exact k _ h
    | true=>exact k _ h
   ·cases h
 | no d x =>
   simp only [bP] at h
   simp only [eff]
   split at h
   ·rename_i he;rw [he];exact k _ h
   ·cases h
 | fa d x off =>
   simp only [bP] at h
   simp only [eff]
   split at h
   ·rename_i he;rw [he];exact k _ h
   ·rename_i he;rw [he];exact k _ h
   ·cases h
 | fld d x off n ag =>
   simp only [bP] at h
   simp only [eff]
   split at h
   ·rename_i he;rw [he];exact ldvX_s h k
   ·cases h
 | ia d sz x i =>
   simp only [bP] at h
   simp only [eff]
   split at h
   ·rename_i z els t k' n hx hi
    rw [hx,hi]
    dsimp only
    cases hb:Nat.beq sz z with
    | false=>rw [hb] at h;cases h
    | true =>
      rw [hb] at h
      dsimp only at h ⊢
      split at h
      ·rename_i e he
       obtain ⟨h1,h2⟩:=bH h
       exact ⟨e,⟨of_decide_eq_true h1,he⟩,k _ h2⟩
      ·cases h
   ·rename_i z els b m t k' n hx hi
    rw [hx,hi]
    dsimp only
    cases hb:Nat.beq sz z with
    | false=>rw [hb] at h;cases h
    | true =>
      rw [hb] at h
      dsimp only at h ⊢
      obtain ⟨h1,h2⟩:=bH h
      simp only [Bool.and_eq_true] at h1
      exact ⟨⟨of_decide_eq_true h1.1.1,Nat.le_of_ble_eq_true h1.1.2,by simpa [Nat.blt_eq] using h1.2⟩,k _ h2⟩
   ·rename_i z b o m c t k' n hx hi
    rw [hx,hi]
    dsimp only
    cases hb:Nat.beq sz z with
    | false=>rw [hb] at h;cases h
    | true =>
      rw [hb] at h
      dsimp only at h ⊢
      obtain ⟨h1,h2⟩:=bH h
      simp only [Bool.and_eq_true] at h1
      exact ⟨⟨of_decide_eq_true h1.1,by simpa [Nat.blt_eq] using h1.2⟩,k _ h2⟩
   ·cases h
 | ix d x i =>
   simp only [bP] at h
   simp only [eff]
   split at h
   ·rename_i l k' n hx hi
    rw [hx,hi]
    dsimp only
    split at h
    ·rename_i e he
     obtain ⟨h1,h2⟩:=bH h
     exact ⟨e,⟨of_decide_eq_true h1,he⟩,k _ h2⟩
    ·cases h
   ·cases h
 | slS d x lo hi =>
   simp only [bP] at h
   simp only [eff]
   split at h
   ·rename_i l hx
    rw [hx]
    refine fO h fun a h=>fO h fun b h=>?_
    obtain ⟨h1,h2⟩:=bH h
    simp only [Bool.and_eq_true,leI,decide_eq_true_eq] at h1
    exact ⟨⟨h1.1.1,h1.1.2,h1.2⟩,k _ h2⟩
   ·cases h
 | slL d sz x lo hi mx =>
   simp only [bP] at h
   simp only [eff]
   split at h
   ·rename_i z b n t hx
    rw [hx]
    dsimp only
    cases hb:Nat.beq sz z with
    | false=>rw [hb] at h;cases h
    | true =>
      rw [hb] at h
      dsimp only at h ⊢
      split at h
      ·rename_i hi' l hl
       rw [hl]
       dsimp only
       refine fO h fun c h=>?_
       obtain ⟨h1,h2⟩:=bH h
       simp only [Bool.and_eq_true,decide_eq_true_eq] at h1
       refine ⟨⟨h1.1.1,Nat.eq_of_beq_eq_true h1.1.2,by simpa using h1.2⟩,?_⟩
       cases t with
       | none=>cases h2
       | full=>exact k _ h2
       | t j =>
         dsimp only at h2 ⊢
         split at h2
         ·rename_i hj;rw [hj];exact k _ h2
         ·cases h2
      ·cases h
   ·rename_i z els t hx
    rw [hx]
    dsimp only
    cases hb:Nat.beq sz z with
    | false=>rw [hb] at h;cases h
    | true =>
      rw [hb] at h
      dsimp only at h ⊢
      refine fO h fun a h=>fO h fun b h=>?_
      cases mx with
      | none =>
        obtain ⟨h1,h2⟩:=bH h
        simp only [Bool.and_eq_true,leI,decide_eq_true_eq] at h1
        dsimp only
        cases hd:decide (b=(els.length:Int)) with
        | true=>rw [hd] at h2;exact ⟨t,⟨⟨h1.1.1,h1.1.2,h1.2⟩,.inr ⟨rfl,of_decide_eq_true hd⟩⟩,k _ h2⟩
        | false=>rw [hd] at h2;exact ⟨.none,⟨⟨h1.1.1,h1.1.2,h1.2⟩,.inl rfl⟩,k _ h2⟩
      | some m =>
        refine fO h fun c h=>?_
        obtain ⟨h1,h2⟩:=bH h
        simp only [Bool.and_eq_true,leI,decide_eq_true_eq] at h1
        exact ⟨⟨h1.1.1.1,h1.1.1.2,h1.1.2,h1.2⟩,k _ h2⟩
   ·rename_i z b o n c t hx
    rw [hx]
    dsimp only
    cases hb:Nat.beq sz z with
    | false=>rw [hb] at h;cases h
    | true =>
      rw [hb] at h
      dsimp only at h ⊢
      refine fO h fun a h=>fO h fun b h=>?_
      cases mx with
      | none =>
        obtain ⟨h1,h2⟩:=bH h
        simp only [Bool.and_eq_true,leI,decide_eq_true_eq] at h1
        cases hd:decide (a<(c:Int)) with
        | true=>rw [hd] at h2;exact ⟨_,⟨⟨h1.1.1,h1.1.2,h1.2⟩,.inl ⟨of_decide_eq_true hd,rfl⟩⟩,k _ h2⟩
        | false=>rw [hd] at h2;exact ⟨_,⟨⟨h1.1.1,h1.1.2,h1.2⟩,.inr ⟨by have:=of_decide_eq_false hd;omega,rfl⟩⟩,k _ h2⟩
      | some m =>
        refine fO h fun r h=>?_
        obtain ⟨h1,h2⟩:=bH h
        simp only [Bool.and_eq_true,decide_eq_true_eq] at h1
        exact ⟨⟨h1.1.1,h1.1.2,h1.2⟩,k _ h2⟩
   ·cases h
 | cvi d ik x =>
   simp only [bP] at h
   simp only [eff]
   split at h
   ·rename_i k' n hx
    rw [hx]
    obtain ⟨h1,h2⟩:=bH h
    exact ⟨pG h1,k _ h2⟩
   ·cases h
 | cvu d x =>
   simp only [bP] at h
   simp only [eff]
   split at h
   ·rename_i n hx
    rw [hx]
    obtain ⟨h1,h2⟩:=bH h
    simp only [Bool.and_eq_true] at h1
    exact ⟨⟨of_decide_eq_true h1.1,of_decide_eq_true h1.2⟩,k _ h2⟩
   ·cases h
 | ext d x i =>
   simp only [bP] at h
   simp only [eff]
   split at h
   ·rename_i l hx
    rw [hx]
    dsimp only
    split at h
    ·rename_i v hv;rw [hv];exact mS h fun _ h=>k _ h
    ·cases h
   ·cases h
 | call d f xs =>
   simp only [bP] at h
   simp only [eff]
   split at h
   ·rename_i f caps hx
    rw [hx]
    exact callX_s hrc h k
   ·rename_i f b o hx
    rw [hx]
    exact callX_s hrc h k
   ·cases h
 | app d sz by_ a x =>
   simp only [bP] at h
   simp only [eff]
   split at h
   ·rename_i z e1 t1 z' e2 t2 ha hx
    rw [ha,hx]
    dsimp only
    cases h1:Nat.beq sz z with
    | false=>simp [h1] at h
    | true =>
      cases h2:Nat.beq sz z' with
      | false=>simp [h1,h2] at h
      | true =>
        simp only [h1,h2] at h
        dsimp only
        cases t1 with
        | none=>cases h
        | full=>obtain ⟨g1,g2⟩:=bH h;exact ⟨cZ g1,k _ g2⟩
        | t kk =>
          dsimp only at h ⊢
          split at h
          ·rename_i hk;rw [hk];obtain ⟨g1,g2⟩:=bH h;exact ⟨cZ g1,k _ g2⟩
          ·cases h
   ·cases h
 | len d x =>
   simp only [bP] at h
   simp only [eff]
   split at h
   ·rename_i he;rw [he];exact k _ h
   ·rename_i he;rw [he];exact k _ h
   ·rename_i he;rw [he];exact k _ h
   ·cases h
 | lenS d x =>
   simp only [bP] at h
   simp only [eff]
   split at h
   ·rename_i he;rw [he];exact k _ h
   ·cases h
 | mx d x y =>
   simp only [bP] at h
   simp only [eff]
   split at h
   ·rename_i a b hx hy;rw [hx,hy];exact k _ h
   ·cases h
 | rngE d x =>
   simp only [bP] at h
   simp only [eff]
   split at h
   ·rename_i b he
    rw [he]
    dsimp only
    split at h
    ·rename_i hl;rw [hl];exact k _ h
    ·cases h
   ·cases h
 | nxtE d x =>
   simp only [bP] at h
   simp only [eff]
   split at h
   ·rename_i i he
    rw [he]
    split at h
    ·rename_i b hi
     simp only [hi]
     split at h
     ·rename_i hl;simp only [hl];exact k _ h
     ·cases h
    ·cases h
   ·cases h
 | eqN d ng x =>
   simp only [bP] at h
   simp only [eff]
   split at h
   ·rename_i he;rw [he];exact k _ h
   ·rename_i he;rw [he];exact k _ h
   ·rename_i he;rw [he];exact k _ h
   ·cases h
 | bslZ d sz=>exact k _ h
 | mkC d sz by_ z x =>
   simp only [bP] at h
   simp only [eff]
   split at h
   ·rename_i n he
    rw [he]
    obtain ⟨g1,g2⟩:=bH h
    simp only [Bool.and_eq_true,leI,decide_eq_true_eq] at g1
    exact ⟨⟨g1.1,cZ g1.2⟩,k _ (im g2)⟩
   ·cases h
 | cpy d sz x y =>
   simp only [bP] at h
   simp only [eff]
   split at h
   ·rename_i q b o n c t he
    rw [he]
    dsimp only
    cases hb:Nat.beq sz q with
    | false=>simp [hb] at h
    | true =>
      rw [hb] at h
      dsimp only at h ⊢
      cases hz:zq σ sz (ev σ y) with
      | true=>rw [hz] at h;exact k _ h
      | false =>
        rw [hz] at h
        dsimp only at h ⊢
        split at h
        ·rename_i m V l hy hl
         rw [hy,hl]
         dsimp only
         cases hm:isM l with
         | true=>simp [hm] at h
         | false =>
           rw [hm] at h
           dsimp only at h ⊢
           split at h
           ·rename_i V' hV
            rw [hV]
            dsimp only
            split at h
            ·rename_i l' hsp
             rw [hsp]
             obtain ⟨g1,g2⟩:=bH h
             exact ⟨by simpa [Nat.blt_eq] using g1,k _ (im g2)⟩
            ·cases h
           ·cases h
        ·cases h
   ·cases h
 | mn d x y =>
   simp only [bP] at h
   simp only [eff]
   split at h
   ·rename_i a b hx hy;rw [hx,hy];exact k _ h
   ·cases h
 | mkfb d f x =>
   simp only [bP] at h
   simp only [eff]
   split at h
   ·rename_i b o he;rw [he];exact k _ h
   ·cases h
 | mkf d f caps=>exact de h fun _ h=>k _ h
 | mk d sz by_ z x =>
   simp only [bP] at h
   simp only [eff]
   split at h
   ·rename_i n he
    rw [he]
    obtain ⟨h1,h2⟩:=bH h
    simp only [Bool.and_eq_true] at h1
    exact ⟨⟨of_decide_eq_true h1.1,cZ h1.2⟩,k _ h2⟩
   ·cases h
 | mkF d sz by_ z x =>
   simp only [bP] at h
   simp only [eff]
   split at h
   ·rename_i n he
    rw [he]
    obtain ⟨h1,h2⟩:=bH h
    simp only [Bool.and_eq_true] at h1
    exact ⟨⟨of_decide_eq_true h1.1,cZ h1.2⟩,k _ h2⟩
   ·cases h
 | bslM d sz xs=>exact bslAX_s h fun _ h=>k _ h
 | appC d sz by_ a x =>
   simp only [bP] at h
   simp only [eff]
   cases hz:zq σ sz (ev σ x) with
   | true =>
     rw [hz] at h
     dsimp only at h ⊢
     cases h0:app0 sz (ev σ a) with
     | false=>rw [h0] at h;cases h
     | true =>
       rw [h0] at h
       dsimp only at h ⊢
       exact mS h fun u h=>k _ h
   | false=>
   rw [hz] at h
   dsimp only at h ⊢
   split at h
   ·cases h
   ·rename_i m V hy
    rw [hy]
    dsimp only
    split at h
    ·rename_i z e1 he
     rw [he]
     dsimp only
     cases hb:Nat.beq sz z with
     | false=>simp [hb] at h
     | true =>
       rw [hb] at h
       dsimp only at h ⊢
       obtain ⟨g1,g2⟩:=bH h
       simp only [Bool.and_eq_true] at g1
       exact ⟨⟨by simpa [Nat.blt_eq] using g1.1,cZ g1.2⟩,k _ (im g2)⟩
    ·rename_i z b o n c t he
     rw [he]
     dsimp only
     cases hb:Nat.beq sz z with
     | false=>simp [hb] at h
     | true =>
       rw [hb] at h
       dsimp only at h ⊢
       split at h
       ·rename_i l hl
        rw [hl]
        dsimp only
        cases hm:isM l with
        | true=>simp [hm] at h
        | false =>
          rw [hm] at h
          dsimp only at h ⊢
          cases hle:Nat.ble (n+m) c with
          | true =>
            rw [hle] at h
            dsimp only at h ⊢
            split at h
            ·rename_i l' hsp
             rw [hsp]
             obtain ⟨g1,g2⟩:=bH h
             exact ⟨by simpa [Nat.blt_eq] using g1,k _ g2⟩
            ·cases h
          | false =>
            rw [hle] at h
            dsimp only at h ⊢
            split at h
            ·cases h
            ·rename_i l0 hsb
             rw [hsb]
             cases t with
             | none=>cases h
             | full =>
               dsimp only at h ⊢
               obtain ⟨g1,g2⟩:=bH h
               simp only [Bool.and_eq_true] at g1
               exact ⟨⟨by simpa [Nat.blt_eq] using g1.1,cZ g1.2⟩,k _ (im g2)⟩
             | t kk =>
               dsimp only at h ⊢
               split at h
               ·rename_i hk
                rw [hk]
                obtain ⟨g1,g2⟩:=bH h
                simp only [Bool.and_eq_true] at g1
                exact ⟨⟨Nat.le_of_ble_eq_true g1.1.1,by simpa [Nat.blt_eq] using g1.1.2,cZ g1.2⟩,k _ (im g2)⟩
               ·cases h
       ·cases h
    ·cases h
 | clrC sz z x =>
   simp only [bP] at h
   simp only [eff]
   split at h
   ·rename_i q b o n c t he
    rw [he]
    dsimp only
    cases hb:Nat.beq sz q with
    | false=>simp [hb] at h
    | true =>
      rw [hb] at h
      dsimp only at h ⊢
      split at h
      ·rename_i l hl
       rw [hl]
       dsimp only
       cases hm:isM l with
       | true=>simp [hm] at h
       | false =>
         rw [hm] at h
         dsimp only at h ⊢
         split at h
         ·rename_i l' hsp
          rw [hsp]
          obtain ⟨g1,g2⟩:=bH h
          exact ⟨by simpa [Nat.blt_eq] using g1,k _ g2⟩
         ·cases h
      ·cases h
   ·cases h
 | eqP d fn neg x y =>
   simp only [bP] at h
   simp only [eff]
   split at h
   ·rename_i b o b' o' he1 he2
    rw [he1,he2]
    dsimp only
    cases hb:Nat.beq b b' with
    | false=>simp [hb] at h
    | true =>
      rw [hb] at h
      exact k _ h
   all_goals first
    | (cases h;done)
    | (rename_i he1 he2;rw [he1,he2];exact k _ h)
 | rngS d x =>
   simp only [bP] at h
   simp only [eff]
   split at h
   ·rename_i l he;rw [he];exact k _ h
   ·cases h
 | nxtS d x =>
   simp only [bP] at h
   simp only [eff]
   split at h
   ·rename_i b he
    rw [he]
    split at h
    ·rename_i l p hl
     simp only [hl]
     split at h
     ·rename_i hp
      simp only [hp]
      obtain ⟨g1,g2⟩:=bH h
      exact ⟨Nat.le_of_ble_eq_true g1,k _ g2⟩
     ·rename_i c hp
      simp only [hp]
      obtain ⟨g1,g2⟩:=bH h
      exact ⟨by simpa [Nat.blt_eq] using g1,k _ g2⟩
    ·cases h
   ·cases h
 | appM d sz by_ a x =>
   simp only [bP] at h
   simp only [eff]
   split at h
   ·rename_i z e1 t1 z' e2 t2 ha hx
    rw [ha,hx]
    dsimp only
    cases h1:Nat.beq sz z with
    | false=>simp [h1] at h
    | true =>
      cases h2:Nat.beq sz z' with
      | false=>simp [h1,h2] at h
      | true =>
        simp only [h1,h2] at h
        dsimp only
        cases t1 with
        | none=>cases h
        | full =>
          obtain ⟨g1,g2⟩:=bH h
          simp only [Bool.and_eq_true] at g1
          exact ⟨⟨by simpa [Nat.blt_eq] using g1.1,cZ g1.2⟩,k _ g2⟩
        | t kk =>
          dsimp only at h ⊢
          split at h
          ·rename_i hk
           rw [hk]
           obtain ⟨g1,g2⟩:=bH h
           simp only [Bool.and_eq_true] at g1
           exact ⟨⟨by simpa [Nat.blt_eq] using g1.1,cZ g1.2⟩,k _ g2⟩
          ·cases h
   ·cases h
 | cap d x =>
   simp only [bP] at h
   simp only [eff]
   split at h
   ·rename_i he;rw [he];exact k _ h
   ·rename_i he;rw [he];exact k _ h
   ·cases h
 | iaG d cells sz x =>
   simp only [bP] at h
   simp only [eff]
   split at h
   ·rename_i n he
    rw [he]
    obtain ⟨h1,h2⟩:=bH h
    simp only [Bool.and_eq_true] at h1
    exact ⟨⟨of_decide_eq_true h1.1,Nat.le_of_ble_eq_true h1.2⟩,k _ h2⟩
   ·cases h
 | eqA d ng ks x y =>
   simp only [bP] at h
   simp only [eff]
   split at h
   ·rename_i l m hx hy
    rw [hx,hy]
    dsimp only
    split at h
    ·rename_i b hb
     rw [hb]
     cases ng<;>exact k _ h
    ·cases h
   ·cases h
 | appZ d sz by_ z a x =>
   simp only [bP] at h
   simp only [eff]
   split at h
   ·rename_i q n ha hx
    rw [ha,hx]
    dsimp only
    cases h1:Nat.beq sz q with
    | false=>simp [h1] at h
    | true =>
      simp only [h1] at h
      dsimp only
      obtain ⟨g1,g2⟩:=bH h
      simp only [Bool.and_eq_true,leI,decide_eq_true_eq] at g1
      exact ⟨⟨by omega,cZ g1.2⟩,k _ g2⟩
   ·cases h
 | mkM d=>exact k _ h
 | lkM d z x kx =>
   simp only [bP] at h
   simp only [eff]
   split at h
   ·rename_i b n ha hx
    rw [ha,hx]
    dsimp only
    split at h
    ·rename_i es hl
     rw [hl]
     dsimp only
     split at h
     ·rename_i ds hf;rw [hf];exact k _ h
     ·rename_i hf;rw [hf];exact k _ h
    ·cases h
   ·cases h
 | mkS d=>exact k _ h
 | lkS d ok st z x kx =>
   simp only [bP] at h
   simp only [eff]
   split at h
   ·rename_i r hr;rw [hr];exact k _ h
   ·cases h
 | upS st x kx v =>
   simp only [bP] at h
   simp only [eff]
   split at h
   ·rename_i b m hr;rw [hr];exact k _ h
   ·cases h
 | upM x kx v =>
   simp only [bP] at h
   simp only [eff]
   split at h
   ·rename_i b n ha hx
    rw [ha,hx]
    dsimp only
    split at h
    ·rename_i es hl
     rw [hl]
     dsimp only
     split at h
     ·rename_i l hv
      rw [hv]
      dsimp only
      refine de h fun u h=>?_
      split at h
      ·rename_i ds hc;rw [hc];exact k _ h
      ·cases h
     ·cases h
    ·cases h
   ·cases h
theorem mL {g:Option (Nat × Bool)} {A B:Log→Option R} {A' B':Log→Prop} (h:mM σ g A B=some r) (hA:∀ σ,A σ=some r→A' σ) (hB:∀ σ,B σ=some r→B' σ):guard σ g A' B':=by
 unfold mM at h
 unfold guard
 split at h
 ·exact hA _ h
 ·rename_i n w
  dsimp only
  split at h
  ·rename_i t ht
   rw [ht]
   cases t<;>cases w<;>first | exact hA _ h | exact hB _ h
  ·rename_i l ht;rw [ht];exact hB _ h
  ·cases h
theorem pX (hrc:∀ f args H res H',rc f args H=some (res,H')→call f args H res H'):∀ {ops:List GOp} {id:Nat} {σ:Log} {F:Log→Option R} {G:Log→Prop},aopsX rc ops id σ F=some r→(∀ v,F v=some r→G v)→p8 call ops id σ G
 | [],_,_,_,_,h,k=>k _ h
 | o :: ops, id, σ, F, G, h, k => by
   refine mL h (fun σ h=>kq hrc h fun δ h=>pX hrc h k) (fun σ h=>pX hrc h k)
theorem nC (hrc:∀ f args H res H',rc f args H=some (res,H')→call f args H res H'):∀ {ops:List GOp} {ps:List Nat} {j id:Nat} {σ:Log} {fs:List (Nat × List Loc × List Loc)} {F:Log→Option R} {G:Log→Prop},p6 rc ops ps j id σ fs F=some r→(∀ v,F v=some r→G v)→lc call ops ps j id σ fs G
 | [],_,_,_,_,_,_,_,h,k=>by cases ‹List Nat›<;>exact k _ h
 | _::_,[],_,_,_,_,_,_,h,_=>by cases h
 | o :: ops, p :: ps, j, id, σ, fs, F, G, h, k => by
   refine mL h (fun σ h=>kq hrc h fun δ h=>?_) (fun σ h=>?_)
   ·split at h
    ·cases h
    ·rename_i hc;rw [cm,cm,hc];exact nC hrc h k
   ·split at h
    ·cases h
    ·rename_i hc;rw [cm,cm,hc];exact nC hrc h k
theorem cb {α:Type} {f:α→α→Bool} (hf:∀ a b,f a b=true→a=b):∀ {l m:List α},fZ f l m=true→l=m
 | [],[],_=>rfl
 | [],_::_,h=>by cases h
 | _::_,[],h=>by cases h
 | x :: l, y :: m, h => by
   simp only [fZ] at h
   split at h
   ·rename_i hxy;rw [hf _ _ hxy,cb hf h]
   ·cases h
theorem ikBeq_s {k k':IntKind} (h:gp k k'=true):k=k':=by
 cases k<;>cases k'<;>first | rfl | (simp only [gp] at h;cases h)
theorem pJ:∀ {a b:Sc},eqSc a b=true→a=b
 | .b x,.b y,h=>by cases x<;>cases y<;>first | rfl | cases h
 | .i k n, .i k' m, h => by
   simp only [eqSc] at h
   split at h
   ·rename_i hk;rw [ikBeq_s hk,of_decide_eq_true h]
   ·cases h
 | .s l,.s m,h=>by rw [show l=m from of_decide_eq_true h]
 | .np,.np,_=>rfl
 | .nf,.nf,_=>rfl
 | .ni,.ni,_=>rfl
 | .nm,.nm,_=>rfl
 | .b _,.i ..,h | .b _,.s _,h | .b _,.np,h | .b _,.nf,h | .b _,.ni,h | .b _,.nm,h=>by cases h
 | .i ..,.b _,h | .i ..,.s _,h | .i ..,.np,h | .i ..,.nf,h | .i ..,.ni,h | .i ..,.nm,h=>by cases h
 | .s _,.b _,h | .s _,.i ..,h | .s _,.np,h | .s _,.nf,h | .s _,.ni,h | .s _,.nm,h=>by cases h
 | .np,.b _,h | .np,.i ..,h | .np,.s _,h | .np,.nf,h | .np,.ni,h | .np,.nm,h=>by cases h
 | .nf,.b _,h | .nf,.i ..,h | .nf,.s _,h | .nf,.np,h | .nf,.ni,h | .nf,.nm,h=>by cases h
 | .ni,.b _,h | .ni,.i ..,h | .ni,.s _,h | .ni,.np,h | .ni,.nf,h | .ni,.nm,h=>by cases h
 | .nm,.b _,h | .nm,.i ..,h | .nm,.s _,h | .nm,.np,h | .nm,.nf,h | .nm,.ni,h=>by cases h
theorem mW:∀ (n:Nat) (a b:Data),eqD n a b=true→a=b
 | n, .sc a, .sc b, h => by
   have:eqSc a b=true:=by cases n<;>exact h
   rw [pJ this]
 | n + 1, .lst z e, .lst z' e', h => by
   simp only [eqD] at h
   split at h
   ·rename_i hz
    rw [Nat.eq_of_beq_eq_true hz,cb (fun a b h=>cb (fun a b h=>mW n a b h) h) h]
   ·cases h
 | 0,.lst ..,.lst ..,h=>by cases h
 | n,.sc _,.lst ..,h=>by cases n<;>cases h
 | n,.lst ..,.sc _,h=>by cases n<;>cases h
theorem ip:∀ {a b:Tok},eqTok a b=true→a=b
 | .none,.none,_=>rfl
 | .full,.full,_=>rfl
 | .t k,.t k',h=>by rw [Nat.eq_of_beq_eq_true h]
 | .none,.full,h | .none,.t _,h | .full,.none,h | .full,.t _,h | .t _,.none,h | .t _,.full,h=>by cases h
theorem eqAV_s (n:Nat) (a b:AV) (h:nY n a b=true):a=b:=by
 induction n generalizing a b with
 | zero =>
   cases a<;>cases b<;>simp only [nY,Bool.and_eq_true] at h<;>first | (cases h;done) | skip
   case sc.sc=>rw [pJ h]
   case sl.sl=>rw [Nat.eq_of_beq_eq_true h.1,ip h.2.1,cb (fun a b h=>cb (fun a b h=>mW _ a b h) h) h.2.2]
   case ptr.ptr=>rw [Nat.eq_of_beq_eq_true h.1,Nat.eq_of_beq_eq_true h.2]
   case elp.elp=>rw [Nat.eq_of_beq_eq_true h.1,cb (fun a b h=>mW _ a b h) h.2]
   case mr.mr=>rw [Nat.eq_of_beq_eq_true h]
   case fb.fb=>rw [Nat.eq_of_beq_eq_true h.1,Nat.eq_of_beq_eq_true h.2.1,Nat.eq_of_beq_eq_true h.2.2]
   case mx.mx=>rw [Nat.eq_of_beq_eq_true h.1,Nat.eq_of_beq_eq_true h.2.1,Nat.eq_of_beq_eq_true h.2.2.1,ip h.2.2.2.1,cb (fun a b h=>cb (fun a b h=>mW _ a b h) h) h.2.2.2.2]
   case cs.cs=>rw [Nat.eq_of_beq_eq_true h.1,Nat.eq_of_beq_eq_true h.2.1,Nat.eq_of_beq_eq_true h.2.2.1,Nat.eq_of_beq_eq_true h.2.2.2.1,Nat.eq_of_beq_eq_true h.2.2.2.2.1,ip h.2.2.2.2.2]
 | succ n ih =>
   cases a<;>cases b<;>simp only [nY,Bool.and_eq_true] at h<;>first | (cases h;done) | skip
   case sc.sc=>rw [pJ h]
   case sl.sl=>rw [Nat.eq_of_beq_eq_true h.1,ip h.2.1,cb (fun a b h=>cb (fun a b h=>mW _ a b h) h) h.2.2]
   case ptr.ptr=>rw [Nat.eq_of_beq_eq_true h.1,Nat.eq_of_beq_eq_true h.2]
   case elp.elp=>rw [Nat.eq_of_beq_eq_true h.1,cb (fun a b h=>mW _ a b h) h.2]
   case mr.mr=>rw [Nat.eq_of_beq_eq_true h]
   case fb.fb=>rw [Nat.eq_of_beq_eq_true h.1,Nat.eq_of_beq_eq_true h.2.1,Nat.eq_of_beq_eq_true h.2.2]
   case mx.mx=>rw [Nat.eq_of_beq_eq_true h.1,Nat.eq_of_beq_eq_true h.2.1,Nat.eq_of_beq_eq_true h.2.2.1,ip h.2.2.2.1,cb (fun a b h=>cb (fun a b h=>mW _ a b h) h) h.2.2.2.2]
   case cs.cs=>rw [Nat.eq_of_beq_eq_true h.1,Nat.eq_of_beq_eq_true h.2.1,Nat.eq_of_beq_eq_true h.2.2.1,Nat.eq_of_beq_eq_true h.2.2.2.1,Nat.eq_of_beq_eq_true h.2.2.2.2.1,ip h.2.2.2.2.2]
   case fn.fn=>rw [Nat.eq_of_beq_eq_true h.1,cb ih h.2]
   case agg.agg=>rw [cb ih h]
   case mm.mm=>rw [cb (fun a b h=>pJ h) h.1,cb ih h.2]
theorem sameK_s {σ' σ:Log} {k:Loc} (h:sameK σ' σ k=true):look σ' k=look σ k:=by
 unfold sameK at h
 split at h
 ·rename_i l m h1 h2;rw [h1,h2,cb (eqAV_s 4) h]
 ·rename_i h1 h2;rw [h1,h2]
 ·rename_i h1 h2;rw [h1,h2]
 ·cases h
theorem fU {σ' σ:Log}:∀ {l:List Loc} {k:Loc},k∈kO σ' σ l→look σ' k=look σ k
 | [],_,h=>by cases h
 | .s _::r,_,h=>fU (l:=r) h
 | .b n :: r, k, h => by
   simp only [kO] at h
   split at h
   ·rename_i hs
    rcases List.mem_cons.1 h with rfl | h
    ·exact sameK_s hs
    ·exact fU h
   ·exact fU h
 | .t n :: r, k, h => by
   simp only [kO] at h
   split at h
   ·rename_i hs
    rcases List.mem_cons.1 h with rfl | h
    ·exact sameK_s hs
    ·exact fU h
   ·exact fU h
theorem nu (hrc:∀ f args H res H',rc f args H=some (res,H')→call f args H res H'):∀ {ops:List GOp} {ps:List Nat} {j id:Nat} {σ:Log} {fs:List (Nat × List Loc × List Loc)} {F:Log→Option R} {G:Log→Prop},pZ rc ops ps j id σ fs F=some r→(∀ v,F v=some r→G v)→nz call ops ps j id σ fs G
 | [],_,_,_,_,_,_,_,h,k=>by cases ‹List Nat›<;>exact k _ h
 | _::_,[],_,_,_,_,_,_,h,_=>by cases h
 | o :: ops, p :: ps, j, id, σ, fs, F, G, h, k => by
   refine mL h (fun σ h=>kq hrc h fun δ h=>?_) (fun σ h=>?_)
   ·dsimp only at h
    split at h
    ·cases h
    ·rename_i hc
     refine ⟨_,⟨?_,hc⟩,nu hrc h k⟩
     intro q hq
     split at hq
     ·exact fU hq
     ·cases hq
   ·split at h
    ·cases h
    ·rename_i hc;exact ⟨hc,nu hrc h k⟩
theorem iterX_s {f:Nat→Log→(Ex→Nat→Log→Option R)→Option R} {g:Nat→Log→(Ex→Nat→Log→Prop)→Prop} (hfg:∀ n σ F G,f n σ F=some r→(∀ e n σ,F e n σ=some r→G e n σ)→g n σ G)
  {F:Ex→Nat→Log→Option R} {G:Ex→Nat→Log→Prop} (k:∀ e n σ,F e n σ=some r→G e n σ):∀ {m n:Nat} {σ:Log},iterX f F m n σ=some r→iter g G m n σ
 | 0,_,_,h=>by cases h
 | m + 1, n, σ, h => by
   refine hfg _ _ _ _ h fun e n σ h=>?_
   cases e with
   | n=>exact iterX_s hfg k h
   | e i=>exact k _ _ _ h
   | r=>exact k _ _ _ h
theorem takeE_s {α:Type}:∀ {n:Nat} {l e:List α},dX n l=some e→e.length=n∧e++l.drop n=l
 | 0,l,e,h=>by simp only [dX,Option.some.injEq] at h;subst h;simp
 | n+1,[],e,h=>by simp [dX] at h
 | n + 1, x :: l, e, h => by
   simp only [dX] at h
   split at h
   ·cases h
   ·rename_i r hr
    cases h
    obtain ⟨h1,h2⟩:=takeE_s hr
    exact ⟨by simp [h1],by simp [h2]⟩
theorem jR {sz:Nat}:∀ {n:Nat} {l:List Data} {ch:List (List Data)},jS sz n l=some ch→ch.flatten=l∧ch.length=n∧∀ e,e∈ch→e.length=sz
 | 0,[],ch,h=>by simp only [jS,Option.some.injEq] at h;subst h;simp
 | 0,_::_,ch,h=>by simp [jS] at h
 | n + 1, l, ch, h => by
   simp only [jS] at h
   split at h
   ·rename_i e he
    split at h
    ·rename_i r hr
     cases h
     obtain ⟨g1,g2⟩:=takeE_s he
     obtain ⟨h1,h2,h3⟩:=jR hr
     refine ⟨by simp [h1,g2],by simp [h2],fun e' he'=>?_⟩
     rcases List.mem_cons.1 he' with rfl | he'
     ·exact g1
     ·exact h3 e' he'
    ·cases h
   ·cases h
theorem je (hrc:∀ f args H res H',rc f args H=some (res,H')→call f args H res H'):∀ (c:AC) {nx:Nat} {σ:Log} {F:Ex→Nat→Log→Option R} {G:Ex→Nat→Log→Prop},nn rc c nx σ F=some r→(∀ e n σ,F e n σ=some r→G e n σ)→awp call c nx σ G
 | .reg ops,_,_,_,_,h,k=>pX hrc h fun _ h=>k _ _ _ h
 | .regD ops pre,_,_,_,_,h,k=>nC hrc h fun _ h=>k _ _ _ h
 | .regE ops pre,_,_,_,_,h,k=>nu hrc h fun _ h=>k _ _ _ h
 | .frz x, nx, σ, F, G, h, k => by
   simp only [nn] at h
   simp only [awp]
   split at h
   ·rename_i sz els b n t hx
    rw [hx]
    dsimp only
    split at h
    ·rename_i l hl
     rw [hl]
     split at h
     ·rename_i ds hds
      split at h
      ·rename_i ch hch
       obtain ⟨h1,h2,h3⟩:=jR hch
       exact ⟨ch,⟨by rw [h1];exact hds,h2,h3⟩,k _ _ _ h⟩
      ·cases h
     ·cases h
    ·cases h
   ·rename_i hx;rw [hx];exact k _ _ _ h
   ·rename_i sz b o n c t hx
    rw [hx]
    dsimp only
    split at h
    ·rename_i l hl
     rw [hl]
     split at h
     ·rename_i ds hds
      split at h
      ·rename_i p hp
       split at h
       ·rename_i ch hch
        obtain ⟨h1,h2,h3⟩:=jR hch
        exact ⟨ds,ch,⟨hds,by rw [h1];exact hp,h2,h3⟩,k _ _ _ h⟩
       ·cases h
      ·cases h
     ·cases h
    ·cases h
   ·cases h
 | .seq x y, nx, σ, F, G, h, k => by
   refine je hrc x h fun e n σ h=>?_
   cases e with
   | n=>exact je hrc y h k
   | e i=>exact k _ _ _ h
   | r=>exact k _ _ _ h
 | .cond x t e, nx, σ, F, G, h, k => by
   simp only [nn] at h
   simp only [awp]
   split at h
   ·rename_i v hv
    rw [hv]
    cases v with
    | false=>exact je hrc e h k
    | true=>exact je hrc t h k
   ·cases h
 | .block n c, nx, σ, F, G, h, k => by
   refine je hrc c h fun e n σ h=>?_
   cases e with
   | n=>exact k _ _ _ h
   | e i =>
     dsimp only at h ⊢
     split at h
     ·rename_i hb;rw [hb];exact k _ _ _ h
     ·rename_i hb;rw [hb];exact k _ _ _ h
   | r=>exact k _ _ _ h
 | .loop c, nx, σ, F, G, h, k => by
   simp only [nn] at h
   exact .runs 1000 (iterX_s (g:=fun n σ Q=>awp call c n σ Q) (fun n σ F G h k=>je hrc c h k) k h)
 | .exit n,_,_,_,_,h,k=>k _ _ _ h
 | .ret,_,_,_,_,h,k=>k _ _ _ h
 | .skip,_,_,_,_,h,k=>k _ _ _ h
 | .cut,_,_,_,_,h,k=>.go (k _ _ _ h)
 | .stuck,_,_,_,_,h,_=>by cases h
theorem ii:∀ {rs:List (Nat × Nat)} {F:List AV→Option R} {G:List AV→Prop},resLX σ rs F=some r→(∀ v,F v=some r→G v)→nT σ rs G
 | [],_,_,h,k=>k _ h
 | (t,0)::rs,F,G,h,k=>ii (rs:=rs) h fun _ h=>k _ h
 | (t, n + 1) :: rs, F, G, h, k => by
   simp only [resLX] at h
   simp only [nT]
   split at h
   ·rename_i b hb
    rw [hb]
    show (match look σ (.b b) with
     | some (.bx l) => (match isM l with
       | true=>False
       | false => (match Nat.beq l.length (n + 1) with
         | true=>nT σ rs fun r=>G (.agg l::r)
         | false=>False))
     | _=>False)
    split at h
    ·rename_i l hl
     try rw [hl]
     show (match isM l with
      | true=>False
      | false => (match Nat.beq l.length (n + 1) with
        | true=>nT σ rs fun r=>G (.agg l::r)
        | false=>False))
     cases hm:isM l with
     | true=>simp only [hm] at h;cases h
     | false=>
     simp only [hm] at h
     dsimp only
     split at h
     ·rename_i hq;(try rw [hq]);exact ii h fun _ h=>k _ h
     ·cases h
    ·cases h
   ·cases h
end
theorem dQ {σ:Log} {v res:AV} {nb nt:Nat} {H':List (List AV)} (h:finX σ v nb nt=some (res,H')):FinOK σ v nb nt res H':=by
 unfold finX at h
 dsimp only at h
 split at h
 ·rename_i res' H'' hv hH
  obtain ⟨h1,h2⟩:=bH h
  cases h2
  simp only [Bool.and_eq_true,beq_iff_eq] at h1
  obtain ⟨⟨⟨⟨⟨⟨c1,c2⟩,c3⟩,c4⟩,c5⟩,c6⟩,c7⟩:=h1
  generalize bxAll σ 100 (bx3 (upN nb) v) (bx3 (upN nb) v)=bs at *
  generalize tkH σ bs (tk3 σ (upN nt) v)=ts at *
  have e1:upN nb++bs.drop nb=bs:=by rw [← c3,List.take_append_drop]
  have e2:upN nt++ts.drop nt=ts:=by rw [← c4,List.take_append_drop]
  refine ⟨⟨bs.drop nb,ts.drop nt,?_⟩⟩
  rw [e1,e2]
  exact ⟨⟨c1,c2,c5,c6⟩,un3_s hv,unH_s hH,po c7⟩
 ·cases h
theorem bodyX_s {call:aX} {rc:Rec} (hrc:∀ f args H res H',rc f args H=some (res,H')→call f args H res H') {c:AC} {rs:List (Nat × Nat)} {args:List AV} {H:List (List AV)} {res:AV} {H':List (List AV)}
  (h:bodyX rc c rs args H=some (res,H')):aD call c rs args H res H':=by
 refine je hrc c h fun e n σ h=>?_
 cases e with
 | e i=>cases h
 | n=>exact ii h fun l h=>by match l,h with | [v],h=>exact dQ h | [],h=>exact dQ h | _::_::_,h=>exact dQ h
 | r=>exact ii h fun l h=>by match l,h with | [v],h=>exact dQ h | [],h=>exact dQ h | _::_::_,h=>exact dQ h
def TabOK (P:Program) (W0:World) (T:FuncId→Option Fn):Prop:=∀ f F,T f=some F→∃ fn c,∃ an:Ann,(∀ g cells,an.gl g=some cells→dU W0 g cells)∧P.funcs[f]? = some fn∧fn.body=some c∧cg P f=true∧eJ P an fn.ntmps c=some F.ac∧rsC P fn.results.toList=some F.rs∧fn.ntmps=F.nt
theorem runX_s {P:Program} {W0:World} {T:FuncId→Option Fn} {lib:FuncId→List AV→List (List AV)→Option (AV × List (List AV))} (hm:P.follows .mixedOrders=true) (hT:TabOK P W0 T) (hlib:∀ f args H res H',lib f args H=some (res,H')→Ctr P W0 f args H res H') :
  ∀ (k:Nat) (f:FuncId) (args:List AV) (H:List (List AV)) (res:AV) (H':List (List AV)),runX T lib k f args H=some (res,H')→Ctr P W0 f args H res H'
 | 0,_,_,_,_,_,h=>by cases h
 | k + 1, f, args, H, res, H', h => by
   simp only [runX] at h
   split at h
   ·rename_i res' hr
    cases h
    exact hlib _ _ _ _ _ hr
   ·split at h
    ·cases h
    ·rename_i F hF
     obtain ⟨h1,h2⟩:=bH h
     rw [Bool.and_eq_true] at h1
     have h1:=h1.1
     simp only [Bool.and_eq_true] at h1
     obtain ⟨fn,c,an,a0,a1,a2,a3,a4,a5,a6⟩:=hT f F hF
     exact ctr_of hm a0 (fun f args H res H' h=>runX_s hm hT hlib k f args H res H' h) a1 a2 a3 a4 a5 (by rw [a6];exact h1.1) h1.2 (bodyX_s (fun _ _ _ _ _ h=>h) h2)
end Go.Abs
namespace Go.Abs
open Go
def aI (P:Program) (an:FuncId→Ann) (f:FuncId):Option Fn:=match P.funcs[f]? with
 | some fn => (match fn.body with
   | some c => (match cg P f with
     | true => (match eJ P (an f) fn.ntmps c, rsC P fn.results.toList with
       | some ac,some rs=>some { ac:=ac,rs:=rs,nt:=fn.ntmps,tk:=(an f).tk }
       | _,_=>none)
     | false=>none)
   | none=>none)
 | none=>none
def an0:Ann:={ opn:=[],gl:=fun _=>none,frz:=fun _=>[] }
theorem ne {P:Program} {W0:World} {an:FuncId→Ann} (h:∀ f g cells,(an f).gl g=some cells→dU W0 g cells):TabOK P W0 (aI P an):=by
 intro f F hF
 unfold aI at hF
 split at hF
 ·rename_i fn hfn
  split at hF
  ·rename_i c hc
   split at hF
   ·rename_i hcal
    split at hF
    ·rename_i ac rs hac hrs
     cases hF
     exact ⟨fn,c,an f,h f,hfn,hc,hcal,hac,hrs,rfl⟩
    ·cases hF
   ·cases hF
  ·cases hF
 ·cases hF
end Go.Abs
