/- Texts cut at a byte, and numerals: plain laws. -/
import Derived.Lib.SplitLaws
import Derived.Lib.AtoiAll
import Derived.Lib.ItoaNum
import Derived.Test.YteihidcjmfckeaaGreatDoorMe
import Derived.Test.YteihidcjmfckeaaGreatDoorSh
import Derived.Lib.AtoiErrMem
import Derived.WalkKit
import Derived.Deep.DeepFit
import Derived.Test.YteihidcjmfckeaaGreatDoorMa
set_option linter.all false
set_option maxRecDepth 1000000
set_option maxHeartbeats 16000000
namespace Go.Abs
open Go
def spl (c:UInt8):List UInt8→List (List UInt8)
 | []=>[[]]
 | b :: r => match decide (b = c) with
   | true=>[]::spl c r
   | false=>(match spl c r with | []=>[[b]] | x::l=>(b::x)::l)
theorem gA (c:UInt8):∀ s,spl c s≠[]
 | []=>by simp [spl]
 | b :: r => by
   unfold spl
   split
   ·simp
   ·split<;>simp
theorem cz (c:UInt8) (r:List UInt8):spl c (c::r)=[]::spl c r:=by simp [spl]
theorem bN {b c:UInt8} (h:b≠c) (r x:List UInt8) (l:List (List UInt8)) (hr:spl c r=x::l):spl c (b::r)=(b::x)::l:=by simp [spl,h,hr]
theorem index_ne {b c:UInt8} (h:b≠c) (l:List UInt8):Lib.index (b::l) [c]=if Lib.index l [c] == -1 then -1 else Lib.index l [c]+1:=by
 have hp:([c]:List UInt8).isPrefixOf (b::l)=false:=by simp [List.isPrefixOf,Ne.symm h]
 rw [Lib.index,hp];simp
theorem index_eq (c:UInt8) (l:List UInt8):Lib.index (c::l) [c]=0:=by rw [Lib.index];simp [List.isPrefixOf]
theorem iO (c:UInt8):∀ s:List UInt8,Lib.splitK [c] 0 (s.count c) s=spl c s
 | []=>by simp [Lib.splitK,spl]
 | b :: r => by
   by_cases h:b=c
   ·subst h
    rw [List.count_cons_self,Lib.splitK,index_eq]
    simp only [cz]
    rw [← iO b r]
    simp
   ·rw [List.count_cons_of_ne (by simpa using h)]
    have ih:=iO c r
    cases hk:r.count c with
    | zero =>
      rw [hk] at ih
      simp only [Lib.splitK] at ih ⊢
      rw [bN h r r [] ih.symm]
    | succ k =>
      rw [hk] at ih
      rw [Lib.splitK] at ih ⊢
      rw [index_ne h]
      by_cases hm:Lib.index r [c]=-1
      ·simp only [hm,beq_self_eq_true,if_true] at ih ⊢
       rw [bN h r r [] ih.symm]
      ·have hge:=Lib.index_ge r [c]
       have hb:(Lib.index r [c] == -1)=false:=by simpa using hm
       have hb2:(Lib.index r [c]+1 == -1)=false:=by simp;omega
       simp only [hb,hb2,Bool.false_eq_true,if_false] at ih ⊢
       rw [bN h r _ _ ih.symm]
       have e:(Lib.index r [c]+1).toNat=(Lib.index r [c]).toNat+1:=by omega
       simp [e,List.take_succ_cons,Nat.add_right_comm]
theorem split_spl (c:UInt8) (s:List UInt8):Lib.split s [c]=spl c s:=by
 unfold Lib.split
 rw [Lib.count_one,iO]
theorem cut_nil (c:UInt8):Lib.cut [] [c]=([],[],false):=by simp [Lib.cut,Lib.index]
theorem cut_eq (c:UInt8) (r:List UInt8):Lib.cut (c::r) [c]=([],r,true):=by simp [Lib.cut,index_eq]
theorem cut_ne {b c:UInt8} (h:b≠c) (r:List UInt8):Lib.cut (b::r) [c]=(b::(Lib.cut r [c]).1,(Lib.cut r [c]).2.1,(Lib.cut r [c]).2.2):=by
 unfold Lib.cut
 rw [index_ne h]
 have hge:=Lib.index_ge r [c]
 by_cases hm:Lib.index r [c]=-1
 ·simp [hm]
 ·have hb:(Lib.index r [c] == -1)=false:=by simpa using hm
  have h0:0≤Lib.index r [c]:=by omega
  have h1:0≤Lib.index r [c]+1:=by omega
  have e:(Lib.index r [c]+1).toNat=(Lib.index r [c]).toNat+1:=by omega
  simp [hb,h0,h1,e,Nat.add_right_comm]
theorem spl_cut (c:UInt8):∀ s:List UInt8,spl c s=match (Lib.cut s [c]).2.2 with
  | true=>(Lib.cut s [c]).1::spl c (Lib.cut s [c]).2.1
  | false=>[(Lib.cut s [c]).1]
 | []=>by simp [cut_nil,spl]
 | b :: r => by
   by_cases h:b=c
   ·subst h;simp [cut_eq,cz]
   ·rw [cut_ne h]
    have ih:=spl_cut c r
    cases hf:(Lib.cut r [c]).2.2 with
    | true=>rw [hf] at ih;simp only at ih ⊢;exact bN h _ _ _ ih
    | false=>rw [hf] at ih;simp only at ih ⊢;exact bN h _ _ _ ih
theorem oP (c:UInt8):∀ {s:List UInt8},(Lib.cut s [c]).2.2=false→(Lib.cut s [c]).1=s∧(Lib.cut s [c]).2.1=[]
 | [],_=>by simp [cut_nil]
 | b :: r, hf => by
   by_cases h:b=c
   ·subst h;simp [cut_eq] at hf
   ·rw [cut_ne h] at hf ⊢
    obtain ⟨h1,h2⟩:=oP c (s:=r) hf
    exact ⟨by simp [h1],h2⟩
theorem fI (c:UInt8):∀ s:List UInt8,(spl c s).length=s.count c+1
 | []=>by simp [spl]
 | b :: r => by
   by_cases h:b=c
   ·subst h;simp [cz,fI b r]
   ·have ih:=fI c r
    cases hx:spl c r with
    | nil=>exact absurd hx (gA c r)
    | cons x l =>
      rw [hx] at ih
      rw [bN h r x l hx,List.count_cons_of_ne (by simpa using h)]
      simpa using ih
theorem spl_one (c:UInt8) {s:List UInt8} (h:(spl c s).length=1):spl c s=[s]:=by
 have h1:=spl_cut c s
 cases hf:(Lib.cut s [c]).2.2 with
 | true =>
   rw [hf] at h1
   simp only at h1
   rw [h1] at h
   have:=List.length_pos_iff.2 (gA c (Lib.cut s [c]).2.1)
   simp only [List.length_cons] at h
   omega
 | false =>
   rw [hf] at h1
   simp only at h1
   rw [h1,(oP c hf).1]
theorem spl_one_mem (c:UInt8) {s:List UInt8} (h:(spl c s).length=1):c ∉ s:=by
 rw [fI] at h
 intro hc
 have:=List.count_pos_iff.2 hc
 omega
theorem spl_notin (c:UInt8) {s:List UInt8} (h:c ∉ s):spl c s=[s]:=by
 refine spl_one c ?_
 rw [fI,List.count_eq_zero_of_not_mem h]
end Go.Abs
namespace Go.Abs
open Go
def bm (b:UInt8):Bool:=decide (48≤b.toNat)&&decide (b.toNat≤57)
theorem dec_dig (u:Nat):(Lib.decDigits u).all bm=true:=by
 induction u using Nat.strongRecOn with
 | _ u ih =>
   rw [Lib.decDigits]
   split
   ·rename_i h
    have e:(UInt8.ofNat (48+u)).toNat=48+u:=by rw [UInt8.toNat_ofNat'];omega
    simp only [List.all_cons,List.all_nil,Bool.and_true,bm,e]
    simp;omega
   ·rename_i h
    have e:(UInt8.ofNat (48+u % 10)).toNat=48+u % 10:=by rw [UInt8.toNat_ofNat'];omega
    rw [List.all_append,ih (u / 10) (by omega)]
    simp only [List.all_cons,List.all_nil,Bool.and_true,bm,e,Bool.true_and]
    simp;omega
theorem dec_ne (u:Nat):Lib.decDigits u≠[]:=by
 rw [Lib.decDigits]
 split<;>simp
def atoiN (s:List UInt8):Int:=match Lib.atoiAll s with | .ok v=>v | .range=>Lib.atoiSat s | _=>0
end Go.Abs
namespace Go.Abs
open Go
def dv (a:Nat) (l:List UInt8):Nat:=l.foldl (fun a c=>a * 10+(c.toNat - 48)) a
theorem m4 (a:Nat):dv a []=a:=by unfold dv;rw [List.foldl_nil]
theorem iq (a:Nat) (c:UInt8) (r:List UInt8):dv a (c::r)=dv (a * 10+(c.toNat - 48)) r:=by unfold dv;rw [List.foldl_cons]
theorem dv_snoc (l:List UInt8) (a:Nat) (c:UInt8):dv a (l++[c])=dv a l * 10+(c.toNat - 48):=by unfold dv;rw [List.foldl_append,List.foldl_cons,List.foldl_nil]
theorem dv_ge:∀ (l:List UInt8) (a:Nat),a * 10 ^ l.length≤dv a l
 | [],a=>by simp [m4]
 | c :: r, a => by
   have:=dv_ge r (a * 10+(c.toNat - 48))
   have e:a * 10 ^ (c::r).length=a * 10 * 10 ^ r.length:=by rw [List.length_cons,Nat.pow_succ,Nat.mul_assoc,Nat.mul_comm 10]
   rw [e,iq]
   exact Nat.le_trans (Nat.mul_le_mul_right _ (Nat.le_add_right _ _)) this
theorem dv_le (l:List UInt8) (a:Nat):a≤dv a l:=Nat.le_trans (Nat.le_mul_of_pos_right a (Nat.pow_pos (by omega))) (dv_ge l a)
theorem l9:∀ (l:List UInt8) (a:Nat),l.all bm=true→dv a l<18446744073709551616→Lib.parseUint10 a l=.ok (dv a l)
 | [],_,_,_=>by rw [m4,Lib.parseUint10]
 | c :: r, a, hd, h => by
   simp only [List.all_cons,Bool.and_eq_true,bm,decide_eq_true_eq] at hd
   have h1:=dv_le r (a * 10+(c.toNat - 48))
   rw [iq] at h ⊢
   rw [Lib.parseUint10,if_pos hd.1,if_neg (by omega),if_neg (by omega)]
   exact l9 r _ (by simpa [bm] using hd.2) h
theorem j7:∀ (l:List UInt8) (a u:Nat),Lib.parseUint10 a l=.ok u→l.all bm=true∧u=dv a l
 | [], a, u, h => by
   simp only [Lib.parseUint10] at h
   injection h with h
   exact ⟨rfl,by rw [m4];exact h.symm⟩
 | c :: r, a, u, h => by
   rw [Lib.parseUint10] at h
   split at h
   ·rename_i hc
    split at h
    ·cases h
    ·split at h
     ·cases h
     ·obtain ⟨h1,h2⟩:=j7 r _ _ h
      refine ⟨?_,by rw [iq];exact h2⟩
      simp only [List.all_cons,Bool.and_eq_true]
      exact ⟨by simpa [bm] using hc,h1⟩
   ·cases h
def Canon (l:List UInt8):Prop:=l≠[]∧l.all bm=true∧(l.head? = some 48→l.length=1)
theorem dec_head (u:Nat) (h:0<u):(Lib.decDigits u).head?≠some 48:=by
 induction u using Nat.strongRecOn with
 | _ u ih =>
   rw [Lib.decDigits]
   split
   ·rename_i hu
    have e:(UInt8.ofNat (48+u)).toNat=48+u:=by rw [UInt8.toNat_ofNat'];omega
    simp only [List.head?_cons,ne_eq,Option.some.injEq]
    intro hh
    rw [hh] at e
    have:(48:UInt8).toNat=48:=rfl
    omega
   ·rename_i hu
    have:=ih (u / 10) (by omega) (by omega)
    rw [List.head?_append]
    have hne:=dec_ne (u / 10)
    cases hx:(Lib.decDigits (u / 10)).head? with
    | none=>exact absurd (List.head?_eq_none_iff.1 hx) hne
    | some x=>rw [hx] at this;simpa using this
theorem oO (u:Nat):Canon (Lib.decDigits u):=by
 refine ⟨dec_ne u,dec_dig u,fun h=>?_⟩
 cases u with
 | zero=>rw [Lib.decDigits];simp
 | succ u=>exact absurd h (dec_head _ (by omega))
theorem byte_of {c:UInt8} (h:bm c=true):UInt8.ofNat (48+(c.toNat - 48))=c:=by
 simp only [bm,Bool.and_eq_true,decide_eq_true_eq] at h
 have:48+(c.toNat - 48)=c.toNat:=by omega
 rw [this];exact UInt8.ofNat_toNat
theorem dv_pos {l:List UInt8} (hd:l.all bm=true) (h:l≠[]) (h0:l.head?≠some 48):0<dv 0 l:=by
 cases l with
 | nil=>exact absurd rfl h
 | cons c r =>
   have hc:bm c=true:=by simp only [List.all_cons,Bool.and_eq_true] at hd;exact hd.1
   simp only [bm,Bool.and_eq_true,decide_eq_true_eq] at hc
   have hne:c.toNat≠48:=fun e=>h0 (by
    have:c=48:=UInt8.toNat_inj.1 (by rw [e];rfl)
    rw [this];rfl)
   have:=dv_le r (0 * 10+(c.toNat - 48))
   rw [iq]
   omega
theorem dv_dec:∀ (n:Nat) (l:List UInt8),l.length=n→Canon l→Lib.decDigits (dv 0 l)=l
 | 0,l,hn,h=>absurd (List.length_eq_zero_iff.1 hn) h.1
 | n + 1, l, hn, ⟨h1, h2, h3⟩ => by
   obtain ⟨l',c,rfl⟩:∃ l' c,l=l'++[c]:=⟨l.dropLast,l.getLast h1,(List.dropLast_concat_getLast h1).symm⟩
   simp only [List.length_append,List.length_cons,List.length_nil] at hn
   simp only [List.all_append,Bool.and_eq_true,List.all_cons,List.all_nil,Bool.and_true] at h2
   have hc:=h2.2
   simp only [bm,Bool.and_eq_true,decide_eq_true_eq] at hc
   rw [dv_snoc]
   by_cases hl:l'=[]
   ·subst hl
    simp only [m4,Nat.zero_mul,Nat.zero_add,List.nil_append]
    rw [Lib.decDigits,dif_pos (by omega),byte_of h2.2]
   ·have hh:(l'++[c]).head? = l'.head?:=by
     cases l' with
     | nil=>exact absurd rfl hl
     | cons a r=>rfl
    have h0:l'.head?≠some 48:=fun e=>by
     have:=h3 (hh.trans e)
     simp only [List.length_append,List.length_cons,List.length_nil] at this
     exact hl (List.length_eq_zero_iff.1 (by omega))
    have hp:=dv_pos h2.1 hl h0
    have ih:=dv_dec n l' (by omega) ⟨hl,h2.1,fun e=>absurd e h0⟩
    rw [Lib.decDigits,dif_neg (by omega)]
    have e1:(dv 0 l' * 10+(c.toNat - 48)) / 10=dv 0 l':=by omega
    have e2:(dv 0 l' * 10+(c.toNat - 48)) % 10=c.toNat - 48:=by omega
    rw [e1,e2,ih,byte_of h2.2]
theorem oS {l:List UInt8} (h:Canon l) (hv:dv 0 l<10000000000000000000):l.length≤19:=by
 obtain ⟨h1,h2,h3⟩:=h
 cases l with
 | nil=>exact absurd rfl h1
 | cons c r =>
   by_cases hc:c=48
   ·subst hc
    have:=h3 rfl
    omega
   ·have hd:bm c=true:=by simp only [List.all_cons,Bool.and_eq_true] at h2;exact h2.1
    simp only [bm,Bool.and_eq_true,decide_eq_true_eq] at hd
    have hne:c.toNat≠48:=fun e=>hc (UInt8.toNat_inj.1 (by rw [e];rfl))
    have hg:(0 * 10+(c.toNat - 48)) * 10 ^ r.length≤dv 0 (c::r):=by rw [iq];exact dv_ge r _
    have hg2:10 ^ r.length≤dv 0 (c::r):=Nat.le_trans (Nat.le_mul_of_pos_left _ (by omega)) hg
    apply Nat.le_of_not_lt
    intro hlt
    have hl:19≤r.length:=by simp only [List.length_cons] at hlt;omega
    have:=Nat.pow_le_pow_right (n:=10) (by omega) hl
    have e:(10:Nat) ^ 19=10000000000000000000:=by decide
    omega
def intP (s:List UInt8):Bool:=match Lib.atoiAll s with
 | .ok v=>decide (Lib.itoa v=s)
 | _=>false
def bj (s:List UInt8):List UInt8:=match s with
 | c::r=>if c=45 then r else c::r
 | []=>[]
def bL (s:List UInt8):Bool:=match s with
 | c::_=>decide (c=45)
 | []=>false
def aq (s:List UInt8):Bool:=
 decide (1≤(bj s).length)&&(decide ((bj s).length≤19)&&(!(decide ((bj s).head? = some 48)&&(decide (1<(bj s).length)||bL s))&&((bj s).all bm &&
  (match bL s with
   | true=>decide (dv 0 (bj s)≤9223372036854775808)
   | false=>decide (dv 0 (bj s)<9223372036854775808)))))
def jG (s:List UInt8):Int:=match bL s with
 | true=>-(dv 0 (bj s):Int)
 | false=>(dv 0 (bj s):Int)
theorem int_of_atoi {s:List UInt8} {v:Int} (h:Lib.atoiAll s=.ok v) (hi:Lib.itoa v=s):aq s=true∧v=jG s:=by
 cases s with
 | nil=>simp [Lib.atoiAll] at h
 | cons c r =>
   by_cases hm:c=45
   ·subst hm
    have e45:(45:UInt8).toNat=45:=rfl
    simp only [Lib.atoiAll,e45,or_true,if_true,not_true,false_and,if_false,true_and] at h
    unfold Lib.parseMag at h
    split at h<;>first | cases h | skip
    rename_i u hu
    split at hu<;>first | cases hu | skip
    rename_i hr
    obtain ⟨p1,p2⟩:=j7 _ _ _ hu
    split at h<;>first | cases h | skip
    rename_i hle
    have hr0:Lib.itoa (-(u:Int))=45::r:=hi
    have hpos:0<u:=by
     rcases Nat.eq_zero_or_pos u with h0 | h0
     ·subst h0
      simp only [Lib.itoa] at hr0
      rw [if_neg (by omega)] at hr0
      have:(Lib.decDigits (Int.toNat (-((0:Nat):Int)))).all bm=true:=dec_dig _
      rw [hr0] at this
      simp [bm] at this
     ·exact h0
    unfold Lib.itoa at hr0
    rw [if_pos (by omega)] at hr0
    have hr1:Lib.decDigits u=r:=by
     have:(-(u:Int)).natAbs=u:=by omega
     rw [this] at hr0
     exact (List.cons.inj hr0).2
    have hcan:=oO u
    rw [hr1] at hcan
    have hdv:dv 0 r=u:=p2.symm
    have hlen:=oS hcan (by omega)
    have hh:=dec_head u hpos
    rw [hr1] at hh
    refine ⟨?_,?_⟩
    ·simp only [aq,bj,bL,if_true,decide_true,Bool.or_true,Bool.and_true,Bool.and_eq_true,Bool.not_eq_true',decide_eq_true_eq,decide_eq_false_iff_not]
     refine ⟨?_,hlen,hh,hcan.2.1,by omega⟩
     cases r with
     | nil=>exact absurd rfl hr
     | cons=>simp
    ·simp only [jG,bj,bL,if_true,decide_true,hdv]
   ·have hm':¬ c.toNat=45:=fun e=>hm (UInt8.toNat_inj.1 (by rw [e];rfl))
    simp only [Lib.atoiAll,hm',or_false,not_false_eq_true,true_and,false_and,if_false] at h
    have hv0:¬ v<0:=by
     intro hv
     unfold Lib.itoa at hi
     rw [if_pos hv] at hi
     exact hm (List.cons.inj hi).1.symm
    have hi':Lib.decDigits v.toNat=c::r:=by
     unfold Lib.itoa at hi
     rwa [if_neg hv0] at hi
    have hcan:=oO v.toNat
    rw [hi'] at hcan
    have hdc:bm c=true:=by have:=hcan.2.1;simp only [List.all_cons,Bool.and_eq_true] at this;exact this.1
    have h43:¬ c.toNat=43:=by simp only [bm,Bool.and_eq_true,decide_eq_true_eq] at hdc;omega
    simp only [h43,if_false,Lib.parseMag,reduceCtorEq] at h
    split at h<;>first | cases h | skip
    rename_i u hu
    obtain ⟨p1,p2⟩:=j7 _ _ _ hu
    split at h<;>first | cases h | skip
    rename_i hle
    have hu':u=dv 0 (c::r):=p2
    have hlen:=oS hcan (by omega)
    refine ⟨?_,?_⟩
    ·simp only [aq,bj,bL,hm,if_false,decide_false,Bool.or_false,Bool.and_eq_true,Bool.not_eq_true',decide_eq_true_eq,Bool.and_eq_false_iff,decide_eq_false_iff_not]
     refine ⟨by simp,hlen,?_,hcan.2.1,by omega⟩
     by_cases h0:(c::r).head? = some 48
     ·right
      have:=hcan.2.2 h0
      omega
     ·exact .inl h0
    ·simp only [jG,bj,bL,hm,if_false,decide_false]
     omega
theorem k7 {s:List UInt8} (h:aq s=true):Lib.atoiAll s=.ok (jG s)∧Lib.itoa (jG s)=s:=by
 cases s with
 | nil=>simp [aq,bj] at h
 | cons c r =>
   by_cases hm:c=45
   ·subst hm
    simp only [aq,bj,bL,if_true,decide_true,Bool.or_true,Bool.and_true,Bool.and_eq_true,Bool.not_eq_true',decide_eq_true_eq,decide_eq_false_iff_not] at h
    obtain ⟨h1,h2,h3,h4,h5⟩:=h
    have hne:r≠[]:=by rintro rfl;simp at h1
    have hcan:Canon r:=⟨hne,h4,fun e=>absurd e h3⟩
    have hp:=dv_pos h4 hne h3
    have e45:(45:UInt8).toNat=45:=rfl
    refine ⟨?_,?_⟩
    ·simp only [Lib.atoiAll,e45,or_true,if_true,not_true,false_and,if_false,true_and,Lib.parseMag,if_neg hne]
     rw [l9 r 0 h4 (by omega)]
     simp only [jG,bj,bL,if_true,decide_true]
     rw [if_neg (by omega)]
    ·simp only [jG,bj,bL,if_true,decide_true]
     unfold Lib.itoa
     rw [if_pos (by omega)]
     have:(-(dv 0 r:Int)).natAbs=dv 0 r:=by omega
     rw [this,dv_dec _ r rfl hcan]
   ·have hm':¬ c.toNat=45:=fun e=>hm (UInt8.toNat_inj.1 (by rw [e];rfl))
    simp only [aq,bj,bL,hm,if_false,decide_false,Bool.or_false,Bool.and_eq_true,Bool.not_eq_true',decide_eq_true_eq,Bool.and_eq_false_iff,decide_eq_false_iff_not] at h
    obtain ⟨h1,h2,h3,h4,h5⟩:=h
    have hcan:Canon (c::r):=⟨by simp,h4,fun e=>by rcases h3 with h3 | h3;exact absurd e h3;simp at h3 ⊢;omega⟩
    have hdc:bm c=true:=by simp only [List.all_cons,Bool.and_eq_true] at h4;exact h4.1
    have h43:¬ c.toNat=43:=by simp only [bm,Bool.and_eq_true,decide_eq_true_eq] at hdc;omega
    refine ⟨?_,?_⟩
    ·simp only [Lib.atoiAll,hm',h43,or_false,not_false_eq_true,true_and,false_and,if_false,Lib.parseMag,reduceCtorEq]
     rw [l9 (c::r) 0 h4 (by omega)]
     simp only [jG,bj,bL,hm,if_false,decide_false]
     rw [if_neg (by omega)]
    ·simp only [jG,bj,bL,hm,if_false,decide_false]
     unfold Lib.itoa
     rw [if_neg (by omega)]
     have:((dv 0 (c::r):Int)).toNat=dv 0 (c::r):=by omega
     rw [this,dv_dec _ (c::r) rfl hcan]
theorem gN (s:List UInt8):intP s=aq s:=by
 cases h:aq s with
 | true =>
   obtain ⟨h1,h2⟩:=k7 h
   simp [intP,h1,h2]
 | false =>
   unfold intP
   split
   ·rename_i v hv
    by_cases hi:Lib.itoa v=s
    ·rw [(int_of_atoi hv hi).1] at h;cases h
    ·simp [hi]
   ·rfl
theorem int_val {s:List UInt8} (h:intP s=true):atoiN s=jG s:=by
 rw [gN] at h
 simp [atoiN,(k7 h).1]
end Go.Abs
namespace Go.Proofs
open Go.RowKit Go
def ErrV (w:World) (g:Nat):Prop:=∃ ev,w.cell? ⟨g,0,none⟩=some ev∧(ev=.nilIface∨∃ te pe,ev=.iface te pe)
theorem ga {w w1:World} {t:Nat} (h:w1=w∨∃ k,w1=Lib.bytesWorld w t k):Below w.heap.size w w1:=by
 rcases h with rfl | ⟨k,rfl⟩
 ·exact Below.refl _ _
 ·exact Lib.bytesWorld_below _ _ _
theorem tab_below {P:Program} {w w1:World} {n:String} {k:IntKind} {zs:List Int} (hb:Below w.heap.size w w1) (h:Lib.TabIs P w n k zs):Lib.TabIs P w1 n k zs:=by
 unfold Lib.TabIs at h ⊢
 unfold World.var? at h ⊢
 cases hg:P.globalNamed n with
 | none=>rw [hg] at h;cases h
 | some g =>
   rw [hg] at h
   simp only [Option.bind_some] at h ⊢
   by_cases hlt:g<w.heap.size
   ·rw [hb.block g hlt];exact h
   ·rw [Array.getElem?_eq_none (by omega)] at h;cases h
theorem byteList (s:ByteArray):s.toList=s.data.toList:=ByteArray.toList_eq s
theorem Tryz.number49_call (s:ByteArray) (hlim:s.size≤281474976710656) (w:World) (htab:Lib.TabIs Tryz.prog w "internal/strconv.uint64pow10" .u64 Lib.pow10Tab) (h2:ErrV w 1) (h3:ErrV w 2) :
  Calls Tryz.prog 49 #[.string s] w fun e w'=>e=.returned (.tuple #[.int .i64 (Abs.atoiN s.data.toList),.bool (Abs.intP s.data.toList)])∧Below w.heap.size w w':=by
 cases hA:Lib.atoiAll s.data.toList
 ·rename_i v
  have cA:=Tryz.strconv_Atoi_ok s (by omega) v hA w
  have hv:=Lib.atoiAll_bounds hA
  rw [show Abs.atoiN s.data.toList=v by simp only [Abs.atoiN,hA],show Abs.intP s.data.toList=decide (Lib.itoa v=s.data.toList) by simp only [Abs.intP,hA]]
  go_enter Tryz.func49,Tryz.ntmps49
  go_wp2_with (first
   | (go_at_call 97;go_fit cA;rintro e w1 ⟨rfl,hw⟩)
   | (go_at_call 98;refine (Tryz.strconv_Itoa v hv.1 hv.2 _ (tab_below (ga (by assumption)) htab)).mono ?_;rintro e w2 ⟨rfl,k,os,rfl⟩))
  go_ret2
  rw [byteList]
  refine ⟨by rw [show (Lib.itoa v == s.data.toList)=decide (Lib.itoa v=s.data.toList) from by rw [Bool.eq_iff_iff];simp];rfl,?_⟩
  exact (ga hw).trans ⟨rfl,rfl,rfl,by simp [Go.Sort.grow],fun b hb'=>by
   have hb'':b<(w1.drewN k).heap.size:=Nat.lt_of_lt_of_le hb' (ga hw).size
   show ((w1.drewN k).heap++os)[b]? = _
   rw [Array.getElem?_append_left hb''];rfl⟩
 ·obtain ⟨ev,h2,hev⟩:=h2
  have cA:=Tryz.strconv_Atoi_syntax s hlim hA ev w h2 hev
  simp only [Abs.intP,Abs.atoiN,hA]
  go_enter Tryz.func49,Tryz.ntmps49
  go_wp2_with (go_at_call 97;go_fit cA;rintro e w1 ⟨N,rfl,hN0,hN,hb⟩)
  go_ret2
  exact ⟨rfl,hb⟩
 ·obtain ⟨ev,h3,hev⟩:=h3
  have cA:=Tryz.strconv_Atoi_range s hlim hA ev w h3 hev
  simp only [Abs.intP,Abs.atoiN,hA]
  go_enter Tryz.func49,Tryz.ntmps49
  go_wp2_with (go_at_call 97;go_fit cA;rintro e w1 ⟨N,rfl,hN0,hN,hb⟩)
  go_ret2
  exact ⟨rfl,hb⟩
end Go.Proofs
namespace Go.Abs
open Go.Proofs Go.RowKit
theorem errV_of {W0:World} {κ:Gh} {σ:Log} {a:Act} {w:World} (hs:RepS W0 κ σ a w) {g:Nat} (h:ErrV W0 g):ErrV w g:=by
 obtain ⟨ev,h1,h2⟩:=h
 refine ⟨ev,?_,h2⟩
 have hlt:g<W0.heap.size:=by
  cases h:W0.heap[g]? with
  | none=>simp [Go.World.cell?,h] at h1
  | some x=>exact (Array.getElem?_eq_some_iff.1 h).1
 rw [hs.oldcell hlt];exact h1
theorem cs49 (W0:Go.World) (hpow:Go.Lib.TabIs Tryz.prog W0 "internal/strconv.uint64pow10" .u64 Go.Lib.pow10Tab) (h2:ErrV W0 1) (h3:ErrV W0 2) (s:List UInt8) (hl:s.length≤281474976710656) :
  Ctr Tryz.prog W0 49 [.sc (.s s)] [] (.tup [.sc (.i .i64 (atoiN s)),.sc (.b (intP s))]) []:=by
 refine ef (by kernel_rfl) rfl fun κ w vals hsz hs=>?_
 have h0:=(hs.arg (n:=0) rfl).sc_inv
 rw [lM hsz,h0]
 refine (Tryz.number49_call ⟨s.toArray⟩ (by simpa [ByteArray.size] using hl) w (hs.tab hpow) (errV_of hs h2) (errV_of hs h3)).mono ?_
 rintro e w' ⟨rfl,hb⟩
 refine ⟨_,rfl,hb,.tup _ _ rfl fun j v hj=>?_⟩
 match j,hj with
 | 0,hj=>simp at hj;subst hj;exact .sc (.i .i64 (atoiN s))
 | 1,hj=>simp at hj;subst hj;exact .sc (.b (intP s))
 | j+2,hj=>simp at hj
end Go.Abs
namespace Go.Abs
open Go.Proofs
theorem ab {call:aX} {ops:List GOp} {y:AC} {nx m:Nat} {σ:Log} {Q:Ex→Nat→Log→Prop} (hm:nx+100 * ops.length=m) (h:∀ K:Log→Prop,(∀ σ',awp call y m σ' Q→K σ')→p8 call ops nx σ K):awp call (.seq (.reg ops) y) nx σ Q:=by
 subst hm
 exact h (fun σ'=>awp call y (nx+100 * ops.length) σ' Q) (fun _ h=>h)
theorem ah {call:aX} {a b y:AC} {nx:Nat} {σ:Log} {Q:Ex→Nat→Log→Prop} (h:awp call (.seq a (.seq b y)) nx σ Q):awp call (.seq (.seq a b) y) nx σ Q:=by
 have e:awp call (.seq a (.seq b y)) nx σ Q=awp call (.seq (.seq a b) y) nx σ Q:=by
  show awp call a nx σ _=awp call a nx σ _
  congr 1
 exact e ▸ h
theorem al {call:aX} {x:Opd} {t e y:AC} {nx:Nat} {σ:Log} {Q:Ex→Nat→Log→Prop} (v:Bool) (hx:ev σ x=.sc (.b v)) (hf:v=false→awp call (.seq e y) nx (nM x false σ) Q) (ht:v=true→awp call (.seq t y) nx (nM x true σ) Q):awp call (.seq (.cond x t e) y) nx σ Q:=by
 have h:(match ev σ x with
  | .sc (.b v)=>@Bool.rec (fun _=>Prop) (awp call (.seq e y) nx (nM x false σ) Q) (awp call (.seq t y) nx (nM x true σ) Q) v
  | _=>False):=by
  rw [hx];cases v
  ·exact hf rfl
  ·exact ht rfl
 exact h
theorem aw {call:aX} {y:AC} {nx:Nat} {σ:Log} {Q:Ex→Nat→Log→Prop} (h:awp call y nx σ Q):awp call (.seq .skip y) nx σ Q:=h
theorem fh {call:aX} {i:Nat} {c y:AC} {nx:Nat} {σ:Log} {Q:Ex→Nat→Log→Prop} (h:∀ Q':Ex→Nat→Log→Prop,(∀ n σ',awp call y n σ' Q→Q' (.e i) n σ')→(∀ n σ',Q .r n σ'→Q' .r n σ')→LoopP (fun n σ Q=>awp call c n σ Q) Q' nx σ):awp call (.seq (.block i (.loop c)) y) nx σ Q:=by
 refine h _ ?_ ?_
 ·intro n σ' hq
  show (match (match Nat.beq i i with | true=>_ | false=>_:Prop) with | p=>p)
  simp only [Nat.beq_refl]
  exact hq
 ·intro n σ' hq
  exact hq
theorem gB {call:aX} {ops:List GOp} {pre:List Nat} {y:AC} {nx m:Nat} {σ:Log} {Q:Ex→Nat→Log→Prop} (hm:nx+100 * ops.length=m) (h:∀ K:Log→Prop,(∀ σ',awp call y m σ' Q→K σ')→lc call ops pre 0 nx σ [] K):awp call (.seq (.regD ops pre) y) nx σ Q:=by
 subst hm
 exact h (fun σ'=>awp call y (nx+100 * ops.length) σ' Q) (fun _ h=>h)
end Go.Abs
namespace Go.Abs
open Go
def a8:List UInt8:=[100,111,109,97,105,110]
def ca:List UInt8:=[97,114,114,97,121]
def d8:List UInt8:=[105,110,116]
def br:List UInt8:=[97,116,111,109,105,99]
def cx:List UInt8:=[98,111,111,108]
def bq:List UInt8:=[115,105,110,103,108,101]
def ba:List UInt8:=[105,109,97,103,101]
def jl:List UInt8:=[111,117,116]
def cu:List UInt8:=[101,110,100]
def eM:List UInt8:=[116,114,117,101]
def cY:List UInt8:=[102,97,108,115,101]
def eY:List UInt8:=[119,104,111,108,101]
def eZ:List UInt8:=[98,108,111,99,107]
def dw:List UInt8:=[99,121,99,108,105,99]
def dz:List UInt8:=[98,108,111,99,107,115]
def aL (num nm:List UInt8→Bool) (k:List UInt8) (rest:List (List UInt8)):Bool:=
 bif decide (k=a8) then (match rest with
  | []=>false
  | x::r=>(decide (x=eY)||decide (x=eZ)||decide (x=dw)||decide (x=dz))&&(r.all num&&(decide (4≤r.length)&&(decide (r.length≤10)&&decide ((r.length - 1) % 3=0)))))
 else bif decide (k=ca) then (match rest with
  | []=>false
  | x::r=>nm x&&r.all num)
 else (match rest with
  | [x] => bif decide (k = d8) || decide (k = br) then num x
    else bif decide (k=cx) then decide (x=[48])||decide (x=[49])
    else bif decide (k=bq) then num x||decide (x=[45])
    else false
  | _=>false)
def df (num nm:List UInt8→Bool) (s:List UInt8):Bool:=match spl 32 s with
 | k::x::r=>nm x&&aL num nm k r
 | _=>false
def neB (s:List UInt8):Bool:=!decide (s=[])
def ed (num nm:List UInt8→Bool) (s:List UInt8):Bool:=(spl 32 s).all neB&&df num nm s
theorem intP_nil:intP []=false:=rfl
theorem dm {s:List UInt8} (h:intP s=true):neB s=true:=by
 cases s with
 | nil=>rw [intP_nil] at h;cases h
 | cons a r=>rfl
theorem all_ne {l:List (List UInt8)} (h:l.all intP=true):l.all neB=true:=by
 rw [List.all_eq_true] at h ⊢
 exact fun x hx=>dm (h x hx)
theorem kind_ne {nm:List UInt8→Bool} (hn:nm []=false) {k:List UInt8} {r:List (List UInt8)} (h:aL intP nm k r=true):neB k=true∧r.all neB=true:=by
 have nmne:∀ x,nm x=true→neB x=true:=fun x hx=>by
  cases x with
  | nil=>rw [hn] at hx;cases hx
  | cons a r=>rfl
 unfold aL at h
 by_cases h1:k=a8
 ·subst h1
  simp only [decide_true,cond_true] at h
  split at h
  ·cases h
  ·rename_i x r
   simp only [Bool.and_eq_true,Bool.or_eq_true,decide_eq_true_eq] at h
   obtain ⟨hx,hr,_⟩:=h
   refine ⟨rfl,?_⟩
   rw [List.all_cons,all_ne hr,Bool.and_true]
   rcases hx with ((rfl | rfl) | rfl) | rfl<;>rfl
 ·simp only [h1,decide_false,cond_false] at h
  by_cases h2:k=ca
  ·subst h2
   simp only [decide_true,cond_true] at h
   split at h
   ·cases h
   ·rename_i x r
    simp only [Bool.and_eq_true] at h
    refine ⟨rfl,?_⟩
    rw [List.all_cons,nmne _ h.1,all_ne h.2];rfl
  ·simp only [h2,decide_false,cond_false] at h
   split at h
   ·rename_i x
    by_cases h3:k=d8
    ·subst h3
     simp only [decide_true,Bool.true_or,cond_true] at h
     exact ⟨rfl,by simp [dm h]⟩
    by_cases h4:k=br
    ·subst h4
     simp only [decide_true,Bool.or_true,cond_true] at h
     exact ⟨rfl,by simp [dm h]⟩
    by_cases h5:k=cx
    ·subst h5
     simp only [h3,h4,decide_false,Bool.or_false,cond_false,decide_true,cond_true,Bool.or_eq_true,decide_eq_true_eq] at h
     refine ⟨rfl,?_⟩
     rcases h with rfl | rfl<;>rfl
    by_cases h6:k=bq
    ·subst h6
     simp only [h3,h4,h5,decide_false,Bool.or_false,cond_false,decide_true,cond_true,Bool.or_eq_true,decide_eq_true_eq] at h
     refine ⟨rfl,?_⟩
     rcases h with h | rfl
     ·simp [dm h]
     ·rfl
    simp [h3,h4,h5,h6] at h
   ·cases h
theorem ent_eq {nm:List UInt8→Bool} (hn:nm []=false) (s:List UInt8):ed intP nm s=df intP nm s:=by
 unfold ed
 cases h:df intP nm s with
 | false=>simp
 | true =>
   unfold df at h
   split at h
   ·rename_i k x r he
    simp only [Bool.and_eq_true] at h
    obtain ⟨h1,h2⟩:=kind_ne hn h.2
    have h3:neB x=true:=by
     cases x with
     | nil=>rw [hn] at h;cases h.1
     | cons=>rfl
    rw [he,List.all_cons,List.all_cons,h1,h2,h3];rfl
   ·cases h
theorem jF:intP=aq:=funext gN
theorem int_notin {s:List UInt8} {c:UInt8} (hc:bm c=false) (hm:c≠45) (h:intP s=true):c ∉ s:=by
 rw [gN] at h
 have hd:(bj s).all bm=true:=by
  simp only [aq,Bool.and_eq_true] at h
  exact h.2.2.2.1
 intro hx
 cases s with
 | nil=>simp at hx
 | cons a r =>
   unfold bj at hd
   by_cases ha:a=45
   ·simp only [ha,if_true] at hd
    rcases List.mem_cons.1 hx with e | hx
    ·exact hm (e.trans ha)
    ·rw [List.all_eq_true] at hd;rw [hd c hx] at hc;cases hc
   ·simp only [ha,if_false] at hd
    rw [List.all_eq_true] at hd;rw [hd c hx] at hc;cases hc
def cW (s:List UInt8):Option (List UInt8):=if jl++[32] <+: s then some (s.drop 4) else none
def dZ (s:List UInt8):Option (List UInt8):=match spl 32 s with
 | [a,b]=>if a=jl then some b else none
 | _=>none
theorem spl_app (c:UInt8):∀ (a b:List UInt8),c ∉ a→spl c (a++c::b)=a::spl c b
 | [],b,_=>cz c b
 | x :: a, b, h => by
   have hx:x≠c:=fun e=>h (by simp [e])
   exact bN hx _ _ _ (spl_app c a b (fun e=>h (by simp [e])))
theorem spl_two {c:UInt8} {s a b:List UInt8} (h:spl c s=[a,b]):s=a++c::b∧c ∉ b:=by
 induction s generalizing a with
 | nil=>simp [spl] at h
 | cons x r ih =>
   by_cases hx:x=c
   ·subst hx
    rw [cz] at h
    simp only [List.cons.injEq] at h
    obtain ⟨rfl,h⟩:=h
    have h1:(spl x r).length=1:=by rw [h];rfl
    have h2:=spl_one x h1
    rw [h2] at h
    simp only [List.cons.injEq,and_true] at h
    subst h
    exact ⟨rfl,spl_one_mem x h1⟩
   ·obtain ⟨y,l,hy⟩:∃ y l,spl c r=y::l:=by
     cases e:spl c r with
     | nil=>exact absurd e (gA c r)
     | cons y l=>exact ⟨y,l,rfl⟩
    rw [bN hx r y l hy] at h
    simp only [List.cons.injEq] at h
    obtain ⟨rfl,hl⟩:=h
    obtain ⟨g1,g2⟩:=ih (hy.trans (by rw [hl]))
    exact ⟨by rw [g1];rfl,g2⟩
theorem many_eq (s:List UInt8) (f:List UInt8→Bool) (hf:∀ x,f x=true→(32:UInt8) ∉ x) :
  (match cW s with | some x=>f x | none=>false)=(match dZ s with | some x=>f x | none=>false)∧∀ x,cW s=some x→f x=true→dZ s=some x:=by
 have key:∀ x,cW s=some x→f x=true→dZ s=some x:=by
  intro x h hx
  unfold cW at h
  split at h
  ·rename_i hp
   obtain ⟨y,hy⟩:=hp
   have e:s=jl++32::y:=by rw [← hy];simp
   have hxy:x=y:=by
    simp only [Option.some.injEq] at h
    rw [← h,e];rfl
   subst hxy
   unfold dZ
   rw [e,spl_app 32 jl x (by decide),spl_notin 32 (hf x hx)]
   simp
  ·cases h
 refine ⟨?_,key⟩
 cases hP:cW s with
 | some x =>
   cases hx:f x with
   | true=>rw [key x hP hx]
   | false =>
     cases hR:dZ s with
     | none=>exact hx
     | some y =>
       have:y=x:=by
        unfold dZ at hR
        split at hR
        ·rename_i a b he
         split at hR
         ·rename_i ha
          cases hR
          subst ha
          obtain ⟨g1,_⟩:=spl_two he
          unfold cW at hP
          split at hP
          ·simp only [Option.some.injEq] at hP
           rw [← hP,g1];rfl
          ·cases hP
         ·cases hR
        ·cases hR
       rw [this];try simp [hx]
 | none =>
   cases hR:dZ s with
   | none=>rfl
   | some y =>
     exfalso
     unfold dZ at hR
     split at hR
     ·rename_i a b he
      split at hR
      ·rename_i ha
       subst ha
       obtain ⟨g1,_⟩:=spl_two he
       unfold cW at hP
       rw [if_pos ⟨b,by rw [g1];simp⟩] at hP
       cases hP
      ·cases hR
     ·cases hR
end Go.Abs
namespace Go.Abs
open Go
def bz (s:List UInt8):Int:=bif aq s then jG s else 0
theorem oE {s:List UInt8} (h:intP s=true):atoiN s=bz s:=by
 rw [int_val h]
 rw [gN] at h
 simp [bz,h]
def ci (num:List UInt8→Bool) (s:List UInt8):Bool:=num s||(aH s eM||aH s cY)
def di (num:List UInt8→Bool) (s:List UInt8):Bool:=match spl 32 s with
 | [a,x,y,z]=>decide (a=ba)&&(num x&&(num y&&num z))
 | _=>false
def dP (num:List UInt8→Bool) (s:List UInt8):Bool:=(spl 32 s).all neB&&di num s
theorem head_eq (s:List UInt8):dP intP s=di intP s:=by
 unfold dP
 cases h:di intP s with
 | false=>simp
 | true =>
   unfold di at h
   split at h
   ·rename_i a x y z he
    simp only [Bool.and_eq_true,decide_eq_true_eq] at h
    obtain ⟨h1,h2,h3,h4⟩:=h
    rw [he]
    subst h1
    simp only [List.all_cons,List.all_nil,dm h2,dm h3,dm h4,Bool.and_true]
    rfl
   ·cases h
def fe (num:List UInt8→Bool) (val:List UInt8→Int) (many:List UInt8→Option (List UInt8)) (s:List UInt8):Option Nat:=match many s with
 | some x=>bif num x&&decide (0≤val x) then some (val x).toNat else none
 | none=>none
def bQ (s:List UInt8):Option (List UInt8):=bif (spl 32 s).all neB then dZ s else none
def cB (x:List UInt8):Bool:=intP x&&decide (0≤atoiN x)
theorem cB_eq (x:List UInt8):(aq x&&decide (0≤bz x))=cB x:=by
 unfold cB
 rw [← gN]
 cases h:intP x with
 | false=>rfl
 | true=>rw [oE h]
theorem cB_sp {x:List UInt8} (h:cB x=true):(32:UInt8) ∉ x:=by
 simp only [cB,Bool.and_eq_true] at h
 exact int_notin (by rfl) (by decide) h.1
theorem cB_w {x:List UInt8} (h:cB x=true):atoiN x=bz x:=by
 simp only [cB,Bool.and_eq_true] at h
 exact oE h.1
theorem cntP_def (s:List UInt8):fe intP atoiN cW s=match cW s with | some x=>bif cB x then some (atoiN x).toNat else none | none=>none:=rfl
theorem nh (s:List UInt8):fe aq bz bQ s=match bQ s with | some x=>bif cB x then some (bz x).toNat else none | none=>none:=by
 unfold fe
 cases bQ s with
 | none=>rfl
 | some x=>simp only [cB_eq]
theorem manyR_ne {s x:List UInt8} (h:dZ s=some x) (hx:x≠[]):bQ s=some x:=by
 unfold bQ
 have:(spl 32 s).all neB=true:=by
  unfold dZ at h
  split at h
  ·rename_i a b he
   split at h
   ·rename_i ha
    cases h
    rw [he,ha]
    cases x with
    | nil=>exact absurd rfl hx
    | cons=>rfl
   ·cases h
  ·cases h
 rw [this];exact h
theorem cnt_eq (s:List UInt8):fe intP atoiN cW s=fe aq bz bQ s:=by
 rw [cntP_def,nh]
 obtain ⟨h1,h2⟩:=many_eq s cB (fun x hx=>cB_sp hx)
 cases hP:cW s with
 | some x =>
   cases hx:cB x with
   | true =>
     have hne:x≠[]:=by rintro rfl;simp [cB,intP_nil] at hx
     rw [manyR_ne (h2 x hP hx) hne]
     simp only [hx,cond_true,cB_w hx]
   | false =>
     simp only [cond_false,hx]
     cases hR:bQ s with
     | none=>rfl
     | some y =>
       have hR':dZ s=some y:=by
        unfold bQ at hR
        cases hh:(spl 32 s).all neB with
        | true=>rw [hh] at hR;exact hR
        | false=>rw [hh] at hR;cases hR
       rw [hP,hR'] at h1
       simp only [hx] at h1
       simp only [← h1,cond_false]
 | none =>
   cases hR:bQ s with
   | none=>rfl
   | some y =>
     have hR':dZ s=some y:=by
      unfold bQ at hR
      cases hh:(spl 32 s).all neB with
      | true=>rw [hh] at hR;exact hR
      | false=>rw [hh] at hR;cases hR
     rw [hP,hR'] at h1
     simp only at h1
     simp only [← h1,cond_false]
def lq (num:List UInt8→Bool) (head:List UInt8→Bool) (cnt:List UInt8→Option Nat) (ent:List UInt8→Bool) (l0 l1:List UInt8) (B:List (List UInt8)) (y z:List UInt8):Bool:=
 aH z []&&(aH y cu&&(head l0&&(match cnt l1 with
  | some k=>decide (k≤B.length)&&((B.take k).all (ci num)&&(B.drop k).all ent)
  | none=>false)))
theorem img_eq {nm:List UInt8→Bool} (hn:nm []=false) (l0 l1:List UInt8) (B:List (List UInt8)) (y z:List UInt8) :
  lq intP (di intP) (fe intP atoiN cW) (df intP nm) l0 l1 B y z=lq aq (dP aq) (fe aq bz bQ) (ed aq nm) l0 l1 B y z:=by
 have e1:dP aq=di intP:=by rw [← jF];exact funext head_eq
 have e2:ed aq nm=df intP nm:=by rw [← jF];exact funext (ent_eq hn)
 have e3:fe aq bz bQ=fe intP atoiN cW:=(funext cnt_eq).symm
 rw [e1,e2,e3,← jF]
def wd1 (s:List UInt8):List UInt8:=((spl 32 s)[1]?).getD []
theorem done_eq {l0:List UInt8} (h:di intP l0=true):atoiN (wd1 l0)=bz (wd1 l0):=by
 unfold di at h
 unfold wd1
 split at h
 ·rename_i a x y z he
  simp only [Bool.and_eq_true] at h
  rw [he]
  exact oE h.2.1
 ·cases h
end Go.Abs
