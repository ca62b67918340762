/- save.read is a contract. -/
import Derived.Test.YteihidcjmfckeaaGreatDoorSc
set_option linter.all false
set_option maxRecDepth 1000000
namespace Go.Abs
open Go.Proofs
def imgS (f:S→S→List S→S→S→Bool):List S→Bool
 | l0 :: l1 :: R => (match R.reverse with
   | z::y::Br=>f l0 l1 Br.reverse y z
   | _=>false)
 | _=>false
theorem imgS_at (f:S→S→List S→S→S→Bool) (l0 l1:S) (B:List S) (y z:S):imgS f (l0::l1::(B++[y,z]))=f l0 l1 B y z:=by
 simp [imgS]
theorem mJ (f:S→S→List S→S→S→Bool) {L:List S} (h:L.length<4):imgS f L=false:=by
 match L,h with
 | [],_=>rfl
 | [_],_=>rfl
 | [_,_],_=>rfl
 | [_,_,_],_=>rfl
 | _::_::_::_::_,h=>simp only [List.length_cons] at h;omega
def mK (s:S):Bool:=imgS (lq intP (di intP) (fe intP atoiN cW) (df intP aj)) (spl 10 s)
def nW (s:S):Bool:=imgS (lq aq (dP aq) (fe aq bz bQ) (ed aq aF)) (spl 10 s)
theorem isNameB_nil:aj []=false:=by rw [← jt];rfl
theorem imgPR (s:S):mK s=nW s:=by
 unfold mK nW
 congr 1
 funext l0 l1 B y z
 have e:aF=aj:=funext jt
 rw [e]
 exact img_eq isNameB_nil l0 l1 B y z
theorem pre_many (s:S):cW s=(match dO s [111,117,116,32] with | true=>some (s.drop 4) | false=>none):=by
 unfold cW
 by_cases h:jl++[32] <+: s
 ·rw [if_pos h]
  have:dO s [111,117,116,32]=true:=by
   obtain ⟨t,rfl⟩:=h
   simp [dO,aH,jl]
  rw [this]
 ·rw [if_neg h]
  have:dO s [111,117,116,32]=false:=by
   cases hp:dO s [111,117,116,32] with
   | false=>rfl
   | true =>
     simp only [dO,aH,Bool.and_eq_true,decide_eq_true_eq] at hp
     exact absurd ⟨s.drop 4,by have:=hp.2;simp only [List.length_cons,List.length_nil] at this;show [111,117,116,32]++s.drop 4=s;rw [← this];simp⟩ h
  rw [this]
theorem any_not (g:S→Bool) (l:List S):(l.any fun x=>!g x)=!l.all g:=by
 induction l with
 | nil=>rfl
 | cons x r ih=>rw [List.any_cons,List.all_cons,ih];cases g x<;>simp
def ImgOK (s:S) (d:Int) (es:List S):Prop:=∃ l0 l1 B y z k,spl 10 s=l0::l1::(B++[y,z])∧di intP l0=true∧fe intP atoiN cW l1=some k∧d=atoiN (wd1 l0)∧es=B.drop k∧es.all (df intP aj)=true
theorem cs27 (W0:Go.World) (hw:Ws W0) (s:S) (hl:s.length≤5000):∃ d st md o es,Ctr Tryz.prog W0 27 [.sc (.s s)] [] (.tup [bW d st md o es,.sc (.b (mK s))]) []∧(mK s=true→ImgOK s d es):=by
 have k43a:=fK W0 hw.wk s 10 (by omega)
 have hlen:=fJ 10 s
 have hmem:=fun x=>cO 10 s x
 have fin:∀ {d st md:Int} {o es:List S},aD (Ctr Tryz.prog W0) Fs27.ac Fs27.rs [.sc (.s s)] [] (.tup [bW d st md o es,.sc (.b false)]) []→mK s=false →
   ∃ d st md o es,Ctr Tryz.prog W0 27 [.sc (.s s)] [] (.tup [bW d st md o es,.sc (.b (mK s))]) []∧(mK s=true→ImgOK s d es):=fun h hf=>
  ⟨_,_,_,_,_,by rw [hf];exact ak follows qb rfl (fun _ _ h=>by cases h) rfl (by rfl) h,fun h=>by rw [hf] at h;cases h⟩
 by_cases h4:(spl 10 s).length<4
 ·exact fin (bs27_short W0 s _ h4 k43a) (mJ _ h4)
 obtain ⟨l0,l1,B,y,z,hL⟩:=kL (L:=spl 10 s) (by omega)
 have hi:mK s=lq intP (di intP) (fe intP atoiN cW) (df intP aj) l0 l1 B y z:=by rw [mK,hL,imgS_at]
 rw [hL] at k43a hlen hmem
 simp only [List.length_cons,List.length_append,List.length_nil] at hlen
 have hB:B.length≤900000:=by omega
 have hl0:=hmem l0 (by simp)
 have hl1:=hmem l1 (by simp)
 by_cases hz:z=[]
 ·by_cases hy:y=cu
  ·have hi2:mK s=(di intP l0&&(match fe intP atoiN cW l1 with
    | some k=>decide (k≤B.length)&&((B.take k).all (ci intP)&&(B.drop k).all (df intP aj))
    | none=>false)):=by rw [hi,lq,hz,hy];rfl
   have k43b:=fK W0 hw.wk l0 32 (by omega)
   by_cases hW:(spl 32 l0).length=4
   ·obtain ⟨a,w1,w2,w3,hWe⟩:∃ a w1 w2 w3,spl 32 l0=[a,w1,w2,w3]:=by
     match h:spl 32 l0,hW with
     | [a,w1,w2,w3],_=>exact ⟨a,w1,w2,w3,rfl⟩
    have hwm:∀ x,x∈[w1,w2,w3]→x.length≤1099511627776:=fun x hx=>by
     have:=cO 32 l0 x (by rw [hWe];exact List.mem_cons_of_mem _ hx)
     omega
    have hh:di intP l0=(decide (a=ba)&&[w1,w2,w3].all intP):=by
     unfold di;rw [hWe];simp
    rw [hWe] at k43b
    by_cases ha:a=ba
    ·subst ha
     have k44:=cs44 W0 hw [w1,w2,w3] (by simp) hwm
     cases hn:[w1,w2,w3].all intP with
     | false =>
       rw [hn,show dH [w1,w2,w3]=[] by rw [dH,hn]] at k44
       exact fin (bs27_nums W0 hw s l0 l1 y z B hB k43a hz hy w1 w2 w3 k43b k44) (by rw [hi2,hh,hn];rfl)
     | true =>
       rw [hn,show dH [w1,w2,w3]=eA atoiN [w1,w2,w3] by rw [dH,hn]] at k44
       have hd:atoiN w1=atoiN (wd1 l0):=by rw [wd1,hWe];rfl
       rw [hn,decide_eq_true (p:=ba=ba) rfl,Bool.true_and] at hh
       rw [hh,Bool.true_and] at hi2
       have k45:=cs45 W0 l1 [111,117,116,32]
       have hmp:=pre_many l1
       cases hp:dO l1 [111,117,116,32] with
       | false =>
         rw [hp] at k45 hmp
         have k46:=cs46 W0 hw l1 (by omega)
         exact fin (bs27_many0 W0 hw s l0 l1 y z B hB k43a hz hy w1 w2 w3 k43b k44 l1 k45 _ _ k46) (by rw [hi2,fe,hmp])
       | true =>
         rw [hp] at k45 hmp
         simp only at hmp
         have k45:Ctr Tryz.prog W0 45 [.sc (.s l1),.sc (.s [111,117,116,32])] [] (.tup [.sc (.s (l1.drop 4)),.sc (.b true)]) []:=k45
         have k46:=cs46 W0 hw (l1.drop 4) (by rw [List.length_drop];omega)
         have hc:fe intP atoiN cW l1=bif cB (l1.drop 4) then some (atoiN (l1.drop 4)).toNat else none:=by rw [cntP_def,hmp]
         change Ctr Tryz.prog W0 46 _ [] (.tup [_,.sc (.b (cB (l1.drop 4)))]) [] at k46
         cases hcb:cB (l1.drop 4) with
         | false =>
           rw [hcb] at k46 hc
           exact fin (bs27_many1 W0 hw s l0 l1 y z B hB k43a hz hy w1 w2 w3 k43b k44 _ k45 _ k46) (by rw [hi2,hc];rfl)
         | true =>
           rw [hcb] at k46 hc
           have h0:0≤atoiN (l1.drop 4):=by simp only [cB,Bool.and_eq_true,decide_eq_true_eq] at hcb;exact hcb.2
           obtain ⟨k,hk⟩:∃ k:Nat,atoiN (l1.drop 4)=k:=⟨(atoiN (l1.drop 4)).toNat,by omega⟩
           rw [hk] at k46 hc
           simp only [Int.toNat_natCast,cond_true] at hc
           rw [hc] at hi2
           simp only at hi2
           by_cases hkB:k≤B.length
           ·rw [decide_eq_true hkB,Bool.true_and] at hi2
            have hmB:∀ x,x∈B→x.length≤900000:=fun x hx=>by have:=hmem x (by simp [hx]);omega
            have k47:=cs47 W0 (B.take k) (fun x=>!ci intP x) 48 (by rw [List.length_take];omega) fun x hx=>cs48 W0 hw x (by have:=hmB x (List.mem_of_mem_take hx);omega)
            rw [any_not] at k47
            cases ho:(B.take k).all (ci intP) with
            | false =>
              rw [ho] at k47
              exact fin (bs27_out W0 hw s l0 l1 y z B hB k43a hz hy w1 w2 w3 k43b k44 _ k45 k hkB k46 k47) (by rw [hi2,ho];rfl)
            | true =>
              rw [ho] at k47
              rw [ho,Bool.true_and] at hi2
              have hb:=oY W0 hw s l0 l1 y z B hB k43a hz hy w1 w2 w3 k43b k44 _ k45 k hkB k46 k47 (B.drop k) rfl (df intP aj) fun x hx=>cs50 W0 hw x (by have:=hmB x (List.mem_of_mem_drop hx);omega)
              rw [← hi2] at hb
              refine ⟨_,_,_,_,_,ak follows qb rfl (fun _ _ h=>by cases h) rfl (by rfl) hb,fun h=>?_⟩
              rw [hi2] at h
              exact ⟨l0,l1,B,y,z,k,hL,hh,hc,hd,by rw [fv h,List.take_length],by rw [fv h,List.take_length];exact h⟩
           ·exact fin (bs27_many2 W0 hw s l0 l1 y z B hB k43a hz hy w1 w2 w3 k43b k44 _ k45 _ k46 (by omega)) (by rw [hi2,decide_eq_false hkB];rfl)
    ·exact fin (bs27_hname W0 hw s l0 l1 y z B hB k43a hz hy a w1 w2 w3 ha k43b) (by rw [hi2,hh,decide_eq_false ha];rfl)
   ·have hh:di intP l0=false:=by
     unfold di
     split
     ·rename_i h;rw [h] at hW;exact absurd rfl hW
     ·rfl
    exact fin (bs27_hlen W0 hw s l0 l1 y z B hB k43a hz hy _ hW k43b) (by rw [hi2,hh];rfl)
  ·exact fin (bs27_end W0 hw s l0 l1 y z B hB k43a hz hy) (by rw [hi,lq];simp [aH,hy])
 ·exact fin (bs27_last W0 hw s l0 l1 y z B hB k43a hz) (by rw [hi,lq];simp [aH,hz])
end Go.Abs
