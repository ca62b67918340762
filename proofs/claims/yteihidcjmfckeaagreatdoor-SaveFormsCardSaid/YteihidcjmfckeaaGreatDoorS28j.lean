/- ref24.Parse is a contract. -/
import Derived.Test.YteihidcjmfckeaaGreatDoorS28
set_option linter.all false
set_option maxRecDepth 1000000
namespace Go.Abs
open Go.Proofs
def p9 (s:S) (d:Int) (es:List S):Prop:=∃ l0 l1 B y z k,spl 10 s=l0::l1::(B++[y,z])∧fe aq bz bQ l1=some k∧d=bz (wd1 l0)∧es=B.drop k
theorem cntR_of {s b x:S} (hs:spl 32 s=[b,x]) (hne:(spl 32 s).all neB=true) (hb:b=jl):fe aq bz bQ s=bif cB x then some (bz x).toNat else none:=by
 rw [nh,bQ,hne,dZ,hs,hb]
 simp
theorem pP {s:S} (h:bQ s=none):fe aq bz bQ s=none:=by rw [nh,h]
theorem cs28 (W0:Go.World) (hk:Wk W0) (s:S) (hl:s.length≤5000):∃ d st md o es,Ctr Tryz.prog W0 28 [.sc (.s s)] [] (.tup [bW d st md o es,.sc (.b (nW s))]) []∧(nW s=true→p9 s d es):=by
 have k43a:=fK W0 hk s 10 (by omega)
 have hlen:=fJ 10 s
 have hmem:=fun x=>cO 10 s x
 have fin:aD (Ctr Tryz.prog W0) Fs28.ac Fs28.rs [.sc (.s s)] [] (.tup [bW 0 0 0 [] [],.sc (.b false)]) []→nW s=false →
   ∃ d st md o es,Ctr Tryz.prog W0 28 [.sc (.s s)] [] (.tup [bW d st md o es,.sc (.b (nW s))]) []∧(nW s=true→p9 s d es):=fun h hf=>
  ⟨_,_,_,_,_,by rw [hf];exact ak follows Fs28_ok rfl (fun _ _ h=>by cases h) rfl (by rfl) h,fun h=>by rw [hf] at h;cases h⟩
 by_cases h4:(spl 10 s).length<4
 ·exact fin (bs28_short W0 s _ h4 k43a) (mJ _ h4)
 obtain ⟨l0,l1,B,y,z,hL⟩:=kL (L:=spl 10 s) (by omega)
 have hi:nW s=lq aq (dP aq) (fe aq bz bQ) (ed aq aF) l0 l1 B y z:=by rw [nW,hL,imgS_at]
 rw [hL] at k43a hlen hmem
 simp only [List.length_cons,List.length_append,List.length_nil] at hlen
 have hB:B.length≤900000:=by omega
 have hl0:=hmem l0 (by simp)
 have hl1:=hmem l1 (by simp)
 by_cases hz:z=[]
 ·by_cases hy:y=cu
  ·have hi2:nW s=(dP aq l0&&(match fe aq bz bQ l1 with
    | some k=>decide (k≤B.length)&&((B.take k).all (ci aq)&&(B.drop k).all (ed aq aF))
    | none=>false)):=by rw [hi,lq,hz,hy];rfl
   have k51a:=cs51 W0 hk l0 (by omega)
   cases hne:(spl 32 l0).all neB with
   | false =>
     rw [hne,ib hne] at k51a
     exact fin (bs28_hne W0 s l0 l1 y z B hB k43a hz hy k51a) (by rw [hi2,dP,hne];rfl)
   | true=>
   rw [hne,hU hne] at k51a
   by_cases hW:(spl 32 l0).length=4
   ·obtain ⟨a,w1,w2,w3,hWe⟩:∃ a w1 w2 w3,spl 32 l0=[a,w1,w2,w3]:=by
     match h:spl 32 l0,hW with
     | [a,w1,w2,w3],_=>exact ⟨a,w1,w2,w3,rfl⟩
    have hwm:∀ x,x∈[w1,w2,w3]→x.length≤1099511627776:=fun x hx=>by
     have:=cO 32 l0 x (by rw [hWe];exact List.mem_cons_of_mem _ hx)
     omega
    have hh:dP aq l0=(decide (a=ba)&&(aq w1&&(aq w2&&aq w3))):=by
     unfold dP di;rw [hne,hWe];simp
    rw [hWe] at k51a
    by_cases ha:a=ba
    ·subst ha
     rw [decide_eq_true (p:=ba=ba) rfl,Bool.true_and] at hh
     have k521:=cs52 W0 w1 (hwm w1 (by simp))
     have k522:=cs52 W0 w2 (hwm w2 (by simp))
     have k523:=cs52 W0 w3 (hwm w3 (by simp))
     have k51b:=cs51 W0 hk l1 (by omega)
     cases hii:(aq w1&&(aq w2&&aq w3)) with
     | false=>exact fin (bs28_ints W0 s l0 l1 y z B hB k43a hz hy w1 w2 w3 k51a _ _ k521 _ _ k522 _ _ k523 hii _ _ k51b) (by rw [hi2,hh,hii];rfl)
     | true =>
       rw [hh,hii,Bool.true_and] at hi2
       simp only [Bool.and_eq_true] at hii
       obtain ⟨g1,g2,g3⟩:=hii
       have hd:bz w1=bz (wd1 l0):=by rw [wd1,hWe];rfl
       cases hne1:(spl 32 l1).all neB with
       | false =>
         rw [hne1,ib hne1] at k51b
         exact fin (bs28_one W0 s l0 l1 y z B hB k43a hz hy w1 w2 w3 k51a _ _ k521 _ _ k522 _ _ k523 g1 g2 g3 k51b) (by rw [hi2,pP (by rw [bQ,hne1];rfl)])
       | true=>
       rw [hne1,hU hne1] at k51b
       by_cases hV:(spl 32 l1).length=2
       ·obtain ⟨b,x,hVe⟩:∃ b x,spl 32 l1=[b,x]:=by
         match h:spl 32 l1,hV with
         | [b,x],_=>exact ⟨b,x,rfl⟩
        have hxl:=cO 32 l1 x (by rw [hVe];simp)
        by_cases hb:b=jl
        ·have hc:=cntR_of hVe hne1 hb
         rw [hVe,hb] at k51b
         have k53:=cs53 W0 x (by omega)
         rw [cB_eq] at k53
         cases hcb:cB x with
         | false =>
           rw [hcb] at k53 hc
           exact fin (bs28_cnt W0 s l0 l1 y z B hB k43a hz hy w1 w2 w3 k51a _ _ k521 _ _ k522 _ _ k523 g1 g2 g3 x k51b _ k53) (by rw [hi2,hc];rfl)
         | true =>
           rw [hcb] at k53 hc
           have h0:0≤bz x:=by rw [← cB_eq] at hcb;simp only [Bool.and_eq_true,decide_eq_true_eq] at hcb;exact hcb.2
           obtain ⟨k,hkk⟩:∃ k:Nat,bz x=k:=⟨(bz x).toNat,by omega⟩
           rw [hkk] at k53 hc
           simp only [Int.toNat_natCast,cond_true] at hc
           rw [hc] at hi2
           simp only at hi2
           by_cases hkB:k≤B.length
           ·rw [decide_eq_true hkB,Bool.true_and] at hi2
            have hmB:∀ x,x∈B→x.length≤900000:=fun x hx=>by have:=hmem x (by simp [hx]);omega
            have k52:∀ x,x∈B→Ctr Tryz.prog W0 52 [.sc (.s x)] [] (.tup [.sc (.i .i64 (bz x)),.sc (.b (aq x))]) []:=fun x hx=>cs52 W0 x (by have:=hmB x hx;omega)
            cases ho:(B.take k).all (ci aq) with
            | false=>exact fin (bs28_out W0 s l0 l1 y z B hB k43a hz hy w1 w2 w3 k51a _ _ k521 _ _ k522 _ _ k523 g1 g2 g3 x k51b k hkB k53 k52 ho) (by rw [hi2,ho];rfl)
            | true =>
              rw [ho,Bool.true_and] at hi2
              have k51:∀ x,x∈B→Ctr Tryz.prog W0 51 [.sc (.s x)] [] (.tup [.sl 1 (eq (spl 32 x)) .none,.sc (.b ((spl 32 x).all neB))]) []:=fun x hx=>cs51 W0 hk x (by have:=hmB x hx;omega)
              have k54:∀ x a nm r,x∈B→spl 32 x=a::nm::r→Ctr Tryz.prog W0 54 [lu a nm r] [] (.sc (.b (aF nm&&aL aq aF a r))) []:=fun x a nm r hx hs=>
               cs54 W0 a nm r (by
                have h1:=hmB x hx
                have h2:=fJ 32 x
                have h3:=fun q=>cO 32 x q
                rw [hs] at h2 h3
                simp only [List.length_cons] at h2
                exact ⟨by have:=h3 nm (by simp);omega,by omega,fun q hq=>by have:=h3 q (by simp [hq]);omega⟩)
              cases he:(B.drop k).all (ed aq aF) with
              | false=>exact fin (bs28_entbad W0 s l0 l1 y z B hB k43a hz hy w1 w2 w3 k51a _ _ k521 _ _ k522 _ _ k523 g1 g2 g3 x k51b k hkB k53 k52 ho k51 k54 _ rfl he) (by rw [hi2,he])
              | true =>
                have hb2:=bs28_good W0 s l0 l1 y z B hB k43a hz hy w1 w2 w3 k51a _ _ k521 _ _ k522 _ _ k523 g1 g2 g3 x k51b k hkB k53 k52 ho k51 k54 _ rfl he
                rw [he] at hi2
                rw [← hi2] at hb2
                exact ⟨_,_,_,_,_,ak follows Fs28_ok rfl (fun _ _ h=>by cases h) rfl (by rfl) hb2,fun _=>⟨l0,l1,B,y,z,k,hL,hc,hd,rfl⟩⟩
           ·exact fin (bs28_many W0 s l0 l1 y z B hB k43a hz hy w1 w2 w3 k51a _ _ k521 _ _ k522 _ _ k523 g1 g2 g3 x k51b _ (by omega) k53) (by rw [hi2,decide_eq_false hkB];rfl)
        ·rw [hVe] at k51b
         exact fin (bs28_oname W0 s l0 l1 y z B hB k43a hz hy w1 w2 w3 k51a _ _ k521 _ _ k522 _ _ k523 g1 g2 g3 b x hb k51b) (by rw [hi2,pP (by rw [bQ,hne1,dZ,hVe];simp [hb])])
       ·exact fin (bs28_olen W0 s l0 l1 y z B hB k43a hz hy w1 w2 w3 k51a _ _ k521 _ _ k522 _ _ k523 g1 g2 g3 _ hV k51b) (by
         rw [hi2,pP (by
          rw [bQ,hne1,dZ]
          simp only [cond_true]
          split
          ·rename_i h;rw [h] at hV;exact absurd rfl hV
          ·rfl)])
    ·exact fin (bs28_hname W0 s l0 l1 y z B hB k43a hz hy a w1 w2 w3 ha k51a) (by rw [hi2,hh,decide_eq_false ha];rfl)
   ·have hh:dP aq l0=false:=by
     unfold dP di
     rw [hne,Bool.true_and]
     split
     ·rename_i h;rw [h] at hW;exact absurd rfl hW
     ·rfl
    exact fin (bs28_hlen W0 s l0 l1 y z B hB k43a hz hy _ hW k51a) (by rw [hi2,hh];rfl)
  ·exact fin (bs28_end W0 s l0 l1 y z B hB k43a hz hy) (by rw [hi,lq];simp [aH,hy])
 ·exact fin (bs28_last W0 s l0 l1 y z B hB k43a hz) (by rw [hi,lq];simp [aH,hz])
theorem img_same {s:S} {d d':Int} {es es':List S} (h:ImgOK s d es) (h':p9 s d' es'):d=d'∧es=es':=by
 obtain ⟨l0,l1,B,y,z,k,h1,h2,h3,h4,h5,_⟩:=h
 obtain ⟨l0',l1',B',y',z',k',g1,g3,g4,g5⟩:=h'
 rw [h1] at g1
 simp only [List.cons.injEq] at g1
 obtain ⟨rfl,rfl,g1⟩:=g1
 have hB:B=B':=by
  have:=congrArg (fun l:List S=>l.take (l.length - 2)) g1
  simpa using this
 subst hB
 rw [← cnt_eq,h3] at g3
 cases g3
 exact ⟨by rw [h4,g4,done_eq h2],by rw [h5,g5]⟩
end Go.Abs
