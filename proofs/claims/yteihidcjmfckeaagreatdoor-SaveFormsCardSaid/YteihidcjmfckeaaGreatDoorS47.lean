/- What reads a line of an image calls: contracts. -/
import Derived.Test.YteihidcjmfckeaaGreatDoorS52
import Derived.Test.YteihidcjmfckeaaGreatDoorSb
import Derived.Test.YteihidcjmfckeaaGreatDoorMg
set_option linter.all false
set_option maxRecDepth 1000000
set_option maxHeartbeats 16000000
namespace Go.Abs
open Go.Proofs
open K in
def Fs45:Fn:=⟨.seq (.reg [n (.mv 4 (.c (.sc (.s [])))),n (mb 5 false)]) (.seq (.reg [m 6 0,m 7 1,n (cf 8 95 [.t 6,.t 7]),n (ext 9 8 0),n (ext 10 8 1),m 4 9,m 5 10]) .ret),[(4,0),(5,0)],11,[]⟩
theorem Fs45_ok:aI Tryz.prog (fun _=>an0) 45=some Fs45:=by kernel_rfl
open K in
def Fs95:Fn:=⟨.seq (.reg [n (.mv 4 (.c (.sc (.s [])))),n (mb 5 false)]) (.seq (.seq (.reg [m 6 0,m 7 1,n (cf 8 156 [.t 6,.t 7]),n (.no 9 (.t 8))]) (.cond (.t 9) (.seq (.reg [m 10 0,m 4 10,n (mb 5 false)]) .ret) .skip)) (.seq (.reg [m 11 0,m 12 1,n (.lenS 13 (.t 12)),n (.slS 14 (.t 11) (some (.t 13)) none),m 4 14,n (mb 5 true)]) .ret)),[(4,0),(5,0)],15,[]⟩
theorem Fs95_ok:aI Tryz.prog (fun _=>an0) 95=some Fs95:=by kernel_rfl
open K in
def Fs47:Fn:=⟨.seq (.reg [n (mb 4 false)]) (.seq (.reg [m 5 0,m 6 1,n (cf 7 96 [.t 5,.t 6]),n (bi 8 .geq 7 0),m 4 8]) .ret),[(4,0)],9,[]⟩
theorem Fs47_ok:aI Tryz.prog (fun _=>an0) 47=some Fs47:=by kernel_rfl
open K in
def Fs96:Fn:=⟨.seq (.reg [n (mi 4 0)]) (.seq (.seq (.reg [m 6 0,n (.len 7 (.t 6)),n (mi 8 0)]) (.block 0 (.loop (.seq (.reg [n (b2 9 .lss 8 7)]) (.seq (.cond (.t 9) .skip (.exit 0)) (.seq (.block 1 (.seq (.reg [m 10 8,m 5 10]) (.seq (.reg [m 11 1,m 12 0,m 13 5,n (ix 14 1 12 13),n (ld 15 14),n (.call (some 16) (.t 11) [.t 15])]) (.cond (.t 16) (.seq (.reg [m 17 5,m 4 17]) .ret) .skip)))) (.reg [n (bi 18 .add 8 1),m 8 18]))))))) (.seq (.reg [n (mi 4 (-1))]) .ret)),[(4,0)],19,[]⟩
theorem Fs96_ok:aI Tryz.prog (fun _=>an0) 96=some Fs96:=by kernel_rfl
structure Ws (W0:Go.World):Prop where
 wk:Wk W0
 e1:ErrV W0 1
 e2:ErrV W0 2
theorem fK (W0:Go.World) (hk:Wk W0) (s:S) (c:UInt8) (hl:s.length<4294967281):Ctr Tryz.prog W0 43 [.sc (.s s),.sc (.s [c])] [] (.sl 1 (ae (spl c s)) .full) []:=by
 have e:(Go.Lib.splitB ⟨[c].toArray⟩ 0 (Go.Lib.countB ⟨s.toArray⟩ ⟨[c].toArray⟩) ⟨s.toArray⟩).map (·.data.toList)=spl c s:=by
  rw [Go.Lib.splitB_data,← split_spl];rfl
 refine split_ctr W0 hk.ml s [c] hl (Nat.le_refl _) _ e ?_
 rw [← e,List.length_map]
 exact Go.Lib.splitB_all _ (Nat.le_refl _) 0 _ _ rfl
theorem cs49s (W0:Go.World) (h:Ws W0) (s:S) (hl:s.length≤1099511627776):Ctr Tryz.prog W0 49 [.sc (.s s)] [] (.tup [.sc (.i .i64 (atoiN s)),.sc (.b (intP s))]) []:=cs49 W0 h.wk.pow h.e1 h.e2 s (by omega)
theorem cs46 (W0:Go.World) (h:Ws W0) (s:S) (hl:s.length≤1099511627776):Ctr Tryz.prog W0 46 [.sc (.s s)] [] (.tup [.sc (.i .i64 (atoiN s)),.sc (.b (intP s&&decide (0≤atoiN s)))]) []:=
 ak follows Fs46_ok rfl (fun _ _ h=>by cases h) rfl (by rfl) (bs46 W0 s (cs49s W0 h s hl))
theorem cs48 (W0:Go.World) (h:Ws W0) (s:S) (hl:s.length≤1099511627776):Ctr Tryz.prog W0 48 [.sc (.s s)] [] (.sc (.b (!ci intP s))) []:=by
 have:=ak follows Fs48_ok rfl (fun _ _ h=>by cases h) rfl (by rfl) (bs48 W0 s (cs49s W0 h s hl))
 rwa [show (!intP s&&(!aH s [116,114,117,101]&&!aH s [102,97,108,115,101]))=!ci intP s by simp [ci,eM,cY]] at this
theorem cs44 (W0:Go.World) (h:Ws W0) (L:List S) (hL:L.length≤1099511627776) (hx:∀ x,x∈L→x.length≤1099511627776):Ctr Tryz.prog W0 44 [bU L] [] (.tup [.sl 1 (dH L) .none,.sc (.b (L.all intP))]) []:=
 ak follows Fs44_ok rfl (fun _ _ h=>by cases h) rfl (by rfl) (bs44 W0 L hL fun x m=>cs49s W0 h x (hx x m))
theorem fJ (c:UInt8):∀ s:S,(spl c s).length≤s.length+1
 | []=>Nat.le_refl _
 | b :: r => by
   have:=fJ c r
   by_cases hb:b=c
   ·subst hb;rw [cz];simp only [List.length_cons];omega
   ·obtain ⟨y,l,hy⟩:∃ y l,spl c r=y::l:=by
     cases e:spl c r with
     | nil=>exact absurd e (gA c r)
     | cons y l=>exact ⟨y,l,rfl⟩
    rw [bN hb r y l hy];rw [hy] at this;simp only [List.length_cons] at this ⊢;omega
theorem cO (c:UInt8):∀ (s x:S),x∈spl c s→x.length≤s.length
 | [],x,h=>by simp [spl] at h;subst h;exact Nat.le_refl _
 | b :: r, x, h => by
   by_cases hb:b=c
   ·subst hb
    rw [cz] at h
    rcases List.mem_cons.1 h with rfl | h
    ·exact Nat.zero_le _
    ·exact Nat.le_succ_of_le (cO b r x h)
   ·obtain ⟨y,l,hy⟩:∃ y l,spl c r=y::l:=by
     cases e:spl c r with
     | nil=>exact absurd e (gA c r)
     | cons y l=>exact ⟨y,l,rfl⟩
    rw [bN hb r y l hy] at h
    rcases List.mem_cons.1 h with rfl | h
    ·have:=cO c r y (by rw [hy];simp)
     simp only [List.length_cons];omega
    ·exact Nat.le_succ_of_le (cO c r x (by rw [hy];simp [h]))
theorem cs51 (W0:Go.World) (hk:Wk W0) (s:S) (hl:s.length≤1000000):Ctr Tryz.prog W0 51 [.sc (.s s)] [] (.tup [.sl 1 (eq (spl 32 s)) .none,.sc (.b ((spl 32 s).all neB))]) []:=
 ak follows Fs51_ok rfl (fun _ _ h=>by cases h) rfl (by rfl) (bs51 W0 s (spl 32 s) (by have:=fJ 32 s;omega) (fK W0 hk s 32 (by omega)))
theorem cs53 (W0:Go.World) (s:S) (hl:s.length≤1099511627776):Ctr Tryz.prog W0 53 [.sc (.s s)] [] (.tup [.sc (.i .i64 (bz s)),.sc (.b (aq s&&decide (0≤bz s)))]) []:=
 ak follows Fs53_ok rfl (fun _ _ h=>by cases h) rfl (by rfl) (bs53 W0 s (cs52 W0 s hl))
theorem cs102 (W0:Go.World) (L:List S) (hL:L.length≤1099511627776) (hx:∀ x,x∈L→x.length≤1099511627776):Ctr Tryz.prog W0 102 [bU L] [] (.sc (.b (L.all aq))) []:=
 ak follows Fs102_ok rfl (fun _ _ h=>by cases h) rfl (by rfl) (bs102 W0 L hL fun x m=>cs52 W0 x (hx x m))
theorem bs95 (W0:Go.World) (s p:S):aD (Ctr Tryz.prog W0) Fs95.ac Fs95.rs [.sc (.s s),.sc (.s p)] [] (.tup [.sc (.s (bif dO s p then s.drop p.length else s)),.sc (.b (dO s p))]) []:=by
 conv=>whnf
 refine callP.pure _ (c240 W0 s p) ⟨rfl,rfl⟩ ?_
 conv=>whnf
 cases hp:dO s p
 ·conv=>whnf
  exact jN rfl ⟨rfl,rfl,trivial⟩ rfl
 ·have hpl:p.length≤s.length:=by
   simp only [dO,Bool.and_eq_true,decide_eq_true_eq] at hp
   exact hp.1
  conv=>whnf
  refine And.intro (by omega) ?_
  generalize hT:List.take _ (List.drop _ _)=T
  have hT:T=s.drop p.length:=by
   rw [← hT,Int.toNat_natCast,Int.toNat_natCast]
   exact List.take_of_length_le (by rw [List.length_drop];omega)
  subst hT
  conv=>whnf
  exact jN rfl ⟨rfl,rfl,trivial⟩ rfl
theorem cs95 (W0:Go.World) (s p:S):Ctr Tryz.prog W0 95 [.sc (.s s),.sc (.s p)] [] (.tup [.sc (.s (bif dO s p then s.drop p.length else s)),.sc (.b (dO s p))]) []:=
 ak follows Fs95_ok rfl (fun _ _ h=>by cases h) rfl (by rfl) (bs95 W0 s p)
theorem bs45 (W0:Go.World) (s p:S):aD (Ctr Tryz.prog W0) Fs45.ac Fs45.rs [.sc (.s s),.sc (.s p)] [] (.tup [.sc (.s (bif dO s p then s.drop p.length else s)),.sc (.b (dO s p))]) []:=by
 conv=>whnf
 refine callP.pure _ (cs95 W0 s p) ⟨rfl,rfl⟩ ?_
 conv=>whnf
 exact jN rfl ⟨rfl,rfl,trivial⟩ rfl
theorem cs45 (W0:Go.World) (s p:S):Ctr Tryz.prog W0 45 [.sc (.s s),.sc (.s p)] [] (.tup [.sc (.s (bif dO s p then s.drop p.length else s)),.sc (.b (dO s p))]) []:=
 ak follows Fs45_ok rfl (fun _ _ h=>by cases h) rfl (by rfl) (bs45 W0 s p)
def pC (g:S→Bool):List S→Nat→Int
 | [],_=>-1
 | x::r,k=>match g x with | true=>(k:Nat) | false=>pC g r (k+1)
theorem idxG_any (g:S→Bool):∀ (l:List S) (k:Nat),decide (0≤pC g l k)=l.any g
 | [],k=>by simp [pC]
 | x :: r, k => by
   rw [pC,List.any_cons]
   cases g x with
   | true=>simp
   | false=>simp only [Bool.false_or];exact idxG_any g r (k+1)
theorem bs96 (W0:Go.World) (l:List S) (g:S→Bool) (f:Nat) (hl:l.length≤1099511627776) (kf:∀ x,x∈l→Ctr Tryz.prog W0 f [.sc (.s x)] [] (.sc (.b (g x))) []) :
  aD (Ctr Tryz.prog W0) Fs96.ac Fs96.rs [bU l,.fn f []] [] (.sc (.i .i64 (pC g l 0))) []:=by
 conv=>whnf
 refine .st 1000 (fun k=>l.length - k) (fun k=>[(.s 0,.av (bU l)),(.s 1,.av (.fn f [])),(.s 7,.av (.sc (.i .i64 ((ae l).length:Nat)))),(.s 8,.av (.sc (.i .i64 (k:Nat))))])
  (fun k=>k≤l.length∧pC g l 0=pC g (l.drop k) k) 0 ?_ ⟨Nat.zero_le _,rfl⟩ ?_
 ·(refine aN rfl rfl ?_;repeat' (first | exact rfl | exact trivial | refine ⟨?_,?_⟩))
 ·rintro k ⟨hk,he⟩
  conv=>whnf
  refine ap (fun h2=>?_) (fun h2=>?_)
  ·simp only [aa,decide_eq_false_iff_not] at h2
   have e1:l.drop k=[]:=by simp;omega
   rw [e1] at he
   conv=>whnf
   exact eU (by rw [he];rfl)
  ·simp only [aa,decide_eq_true_eq] at h2
   obtain ⟨x,hx⟩:=aB (l:=l) (k:=k) (by omega)
   have dx:=bD hx
   rw [aR hx,pC] at he
   conv=>whnf
   refine ⟨_,⟨Int.natCast_nonneg _,dx⟩,?_⟩
   conv=>whnf
   refine callP.pure _ (kf x (List.mem_of_getElem? hx)) ⟨rfl,rfl⟩ ?_
   conv=>whnf
   refine ap (fun h3=>?_) (fun h3=>?_)
   ·simp only [h3] at he
    conv=>whnf
    refine ⟨?_,?_⟩
    ·constructor<;>omega
    ·conv=>whnf
     refine nxt (k+1) ⟨by omega,by omega,he⟩ ?_
     (refine aN rfl rfl ?_;repeat' (first | exact rfl | exact trivial | refine ⟨?_,?_⟩))
   ·simp only [h3] at he
    conv=>whnf
    exact eU he.symm
theorem cs96 (W0:Go.World) (l:List S) (g:S→Bool) (f:Nat) (hl:l.length≤1099511627776) (kf:∀ x,x∈l→Ctr Tryz.prog W0 f [.sc (.s x)] [] (.sc (.b (g x))) []):Ctr Tryz.prog W0 96 [bU l,.fn f []] [] (.sc (.i .i64 (pC g l 0))) []:=
 ak follows Fs96_ok rfl (fun _ _ h=>by cases h) rfl (by rfl) (bs96 W0 l g f hl kf)
theorem bs47 (W0:Go.World) (l:List S) (g:S→Bool) (f:Nat) (hl:l.length≤1099511627776) (kf:∀ x,x∈l→Ctr Tryz.prog W0 f [.sc (.s x)] [] (.sc (.b (g x))) []):aD (Ctr Tryz.prog W0) Fs47.ac Fs47.rs [bU l,.fn f []] [] (.sc (.b (l.any g))) []:=by
 conv=>whnf
 refine callP.pure _ (cs96 W0 l g f hl kf) ⟨rfl,rfl⟩ ?_
 conv=>whnf
 exact aE (idxG_any g l 0)
theorem cs47 (W0:Go.World) (l:List S) (g:S→Bool) (f:Nat) (hl:l.length≤1099511627776) (kf:∀ x,x∈l→Ctr Tryz.prog W0 f [.sc (.s x)] [] (.sc (.b (g x))) []):Ctr Tryz.prog W0 47 [bU l,.fn f []] [] (.sc (.b (l.any g))) []:=
 ak follows Fs47_ok rfl (fun _ _ h=>by cases h) rfl (by rfl) (bs47 W0 l g f hl kf)
end Go.Abs
