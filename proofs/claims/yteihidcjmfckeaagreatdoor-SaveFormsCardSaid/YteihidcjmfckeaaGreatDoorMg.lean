/- Names: the reference's token package. -/
import Derived.Test.YteihidcjmfckeaaGreatDoorMf
import Derived.Test.YteihidcjmfckeaaGreatDoorMe
set_option linter.all false
set_option maxRecDepth 1000000
set_option maxHeartbeats 16000000
namespace Go.Abs
open Go.Proofs
def kD (s:S):Bool:=match s with | []=>false | c::r=>ew c.toNat&&decide (fc (c::r)=(c::r).length)
def jj:S→S→List S
 | _,[]=>[]
 | w,c::r=>match decide (c=32) with | false=>jj (w++[c]) r | true=>(match aH w [] with | true=>jj [] r | false=>w::jj [] r)
theorem oZ (a b:S):aH a b=aH b a:=by simp [aH,eq_comm]
open K in
def F127:Fn:=⟨.seq (.reg [n (mb 2 false)]) (.seq (.reg [m 3 0,n (.bin 4 .geq (.t 3) (.c (.sc (.i .u8 97)))),m 5 4,wm 5 6 0,w 5 (.bin 7 .leq (.t 6) (.c (.sc (.i .u8 122)))),n (pf 8 5 7),m 2 8]) .ret),[(2,0)],9,[]⟩
open K in
def F128:Fn:=⟨.seq (.reg [n (mb 2 false)]) (.seq (.reg [m 3 0,n (cf 4 223 [.t 3]),m 5 4,gm 5 6 0,g 5 (.bin 7 .geq (.t 6) (.c (.sc (.i .u8 65)))),gm 5 8 7,wm 8 9 0,w 8 (.bin 10 .leq (.t 9) (.c (.sc (.i .u8 90)))),g 5 (pf 11 8 10),n (pt 12 5 11),m 13 12,gm 13 14 0,g 13 (cf 15 300 [.t 14]),n (pt 16 13 15),m 17 16,gm 17 18 0,g 17 (.bin 19 .eql (.t 18) (.c (.sc (.i .u8 95)))),n (pt 20 17 19),m 2 20]) .ret),[(2,0)],21,[]⟩
open K in
def F130:Fn:=⟨.seq (.reg [n (mb 2 false)]) (.seq (.reg [m 3 0,n (.bin 4 .geq (.t 3) (.c (.sc (.i .u8 48)))),m 5 4,wm 5 6 0,w 5 (.bin 7 .leq (.t 6) (.c (.sc (.i .u8 57)))),n (pf 8 5 7),m 2 8]) .ret),[(2,0)],9,[]⟩
open K in
def F184:Fn:=⟨.seq (.reg [n (mb 2 false)]) (.seq (.seq (.reg [m 4 0,n (bs 5 .eql 4 []),m 6 5,gm 6 7 0,g 6 (.ix 8 (.t 7) (.c (.sc (.i .i64 0)))),g 6 (cf 9 223 [.t 8]),g 6 (.no 10 (.t 9)),n (pt 11 6 10)]) (.cond (.t 11) (.seq (.reg [n (mb 2 false)]) .ret) .skip)) (.seq (.seq (.reg [n (mi 3 0)]) (.block 0 (.loop (.seq (.seq (.reg [m 12 3,m 13 0,n (.lenS 14 (.t 13)),n (b2 15 .lss 12 14)]) (.cond (.t 15) .skip (.exit 0))) (.seq (.block 1 (.seq (.reg [m 18 0,m 19 3,n (.ix 20 (.t 18) (.t 19)),n (cf 21 224 [.t 20]),n (.no 22 (.t 21))]) (.cond (.t 22) (.seq (.reg [n (mb 2 false)]) .ret) .skip))) (.reg [m 16 3,n (bi 17 .add 16 1),m 3 17])))))) (.seq (.reg [n (mb 2 true)]) .ret))),[(2,0)],23,[]⟩
open K in
def F132:Fn:=⟨.seq (.reg [n (mb 4 false)]) (.seq (.seq (.reg [n (mi 5 0)]) (.block 0 (.loop (.seq (.seq (.reg [m 6 5,m 7 0,n (.len 8 (.t 7)),n (b2 9 .lss 6 8)]) (.cond (.t 9) .skip (.exit 0))) (.seq (.block 1 (.seq (.reg [m 12 0,m 13 5,n (ix 14 1 12 13),n (ld 15 14),m 16 1,n (b2 17 .eql 15 16)]) (.cond (.t 17) (.seq (.reg [n (mb 4 true)]) .ret) .skip))) (.reg [m 10 5,n (bi 11 .add 10 1),m 5 11])))))) (.seq (.reg [n (mb 4 false)]) .ret)),[(4,0)],18,[]⟩
theorem F127_ok:aI Tryz.prog (fun _=>an0) 223=some F127:=by kernel_rfl
theorem F128_ok:aI Tryz.prog (fun _=>an0) 224=some F128:=by kernel_rfl
theorem F130_ok:aI Tryz.prog (fun _=>an0) 300=some F130:=by kernel_rfl
theorem F184_ok:aI Tryz.prog (fun _=>an0) 162=some F184:=by kernel_rfl
theorem F132_ok:aI Tryz.prog (fun _=>an0) 163=some F132:=by kernel_rfl
theorem b127 (W0:Go.World) (n:Int):aD (Ctr Tryz.prog W0) F127.ac F127.rs [.sc (.i .u8 n)] [] (.sc (.b (ew n))) []:=by
 repeat' ((conv=>whnf);(first | with_reducible refine ap (fun _=>?_) (fun _=>?_) | fail))
 all_goals ((conv=>whnf);refine aE ?_;simp_all [ew];try (intros;omega))
theorem c127 (W0:Go.World) (n:Int):Ctr Tryz.prog W0 223 [.sc (.i .u8 n)] [] (.sc (.b (ew n))) []:=
 ak follows F127_ok rfl (fun _ _ h=>by cases h) rfl (by rfl) (b127 W0 n)
theorem b130 (W0:Go.World) (n:Int):aD (Ctr Tryz.prog W0) F130.ac F130.rs [.sc (.i .u8 n)] [] (.sc (.b (digI n))) []:=by
 repeat' ((conv=>whnf);(first | with_reducible refine ap (fun _=>?_) (fun _=>?_) | fail))
 all_goals ((conv=>whnf);refine aE ?_;simp_all [digI];try (intros;omega))
theorem c130 (W0:Go.World) (n:Int):Ctr Tryz.prog W0 300 [.sc (.i .u8 n)] [] (.sc (.b (digI n))) []:=
 ak follows F130_ok rfl (fun _ _ h=>by cases h) rfl (by rfl) (b130 W0 n)
theorem b128 (W0:Go.World) (n:Int):aD (Ctr Tryz.prog W0) F128.ac F128.rs [.sc (.i .u8 n)] [] (.sc (.b (dn n))) []:=by
 repeat' ((conv=>whnf);(first | with_reducible refine ap (fun _=>?_) (fun _=>?_) | (refine callP.pure _ (c127 W0 n) ⟨rfl,rfl⟩ ?_) | (refine callP.pure _ (c130 W0 n) ⟨rfl,rfl⟩ ?_) | fail))
 all_goals ((conv=>whnf);refine aE ?_;simp_all [dn];try (intros;omega))
theorem c128 (W0:Go.World) (n:Int):Ctr Tryz.prog W0 224 [.sc (.i .u8 n)] [] (.sc (.b (dn n))) []:=
 ak follows F128_ok rfl (fun _ _ h=>by cases h) rfl (by rfl) (b128 W0 n)
theorem b132 (W0:Go.World) (l:List S) (s:S) (hl:l.length≤140737488355328):aD (Ctr Tryz.prog W0) F132.ac F132.rs [bU l,.sc (.s s)] [] (.sc (.b (a7 s l))) []:=by
 conv=>whnf
 refine .st 1000 (fun k=>l.length - k) (fun k=>[(.s 0,.av (bU l)),(.s 1,.av (.sc (.s s))),(.s 5,.av (.sc (.i .i64 (k:Nat))))])
  (fun k=>k≤l.length∧a7 s l=a7 s (l.drop k)) 0 ?_ ⟨Nat.zero_le _,rfl⟩ ?_
 ·(refine aN rfl rfl ?_;repeat' (first | exact rfl | exact trivial | refine ⟨?_,?_⟩))
 ·rintro k ⟨hk,he⟩
  conv=>whnf
  refine ap (fun h2=>?_) (fun h2=>?_)
  ·simp only [aa,decide_eq_false_iff_not] at h2
   have e1:l.drop k=[]:=by simp;omega
   rw [e1] at he
   conv=>whnf
   exact aE (by rw [he];rfl)
  ·simp only [aa,decide_eq_true_eq] at h2
   obtain ⟨x,hx⟩:=aB (l:=l) (k:=k) (by omega)
   have dx:=bD hx
   rw [aR hx,a7] at he
   conv=>whnf
   refine ⟨_,⟨Int.natCast_nonneg _,dx⟩,?_⟩
   conv=>whnf
   refine ap (fun h3=>?_) (fun h3=>?_)
   ·rw [oZ] at h3
    rw [h3,Bool.false_or] at he
    conv=>whnf
    refine And.intro (by constructor<;>omega) ?_
    conv=>whnf
    refine nxt (k+1) ⟨by omega,by omega,he⟩ ?_
    (refine aN rfl rfl ?_;repeat' (first | exact rfl | exact trivial | refine ⟨?_,?_⟩))
   ·rw [oZ] at h3
    rw [h3,Bool.true_or] at he
    conv=>whnf
    exact aE he.symm
theorem c132 (W0:Go.World) (l:List S) (s:S) (hl:l.length≤140737488355328):Ctr Tryz.prog W0 163 [bU l,.sc (.s s)] [] (.sc (.b (a7 s l))) []:=
 ak follows F132_ok rfl (fun _ _ h=>by cases h) rfl (by rfl) (b132 W0 l s hl)
theorem innN_eq:∀ (s:S),decide (fc s=s.length)=s.all fun c=>dn c.toNat
 | []=>rfl
 | c :: r => by
   have ih:=innN_eq r
   have hle:=pA r
   cases h:dn c.toNat with
   | true=>simp [fc,h,← ih]
   | false=>simp [fc,h]
theorem b184 (W0:Go.World) (s:S) (hl:s.length≤140737488355328):aD (Ctr Tryz.prog W0) F184.ac F184.rs [.sc (.s s)] [] (.sc (.b (kD s))) []:=by
 conv=>whnf
 refine ap (fun h1=>?_) (fun h1=>?_)
 ·have hs:s≠[]:=by intro e;subst e;simp [aH] at h1
  obtain ⟨c,r,rfl⟩:=List.exists_cons_of_ne_nil hs
  conv=>whnf
  refine ⟨c,⟨Int.le_refl _,rfl⟩,?_⟩
  conv=>whnf
  refine callP.pure _ (c127 W0 c.toNat) ⟨rfl,rfl⟩ ?_
  conv=>whnf
  refine ap (fun h2=>?_) (fun h2=>?_)
  ·conv=>whnf
   rw [Bool.not_eq_false'] at h2
   have e0:kD (c::r)=(c::r).all fun c=>dn c.toNat:=by rw [kD,h2,Bool.true_and];exact innN_eq _
   refine .st 1000 (fun k=>(c::r).length - k) (fun k=>[(.s 0,.av (.sc (.s (c::r)))),(.s 3,.av (.sc (.i .i64 (k:Nat))))])
    (fun k=>k≤(c::r).length∧kD (c::r)=((c::r).drop k).all fun c=>dn c.toNat) 0 ?_ ⟨by simp,by rw [e0];rfl⟩ ?_
   ·(refine aN rfl rfl ?_;repeat' (first | exact rfl | exact trivial | refine ⟨?_,?_⟩))
   ·rintro k ⟨hk,he⟩
    conv=>whnf
    refine ap (fun h3=>?_) (fun h3=>?_)
    ·conv=>whnf
     simp only [decide_eq_false_iff_not] at h3
     have e1:(c::r).drop k=[]:=by rw [List.drop_eq_nil_iff];omega
     rw [e1] at he
     exact aE (by rw [he];rfl)
    ·simp only [decide_eq_true_eq] at h3
     obtain ⟨x,hx⟩:=aB (l:=c::r) (k:=k) (by omega)
     rw [aR hx,List.all_cons] at he
     conv=>whnf
     refine ⟨x,⟨Int.natCast_nonneg _,hx⟩,?_⟩
     conv=>whnf
     refine callP.pure _ (c128 W0 x.toNat) ⟨rfl,rfl⟩ ?_
     conv=>whnf
     refine ap (fun h4=>?_) (fun h4=>?_)
     ·rw [Bool.not_eq_false'] at h4
      rw [h4,Bool.true_and] at he
      conv=>whnf
      refine And.intro (by constructor<;>omega) ?_
      conv=>whnf
      refine nxt (k+1) ⟨by omega,by omega,he⟩ ?_
      (refine aN rfl rfl ?_;repeat' (first | exact rfl | exact trivial | refine ⟨?_,?_⟩))
     ·rw [Bool.not_eq_true'] at h4
      rw [h4,Bool.false_and] at he
      conv=>whnf
      exact aE he.symm
  ·conv=>whnf
   rw [Bool.not_eq_true'] at h2
   refine aE ?_
   simp [kD,h2]
 ·conv=>whnf
  have hs:s=[]:=by simpa [aH] using h1
  subst hs
  exact aE rfl
theorem c184 (W0:Go.World) (s:S) (hl:s.length≤140737488355328):Ctr Tryz.prog W0 162 [.sc (.s s)] [] (.sc (.b (kD s))) []:=
 ak follows F184_ok rfl (fun _ _ h=>by cases h) rfl (by rfl) (b184 W0 s hl)
end Go.Abs
namespace Go.Abs
open Go.Proofs
def keysR:S:=[32,97,110,100,32,97,114,114,97,121,32,97,116,32,97,116,111,109,105,99,32,98,101,103,105,110,32,98,108,111,99,107,32,98,108,111,99,107,115,32,98,111,111,108,32,98,121,32,99,111,98,101,103,105,110,32,99,111,102,111,114,97,108,108,32,99,111,117,110,116,32,99,121,99,108,105,99,32,100,111,32,100,111,109,97,105,110,32,101,108,115,101,32,102,97,108,115,101,32,102,105,108,108,32,102,111,108,100,32,102,111,114,32,102,111,114,97,108,108,32,103,101,116,32,103,105,118,101,32,104,97,108,116,32,104,97,115,32,104,105,103,104,32,105,102,32,105,110,32,105,110,116,32,105,115,32,108,111,119,32,109,97,120,32,109,105,110,32,110,111,110,101,32,110,116,104,32,111,110,32,111,114,100,32,111,118,101,114,32,112,114,111,99,32,114,101,97,100,32,114,101,100,117,99,101,32,114,101,115,105,122,101,32,114,101,116,117,114,110,32,115,99,97,110,32,115,101,116,32,115,105,110,103,108,101,32,115,121,110,99,32,116,111,32,116,114,117,101,32,118,97,114,32,119,104,101,114,101,32,119,104,105,108,101,32,119,104,111,108,101,32,119,105,116,104,32,119,114,105,116,101,32,122,105,112,32,97,100,100,32]
open K in
def F131:Fn:=⟨.seq (.reg [n (.mv 2 (.c (.sl 1 [] .full)))]) (.seq (.reg [n (.mv 3 (.c (.sl 1 [] .full)))]) (.seq (.reg [n (.mv 4 (.c (.sc (.s []))))]) (.seq (.seq (.reg [n (mi 5 0)]) (.block 0 (.loop (.seq (.seq (.reg [m 6 5,m 7 0,n (.lenS 8 (.t 7)),n (b2 9 .lss 6 8)]) (.cond (.t 9) .skip (.exit 0))) (.seq (.block 1 (.seq (.seq (.reg [m 12 0,m 13 5,n (.ix 14 (.t 12) (.t 13)),n (.bin 15 .neq (.t 14) (.c (.sc (.i .u8 32))))]) (.cond (.t 15) (.seq (.reg [m 16 4,m 17 0,m 18 5,m 19 5,n (bi 20 .add 19 1),n (.slS 21 (.t 17) (some (.t 18)) (some (.t 20))),n (b2 22 .add 16 21),m 4 22]) (.exit 1)) .skip)) (.seq (.seq (.reg [m 23 4,n (bs 24 .neq 23 [])]) (.cond (.t 24) (.reg [m 25 3,m 26 4,n (.bsl 27 1 [.t 26]),n (.app 28 1 16 (.t 25) (.t 27)),m 3 28]) .skip)) (.reg [n (.mv 4 (.c (.sc (.s []))))])))) (.reg [m 10 5,n (bi 11 .add 10 1),m 5 11])))))) (.seq (.reg [m 29 3,m 2 29]) .ret)))),[(2,0)],30,[]⟩
open K in
def F129:Fn:=⟨.seq (.reg [n (mb 2 false)]) (.seq (.reg [m 3 0,n (cf 4 162 [.t 3]),m 5 4,w 5 (cf 6 164 [.c (.sc (.s [32,97,110,100,32,97,114,114,97,121,32,97,116,32,97,116,111,109,105,99,32,98,101,103,105,110,32,98,108,111,99,107,32,98,108,111,99,107,115,32,98,111,111,108,32,98,121,32,99,111,98,101,103,105,110,32,99,111,102,111,114,97,108,108,32,99,111,117,110,116,32,99,121,99,108,105,99,32,100,111,32,100,111,109,97,105,110,32,101,108,115,101,32,102,97,108,115,101,32,102,105,108,108,32,102,111,108,100,32,102,111,114,32,102,111,114,97,108,108,32,103,101,116,32,103,105,118,101,32,104,97,108,116,32,104,97,115,32,104,105,103,104,32,105,102,32,105,110,32,105,110,116,32,105,115,32,108,111,119,32,109,97,120,32,109,105,110,32,110,111,110,101,32,110,116,104,32,111,110,32,111,114,100,32,111,118,101,114,32,112,114,111,99,32,114,101,97,100,32,114,101,100,117,99,101,32,114,101,115,105,122,101,32,114,101,116,117,114,110,32,115,99,97,110,32,115,101,116,32,115,105,110,103,108,101,32,115,121,110,99,32,116,111,32,116,114,117,101,32,118,97,114,32,119,104,101,114,101,32,119,104,105,108,101,32,119,104,111,108,101,32,119,105,116,104,32,119,114,105,116,101,32,122,105,112,32,97,100,100,32]))]),wm 5 7 0,w 5 (cf 8 163 [.t 6,.t 7]),w 5 (.no 9 (.t 8)),n (pf 10 5 9),m 2 10]) .ret),[(2,0)],11,[]⟩
theorem F131_ok:aI Tryz.prog (fun _=>an0) 164=some F131:=by kernel_rfl
theorem F129_ok:aI Tryz.prog (fun _=>an0) 101=some F129:=by kernel_rfl
def R131:Go.FuncId→Option Fn | 164=>some F131 | _=>none
theorem wk:jj [] keysR=keyList:=by kernel_rfl
theorem aw131:runX R131 (fun _ _ _=>none) 2 164 [.sc (.s keysR)] []=some (.sl 1 (ae (jj [] keysR)) (.t 0),[]):=by kernel_rfl
theorem R131_tab (W0:Go.World):TabOK Tryz.prog W0 R131:=by
 intro f F h
 unfold R131 at h
 split at h
 ·cases h
  exact ne (fun _ _ _ h=>by cases h) 164 F131 F131_ok
 ·cases h
theorem c131 (W0:Go.World):Ctr Tryz.prog W0 164 [.sc (.s keysR)] [] (.sl 1 (ae keyList) (.t 0)) []:=
 wk ▸ runX_s follows (R131_tab W0) (fun _ _ _ _ _ h=>by cases h) 2 164 [.sc (.s keysR)] [] _ _ aw131
def aF (s:S):Bool:=kD s&&!a7 s keyList
theorem b129 (W0:Go.World) (s:S) (hl:s.length≤140737488355328):aD (Ctr Tryz.prog W0) F129.ac F129.rs [.sc (.s s)] [] (.sc (.b (aF s))) []:=by
 repeat' ((conv=>whnf);(first | with_reducible refine ap (fun _=>?_) (fun _=>?_) | (refine callP.pure _ (c184 W0 s hl) ⟨rfl,rfl⟩ ?_) | (refine callP.pure _ (c131 W0) ⟨rfl,rfl⟩ ?_) | (refine callP.pure _ (c132 W0 keyList s (by decide)) ⟨rfl,rfl⟩ ?_) | fail))
 all_goals ((conv=>whnf);refine aE ?_;simp_all [aF])
theorem c129 (W0:Go.World) (s:S) (hl:s.length≤140737488355328):Ctr Tryz.prog W0 101 [.sc (.s s)] [] (.sc (.b (aF s))) []:=
 ak follows F129_ok rfl (fun _ _ h=>by cases h) rfl (by rfl) (b129 W0 s hl)
end Go.Abs
namespace Go.Abs
open Go.Proofs
def tx4:S:=[105,110,116,32,98,111,111,108,32,110,111,110,101]
end Go.Abs
namespace Go.Abs
theorem small_inner {n:Int} (h:ew n=true):dn n=true:=by simp [dn,h]
theorem kindS_name (s:S):aH (kM s) [110,97,109,101]=!a7 s keyList:=by
 unfold kM
 cases a7 s keyList<;>decide
theorem jt (s:S):aF s=aj s:=by
 unfold aj lN aF
 cases s with
 | nil=>decide +kernel
 | cons c r =>
   have hw:=wordN_le (c::r)
   simp only [kD]
   cases hs:ew c.toNat with
   | false =>
     simp only [Bool.false_and]
     have hw0:eu (c::r)=0:=by simp [eu,hs]
     have:aH (bX (c::r)).1 [110,97,109,101]=false∨(bX (c::r)).2.2=false:=by
      unfold bX
      rw [hw0]
      simp only
      split
      ·left;show aH [105,110,116] [110,97,109,101]=false;decide
      ·split
       ·left;show aH [115,105,103,110] [110,97,109,101]=false;decide
       ·right;rfl
     rcases this with h | h<;>rw [h]<;>simp
   | true =>
     have hi:=small_inner hs
     have hwn:eu (c::r)=fc r+1:=by simp [eu,hs]
     have hin:fc (c::r)=fc r+1:=by simp [fc,hi]
     have hf:bX (c::r)=(kM ((c::r).take (fc r+1)),(c::r).take (fc r+1),true):=by unfold bX;rw [hwn]
     rw [hf,hin]
     simp only [Bool.true_and]
     rw [hwn] at hw
     by_cases hl:fc r+1=(c::r).length
     ·rw [hl,List.take_length,kindS_name,beqL_refl]
      simp
     ·have h1:aH ((c::r).take (fc r+1)) (c::r)=false:=by
       simp only [aH,decide_eq_false_iff_not]
       intro e
       have:=congrArg List.length e
       rw [List.length_take] at this
       omega
      rw [h1,show decide (fc r+1=(c::r).length)=false from decide_eq_false hl]
      simp
end Go.Abs
