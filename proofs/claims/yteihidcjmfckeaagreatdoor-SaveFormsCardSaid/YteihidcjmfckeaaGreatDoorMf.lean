/- Letters, words, digits: the program's token package. -/
import Derived.Test.YteihidcjmfckeaaGreatDoorMe
import Derived.Test.YteihidcjmfckeaaGreatDoorProg
set_option linter.all false
set_option maxRecDepth 1000000
set_option maxHeartbeats 16000000
namespace Go.Abs
open Go.Proofs
def ew (n:Int):Bool:=decide (97≤n)&&decide (n≤122)
def digI (n:Int):Bool:=decide (48≤n)&&decide (n≤57)
def dn (n:Int):Bool:=ew n||((decide (65≤n)&&decide (n≤90))||(digI n||decide (n=95)))
def fc:S→Nat
 | []=>0
 | c::r=>match dn c.toNat with | true=>fc r+1 | false=>0
def eu:S→Nat
 | []=>0
 | c::r=>match ew c.toNat with | true=>fc r+1 | false=>0
def kU:S→Nat
 | []=>0
 | c::r=>match digI c.toNat with | true=>kU r+1 | false=>0
theorem pA:∀ s,fc s≤s.length
 | []=>Nat.le_refl _
 | c::r=>by simp only [fc];split<;>simp [pA r]
theorem digsN_le:∀ s,kU s≤s.length
 | []=>Nat.le_refl _
 | c::r=>by simp only [kU];split<;>simp [digsN_le r]
theorem wordN_le:∀ s,eu s≤s.length
 | []=>Nat.le_refl _
 | c::r=>by simp only [eu];split<;>simp [pA r]
def dO (s p:S):Bool:=decide (p.length≤s.length)&&aH (s.take p.length) p
open K in
def F242:Fn:=⟨.seq (.reg [n (mb 2 false)]) (.seq (.reg [m 3 0,n (.bin 4 .geq (.t 3) (.c (.sc (.i .u8 97)))),m 5 4,wm 5 6 0,w 5 (.bin 7 .leq (.t 6) (.c (.sc (.i .u8 122)))),n (pf 8 5 7),m 2 8]) .ret),[(2,0)],9,[]⟩
open K in
def F245:Fn:=⟨.seq (.reg [n (mb 2 false)]) (.seq (.reg [m 3 0,n (.bin 4 .geq (.t 3) (.c (.sc (.i .u8 48)))),m 5 4,wm 5 6 0,w 5 (.bin 7 .leq (.t 6) (.c (.sc (.i .u8 57)))),n (pf 8 5 7),m 2 8]) .ret),[(2,0)],9,[]⟩
open K in
def F243:Fn:=⟨.seq (.reg [n (mb 2 false)]) (.seq (.reg [m 3 0,n (cf 4 301 [.t 3]),m 5 4,gm 5 6 0,g 5 (.bin 7 .geq (.t 6) (.c (.sc (.i .u8 65)))),gm 5 8 7,wm 8 9 0,w 8 (.bin 10 .leq (.t 9) (.c (.sc (.i .u8 90)))),g 5 (pf 11 8 10),n (pt 12 5 11),m 13 12,gm 13 14 0,g 13 (cf 15 304 [.t 14]),n (pt 16 13 15),m 17 16,gm 17 18 0,g 17 (.bin 19 .eql (.t 18) (.c (.sc (.i .u8 95)))),n (pt 20 17 19),m 2 20]) .ret),[(2,0)],21,[]⟩
open K in
def F240:Fn:=⟨.seq (.reg [n (mb 4 false)]) (.seq (.reg [m 5 0,n (.lenS 6 (.t 5)),m 7 1,n (.lenS 8 (.t 7)),n (b2 9 .geq 6 8),m 10 9,wm 10 11 0,wm 10 12 1,w 10 (.lenS 13 (.t 12)),w 10 (.slS 14 (.t 11) none (some (.t 13))),wm 10 15 1,w 10 (b2 16 .eql 14 15),n (pf 17 10 16),m 4 17]) .ret),[(4,0)],18,[]⟩
open K in
def F214:Fn:=⟨.seq (.reg [n (mb 4 false)]) (.seq (.reg [m 5 0,m 6 1,n (cf 7 156 [.t 5,.t 6]),m 4 7]) .ret),[(4,0)],8,[]⟩
open K in
def F216:Fn:=⟨.seq (.reg [n (mi 2 0)]) (.seq (.seq (.reg [m 4 0,n (bs 5 .eql 4 []),m 6 5,gm 6 7 0,g 6 (.ix 8 (.t 7) (.c (.sc (.i .i64 0)))),g 6 (cf 9 301 [.t 8]),g 6 (.no 10 (.t 9)),n (pt 11 6 10)]) (.cond (.t 11) (.seq (.reg [n (mi 2 0)]) .ret) .skip)) (.seq (.reg [n (mi 3 1)]) (.seq (.block 0 (.loop (.seq (.seq (.reg [m 12 3,m 13 0,n (.lenS 14 (.t 13)),n (b2 15 .lss 12 14),m 16 15,wm 16 17 0,wm 16 18 3,w 16 (.ix 19 (.t 17) (.t 18)),w 16 (cf 20 302 [.t 19]),n (pf 21 16 20)]) (.cond (.t 21) .skip (.exit 0))) (.block 1 (.reg [m 22 3,n (bi 23 .add 22 1),m 3 23]))))) (.seq (.reg [m 24 3,m 2 24]) .ret)))),[(2,0)],25,[]⟩
open K in
def F218:Fn:=⟨.seq (.reg [n (mi 2 0)]) (.seq (.seq (.reg [m 4 0,n (cf 5 225 [.t 4,.c (.sc (.s [48]))])]) (.cond (.t 5) (.seq (.reg [n (mi 2 1)]) .ret) .skip)) (.seq (.reg [n (mi 3 0)]) (.seq (.block 0 (.loop (.seq (.seq (.reg [m 6 3,m 7 0,n (.lenS 8 (.t 7)),n (b2 9 .lss 6 8),m 10 9,wm 10 11 0,wm 10 12 3,w 10 (.ix 13 (.t 11) (.t 12)),w 10 (cf 14 304 [.t 13]),n (pf 15 10 14)]) (.cond (.t 15) .skip (.exit 0))) (.block 1 (.reg [m 16 3,n (bi 17 .add 16 1),m 3 17]))))) (.seq (.reg [m 18 3,m 2 18]) .ret)))),[(2,0)],19,[]⟩
theorem F242_ok:aI Tryz.prog (fun _=>an0) 301=some F242:=by kernel_rfl
theorem F245_ok:aI Tryz.prog (fun _=>an0) 304=some F245:=by kernel_rfl
theorem F243_ok:aI Tryz.prog (fun _=>an0) 302=some F243:=by kernel_rfl
theorem F240_ok:aI Tryz.prog (fun _=>an0) 156=some F240:=by kernel_rfl
theorem F214_ok:aI Tryz.prog (fun _=>an0) 225=some F214:=by kernel_rfl
theorem F216_ok:aI Tryz.prog (fun _=>an0) 227=some F216:=by kernel_rfl
theorem F218_ok:aI Tryz.prog (fun _=>an0) 229=some F218:=by kernel_rfl
theorem b242 (W0:Go.World) (n:Int):aD (Ctr Tryz.prog W0) F242.ac F242.rs [.sc (.i .u8 n)] [] (.sc (.b (ew n))) []:=by
 repeat' ((conv=>whnf);(first | with_reducible refine ap (fun _=>?_) (fun _=>?_) | fail))
 all_goals ((conv=>whnf);refine aE ?_;simp_all [ew];try (intros;omega))
theorem c242 (W0:Go.World) (n:Int):Ctr Tryz.prog W0 301 [.sc (.i .u8 n)] [] (.sc (.b (ew n))) []:=
 ak follows F242_ok rfl (fun _ _ h=>by cases h) rfl (by rfl) (b242 W0 n)
theorem b245 (W0:Go.World) (n:Int):aD (Ctr Tryz.prog W0) F245.ac F245.rs [.sc (.i .u8 n)] [] (.sc (.b (digI n))) []:=by
 repeat' ((conv=>whnf);(first | with_reducible refine ap (fun _=>?_) (fun _=>?_) | fail))
 all_goals ((conv=>whnf);refine aE ?_;simp_all [digI];try (intros;omega))
theorem c245 (W0:Go.World) (n:Int):Ctr Tryz.prog W0 304 [.sc (.i .u8 n)] [] (.sc (.b (digI n))) []:=
 ak follows F245_ok rfl (fun _ _ h=>by cases h) rfl (by rfl) (b245 W0 n)
theorem b243 (W0:Go.World) (n:Int):aD (Ctr Tryz.prog W0) F243.ac F243.rs [.sc (.i .u8 n)] [] (.sc (.b (dn n))) []:=by
 repeat' ((conv=>whnf);(first | with_reducible refine ap (fun _=>?_) (fun _=>?_) | (refine callP.pure _ (c242 W0 n) ⟨rfl,rfl⟩ ?_) | (refine callP.pure _ (c245 W0 n) ⟨rfl,rfl⟩ ?_) | fail))
 all_goals ((conv=>whnf);refine aE ?_;simp_all [dn];try (intros;omega))
theorem c243 (W0:Go.World) (n:Int):Ctr Tryz.prog W0 302 [.sc (.i .u8 n)] [] (.sc (.b (dn n))) []:=
 ak follows F243_ok rfl (fun _ _ h=>by cases h) rfl (by rfl) (b243 W0 n)
theorem b240 (W0:Go.World) (s p:S):aD (Ctr Tryz.prog W0) F240.ac F240.rs [.sc (.s s),.sc (.s p)] [] (.sc (.b (dO s p))) []:=by
 repeat' ((conv=>whnf);(first | with_reducible refine ap (fun _=>?_) (fun _=>?_) | (refine ⟨⟨Int.le_refl _,Int.natCast_nonneg _,by simp_all⟩,?_⟩) | fail))
 all_goals ((conv=>whnf);refine aE ?_;simp_all [dO];try (intros;omega))
theorem c240 (W0:Go.World) (s p:S):Ctr Tryz.prog W0 156 [.sc (.s s),.sc (.s p)] [] (.sc (.b (dO s p))) []:=
 ak follows F240_ok rfl (fun _ _ h=>by cases h) rfl (by rfl) (b240 W0 s p)
theorem b214 (W0:Go.World) (s p:S):aD (Ctr Tryz.prog W0) F214.ac F214.rs [.sc (.s s),.sc (.s p)] [] (.sc (.b (dO s p))) []:=by
 repeat' ((conv=>whnf);(first | with_reducible refine ap (fun _=>?_) (fun _=>?_) | (refine callP.pure _ (c240 W0 s p) ⟨rfl,rfl⟩ ?_) | fail))
 all_goals ((conv=>whnf);refine aE ?_;rfl)
theorem c214 (W0:Go.World) (s p:S):Ctr Tryz.prog W0 225 [.sc (.s s),.sc (.s p)] [] (.sc (.b (dO s p))) []:=
 ak follows F214_ok rfl (fun _ _ h=>by cases h) rfl (by rfl) (b214 W0 s p)
theorem b216 (W0:Go.World) (s:S) (hl:s.length≤140737488355328):aD (Ctr Tryz.prog W0) F216.ac F216.rs [.sc (.s s)] [] (.sc (.i .i64 (eu s))) []:=by
 conv=>whnf
 refine ap (fun h1=>?_) (fun h1=>?_)
 ·have hs:s≠[]:=by intro e;subst e;simp [aH] at h1
  obtain ⟨c,r,rfl⟩:=List.exists_cons_of_ne_nil hs
  conv=>whnf
  refine ⟨c,⟨Int.le_refl _,rfl⟩,?_⟩
  conv=>whnf
  refine callP.pure _ (c242 W0 c.toNat) ⟨rfl,rfl⟩ ?_
  conv=>whnf
  refine ap (fun h2=>?_) (fun h2=>?_)
  ·conv=>whnf
   rw [Bool.not_eq_false'] at h2
   refine .st 1000 (fun k=>(c::r).length - k) (fun k=>[(.s 0,.av (.sc (.s (c::r)))),(.s 3,.av (.sc (.i .i64 (k:Nat))))])
    (fun k=>k≤(c::r).length∧eu (c::r)=k+fc ((c::r).drop k)) 1 ?_ ⟨by simp,by simp [eu,h2];omega⟩ ?_
   ·(refine aN rfl rfl ?_;repeat' (first | exact rfl | exact trivial | refine ⟨?_,?_⟩))
   ·rintro k ⟨hk,he⟩
    conv=>whnf
    refine ap (fun h3=>?_) (fun h3=>?_)
    ·conv=>whnf
     simp only [decide_eq_false_iff_not] at h3
     have e1:(c::r).drop k=[]:=by rw [List.drop_eq_nil_iff];omega
     rw [e1] at he
     refine eU ?_
     simp only [fc] at he;omega
    ·simp only [decide_eq_true_eq] at h3
     obtain ⟨x,hx⟩:=aB (l:=c::r) (k:=k) (by omega)
     rw [aR hx] at he
     conv=>whnf
     refine ⟨x,⟨Int.natCast_nonneg _,hx⟩,?_⟩
     conv=>whnf
     refine callP.pure _ (c243 W0 x.toNat) ⟨rfl,rfl⟩ ?_
     conv=>whnf
     refine ap (fun h4=>?_) (fun h4=>?_)
     ·conv=>whnf
      simp only [fc,h4] at he
      refine eU ?_
      omega
     ·conv=>whnf
      simp only [fc,h4] at he
      refine ⟨?_,?_⟩
      ·constructor<;>omega
      ·conv=>whnf
       refine nxt (k+1) ⟨by omega,by omega,by omega⟩ ?_
       (refine aN rfl rfl ?_;repeat' (first | exact rfl | exact trivial | refine ⟨?_,?_⟩))
  ·conv=>whnf
   rw [Bool.not_eq_true'] at h2
   refine eU ?_
   simp [eu,h2]
 ·conv=>whnf
  have hs:s=[]:=by simpa [aH] using h1
  subst hs
  exact eU rfl
theorem c216 (W0:Go.World) (s:S) (hl:s.length≤140737488355328):Ctr Tryz.prog W0 227 [.sc (.s s)] [] (.sc (.i .i64 (eu s))) []:=
 ak follows F216_ok rfl (fun _ _ h=>by cases h) rfl (by rfl) (b216 W0 s hl)
def m8 (s:S):Nat:=match dO s [48] with | true=>1 | false=>kU s
theorem b218 (W0:Go.World) (s:S) (hl:s.length≤140737488355328):aD (Ctr Tryz.prog W0) F218.ac F218.rs [.sc (.s s)] [] (.sc (.i .i64 (m8 s))) []:=by
 conv=>whnf
 refine callP.pure _ (c214 W0 s [48]) ⟨rfl,rfl⟩ ?_
 conv=>whnf
 refine ap (fun h2=>?_) (fun h2=>?_)
 ·conv=>whnf
  refine .st 1000 (fun k=>s.length - k) (fun k=>[(.s 0,.av (.sc (.s s))),(.s 3,.av (.sc (.i .i64 (k:Nat))))])
   (fun k=>k≤s.length∧m8 s=k+kU (s.drop k)) 0 ?_ ⟨by simp,by simp [m8,h2]⟩ ?_
  ·(refine aN rfl rfl ?_;repeat' (first | exact rfl | exact trivial | refine ⟨?_,?_⟩))
  ·rintro k ⟨hk,he⟩
   conv=>whnf
   refine ap (fun h3=>?_) (fun h3=>?_)
   ·conv=>whnf
    simp only [decide_eq_false_iff_not] at h3
    have e1:s.drop k=[]:=by rw [List.drop_eq_nil_iff];omega
    rw [e1] at he
    refine eU ?_
    simp only [kU] at he;omega
   ·simp only [decide_eq_true_eq] at h3
    obtain ⟨x,hx⟩:=aB (l:=s) (k:=k) (by omega)
    rw [aR hx] at he
    conv=>whnf
    refine ⟨x,⟨Int.natCast_nonneg _,hx⟩,?_⟩
    conv=>whnf
    refine callP.pure _ (c245 W0 x.toNat) ⟨rfl,rfl⟩ ?_
    conv=>whnf
    refine ap (fun h4=>?_) (fun h4=>?_)
    ·conv=>whnf
     simp only [kU,h4] at he
     refine eU ?_
     omega
    ·conv=>whnf
     simp only [kU,h4] at he
     refine ⟨?_,?_⟩
     ·constructor<;>omega
     ·conv=>whnf
      refine nxt (k+1) ⟨by omega,by omega,by omega⟩ ?_
      (refine aN rfl rfl ?_;repeat' (first | exact rfl | exact trivial | refine ⟨?_,?_⟩))
 ·conv=>whnf
  refine eU ?_
  simp [m8,h2]
theorem c218 (W0:Go.World) (s:S) (hl:s.length≤140737488355328):Ctr Tryz.prog W0 229 [.sc (.s s)] [] (.sc (.i .i64 (m8 s))) []:=
 ak follows F218_ok rfl (fun _ _ h=>by cases h) rfl (by rfl) (b218 W0 s hl)
end Go.Abs
namespace Go.Abs
open Go.Proofs
theorem nX {σ:Log} {v res:AV} (h1:inR 0 0 res=true) (h2:wk3 v (ren [] [] 0 res)) (h3:toks res=[]):FinOK σ v 0 0 res []:=
 ⟨⟨[],[],⟨rfl,rfl,h1,rfl⟩,h2,trivial,by rw [h3];exact trivial⟩⟩
def keysT:S:=[97,110,100,32,97,114,114,97,121,32,97,116,32,97,116,111,109,105,99,32,98,101,103,105,110,32,98,108,111,99,107,32,98,108,111,99,107,115,32,98,111,111,108,32,98,121,32,99,111,98,101,103,105,110,32,99,111,102,111,114,97,108,108,32,99,111,117,110,116,32,99,121,99,108,105,99,32,100,111,32,100,111,109,97,105,110,32,101,108,115,101,32,102,97,108,115,101,32,102,105,108,108,32,102,111,108,100,32,102,111,114,32,102,111,114,97,108,108,32,103,101,116,32,103,105,118,101,32,104,97,108,116,32,104,97,115,32,104,105,103,104,32,105,102,32,105,110,32,105,110,116,32,105,115,32,108,111,119,32,109,97,120,32,109,105,110,32,110,111,110,101,32,110,116,104,32,111,110,32,111,114,100,32,111,118,101,114,32,112,114,111,99,32,114,101,97,100,32,114,101,100,117,99,101,32,114,101,115,105,122,101,32,114,101,116,117,114,110,32,115,99,97,110,32,115,101,116,32,115,105,110,103,108,101,32,115,121,110,99,32,116,111,32,116,114,117,101,32,118,97,114,32,119,104,101,114,101,32,119,104,105,108,101,32,119,104,111,108,101,32,119,105,116,104,32,119,114,105,116,101,32,122,105,112,32,97,100,100]
def keyList:List S:=Go.Lib.fields keysT
def signList:List S:=[[60,61],[61,61],[46,46],[60,45],[40],[41],[91],[93],[123],[125],[44],[59],[58],[61],[43],[45],[42],[47],[37],[60],[38],[124],[33]]
def a7 (s:S):List S→Bool
 | []=>false
 | e::r=>aH s e||a7 s r
def jM (s:S):List S→Nat→Int
 | [],_=>-1
 | e::r,k=>match aH s e with | true=>k | false=>jM s r (k+1)
theorem oK (s:S):∀ (l:List S) (k:Nat),decide (0≤jM s l k)=a7 s l
 | [],k=>rfl
 | e :: r, k => by
   have ih:=oK s r (k+1)
   cases h:aH s e with
   | true=>simp [jM,a7,h]
   | false=>simpa [jM,a7,h] using ih
theorem keysT_ascii:∀ b,b∈keysT→b.toNat<128:=la (by decide +kernel)
theorem keyList_len:keyList.length≤200:=of_decide_eq_true (by kernel_rfl)
def kM (s:S):S:=match a7 s keyList with | true=>[107,101,121] | false=>[110,97,109,101]
def j0 (s:S):List S→Option S
 | []=>none
 | x::r=>match dO s x with | true=>some x | false=>j0 s r
def bX (s:S):S × S × Bool:=match eu s with
 | n+1=>(kM (s.take (n+1)),s.take (n+1),true)
 | 0 => match m8 s with
   | n+1=>([105,110,116],s.take (n+1),decide (((n+1:Nat):Int)≤9))
   | 0 => match j0 s signList with
     | some x=>([115,105,103,110],x,true)
     | none=>([],[],false)
def tokA (k t:S) (at_:Int) (ok:Bool):AV:=.tup [.agg [.sc (.s k),.sc (.s t),.sc (.i .i64 at_)],.sc (.b ok)]
def lN (k t:S):Bool:=(bX t).2.2&&(aH (bX t).1 k&&aH (bX t).2.1 t)
def aj (s:S):Bool:=lN [110,97,109,101] s
structure Wk (W0:Go.World):Prop where
 sp:Go.Lib.TabIs Tryz.prog W0 "strings.asciiSpace" .u8 Go.Lib.asciiSpaceTab
 pow:Go.Lib.TabIs Tryz.prog W0 "internal/strconv.uint64pow10" .u64 Go.Lib.pow10Tab
 ml:∃ m,W0.cell? ⟨0,0,none⟩=some (.int .i64 m)
open K in
def F271:Fn:=⟨.seq (.reg [n (mi 4 0)]) (.seq (.seq (.reg [m 6 0,n (.len 7 (.t 6)),n (mi 8 0)]) (.block 0 (.loop (.seq (.reg [n (b2 9 .lss 8 7)]) (.seq (.cond (.t 9) .skip (.exit 0)) (.seq (.block 1 (.seq (.reg [m 10 8,m 5 10]) (.seq (.reg [m 11 1,m 12 0,m 13 5,n (ix 14 1 12 13),n (ld 15 14),n (b2 16 .eql 11 15)]) (.cond (.t 16) (.seq (.reg [m 17 5,m 4 17]) .ret) .skip)))) (.reg [n (bi 18 .add 8 1),m 8 18]))))))) (.seq (.reg [n (mi 4 (-1))]) .ret)),[(4,0)],19,[]⟩
open K in
def F260:Fn:=⟨.seq (.reg [n (mb 4 false)]) (.seq (.reg [m 5 0,m 6 1,n (cf 7 161 [.t 5,.t 6]),n (bi 8 .geq 7 0),m 4 8]) .ret),[(4,0)],9,[]⟩
open K in
def F244:Fn:=⟨.seq (.reg [n (mb 2 false)]) (.seq (.reg [n (cf 3 365 [.c (.sc (.s [97,110,100,32,97,114,114,97,121,32,97,116,32,97,116,111,109,105,99,32,98,101,103,105,110,32,98,108,111,99,107,32,98,108,111,99,107,115,32,98,111,111,108,32,98,121,32,99,111,98,101,103,105,110,32,99,111,102,111,114,97,108,108,32,99,111,117,110,116,32,99,121,99,108,105,99,32,100,111,32,100,111,109,97,105,110,32,101,108,115,101,32,102,97,108,115,101,32,102,105,108,108,32,102,111,108,100,32,102,111,114,32,102,111,114,97,108,108,32,103,101,116,32,103,105,118,101,32,104,97,108,116,32,104,97,115,32,104,105,103,104,32,105,102,32,105,110,32,105,110,116,32,105,115,32,108,111,119,32,109,97,120,32,109,105,110,32,110,111,110,101,32,110,116,104,32,111,110,32,111,114,100,32,111,118,101,114,32,112,114,111,99,32,114,101,97,100,32,114,101,100,117,99,101,32,114,101,115,105,122,101,32,114,101,116,117,114,110,32,115,99,97,110,32,115,101,116,32,115,105,110,103,108,101,32,115,121,110,99,32,116,111,32,116,114,117,101,32,118,97,114,32,119,104,101,114,101,32,119,104,105,108,101,32,119,104,111,108,101,32,119,105,116,104,32,119,114,105,116,101,32,122,105,112,32,97,100,100]))]),m 4 0,n (cf 5 100 [.t 3,.t 4]),m 2 5]) .ret),[(2,0)],6,[]⟩
open K in
def F217:Fn:=⟨.seq (.reg [n (.mv 2 (.c (.sc (.s []))))]) (.seq (.seq (.reg [m 3 0,n (cf 4 303 [.t 3])]) (.cond (.t 4) (.seq (.reg [n (.mv 2 (.c (.sc (.s [107,101,121]))))]) .ret) .skip)) (.seq (.reg [n (.mv 2 (.c (.sc (.s [110,97,109,101]))))]) .ret)),[(2,0)],5,[]⟩
open K in
def F219:Fn:=⟨.seq (.reg [n (.mv 0 (.c (.sl 1 [] .full)))]) (.seq (.reg [n (.bsl 1 1 [.c (.sc (.s [60,61])),.c (.sc (.s [61,61])),.c (.sc (.s [46,46])),.c (.sc (.s [60,45])),.c (.sc (.s [40])),.c (.sc (.s [41])),.c (.sc (.s [91])),.c (.sc (.s [93])),.c (.sc (.s [123])),.c (.sc (.s [125])),.c (.sc (.s [44])),.c (.sc (.s [59])),.c (.sc (.s [58])),.c (.sc (.s [61])),.c (.sc (.s [43])),.c (.sc (.s [45])),.c (.sc (.s [42])),.c (.sc (.s [47])),.c (.sc (.s [37])),.c (.sc (.s [60])),.c (.sc (.s [38])),.c (.sc (.s [124])),.c (.sc (.s [33]))]),m 0 1]) .ret),[(0,0)],2,[]⟩
open K in
def F172:Fn:=⟨.seq (.reg [n (.alloc 2 [.sc (.s []),.sc (.s []),.sc (.i .i64 0)]),n (mb 3 false)]) (.seq (.seq (.reg [m 8 0,n (cf 9 227 [.t 8]),m 4 9]) (.seq (.reg [m 10 4,n (bi 11 .gtr 10 0)]) (.cond (.t 11) (.seq (.regD [m 12 0,m 13 4,n (.slS 14 (.t 12) none (some (.t 13))),n (cf 15 228 [.t 14]),m 16 0,m 17 4,n (.slS 18 (.t 16) none (some (.t 17))),n (.build 19 [.sc (.s []),.sc (.s []),.sc (.i .i64 0)] [(0,(1,.t 15)),(1,(1,.t 18))]),n (.st (.t 2) 3 (.t 19)),n (mb 3 true)] [0,0,3,7,0,0,48,127,255,511]) .ret) .skip))) (.seq (.seq (.reg [m 20 0,n (cf 21 229 [.t 20]),m 5 21]) (.seq (.reg [m 22 5,n (bi 23 .gtr 22 0)]) (.cond (.t 23) (.seq (.reg [m 24 0,m 25 5,n (.slS 26 (.t 24) none (some (.t 25))),n (.build 27 [.sc (.s []),.sc (.s []),.sc (.i .i64 0)] [(0,(1,.c (.sc (.s [105,110,116])))),(1,(1,.t 26))]),m 28 5,n (bi 29 .leq 28 9),n (.st (.t 2) 3 (.t 27)),m 3 29]) .ret) .skip))) (.seq (.seq (.reg [n (cf 30 230 []),n (.len 31 (.t 30)),n (mi 32 0)]) (.block 0 (.loop (.seq (.reg [n (b2 33 .lss 32 31)]) (.seq (.cond (.t 33) .skip (.exit 0)) (.seq (.block 1 (.seq (.reg [n (ix 34 1 30 32),n (ld 35 34),m 7 35]) (.seq (.reg [m 36 0,m 37 7,n (cf 38 225 [.t 36,.t 37])]) (.cond (.t 38) (.seq (.reg [m 39 7,n (.build 40 [.sc (.s []),.sc (.s []),.sc (.i .i64 0)] [(0,(1,.c (.sc (.s [115,105,103,110])))),(1,(1,.t 39))]),n (.st (.t 2) 3 (.t 40)),n (mb 3 true)]) .ret) .skip)))) (.reg [n (bi 41 .add 32 1),m 32 41]))))))) (.seq (.reg [n (.build 42 [.sc (.s []),.sc (.s []),.sc (.i .i64 0)] []),n (.st (.t 2) 3 (.t 42)),n (mb 3 false)]) .ret)))),[(2,3),(3,0)],43,[]⟩
open K in
def F187:Fn:=⟨.seq (.reg [n (.box 1 (.t 0)),n (mb 2 false)]) (.seq (.reg [n (fa 6 1 1),n (ld 7 6),n (cf 8 168 [.t 7]),m 5 8,n (ext 9 5 0),n (ext 10 5 1),n (.alloc 3 [.sc (.s []),.sc (.s []),.sc (.i .i64 0)]),n (.st (.t 3) 3 (.t 9)),m 4 10]) (.seq (.reg [m 11 4,m 12 11,w 12 (fa 13 3 0),w 12 (ld 14 13),w 12 (fa 15 1 0),w 12 (ld 16 15),w 12 (b2 17 .eql 14 16),n (pf 18 12 17),m 19 18,w 19 (fa 20 3 1),w 19 (ld 21 20),w 19 (fa 22 1 1),w 19 (ld 23 22),w 19 (b2 24 .eql 21 23),n (pf 25 19 24),m 2 25]) .ret)),[(2,0)],26,[]⟩
open K in
def F168:Fn:=⟨.seq (.reg [n (mb 2 false)]) (.seq (.reg [m 3 0,n (.build 4 [.sc (.s []),.sc (.s []),.sc (.i .i64 0)] [(0,(1,.c (.sc (.s [110,97,109,101])))),(1,(1,.t 3))]),n (cf 5 160 [.t 4]),m 2 5]) .ret),[(2,0)],6,[]⟩
theorem F271_ok:aI Tryz.prog (fun _=>an0) 161=some F271:=by kernel_rfl
theorem F260_ok:aI Tryz.prog (fun _=>an0) 100=some F260:=by kernel_rfl
theorem F244_ok:aI Tryz.prog (fun _=>an0) 303=some F244:=by kernel_rfl
theorem F217_ok:aI Tryz.prog (fun _=>an0) 228=some F217:=by kernel_rfl
theorem F219_ok:aI Tryz.prog (fun _=>an0) 230=some F219:=by kernel_rfl
theorem F172_ok:aI Tryz.prog (fun _=>an0) 168=some F172:=by kernel_rfl
theorem F187_ok:aI Tryz.prog (fun _=>an0) 160=some F187:=by kernel_rfl
theorem F168_ok:aI Tryz.prog (fun _=>an0) 99=some F168:=by kernel_rfl
theorem b271 (W0:Go.World) (l:List S) (s:S) (hl:l.length≤140737488355328):aD (Ctr Tryz.prog W0) F271.ac F271.rs [bU l,.sc (.s s)] [] (.sc (.i .i64 (jM s l 0))) []:=by
 conv=>whnf
 refine .st 1000 (fun k=>l.length - k) (fun k=>[(.s 0,.av (bU l)),(.s 1,.av (.sc (.s s))),(.s 7,.av (.sc (.i .i64 ((ae l).length:Nat)))),(.s 8,.av (.sc (.i .i64 (k:Nat))))])
  (fun k=>k≤l.length∧jM s l 0=jM s (l.drop k) k) 0 ?_ ⟨Nat.zero_le _,rfl⟩ ?_
 ·(refine aN rfl rfl ?_;repeat' (first | exact rfl | exact trivial | refine ⟨?_,?_⟩))
 ·rintro k ⟨hk,he⟩
  conv=>whnf
  refine ap (fun h2=>?_) (fun h2=>?_)
  ·simp only [aa,decide_eq_false_iff_not] at h2
   have e1:l.drop k=[]:=by simp;omega
   rw [e1] at he
   conv=>whnf
   exact eU (by rw [he];rfl)
  ·simp only [aa,decide_eq_true_eq] at h2
   obtain ⟨x,hx⟩:=aB (l:=l) (k:=k) (by omega)
   have dx:=bD hx
   rw [aR hx,jM] at he
   conv=>whnf
   refine ⟨_,⟨Int.natCast_nonneg _,dx⟩,?_⟩
   conv=>whnf
   refine ap (fun h3=>?_) (fun h3=>?_)
   ·simp only [h3] at he
    conv=>whnf
    refine ⟨?_,?_⟩
    ·constructor<;>omega
    ·conv=>whnf
     refine nxt (k+1) ⟨by omega,by omega,he⟩ ?_
     (refine aN rfl rfl ?_;repeat' (first | exact rfl | exact trivial | refine ⟨?_,?_⟩))
   ·simp only [h3] at he
    conv=>whnf
    exact eU he.symm
theorem c271 (W0:Go.World) (l:List S) (s:S) (hl:l.length≤140737488355328):Ctr Tryz.prog W0 161 [bU l,.sc (.s s)] [] (.sc (.i .i64 (jM s l 0))) []:=
 ak follows F271_ok rfl (fun _ _ h=>by cases h) rfl (by rfl) (b271 W0 l s hl)
theorem b260 (W0:Go.World) (l:List S) (s:S) (hl:l.length≤140737488355328):aD (Ctr Tryz.prog W0) F260.ac F260.rs [bU l,.sc (.s s)] [] (.sc (.b (a7 s l))) []:=by
 repeat' ((conv=>whnf);(first | with_reducible refine ap (fun _=>?_) (fun _=>?_) | (refine callP.pure _ (c271 W0 l s hl) ⟨rfl,rfl⟩ ?_) | fail))
 all_goals ((conv=>whnf);exact aE (oK s l 0))
theorem c260 (W0:Go.World) (l:List S) (s:S) (hl:l.length≤140737488355328):Ctr Tryz.prog W0 100 [bU l,.sc (.s s)] [] (.sc (.b (a7 s l))) []:=
 ak follows F260_ok rfl (fun _ _ h=>by cases h) rfl (by rfl) (b260 W0 l s hl)
theorem b244 (W0:Go.World) (hk:Wk W0) (s:S):aD (Ctr Tryz.prog W0) F244.ac F244.rs [.sc (.s s)] [] (.sc (.b (a7 s keyList))) []:=by
 repeat' ((conv=>whnf);(first | with_reducible refine ap (fun _=>?_) (fun _=>?_) | (refine callP.pure _ (fields_ctr W0 hk.sp keysT (of_decide_eq_true (by decide +kernel)) keysT_ascii) ⟨rfl,rfl⟩ ?_) | (refine callP.pure _ (c260 W0 keyList s (by have:=keyList_len;omega)) ⟨rfl,rfl⟩ ?_) | fail))
 all_goals ((conv=>whnf);exact aE rfl)
theorem c244 (W0:Go.World) (hk:Wk W0) (s:S):Ctr Tryz.prog W0 303 [.sc (.s s)] [] (.sc (.b (a7 s keyList))) []:=
 ak follows F244_ok rfl (fun _ _ h=>by cases h) rfl (by rfl) (b244 W0 hk s)
theorem b217 (W0:Go.World) (hk:Wk W0) (s:S):aD (Ctr Tryz.prog W0) F217.ac F217.rs [.sc (.s s)] [] (.sc (.s (kM s))) []:=by
 repeat' ((conv=>whnf);(first | with_reducible refine ap (fun _=>?_) (fun _=>?_) | (refine callP.pure _ (c244 W0 hk s) ⟨rfl,rfl⟩ ?_) | fail))
 all_goals ((conv=>whnf);refine fin_s ?_;simp_all [kM])
theorem c217 (W0:Go.World) (hk:Wk W0) (s:S):Ctr Tryz.prog W0 228 [.sc (.s s)] [] (.sc (.s (kM s))) []:=
 ak follows F217_ok rfl (fun _ _ h=>by cases h) rfl (by rfl) (b217 W0 hk s)
theorem b219 (W0:Go.World):aD (Ctr Tryz.prog W0) F219.ac F219.rs [] [] (bU signList) []:=by
 conv=>whnf
 exact ⟨⟨[],[],⟨rfl,rfl,rfl,rfl⟩,⟨rfl,rfl,.inl rfl⟩,trivial,trivial⟩⟩
theorem c219 (W0:Go.World):Ctr Tryz.prog W0 230 [] [] (bU signList) []:=
 ak follows F219_ok rfl (fun _ _ h=>by cases h) rfl (by rfl) (b219 W0)
theorem b172 (W0:Go.World) (hk:Wk W0) (s:S) (hl:s.length≤140737488355328):aD (Ctr Tryz.prog W0) F172.ac F172.rs [.sc (.s s)] [] (tokA (bX s).1 (bX s).2.1 0 (bX s).2.2) []:=by
 have hw:=wordN_le s
 have hd:m8 s≤s.length:=by
  unfold m8
  split
  ·rename_i h;simp [dO] at h;omega
  ·exact digsN_le s
 conv=>whnf
 refine callP.pure _ (c216 W0 s hl) ⟨rfl,rfl⟩ ?_
 conv=>whnf
 refine ap (fun h1=>?_) (fun h1=>?_)
 ·simp only [decide_eq_false_iff_not] at h1
  have e0:eu s=0:=by omega
  conv=>whnf
  refine callP.pure _ (c218 W0 s hl) ⟨rfl,rfl⟩ ?_
  conv=>whnf
  refine ap (fun h2=>?_) (fun h2=>?_)
  ·simp only [decide_eq_false_iff_not] at h2
   have e1:m8 s=0:=by omega
   conv=>whnf
   refine callP.pure _ (c219 W0) ⟨rfl,rfl⟩ ?_
   conv=>whnf
   refine .st 2000 (fun k=>signList.length - k) (fun k=>[(.s 0,.av (.sc (.s s))),(.s 2,.av (.ptr 1000 0)),(.b 1000,.bx [.sc (.s []),.sc (.s []),.sc (.i .i64 0)]),(.s 30,.av (bU signList)),(.s 31,.av (.sc (.i .i64 ((ae signList).length:Nat)))),(.s 32,.av (.sc (.i .i64 (k:Nat))))])
    (fun k=>k≤signList.length∧j0 s signList=j0 s (signList.drop k)) 0 ?_ ⟨Nat.zero_le _,rfl⟩ ?_
   ·(refine aN rfl rfl ?_;repeat' (first | exact rfl | exact trivial | refine ⟨?_,?_⟩))
   ·rintro k ⟨hk',he⟩
    have hlen:signList.length=23:=rfl
    conv=>whnf
    refine ap (fun h3=>?_) (fun h3=>?_)
    ·simp only [aa,decide_eq_false_iff_not] at h3
     have e2:signList.drop k=[]:=by rw [List.drop_eq_nil_iff];omega
     rw [e2] at he
     conv=>whnf
     have er:bX s=([],[],false):=by simp [bX,e0,e1,he,j0]
     rw [er]
     (refine nX rfl ?_ rfl;repeat' (first | exact rfl | exact trivial | refine ⟨?_,?_⟩))
    ·simp only [aa,decide_eq_true_eq] at h3
     obtain ⟨x,hx⟩:=aB (l:=signList) (k:=k) (by omega)
     have dx:=bD hx
     rw [aR hx,j0] at he
     conv=>whnf
     refine ⟨_,⟨Int.natCast_nonneg _,dx⟩,?_⟩
     conv=>whnf
     refine callP.pure _ (c214 W0 s x) ⟨rfl,rfl⟩ ?_
     conv=>whnf
     refine ap (fun h4=>?_) (fun h4=>?_)
     ·simp only [h4] at he
      conv=>whnf
      refine ⟨?_,?_⟩
      ·constructor<;>omega
      ·conv=>whnf
       refine nxt (k+1) ⟨by omega,by omega,he⟩ ?_
       (refine aN rfl rfl ?_;repeat' (first | exact rfl | exact trivial | refine ⟨?_,?_⟩))
     ·simp only [h4] at he
      conv=>whnf
      have er:bX s=([115,105,103,110],x,true):=by simp [bX,e0,e1,he]
      rw [er]
      (refine nX rfl ?_ rfl;repeat' (first | exact rfl | exact trivial | refine ⟨?_,?_⟩))
  ·simp only [decide_eq_true_eq] at h2
   conv=>whnf
   refine ⟨⟨Int.le_refl _,Int.natCast_nonneg _,by omega⟩,?_⟩
   conv=>whnf
   obtain ⟨m,hm⟩:∃ m,m8 s=m+1:=⟨m8 s - 1,by omega⟩
   have er:bX s=([105,110,116],s.take (m+1),decide (((m+1:Nat):Int)≤9)):=by simp [bX,e0,hm]
   rw [er,hm]
   (refine nX rfl ?_ rfl;repeat' (first | exact rfl | exact trivial | refine ⟨?_,?_⟩))
 ·simp only [decide_eq_true_eq] at h1
  conv=>whnf
  refine ⟨⟨Int.le_refl _,Int.natCast_nonneg _,by omega⟩,?_⟩
  conv=>whnf
  refine callP.pure _ (c217 W0 hk _) ⟨rfl,rfl⟩ ?_
  conv=>whnf
  refine ⟨⟨Int.le_refl _,Int.natCast_nonneg _,by omega⟩,?_⟩
  conv=>whnf
  obtain ⟨m,hm⟩:∃ m,eu s=m+1:=⟨eu s - 1,by omega⟩
  have er:bX s=(kM (s.take (m+1)),s.take (m+1),true):=by simp [bX,hm]
  rw [er,hm]
  (refine nX rfl ?_ rfl;repeat' (first | exact rfl | exact trivial | refine ⟨?_,?_⟩))
theorem c172 (W0:Go.World) (hk:Wk W0) (s:S) (hl:s.length≤140737488355328):Ctr Tryz.prog W0 168 [.sc (.s s)] [] (tokA (bX s).1 (bX s).2.1 0 (bX s).2.2) []:=
 ak follows F172_ok rfl (fun _ _ h=>by cases h) rfl (by rfl) (b172 W0 hk s hl)
theorem b187 (W0:Go.World) (hk:Wk W0) (k t:S) (a:Int) (hl:t.length≤140737488355328):aD (Ctr Tryz.prog W0) F187.ac F187.rs [.agg [.sc (.s k),.sc (.s t),.sc (.i .i64 a)]] [] (.sc (.b (lN k t))) []:=by
 repeat' ((conv=>whnf);(first | with_reducible refine ap (fun _=>?_) (fun _=>?_) | (refine callP.pure _ (c172 W0 hk t hl) ⟨rfl,rfl⟩ ?_) | fail))
 all_goals ((conv=>whnf);refine aE ?_;simp_all [lN])
theorem c187 (W0:Go.World) (hk:Wk W0) (k t:S) (a:Int) (hl:t.length≤140737488355328):Ctr Tryz.prog W0 160 [.agg [.sc (.s k),.sc (.s t),.sc (.i .i64 a)]] [] (.sc (.b (lN k t))) []:=
 ak follows F187_ok rfl (fun _ _ h=>by cases h) rfl (by rfl) (b187 W0 hk k t a hl)
theorem b168 (W0:Go.World) (hk:Wk W0) (s:S) (hl:s.length≤140737488355328):aD (Ctr Tryz.prog W0) F168.ac F168.rs [.sc (.s s)] [] (.sc (.b (aj s))) []:=by
 repeat' ((conv=>whnf);(first | with_reducible refine ap (fun _=>?_) (fun _=>?_) | (refine callP.pure _ (c187 W0 hk [110,97,109,101] s 0 hl) ⟨rfl,rfl⟩ ?_) | fail))
 all_goals ((conv=>whnf);exact aE rfl)
theorem c168 (W0:Go.World) (hk:Wk W0) (s:S) (hl:s.length≤140737488355328):Ctr Tryz.prog W0 99 [.sc (.s s)] [] (.sc (.b (aj s))) []:=
 ak follows F168_ok rfl (fun _ _ h=>by cases h) rfl (by rfl) (b168 W0 hk s hl)
end Go.Abs
namespace Go.Abs
open Go.Proofs
def oC (s:S):Bool:=a7 s [[43],[42],[109,105,110],[109,97,120],[38],[124]]
def ij (s:S):Int:=match a7 s [[43],[45],[42],[47],[37],[60],[60,61],[61,61],[38],[124],[109,105,110],[109,97,120]] with
 | true=>2
 | false => match a7 s [[33], [105, 110, 116]] with
   | true=>1
   | false=>0
def headE (d nm:S) (n:Int) (k:Nat):Bool:=
 bif a7 d [[105,110,116]] then aH nm []&&(decide (0≤n)&&(decide (n≤999999999)&&decide (k=0))) else
 bif a7 d [[98,111,111,108]] then aH nm []&&(decide (0≤n)&&(decide (n≤1)&&decide (k=0))) else
 bif a7 d [[111,112]] then decide (n=0)&&(decide (k≠0)&&decide (ij nm=k)) else
 bif a7 d [[110,111,110,101]] then oC nm&&(decide (n=0)&&decide (k=0)) else
 bif a7 d [[118,97,114],[114,101,97,100],[103,101,116],[99,111,117,110,116]] then aj nm&&(decide (n=0)&&decide (k=0)) else
 bif a7 d [[108,111,119],[104,105,103,104]] then aj nm&&(decide (0≤n)&&(decide (n≤2)&&decide (k=0))) else
 bif a7 d [[97,116],[111,114,100],[104,97,115]] then aj nm&&(decide (n=0)&&(decide (1≤k)&&decide (k≤3))) else
 bif a7 d [[110,116,104]] then aj nm&&(decide (0≤n)&&(decide (n≤2)&&decide (k=1))) else
 bif a7 d [[99,97,108,108]] then aj nm&&decide (n=0) else false
mutual
def lK:Exp→Bool | .mk a b n l=>headE a b n l.length&&fg l
def fg:List Exp→Bool | []=>true | x::r=>lK x&&fg r
end
open K in
def F186:Fn:=⟨.seq (.reg [n (mb 2 false)]) (.seq (.reg [m 3 0,n (bs 4 .eql 3 [43]),m 5 4,gm 5 6 0,g 5 (bs 7 .eql 6 [42]),n (pt 8 5 7),m 9 8,gm 9 10 0,g 9 (bs 11 .eql 10 [109,105,110]),n (pt 12 9 11),m 13 12,gm 13 14 0,g 13 (bs 15 .eql 14 [109,97,120]),n (pt 16 13 15),m 17 16,gm 17 18 0,g 17 (bs 19 .eql 18 [38]),n (pt 20 17 19),m 21 20,gm 21 22 0,g 21 (bs 23 .eql 22 [124]),n (pt 24 21 23),m 2 24]) .ret),[(2,0)],25,[]⟩
open K in
def F185:Fn:=⟨.seq (.reg [n (mi 2 0)]) (.seq (.seq (.reg [m 3 0]) (.block 0 (.seq (.seq (.reg [n (bs 5 .eql 3 [43]),m 4 5]) (.cond (.t 4) .skip (.seq (.reg [n (bs 6 .eql 3 [45]),m 4 6]) (.cond (.t 4) .skip (.seq (.reg [n (bs 7 .eql 3 [42]),m 4 7]) (.cond (.t 4) .skip (.seq (.reg [n (bs 8 .eql 3 [47]),m 4 8]) (.cond (.t 4) .skip (.seq (.reg [n (bs 9 .eql 3 [37]),m 4 9]) (.cond (.t 4) .skip (.seq (.reg [n (bs 10 .eql 3 [60]),m 4 10]) (.cond (.t 4) .skip (.seq (.reg [n (bs 11 .eql 3 [60,61]),m 4 11]) (.cond (.t 4) .skip (.seq (.reg [n (bs 12 .eql 3 [61,61]),m 4 12]) (.cond (.t 4) .skip (.seq (.reg [n (bs 13 .eql 3 [38]),m 4 13]) (.cond (.t 4) .skip (.seq (.reg [n (bs 14 .eql 3 [124]),m 4 14]) (.cond (.t 4) .skip (.seq (.reg [n (bs 15 .eql 3 [109,105,110]),m 4 15]) (.cond (.t 4) .skip (.reg [n (bs 16 .eql 3 [109,97,120]),m 4 16]))))))))))))))))))))))) (.cond (.t 4) (.seq (.reg [n (mi 2 2)]) .ret) (.seq (.seq (.reg [n (bs 18 .eql 3 [33]),m 17 18]) (.cond (.t 17) .skip (.reg [n (bs 19 .eql 3 [105,110,116]),m 17 19]))) (.cond (.t 17) (.seq (.reg [n (mi 2 1)]) .ret) .skip)))))) (.seq (.reg [n (mi 2 0)]) .ret)),[(2,0)],20,[]⟩
open K in
def F137:Fn:=⟨.seq (.reg [n (.box 1 (.t 0)),n (mb 2 false)]) (.seq (.reg [n (fa 6 1 3),n (ld 7 6),n (.len 8 (.t 7)),m 3 8]) (.seq (.regD [n (fa 9 1 2),n (ld 10 9),n (bi 11 .eql 10 0),n (mb 4 true),m 5 11] [0,1,3,0,15]) (.seq (.seq (.reg [n (fa 12 1 0),n (ld 13 12)]) (.block 0 (.seq (.seq (.reg [n (bs 15 .eql 13 [105,110,116]),m 14 15]) (.cond (.t 14) .skip (.reg [n (bs 16 .eql 13 [98,111,111,108]),m 14 16]))) (.cond (.t 14) (.seq (.reg [n (fa 17 1 1),n (ld 18 17),n (bs 19 .eql 18 []),m 4 19]) (.reg [n (fa 20 1 2),n (ld 21 20),n (bi 22 .geq 21 0),m 23 22,w 23 (fa 24 1 2),w 23 (ld 25 24),w 23 (bi 26 .leq 25 1),wm 23 27 26,g 27 (fa 28 1 0),g 27 (ld 29 28),g 27 (bs 30 .eql 29 [105,110,116]),gm 27 31 30,w 31 (fa 32 1 2),w 31 (ld 33 32),w 31 (bi 34 .leq 33 999999999),g 27 (pf 35 31 34),w 23 (pt 36 27 35),n (pf 37 23 36),m 5 37])) (.seq (.reg [n (bs 39 .eql 13 [111,112]),m 38 39]) (.cond (.t 38) (.seq (.seq (.reg [m 40 3,n (bi 41 .eql 40 0),m 42 41,g 42 (fa 43 1 1),g 42 (ld 44 43),g 42 (cf 45 305 [.t 44]),gm 42 46 3,g 42 (b2 47 .neq 45 46),n (pt 48 42 47)]) (.cond (.t 48) (.seq (.reg [n (mb 2 false)]) .ret) .skip)) (.reg [n (mi 3 0)])) (.seq (.reg [n (bs 50 .eql 13 [110,111,110,101]),m 49 50]) (.cond (.t 49) (.reg [n (fa 51 1 1),n (ld 52 51),n (cf 53 238 [.t 52]),m 4 53]) (.seq (.seq (.reg [n (bs 55 .eql 13 [118,97,114]),m 54 55]) (.cond (.t 54) .skip (.seq (.reg [n (bs 56 .eql 13 [114,101,97,100]),m 54 56]) (.cond (.t 54) .skip (.seq (.reg [n (bs 57 .eql 13 [103,101,116]),m 54 57]) (.cond (.t 54) .skip (.reg [n (bs 58 .eql 13 [99,111,117,110,116]),m 54 58]))))))) (.cond (.t 54) (.reg [n (fa 59 1 1),n (ld 60 59),n (cf 61 99 [.t 60]),m 4 61]) (.seq (.seq (.reg [n (bs 63 .eql 13 [108,111,119]),m 62 63]) (.cond (.t 62) .skip (.reg [n (bs 64 .eql 13 [104,105,103,104]),m 62 64]))) (.cond (.t 62) (.seq (.reg [n (fa 65 1 1),n (ld 66 65),n (cf 67 99 [.t 66]),m 4 67]) (.reg [n (fa 68 1 2),n (ld 69 68),n (bi 70 .geq 69 0),m 71 70,w 71 (fa 72 1 2),w 71 (ld 73 72),w 71 (bi 74 .lss 73 3),n (pf 75 71 74),m 5 75])) (.seq (.seq (.reg [n (bs 77 .eql 13 [97,116]),m 76 77]) (.cond (.t 76) .skip (.seq (.reg [n (bs 78 .eql 13 [111,114,100]),m 76 78]) (.cond (.t 76) .skip (.reg [n (bs 79 .eql 13 [104,97,115]),m 76 79]))))) (.cond (.t 76) (.seq (.seq (.reg [m 80 3,n (bi 81 .lss 80 1),m 82 81,gm 82 83 3,g 82 (bi 84 .gtr 83 3),n (pt 85 82 84)]) (.cond (.t 85) (.seq (.reg [n (mb 2 false)]) .ret) .skip)) (.reg [n (fa 86 1 1),n (ld 87 86),n (cf 88 99 [.t 87]),m 4 88,n (mi 3 0)])) (.seq (.reg [n (bs 90 .eql 13 [110,116,104]),m 89 90]) (.cond (.t 89) (.seq (.reg [n (fa 91 1 1),n (ld 92 91),n (cf 93 99 [.t 92]),m 4 93]) (.seq (.reg [n (fa 94 1 2),n (ld 95 94),n (bi 96 .geq 95 0),m 97 96,w 97 (fa 98 1 2),w 97 (ld 99 98),w 97 (bi 100 .lss 99 3),n (pf 101 97 100),m 5 101]) (.reg [m 102 3,n (bi 103 .sub 102 1),m 3 103]))) (.seq (.reg [n (bs 105 .eql 13 [99,97,108,108]),m 104 105]) (.cond (.t 104) (.reg [n (fa 106 1 1),n (ld 107 106),n (cf 108 99 [.t 107]),m 4 108,n (mi 3 0)]) (.seq (.reg [n (mb 2 false)]) .ret))))))))))))))))))) (.seq (.reg [m 109 3,n (bi 110 .eql 109 0),m 111 110,wm 111 112 4,n (pf 113 111 112),m 114 113,wm 114 115 5,n (pf 116 114 115),m 117 116,w 117 (fa 118 1 3),w 117 (ld 119 118),w 117 (cf 120 242 [.t 119]),n (pf 121 117 120),m 2 121]) .ret)))),[(2,0)],122,[]⟩
open K in
def F69:Fn:=⟨.seq (.reg [n (mb 2 false)]) (.seq (.seq (.reg [m 5 0,n (.len 6 (.t 5)),n (mi 7 0)]) (.block 0 (.loop (.seq (.reg [n (b2 8 .lss 7 6)]) (.seq (.cond (.t 8) .skip (.exit 0)) (.seq (.block 1 (.seq (.reg [n (ix 9 4 5 7),n (.ld 10 4 true (.t 9)),n (.alloc 4 [.sc (.s []),.sc (.s []),.sc (.i .i64 0),.sl 4 [] .full]),n (.st (.t 4) 4 (.t 10))]) (.seq (.reg [n (.ld 11 4 true (.t 4)),n (cf 12 308 [.t 11]),n (.no 13 (.t 12))]) (.cond (.t 13) (.seq (.reg [n (mb 2 false)]) .ret) .skip)))) (.reg [n (bi 14 .add 7 1),m 7 14]))))))) (.seq (.reg [n (mb 2 true)]) .ret)),[(2,0)],15,[]⟩
theorem F186_ok:aI Tryz.prog (fun _=>an0) 238=some F186:=by kernel_rfl
theorem F185_ok:aI Tryz.prog (fun _=>an0) 305=some F185:=by kernel_rfl
theorem F137_ok:aI Tryz.prog (fun _=>an0) 308=some F137:=by kernel_rfl
theorem F69_ok:aI Tryz.prog (fun _=>an0) 242=some F69:=by kernel_rfl
theorem b186 (W0:Go.World) (s:S):aD (Ctr Tryz.prog W0) F186.ac F186.rs [.sc (.s s)] [] (.sc (.b (oC s))) []:=by
 repeat' ((conv=>whnf);(first | with_reducible refine ap (fun _=>?_) (fun _=>?_) | fail))
 all_goals ((conv=>whnf);refine aE ?_;simp_all [oC,a7])
theorem c186 (W0:Go.World) (s:S):Ctr Tryz.prog W0 238 [.sc (.s s)] [] (.sc (.b (oC s))) []:=
 ak follows F186_ok rfl (fun _ _ h=>by cases h) rfl (by rfl) (b186 W0 s)
theorem b185 (W0:Go.World) (s:S):aD (Ctr Tryz.prog W0) F185.ac F185.rs [.sc (.s s)] [] (.sc (.i .i64 (ij s))) []:=by
 repeat' ((conv=>whnf);(first | with_reducible refine ap (fun _=>?_) (fun _=>?_) | fail))
 all_goals ((conv=>whnf);refine eU ?_;simp_all [ij,a7])
theorem c185 (W0:Go.World) (s:S):Ctr Tryz.prog W0 305 [.sc (.s s)] [] (.sc (.i .i64 (ij s))) []:=
 ak follows F185_ok rfl (fun _ _ h=>by cases h) rfl (by rfl) (b185 W0 s)
theorem b137 (W0:Go.World) (hk:Wk W0) (x:Exp) (hx:x.ok) (h69:∀ l,l.length≤140737488355328→ll l→SizeOf.sizeOf l<SizeOf.sizeOf x→Ctr Tryz.prog W0 242 [eL l] [] (.sc (.b (fg l))) []):aD (Ctr Tryz.prog W0) F137.ac F137.rs [eE x] [] (.sc (.b (lK x))) []:=by
 cases x with | mk a b n l=>
 have hlen:=aU l
 have hln:=hx.2.1
 repeat' ((conv=>whnf);(first | with_reducible refine ap (fun _=>?_) (fun _=>?_) | (refine callP.pure _ (c186 W0 b) ⟨rfl,rfl⟩ ?_) | (refine callP.pure _ (c185 W0 b) ⟨rfl,rfl⟩ ?_) | (refine callP.pure _ (c168 W0 hk b hx.1.2.1) ⟨rfl,rfl⟩ ?_) | (refine callP.pure _ (h69 l hx.2.1 hx.2.2 (by simp;omega)) ⟨rfl,rfl⟩ ?_) | (refine And.intro ?_ ?_;(constructor<;>(have:=hx.2.1;rw [aU];omega))) | fail))
 all_goals ((conv=>whnf);(refine aE ?_;(simp_all [lK,headE,a7,aU];try omega)))
end Go.Abs
namespace Go.Abs
open Go.Proofs
theorem b69 (W0:Go.World) (l:List Exp) (hl:l.length≤140737488355328) (ol:ll l) (hc:∀ x,x.ok→SizeOf.sizeOf x<SizeOf.sizeOf l→Ctr Tryz.prog W0 308 [eE x] [] (.sc (.b (lK x))) []):aD (Ctr Tryz.prog W0) F69.ac F69.rs [eL l] [] (.sc (.b (fg l))) []:=by
 conv=>whnf
 refine .st 1000 (fun k=>l.length - k) (fun k=>[(.s 5,.av (eL l)),(.s 6,.av (.sc (.i .i64 ((gq l).length:Nat)))),(.s 7,.av (.sc (.i .i64 (k:Nat))))])
  (fun k=>k≤l.length∧fg l=fg (l.drop k)) 0 ?_ ⟨Nat.zero_le _,rfl⟩ ?_
 ·(refine aN rfl rfl ?_;repeat' (first | exact rfl | exact trivial | refine ⟨?_,?_⟩))
 ·rintro k ⟨hk',he⟩
  conv=>whnf
  refine ap (fun h2=>?_) (fun h2=>?_)
  ·simp only [aU,decide_eq_false_iff_not] at h2
   have e1:l.drop k=[]:=by simp;omega
   have he:fg l=true:=by rw [he,e1];simp [fg]
   clear e1 h2 hk'
   conv=>whnf
   exact aE he.symm
  ·simp only [aU,decide_eq_true_eq] at h2
   obtain ⟨x,hx⟩:=aB (l:=l) (k:=k) (by omega)
   have dx:=kp hx
   have ox:=oksE_get ol hx
   have sx:=size_get hx
   rw [aR hx,fg] at he
   cases x with | mk a b n args=>
   conv=>whnf
   refine ⟨_,⟨Int.natCast_nonneg _,dx⟩,?_⟩
   conv=>whnf
   refine callP.pure _ (hc _ ox sx) ⟨rfl,rfl⟩ ?_
   conv=>whnf
   refine ap (fun h3=>?_) (fun h3=>?_)
   ·have h4:lK (.mk a b n args)=true:=by rw [Bool.not_eq_false'] at h3;exact h3
    conv=>whnf
    refine ⟨?_,?_⟩
    ·constructor<;>omega
    ·conv=>whnf
     refine nxt (k+1) ⟨by omega,by omega,?_⟩ ?_
     ·rw [he,h4,Bool.true_and]
     ·(refine aN rfl rfl ?_;repeat' (first | exact rfl | exact trivial | refine ⟨?_,?_⟩))
   ·have h4:lK (.mk a b n args)=false:=by rw [Bool.not_eq_true'] at h3;exact h3
    have he:fg l=false:=by rw [he,h4,Bool.false_and]
    conv=>whnf
    exact aE he.symm
theorem c137s (W0:Go.World) (hk:Wk W0):∀ (n:Nat),(∀ x:Exp,SizeOf.sizeOf x<n→x.ok→Ctr Tryz.prog W0 308 [eE x] [] (.sc (.b (lK x))) []) ∧
  (∀ l:List Exp,SizeOf.sizeOf l<n→l.length≤140737488355328→ll l→Ctr Tryz.prog W0 242 [eL l] [] (.sc (.b (fg l))) [])
 | 0=>⟨fun _ h=>absurd h (Nat.not_lt_zero _),fun _ h=>absurd h (Nat.not_lt_zero _)⟩
 | n + 1 => by
   obtain ⟨ih1,ih2⟩:=c137s W0 hk n
   refine ⟨fun x h hx=>?_,fun l h hl ol=>?_⟩
   ·refine ak follows F137_ok rfl (fun _ _ h=>by cases h) rfl ?_ (b137 W0 hk x hx fun l hl ol hs=>ih2 l (by omega) hl ol)
    cases x;rfl
   ·exact ak follows F69_ok rfl (fun _ _ h=>by cases h) rfl rfl (b69 W0 l hl ol fun x hx hs=>ih1 x (by omega) hx)
theorem c69 (W0:Go.World) (hk:Wk W0) (l:List Exp) (hl:l.length≤140737488355328) (ol:ll l):Ctr Tryz.prog W0 242 [eL l] [] (.sc (.b (fg l))) []:=(c137s W0 hk _).2 l (Nat.lt_succ_self _) hl ol
end Go.Abs
namespace Go.Abs
open Go.Proofs
structure Shp where
 nm:Bool
 least:Int
 most:Int
 bodies:Int
 upTo:Int
 names:Bool
 folds:Bool
 text:S
 ok:Bool
def dY (d:S) (k:Nat):Shp:=
 bif a7 d [[118,97,114],[115,101,116],[103,105,118,101],[97,100,100],[102,105,108,108]] then ⟨true,1,1,0,0,false,false,[],true⟩ else
 bif a7 d [[112,117,116]] then ⟨true,2,4,0,0,false,false,[],true⟩ else
 bif a7 d [[100,111,109]] then ⟨true,3,9,0,0,false,false,[107,105,110,100],decide (((k:Int) % 3)=0)⟩ else
 bif a7 d [[114,101,115,105,122,101]] then ⟨true,3,9,0,0,false,false,[],decide (((k:Int) % 3)=0)⟩ else
 bif a7 d [[97,114,114]] then ⟨true,1,1,0,0,false,false,[110,97,109,101],true⟩ else
 bif a7 d [[115,105,110,103,108,101],[97,116,111,109,105,99]] then ⟨true,0,0,0,0,false,false,[],true⟩ else
 bif a7 d [[105,102]] then ⟨false,1,1,2,2,false,false,[],true⟩ else
 bif a7 d [[119,104,105,108,101],[111,110]] then ⟨false,1,1,1,1,false,false,[],true⟩ else
 bif a7 d [[102,111,114]] then ⟨false,0,0,1,1,true,false,[110,97,109,101],true⟩ else
 bif a7 d [[102,111,114,97,108,108]] then ⟨false,0,0,1,1,true,true,[110,97,109,101],true⟩ else
 bif a7 d [[122,105,112]] then ⟨false,2,4,1,1,true,true,[110,97,109,101],true⟩ else
 bif a7 d [[99,111,98,101,103,105,110]] then ⟨false,0,0,1,1500,false,false,[],true⟩ else
 bif a7 d [[99,111,102,111,114,97,108,108]] then ⟨true,2,2,1,1,false,false,[],true⟩ else
 bif a7 d [[98,101,103,105,110],[115,121,110,99]] then ⟨false,0,0,1,1,false,false,[],true⟩ else
 bif a7 d [[119,114,105,116,101],[100,111],[114,101,116,117,114,110]] then ⟨false,1,1,0,0,false,false,[],true⟩ else
 bif a7 d [[104,97,108,116]] then ⟨false,0,0,0,0,false,false,[114,101,97,115,111,110],true⟩ else
 bif a7 d [[114,101,100,117,99,101],[115,99,97,110]] then ⟨true,0,0,0,0,true,false,[111,112],true⟩ else
 bif a7 d [[99,111,112,121]] then ⟨true,0,0,0,0,true,false,[],true⟩ else
 ⟨false,0,0,0,0,false,false,[],false⟩
def Shp.a (x:Shp):AV:=.agg [.sc (.b x.nm),.sc (.i .i64 x.least),.sc (.i .i64 x.most),.sc (.i .i64 x.bodies),.sc (.i .i64 x.upTo),.sc (.b x.names),.sc (.b x.folds),.sc (.s x.text)]
def shpA (x:Shp):AV:=.tup [x.a,.sc (.b x.ok)]
theorem fin_r {σ:Log} {v res:AV} (h:res=v) (h1:inR 0 0 res=true) (h2:wk3 res (ren [] [] 0 res)) (h3:toks res=[]):FinOK σ v 0 0 res []:=by subst h;exact nX h1 h2 h3
theorem shpA_wk (x:Shp):wk3 (shpA x) (ren [] [] 0 (shpA x)):=⟨⟨rfl,rfl,rfl,rfl,rfl,rfl,rfl,rfl,trivial⟩,rfl,trivial⟩
def lC (s:S) (n:Int):Bool:=
 bif a7 s [[119,104,111,108,101],[98,108,111,99,107],[99,121,99,108,105,99]] then decide (n=0) else
 bif a7 s [[98,108,111,99,107,115]] then decide (1≤n)&&decide (n≤99) else false
def oneB (d:S):Bool:=a7 d [[114,101,100,117,99,101],[115,99,97,110],[99,111,112,121]]
def textB (x:S) (tx:S) (n:Int):Bool:=
 bif a7 x [[110,97,109,101]] then aj tx else
 bif a7 x [[111,112]] then oC tx else
 bif a7 x [[107,105,110,100]] then lC tx n else
 bif a7 x [[114,101,97,115,111,110]] then aH tx []||aj tx else aH tx []
open K in
def F151:Fn:=⟨.seq (.reg [n (.box 1 (.t 0)),n (.alloc 2 [.sc (.b false),.sc (.i .i64 0),.sc (.i .i64 0),.sc (.i .i64 0),.sc (.i .i64 0),.sc (.b false),.sc (.b false),.sc (.s [])]),n (mb 3 false)]) (.seq (.seq (.reg [n (fa 4 1 0),n (ld 5 4)]) (.block 0 (.seq (.seq (.reg [n (bs 7 .eql 5 [118,97,114]),m 6 7]) (.cond (.t 6) .skip (.seq (.reg [n (bs 8 .eql 5 [115,101,116]),m 6 8]) (.cond (.t 6) .skip (.seq (.reg [n (bs 9 .eql 5 [103,105,118,101]),m 6 9]) (.cond (.t 6) .skip (.seq (.reg [n (bs 10 .eql 5 [97,100,100]),m 6 10]) (.cond (.t 6) .skip (.reg [n (bs 11 .eql 5 [102,105,108,108]),m 6 11]))))))))) (.cond (.t 6) (.seq (.reg [n (.build 12 [.sc (.b false),.sc (.i .i64 0),.sc (.i .i64 0),.sc (.i .i64 0),.sc (.i .i64 0),.sc (.b false),.sc (.b false),.sc (.s [])] [(0,(1,.c (.sc (.b true)))),(1,(1,.c (.sc (.i .i64 1)))),(2,(1,.c (.sc (.i .i64 1))))]),n (.st (.t 2) 8 (.t 12)),n (mb 3 true)]) .ret) (.seq (.reg [n (bs 14 .eql 5 [112,117,116]),m 13 14]) (.cond (.t 13) (.seq (.reg [n (.build 15 [.sc (.b false),.sc (.i .i64 0),.sc (.i .i64 0),.sc (.i .i64 0),.sc (.i .i64 0),.sc (.b false),.sc (.b false),.sc (.s [])] [(0,(1,.c (.sc (.b true)))),(1,(1,.c (.sc (.i .i64 2)))),(2,(1,.c (.sc (.i .i64 4))))]),n (.st (.t 2) 8 (.t 15)),n (mb 3 true)]) .ret) (.seq (.reg [n (bs 17 .eql 5 [100,111,109]),m 16 17]) (.cond (.t 16) (.seq (.regD [n (.build 18 [.sc (.b false),.sc (.i .i64 0),.sc (.i .i64 0),.sc (.i .i64 0),.sc (.i .i64 0),.sc (.b false),.sc (.b false),.sc (.s [])] [(0,(1,.c (.sc (.b true)))),(1,(1,.c (.sc (.i .i64 3)))),(2,(1,.c (.sc (.i .i64 9)))),(7,(1,.c (.sc (.s [107,105,110,100]))))]),n (fa 19 1 5),n (ld 20 19),n (.len 21 (.t 20)),n (bi 22 .rem 21 3),n (bi 23 .eql 22 0),n (.st (.t 2) 8 (.t 18)),m 3 23] [0,0,2,6,14,30,1,127]) .ret) (.seq (.reg [n (bs 25 .eql 5 [114,101,115,105,122,101]),m 24 25]) (.cond (.t 24) (.seq (.regD [n (.build 26 [.sc (.b false),.sc (.i .i64 0),.sc (.i .i64 0),.sc (.i .i64 0),.sc (.i .i64 0),.sc (.b false),.sc (.b false),.sc (.s [])] [(0,(1,.c (.sc (.b true)))),(1,(1,.c (.sc (.i .i64 3)))),(2,(1,.c (.sc (.i .i64 9))))]),n (fa 27 1 5),n (ld 28 27),n (.len 29 (.t 28)),n (bi 30 .rem 29 3),n (bi 31 .eql 30 0),n (.st (.t 2) 8 (.t 26)),m 3 31] [0,0,2,6,14,30,1,127]) .ret) (.seq (.reg [n (bs 33 .eql 5 [97,114,114]),m 32 33]) (.cond (.t 32) (.seq (.reg [n (.build 34 [.sc (.b false),.sc (.i .i64 0),.sc (.i .i64 0),.sc (.i .i64 0),.sc (.i .i64 0),.sc (.b false),.sc (.b false),.sc (.s [])] [(0,(1,.c (.sc (.b true)))),(1,(1,.c (.sc (.i .i64 1)))),(2,(1,.c (.sc (.i .i64 1)))),(7,(1,.c (.sc (.s [110,97,109,101]))))]),n (.st (.t 2) 8 (.t 34)),n (mb 3 true)]) .ret) (.seq (.seq (.reg [n (bs 36 .eql 5 [115,105,110,103,108,101]),m 35 36]) (.cond (.t 35) .skip (.reg [n (bs 37 .eql 5 [97,116,111,109,105,99]),m 35 37]))) (.cond (.t 35) (.seq (.reg [n (.build 38 [.sc (.b false),.sc (.i .i64 0),.sc (.i .i64 0),.sc (.i .i64 0),.sc (.i .i64 0),.sc (.b false),.sc (.b false),.sc (.s [])] [(0,(1,.c (.sc (.b true))))]),n (.st (.t 2) 8 (.t 38)),n (mb 3 true)]) .ret) (.seq (.reg [n (bs 40 .eql 5 [105,102]),m 39 40]) (.cond (.t 39) (.seq (.reg [n (.build 41 [.sc (.b false),.sc (.i .i64 0),.sc (.i .i64 0),.sc (.i .i64 0),.sc (.i .i64 0),.sc (.b false),.sc (.b false),.sc (.s [])] [(1,(1,.c (.sc (.i .i64 1)))),(2,(1,.c (.sc (.i .i64 1)))),(3,(1,.c (.sc (.i .i64 2)))),(4,(1,.c (.sc (.i .i64 2))))]),n (.st (.t 2) 8 (.t 41)),n (mb 3 true)]) .ret) (.seq (.seq (.reg [n (bs 43 .eql 5 [119,104,105,108,101]),m 42 43]) (.cond (.t 42) .skip (.reg [n (bs 44 .eql 5 [111,110]),m 42 44]))) (.cond (.t 42) (.seq (.reg [n (.build 45 [.sc (.b false),.sc (.i .i64 0),.sc (.i .i64 0),.sc (.i .i64 0),.sc (.i .i64 0),.sc (.b false),.sc (.b false),.sc (.s [])] [(1,(1,.c (.sc (.i .i64 1)))),(2,(1,.c (.sc (.i .i64 1)))),(3,(1,.c (.sc (.i .i64 1)))),(4,(1,.c (.sc (.i .i64 1))))]),n (.st (.t 2) 8 (.t 45)),n (mb 3 true)]) .ret) (.seq (.reg [n (bs 47 .eql 5 [102,111,114]),m 46 47]) (.cond (.t 46) (.seq (.reg [n (.build 48 [.sc (.b false),.sc (.i .i64 0),.sc (.i .i64 0),.sc (.i .i64 0),.sc (.i .i64 0),.sc (.b false),.sc (.b false),.sc (.s [])] [(5,(1,.c (.sc (.b true)))),(7,(1,.c (.sc (.s [110,97,109,101])))),(3,(1,.c (.sc (.i .i64 1)))),(4,(1,.c (.sc (.i .i64 1))))]),n (.st (.t 2) 8 (.t 48)),n (mb 3 true)]) .ret) (.seq (.reg [n (bs 50 .eql 5 [102,111,114,97,108,108]),m 49 50]) (.cond (.t 49) (.seq (.reg [n (.build 51 [.sc (.b false),.sc (.i .i64 0),.sc (.i .i64 0),.sc (.i .i64 0),.sc (.i .i64 0),.sc (.b false),.sc (.b false),.sc (.s [])] [(5,(1,.c (.sc (.b true)))),(6,(1,.c (.sc (.b true)))),(7,(1,.c (.sc (.s [110,97,109,101])))),(3,(1,.c (.sc (.i .i64 1)))),(4,(1,.c (.sc (.i .i64 1))))]),n (.st (.t 2) 8 (.t 51)),n (mb 3 true)]) .ret) (.seq (.reg [n (bs 53 .eql 5 [122,105,112]),m 52 53]) (.cond (.t 52) (.seq (.reg [n (.build 54 [.sc (.b false),.sc (.i .i64 0),.sc (.i .i64 0),.sc (.i .i64 0),.sc (.i .i64 0),.sc (.b false),.sc (.b false),.sc (.s [])] [(5,(1,.c (.sc (.b true)))),(6,(1,.c (.sc (.b true)))),(7,(1,.c (.sc (.s [110,97,109,101])))),(1,(1,.c (.sc (.i .i64 2)))),(2,(1,.c (.sc (.i .i64 4)))),(3,(1,.c (.sc (.i .i64 1)))),(4,(1,.c (.sc (.i .i64 1))))]),n (.st (.t 2) 8 (.t 54)),n (mb 3 true)]) .ret) (.seq (.reg [n (bs 56 .eql 5 [99,111,98,101,103,105,110]),m 55 56]) (.cond (.t 55) (.seq (.reg [n (.build 57 [.sc (.b false),.sc (.i .i64 0),.sc (.i .i64 0),.sc (.i .i64 0),.sc (.i .i64 0),.sc (.b false),.sc (.b false),.sc (.s [])] [(3,(1,.c (.sc (.i .i64 1)))),(4,(1,.c (.sc (.i .i64 1500))))]),n (.st (.t 2) 8 (.t 57)),n (mb 3 true)]) .ret) (.seq (.reg [n (bs 59 .eql 5 [99,111,102,111,114,97,108,108]),m 58 59]) (.cond (.t 58) (.seq (.reg [n (.build 60 [.sc (.b false),.sc (.i .i64 0),.sc (.i .i64 0),.sc (.i .i64 0),.sc (.i .i64 0),.sc (.b false),.sc (.b false),.sc (.s [])] [(0,(1,.c (.sc (.b true)))),(1,(1,.c (.sc (.i .i64 2)))),(2,(1,.c (.sc (.i .i64 2)))),(3,(1,.c (.sc (.i .i64 1)))),(4,(1,.c (.sc (.i .i64 1))))]),n (.st (.t 2) 8 (.t 60)),n (mb 3 true)]) .ret) (.seq (.seq (.reg [n (bs 62 .eql 5 [98,101,103,105,110]),m 61 62]) (.cond (.t 61) .skip (.reg [n (bs 63 .eql 5 [115,121,110,99]),m 61 63]))) (.cond (.t 61) (.seq (.reg [n (.build 64 [.sc (.b false),.sc (.i .i64 0),.sc (.i .i64 0),.sc (.i .i64 0),.sc (.i .i64 0),.sc (.b false),.sc (.b false),.sc (.s [])] [(3,(1,.c (.sc (.i .i64 1)))),(4,(1,.c (.sc (.i .i64 1))))]),n (.st (.t 2) 8 (.t 64)),n (mb 3 true)]) .ret) (.seq (.seq (.reg [n (bs 66 .eql 5 [119,114,105,116,101]),m 65 66]) (.cond (.t 65) .skip (.seq (.reg [n (bs 67 .eql 5 [100,111]),m 65 67]) (.cond (.t 65) .skip (.reg [n (bs 68 .eql 5 [114,101,116,117,114,110]),m 65 68]))))) (.cond (.t 65) (.seq (.reg [n (.build 69 [.sc (.b false),.sc (.i .i64 0),.sc (.i .i64 0),.sc (.i .i64 0),.sc (.i .i64 0),.sc (.b false),.sc (.b false),.sc (.s [])] [(1,(1,.c (.sc (.i .i64 1)))),(2,(1,.c (.sc (.i .i64 1))))]),n (.st (.t 2) 8 (.t 69)),n (mb 3 true)]) .ret) (.seq (.reg [n (bs 71 .eql 5 [104,97,108,116]),m 70 71]) (.cond (.t 70) (.seq (.reg [n (.build 72 [.sc (.b false),.sc (.i .i64 0),.sc (.i .i64 0),.sc (.i .i64 0),.sc (.i .i64 0),.sc (.b false),.sc (.b false),.sc (.s [])] [(7,(1,.c (.sc (.s [114,101,97,115,111,110]))))]),n (.st (.t 2) 8 (.t 72)),n (mb 3 true)]) .ret) (.seq (.seq (.reg [n (bs 74 .eql 5 [114,101,100,117,99,101]),m 73 74]) (.cond (.t 73) .skip (.reg [n (bs 75 .eql 5 [115,99,97,110]),m 73 75]))) (.cond (.t 73) (.seq (.reg [n (.build 76 [.sc (.b false),.sc (.i .i64 0),.sc (.i .i64 0),.sc (.i .i64 0),.sc (.i .i64 0),.sc (.b false),.sc (.b false),.sc (.s [])] [(0,(1,.c (.sc (.b true)))),(5,(1,.c (.sc (.b true)))),(7,(1,.c (.sc (.s [111,112]))))]),n (.st (.t 2) 8 (.t 76)),n (mb 3 true)]) .ret) (.seq (.reg [n (bs 78 .eql 5 [99,111,112,121]),m 77 78]) (.cond (.t 77) (.seq (.reg [n (.build 79 [.sc (.b false),.sc (.i .i64 0),.sc (.i .i64 0),.sc (.i .i64 0),.sc (.i .i64 0),.sc (.b false),.sc (.b false),.sc (.s [])] [(0,(1,.c (.sc (.b true)))),(5,(1,.c (.sc (.b true))))]),n (.st (.t 2) 8 (.t 79)),n (mb 3 true)]) .ret) .skip)))))))))))))))))))))))))))))))))))))) (.seq (.reg [n (.build 80 [.sc (.b false),.sc (.i .i64 0),.sc (.i .i64 0),.sc (.i .i64 0),.sc (.i .i64 0),.sc (.b false),.sc (.b false),.sc (.s [])] []),n (.st (.t 2) 8 (.t 80)),n (mb 3 false)]) .ret)),[(2,8),(3,0)],81,[]⟩
open K in
def F237:Fn:=⟨.seq (.reg [n (mb 4 false)]) (.seq (.seq (.reg [m 5 0]) (.block 0 (.seq (.seq (.reg [n (bs 7 .eql 5 [119,104,111,108,101]),m 6 7]) (.cond (.t 6) .skip (.seq (.reg [n (bs 8 .eql 5 [98,108,111,99,107]),m 6 8]) (.cond (.t 6) .skip (.reg [n (bs 9 .eql 5 [99,121,99,108,105,99]),m 6 9]))))) (.cond (.t 6) (.seq (.reg [m 10 1,n (bi 11 .eql 10 0),m 4 11]) .ret) (.seq (.reg [n (bs 13 .eql 5 [98,108,111,99,107,115]),m 12 13]) (.cond (.t 12) (.seq (.reg [m 14 1,n (bi 15 .geq 14 1),m 16 15,wm 16 17 1,w 16 (bi 18 .leq 17 99),n (pf 19 16 18),m 4 19]) .ret) .skip)))))) (.seq (.reg [n (mb 4 false)]) .ret)),[(4,0)],20,[]⟩
open K in
def F238:Fn:=⟨.seq (.reg [n (.box 1 (.t 0)),n (mb 2 false)]) (.seq (.reg [n (fa 3 1 0),n (ld 4 3),n (bs 5 .eql 4 [114,101,100,117,99,101]),m 6 5,g 6 (fa 7 1 0),g 6 (ld 8 7),g 6 (bs 9 .eql 8 [115,99,97,110]),n (pt 10 6 9),m 11 10,g 11 (fa 12 1 0),g 11 (ld 13 12),g 11 (bs 14 .eql 13 [99,111,112,121]),n (pt 15 11 14),m 2 15]) .ret),[(2,0)],16,[]⟩
open K in
def F209:Fn:=⟨.seq (.reg [n (.box 2 (.t 0)),n (.box 3 (.t 1)),n (mb 4 false)]) (.seq (.seq (.reg [n (fa 5 3 7),n (ld 6 5)]) (.block 0 (.seq (.reg [n (bs 8 .eql 6 [110,97,109,101]),m 7 8]) (.cond (.t 7) (.seq (.reg [n (fa 9 2 2),n (ld 10 9),n (cf 11 99 [.t 10]),m 4 11]) .ret) (.seq (.reg [n (bs 13 .eql 6 [111,112]),m 12 13]) (.cond (.t 12) (.seq (.reg [n (fa 14 2 2),n (ld 15 14),n (cf 16 238 [.t 15]),m 4 16]) .ret) (.seq (.reg [n (bs 18 .eql 6 [107,105,110,100]),m 17 18]) (.cond (.t 17) (.seq (.reg [n (fa 19 2 2),n (ld 20 19),n (fa 21 2 3),n (ld 22 21),n (cf 23 306 [.t 20,.t 22]),m 4 23]) .ret) (.seq (.reg [n (bs 25 .eql 6 [114,101,97,115,111,110]),m 24 25]) (.cond (.t 24) (.seq (.reg [n (fa 26 2 2),n (ld 27 26),n (bs 28 .eql 27 []),m 29 28,g 29 (fa 30 2 2),g 29 (ld 31 30),g 29 (cf 32 99 [.t 31]),n (pt 33 29 32),m 4 33]) .ret) .skip)))))))))) (.seq (.reg [n (fa 34 2 2),n (ld 35 34),n (bs 36 .eql 35 []),m 4 36]) .ret)),[(4,0)],37,[]⟩
open K in
def F212:Fn:=⟨.seq (.reg [n (.box 1 (.t 0)),n (mb 2 false)]) (.seq (.reg [n (fa 3 1 0),n (ld 4 3),n (bs 5 .neq 4 [118,97,114]),m 2 5]) .ret),[(2,0)],6,[]⟩
open K in
def F239:Fn:=⟨.seq (.reg [n (mi 4 0)]) (.seq (.seq (.reg [m 6 0,n (.len 7 (.t 6)),n (mi 8 0)]) (.block 0 (.loop (.seq (.reg [n (b2 9 .lss 8 7)]) (.seq (.cond (.t 9) .skip (.exit 0)) (.seq (.block 1 (.seq (.reg [m 10 8,m 5 10]) (.seq (.reg [m 11 1,m 12 0,m 13 5,n (ix 14 4 12 13),n (.ld 15 4 true (.t 14)),n (.call (some 16) (.t 11) [.t 15])]) (.cond (.t 16) (.seq (.reg [m 17 5,m 4 17]) .ret) .skip)))) (.reg [n (bi 18 .add 8 1),m 8 18]))))))) (.seq (.reg [n (mi 4 (-1))]) .ret)),[(4,0)],19,[]⟩
open K in
def F211:Fn:=⟨.seq (.reg [n (mb 4 false)]) (.seq (.reg [m 5 0,m 6 1,n (cf 7 309 [.t 5,.t 6]),n (bi 8 .geq 7 0),m 4 8]) .ret),[(4,0)],9,[]⟩
theorem F151_ok:aI Tryz.prog (fun _=>an0) 239=some F151:=by kernel_rfl
theorem F237_ok:aI Tryz.prog (fun _=>an0) 306=some F237:=by kernel_rfl
theorem F238_ok:aI Tryz.prog (fun _=>an0) 307=some F238:=by kernel_rfl
theorem F209_ok:aI Tryz.prog (fun _=>an0) 240=some F209:=by kernel_rfl
theorem F212_ok:aI Tryz.prog (fun _=>an0) 244=some F212:=by kernel_rfl
theorem F239_ok:aI Tryz.prog (fun _=>an0) 309=some F239:=by kernel_rfl
theorem F211_ok:aI Tryz.prog (fun _=>an0) 243=some F211:=by kernel_rfl
def Stm.es:Stm→List Exp | .mk _ _ _ _ _ es _ _=>es
def Stm.o:Stm→S | .mk o _ _ _ _ _ _ _=>o
def Stm.tx:Stm→S | .mk _ _ t _ _ _ _ _=>t
def Stm.n:Stm→Int | .mk _ _ _ n _ _ _ _=>n
theorem b151 (W0:Go.World) (x:Stm):aD (Ctr Tryz.prog W0) F151.ac F151.rs [eS x] [] (shpA (dY x.o x.es.length)) []:=by
 cases x with | mk o nm tx n ns es fs bs=>
 repeat' ((conv=>whnf);(first | with_reducible refine ap (fun _=>?_) (fun _=>?_) | (refine And.intro ⟨Int.natCast_nonneg _,by decide⟩ ?_) | fail))
 all_goals ((conv=>whnf);(refine fin_r ?_ rfl (shpA_wk _) rfl;(conv=>lhs;simp [shpA,Shp.a,dY,a7,Stm.o,Stm.es, *]);(first | rfl | (simp only [aU];rfl))))
theorem c151 (W0:Go.World) (x:Stm):Ctr Tryz.prog W0 239 [eS x] [] (shpA (dY x.o x.es.length)) []:=
 ak follows F151_ok rfl (fun _ _ h=>by cases h) rfl (by cases x;rfl) (b151 W0 x)
theorem b237 (W0:Go.World) (s:S) (n:Int):aD (Ctr Tryz.prog W0) F237.ac F237.rs [.sc (.s s),.sc (.i .i64 n)] [] (.sc (.b (lC s n))) []:=by
 repeat' ((conv=>whnf);(first | with_reducible refine ap (fun _=>?_) (fun _=>?_) | fail))
 all_goals ((conv=>whnf);(refine aE ?_;simp_all [lC,a7];try (intros;omega)))
theorem c237 (W0:Go.World) (s:S) (n:Int):Ctr Tryz.prog W0 306 [.sc (.s s),.sc (.i .i64 n)] [] (.sc (.b (lC s n))) []:=
 ak follows F237_ok rfl (fun _ _ h=>by cases h) rfl (by rfl) (b237 W0 s n)
theorem b238 (W0:Go.World) (x:Stm):aD (Ctr Tryz.prog W0) F238.ac F238.rs [eS x] [] (.sc (.b (oneB x.o))) []:=by
 cases x with | mk o nm tx n ns es fs bs=>
 repeat' ((conv=>whnf);(first | with_reducible refine ap (fun _=>?_) (fun _=>?_) | fail))
 all_goals ((conv=>whnf);(refine aE ?_;simp_all [oneB,a7,Stm.o]))
theorem c238 (W0:Go.World) (x:Stm):Ctr Tryz.prog W0 307 [eS x] [] (.sc (.b (oneB x.o))) []:=
 ak follows F238_ok rfl (fun _ _ h=>by cases h) rfl (by cases x;rfl) (b238 W0 x)
theorem b209 (W0:Go.World) (hk:Wk W0) (x:Stm) (hx:x.ok) (y:Shp):aD (Ctr Tryz.prog W0) F209.ac F209.rs [eS x,y.a] [] (.sc (.b (textB y.text x.tx x.n))) []:=by
 cases x with | mk o nm tx n ns es fs bs=>
 repeat' ((conv=>whnf);(first | with_reducible refine ap (fun _=>?_) (fun _=>?_) | (refine callP.pure _ (c168 W0 hk tx hx.1.2.2.1) ⟨rfl,rfl⟩ ?_) | (refine callP.pure _ (c186 W0 tx) ⟨rfl,rfl⟩ ?_) | (refine callP.pure _ (c237 W0 tx n) ⟨rfl,rfl⟩ ?_) | fail))
 all_goals ((conv=>whnf);(refine aE ?_;simp_all [textB,a7,Stm.tx,Stm.n]))
theorem c209 (W0:Go.World) (hk:Wk W0) (x:Stm) (hx:x.ok) (y:Shp):Ctr Tryz.prog W0 240 [eS x,y.a] [] (.sc (.b (textB y.text x.tx x.n))) []:=
 ak follows F209_ok rfl (fun _ _ h=>by cases h) rfl (by cases x;rfl) (b209 W0 hk x hx y)
end Go.Abs
namespace Go.Abs
open Go.Proofs
def Exp.o:Exp→S | .mk o _ _ _=>o
def kb (x:Exp):Bool:=!aH x.o [118,97,114]
def nH:List Exp→Bool | []=>false | x::r=>kb x||nH r
def fX:List Exp→Nat→Int
 | [],_=>-1
 | x::r,k=>match kb x with | true=>k | false=>fX r (k+1)
theorem mV:∀ (l:List Exp) (k:Nat),decide (0≤fX l k)=nH l
 | [],k=>rfl
 | x :: r, k => by
   have ih:=mV r (k+1)
   cases h:kb x with
   | true=>simp [fX,nH,h]
   | false=>simpa [fX,nH,h] using ih
def dS {α:Type} (f:α→Bool):List α→Bool | []=>true | x::r=>f x&&dS f r
def mT (f:Fold):Bool:=aj f.nm&&(oC f.op||aH f.op [60,45])
def iT (o:S) (ns:List S) (fs:List Fold) (y:Shp):Bool:=dS aj ns&&(dS mT fs &&
 (bif y.names then decide (1≤(ns.length:Int))&&(decide ((ns.length:Int)≤3)&&((decide ((ns.length:Int)=1)||!oneB o)&&(y.folds||decide ((fs.length:Int)=0)))) else decide ((ns.length:Int)=0)&&decide ((fs.length:Int)=0)))
open K in
def F210:Fn:=⟨.seq (.reg [n (.box 2 (.t 0)),n (.box 3 (.t 1)),n (mb 4 false)]) (.seq (.seq (.reg [n (fa 10 2 4),n (ld 11 10),n (.len 12 (.t 11)),n (mi 13 0)]) (.block 0 (.loop (.seq (.reg [n (b2 14 .lss 13 12)]) (.seq (.cond (.t 14) .skip (.exit 0)) (.seq (.block 1 (.seq (.reg [n (ix 15 1 11 13),n (ld 16 15),m 6 16]) (.seq (.reg [m 17 6,n (cf 18 99 [.t 17]),n (.no 19 (.t 18))]) (.cond (.t 19) (.seq (.reg [n (mb 4 false)]) .ret) .skip)))) (.reg [n (bi 20 .add 13 1),m 13 20]))))))) (.seq (.seq (.reg [n (fa 21 2 6),n (ld 22 21),n (.len 23 (.t 22)),n (mi 24 0)]) (.block 2 (.loop (.seq (.reg [n (b2 25 .lss 24 23)]) (.seq (.cond (.t 25) .skip (.exit 2)) (.seq (.block 3 (.seq (.reg [n (ix 26 2 22 24),n (.ld 27 2 true (.t 26)),n (.alloc 8 [.sc (.s []),.sc (.s [])]),n (.st (.t 8) 2 (.t 27))]) (.seq (.reg [n (fa 28 8 1),n (ld 29 28),n (cf 30 99 [.t 29]),n (.no 31 (.t 30)),m 32 31,g 32 (fa 33 8 0),g 32 (ld 34 33),g 32 (cf 35 238 [.t 34]),g 32 (.no 36 (.t 35)),gm 32 37 36,w 37 (fa 38 8 0),w 37 (ld 39 38),w 37 (bs 40 .neq 39 [60,45]),g 32 (pf 41 37 40),n (pt 42 32 41)]) (.cond (.t 42) (.seq (.reg [n (mb 4 false)]) .ret) .skip)))) (.reg [n (bi 43 .add 24 1),m 24 43]))))))) (.seq (.seq (.reg [n (fa 44 3 5),n (ld 45 44),n (.no 46 (.t 45))]) (.cond (.t 46) (.seq (.reg [n (fa 47 2 4),n (ld 48 47),n (.len 49 (.t 48)),n (bi 50 .eql 49 0),m 51 50,w 51 (fa 52 2 6),w 51 (ld 53 52),w 51 (.len 54 (.t 53)),w 51 (bi 55 .eql 54 0),n (pf 56 51 55),m 4 56]) .ret) .skip)) (.seq (.reg [n (fa 57 2 4),n (ld 58 57),n (.len 59 (.t 58)),m 9 59]) (.seq (.reg [m 60 9,n (bi 61 .geq 60 1),m 62 61,wm 62 63 9,w 62 (bi 64 .leq 63 3),n (pf 65 62 64),m 66 65,wm 66 67 9,w 66 (bi 68 .eql 67 1),wm 66 69 68,g 69 (.ld 70 8 true (.t 2)),g 69 (cf 71 307 [.t 70]),g 69 (.no 72 (.t 71)),w 66 (pt 73 69 72),n (pf 74 66 73),m 75 74,w 75 (fa 76 3 6),w 75 (ld 77 76),wm 75 78 77,g 78 (fa 79 2 6),g 78 (ld 80 79),g 78 (.len 81 (.t 80)),g 78 (bi 82 .eql 81 0),w 75 (pt 83 78 82),n (pf 84 75 83),m 4 84]) .ret))))),[(4,0)],85,[]⟩
theorem F210_ok:aI Tryz.prog (fun _=>an0) 241=some F210:=by kernel_rfl
theorem b212 (W0:Go.World) (x:Exp):aD (Ctr Tryz.prog W0) F212.ac F212.rs [eE x] [] (.sc (.b (kb x))) []:=by
 cases x with | mk a b n l=>
 repeat' ((conv=>whnf);(first | with_reducible refine ap (fun _=>?_) (fun _=>?_) | fail))
 all_goals ((conv=>whnf);(refine aE ?_;simp_all [kb,Exp.o]))
theorem c212 (W0:Go.World) (x:Exp):Ctr Tryz.prog W0 244 [eE x] [] (.sc (.b (kb x))) []:=
 ak follows F212_ok rfl (fun _ _ h=>by cases h) rfl (by cases x;rfl) (b212 W0 x)
theorem b239 (W0:Go.World) (l:List Exp) (hl:l.length≤140737488355328):aD (Ctr Tryz.prog W0) F239.ac F239.rs [eL l,.fn 244 []] [] (.sc (.i .i64 (fX l 0))) []:=by
 conv=>whnf
 refine .st 1000 (fun k=>l.length - k) (fun k=>[(.s 0,.av (eL l)),(.s 1,.av (.fn 244 [])),(.s 7,.av (.sc (.i .i64 ((gq l).length:Nat)))),(.s 8,.av (.sc (.i .i64 (k:Nat))))])
  (fun k=>k≤l.length∧fX l 0=fX (l.drop k) k) 0 ?_ ⟨Nat.zero_le _,rfl⟩ ?_
 ·(refine aN rfl rfl ?_;repeat' (first | exact rfl | exact trivial | refine ⟨?_,?_⟩))
 ·rintro k ⟨hk,he⟩
  conv=>whnf
  refine ap (fun h2=>?_) (fun h2=>?_)
  ·simp only [aU,decide_eq_false_iff_not] at h2
   have e1:l.drop k=[]:=by simp;omega
   rw [e1] at he
   conv=>whnf
   exact eU (by rw [he];rfl)
  ·simp only [aU,decide_eq_true_eq] at h2
   obtain ⟨x,hx⟩:=aB (l:=l) (k:=k) (by omega)
   have dx:=kp hx
   rw [aR hx,fX] at he
   cases x with | mk a b n args=>
   conv=>whnf
   refine ⟨_,⟨Int.natCast_nonneg _,dx⟩,?_⟩
   conv=>whnf
   refine callP.pure _ (c212 W0 (.mk a b n args)) ⟨rfl,rfl⟩ ?_
   conv=>whnf
   refine ap (fun h3=>?_) (fun h3=>?_)
   ·simp only [h3] at he
    conv=>whnf
    refine ⟨?_,?_⟩
    ·constructor<;>omega
    ·conv=>whnf
     refine nxt (k+1) ⟨by omega,by omega,he⟩ ?_
     (refine aN rfl rfl ?_;repeat' (first | exact rfl | exact trivial | refine ⟨?_,?_⟩))
   ·simp only [h3] at he
    conv=>whnf
    exact eU he.symm
theorem c239 (W0:Go.World) (l:List Exp) (hl:l.length≤140737488355328):Ctr Tryz.prog W0 309 [eL l,.fn 244 []] [] (.sc (.i .i64 (fX l 0))) []:=
 ak follows F239_ok rfl (fun _ _ h=>by cases h) rfl (by rfl) (b239 W0 l hl)
theorem b211 (W0:Go.World) (l:List Exp) (hl:l.length≤140737488355328):aD (Ctr Tryz.prog W0) F211.ac F211.rs [eL l,.fn 244 []] [] (.sc (.b (nH l))) []:=by
 repeat' ((conv=>whnf);(first | with_reducible refine ap (fun _=>?_) (fun _=>?_) | (refine callP.pure _ (c239 W0 l hl) ⟨rfl,rfl⟩ ?_) | fail))
 all_goals ((conv=>whnf);exact aE (mV l 0))
theorem c211 (W0:Go.World) (l:List Exp) (hl:l.length≤140737488355328):Ctr Tryz.prog W0 243 [eL l,.fn 244 []] [] (.sc (.b (nH l))) []:=
 ak follows F211_ok rfl (fun _ _ h=>by cases h) rfl (by rfl) (b211 W0 l hl)
theorem b210 (W0:Go.World) (hk:Wk W0) (x:Stm) (hx0:x.ok) (y:Shp):aD (Ctr Tryz.prog W0) F210.ac F210.rs [eS x,y.a] [] (.sc (.b (match x with | .mk o _ _ _ ns _ fs _=>iT o ns fs y))) []:=by
 cases x with | mk o nm tx n ns es fs bs=>
 show aD (Ctr Tryz.prog W0) F210.ac F210.rs [eS (.mk o nm tx n ns es fs bs),y.a] [] (.sc (.b (iT o ns fs y))) []
 have hl:=hx0.2.1.1
 conv=>whnf
 refine .st 3000 (fun k=>ns.length - k) (fun k=>[(.s 2,.av (.ptr 1000 0)),(.s 3,.av (.ptr 1100 0)),(.b 1000,.bx ((Stm.mk o nm tx n ns es fs bs).d.map aQ)),(.b 1100,.bx [.sc (.b y.nm),.sc (.i .i64 y.least),.sc (.i .i64 y.most),.sc (.i .i64 y.bodies),.sc (.i .i64 y.upTo),.sc (.b y.names),.sc (.b y.folds),.sc (.s y.text)]),(.s 11,.av (bU ns)),(.s 12,.av (.sc (.i .i64 ((ae ns).length:Nat)))),(.s 13,.av (.sc (.i .i64 (k:Nat))))])
  (fun k=>k≤ns.length∧dS aj ns=dS aj (ns.drop k)) 0 ?_ ⟨Nat.zero_le _,rfl⟩ ?_
 ·(refine aN rfl rfl ?_;repeat' (first | exact rfl | exact trivial | refine ⟨?_,?_⟩))
 ·rintro k ⟨hk',he⟩
  conv=>whnf
  refine ap (fun h2=>?_) (fun h2=>?_)
  ·simp only [aa,decide_eq_false_iff_not] at h2
   have e1:ns.drop k=[]:=by simp;omega
   have he:dS aj ns=true:=by rw [he,e1];simp [dS]
   clear e1 h2 hk'
   conv=>whnf
   have hf1:=he
   clear he
   have hl:=hx0.2.2.2.1.1
   refine .st 3000 (fun k=>fs.length - k) (fun k=>[(.s 2,.av (.ptr 1000 0)),(.s 3,.av (.ptr 1100 0)),(.b 1000,.bx ((Stm.mk o nm tx n ns es fs bs).d.map aQ)),(.b 1100,.bx [.sc (.b y.nm),.sc (.i .i64 y.least),.sc (.i .i64 y.most),.sc (.i .i64 y.bodies),.sc (.i .i64 y.upTo),.sc (.b y.names),.sc (.b y.folds),.sc (.s y.text)]),(.s 22,.av (eFs fs)),(.s 23,.av (.sc (.i .i64 ((i6 fs).length:Nat)))),(.s 24,.av (.sc (.i .i64 (k:Nat))))])
    (fun k=>k≤fs.length∧dS mT fs=dS mT (fs.drop k)) 0 ?_ ⟨Nat.zero_le _,rfl⟩ ?_
   ·(refine aN rfl rfl ?_;repeat' (first | exact rfl | exact trivial | refine ⟨?_,?_⟩))
   ·rintro k ⟨hk',he⟩
    conv=>whnf
    refine ap (fun h2=>?_) (fun h2=>?_)
    ·simp only [fd,decide_eq_false_iff_not] at h2
     have e1:fs.drop k=[]:=by simp;omega
     have he:dS mT fs=true:=by rw [he,e1];rfl
     clear e1 h2 hk'
     repeat' ((conv=>whnf);(first | with_reducible refine ap (fun _=>?_) (fun _=>?_) | (refine callP.pure _ (c238 W0 (.mk o nm tx n ns es fs bs)) ⟨rfl,rfl⟩ ?_) | fail))
     all_goals ((conv=>whnf);refine aE ?_;simp_all [iT,aa,fd,Stm.o];try (intros;omega))
    ·simp only [fd,decide_eq_true_eq] at h2
     obtain ⟨x,hx⟩:=aB (l:=fs) (k:=k) (by omega)
     have dx:=foldsD_get hx
     have ox:=hx0.2.2.2.1.2 _ (List.mem_of_getElem? hx)
     rw [aR hx,dS] at he
     obtain ⟨a,b⟩:=x
     conv=>whnf
     refine ⟨_,⟨Int.natCast_nonneg _,dx⟩,?_⟩
     repeat' ((conv=>whnf);(first | with_reducible refine ap (fun _=>?_) (fun _=>?_) | (refine callP.pure _ (c168 W0 hk b ox.2) ⟨rfl,rfl⟩ ?_) | (refine callP.pure _ (c186 W0 a) ⟨rfl,rfl⟩ ?_) | fail))
     all_goals (conv=>whnf)
     all_goals (first | (refine aE ?_;simp_all [iT,mT];done) | (have h4:mT ⟨a,b⟩=true:=by simp_all [mT]);(refine And.intro ?_ ?_;(constructor<;>omega);(conv=>whnf);refine nxt (k+1) ⟨by omega,by omega,by rw [he,h4,Bool.true_and]⟩ ?_;(refine aN rfl rfl ?_;repeat' (first | exact rfl | exact trivial | refine ⟨?_,?_⟩))))
  ·simp only [aa,decide_eq_true_eq] at h2
   obtain ⟨x,hx⟩:=aB (l:=ns) (k:=k) (by omega)
   have dx:=bD hx
   have ox:=hx0.2.1.2 _ (List.mem_of_getElem? hx)
   rw [aR hx,dS] at he
   conv=>whnf
   refine ⟨_,⟨Int.natCast_nonneg _,dx⟩,?_⟩
   conv=>whnf
   refine callP.pure _ (c168 W0 hk x ox) ⟨rfl,rfl⟩ ?_
   conv=>whnf
   refine ap (fun h3=>?_) (fun h3=>?_)
   ·have h4:aj x=true:=by rw [Bool.not_eq_false'] at h3;exact h3
    conv=>whnf
    refine ⟨?_,?_⟩
    ·constructor<;>omega
    ·conv=>whnf
     refine nxt (k+1) ⟨by omega,by omega,?_⟩ ?_
     ·rw [he,h4,Bool.true_and]
     ·(refine aN rfl rfl ?_;repeat' (first | exact rfl | exact trivial | refine ⟨?_,?_⟩))
   ·have h4:aj x=false:=by rw [Bool.not_eq_true'] at h3;exact h3
    have he:dS aj ns=false:=by rw [he,h4,Bool.false_and]
    conv=>whnf
    refine aE ?_
    simp_all [iT]
theorem c210 (W0:Go.World) (hk:Wk W0) (o nm tx:S) (n:Int) (ns:List S) (es:List Exp) (fs:List Fold) (bs:List (List Stm)) (hx:(Stm.mk o nm tx n ns es fs bs).ok) (y:Shp):Ctr Tryz.prog W0 241 [eS (.mk o nm tx n ns es fs bs),y.a] [] (.sc (.b (iT o ns fs y))) []:=
 ak follows F210_ok rfl (fun _ _ h=>by cases h) rfl (by rfl) (b210 W0 hk _ hx y)
end Go.Abs
namespace Go.Abs
open Go.Proofs
theorem od {l:List Stm} {k:Nat} {x:Stm} (h:l[k]? = some x):SizeOf.sizeOf x<SizeOf.sizeOf l:=List.sizeOf_lt_of_mem (List.mem_of_getElem? h)
theorem lW {l:List (List Stm)} {k:Nat} {x:List Stm} (h:l[k]? = some x):SizeOf.sizeOf x<SizeOf.sizeOf l:=List.sizeOf_lt_of_mem (List.mem_of_getElem? h)
end Go.Abs
namespace Go.Abs
open Go.Proofs
def flatS (o nm tx:S) (n:Int) (ns:List S) (es:List Exp) (fs:List Fold) (nb:Nat):Bool:=
 (dY o es.length).ok&&(!((dY o es.length).nm != !aH nm [])&&((!(dY o es.length).nm||aj nm)&&((aH (dY o es.length).text [107,105,110,100]||decide (n=0)) &&
 (!decide ((es.length:Int)<(dY o es.length).least)&&(!decide ((dY o es.length).most<(es.length:Int))&&(!decide ((nb:Int)<(dY o es.length).bodies)&&(!decide ((dY o es.length).upTo<(nb:Int)) &&
 (textB (dY o es.length).text tx n&&(iT o ns fs (dY o es.length)&&(fg es&&(!aH o [122,105,112]||!nH es)))))))))))
mutual
def jk:Stm→Bool | .mk o nm tx n ns es fs bs=>flatS o nm tx n ns es fs bs.length&&gw bs
def dV:List Stm→Bool | []=>true | x::r=>jk x&&dV r
def gw:List (List Stm)→Bool | []=>true | x::r=>dV x&&gw r
end
def prmB (p:Prm):Bool:=(bif a7 p.ty [[105,110,116],[98,111,111,108],[97,110,121]] then decide (p.rk=0) else bif a7 p.ty [[100,111,109,97,105,110],[97,114,114,97,121]] then decide (0≤p.rk)&&decide (p.rk≤3) else false)&&aj p.nm
def l8 (p:Prc):Bool:=dS prmB p.ps&&(a7 p.res [[105,110,116],[98,111,111,108],[110,111,110,101]]&&(aj p.nm&&(decide ((p.ps.length:Int)≤6)&&dV p.body)))
def prgB (p:Prg):Bool:=dS l8 p.procs&&dV p.body
open K in
def F169:Fn:=⟨.seq (.reg [n (.box 1 (.t 0)),n (mb 2 false)]) (.seq (.reg [n (.ld 8 8 true (.t 1)),n (cf 9 239 [.t 8]),m 7 9,n (ext 10 7 0),n (ext 11 7 1),n (.alloc 3 [.sc (.b false),.sc (.i .i64 0),.sc (.i .i64 0),.sc (.i .i64 0),.sc (.i .i64 0),.sc (.b false),.sc (.b false),.sc (.s [])]),n (.st (.t 3) 8 (.t 10)),m 4 11]) (.seq (.seq (.reg [m 12 4,n (.no 13 (.t 12)),m 14 13,g 14 (fa 15 3 0),g 14 (ld 16 15),g 14 (fa 17 1 1),g 14 (ld 18 17),g 14 (bs 19 .neq 18 []),g 14 (.binB 20 true (.t 16) (.t 19)),n (pt 21 14 20),m 22 21,g 22 (fa 23 3 0),g 22 (ld 24 23),gm 22 25 24,w 25 (fa 26 1 1),w 25 (ld 27 26),w 25 (cf 28 99 [.t 27]),w 25 (.no 29 (.t 28)),g 22 (pf 30 25 29),n (pt 31 22 30),m 32 31,g 32 (fa 33 3 7),g 32 (ld 34 33),g 32 (bs 35 .neq 34 [107,105,110,100]),gm 32 36 35,w 36 (fa 37 1 3),w 36 (ld 38 37),w 36 (bi 39 .neq 38 0),g 32 (pf 40 36 39),n (pt 41 32 40)]) (.cond (.t 41) (.seq (.reg [n (mb 2 false)]) .ret) .skip)) (.seq (.seq (.reg [n (fa 42 1 5),n (ld 43 42),n (.len 44 (.t 43)),n (fa 45 3 1),n (ld 46 45),n (b2 47 .lss 44 46),m 48 47,g 48 (fa 49 1 5),g 48 (ld 50 49),g 48 (.len 51 (.t 50)),g 48 (fa 52 3 2),g 48 (ld 53 52),g 48 (b2 54 .gtr 51 53),n (pt 55 48 54),m 56 55,g 56 (fa 57 1 7),g 56 (ld 58 57),g 56 (.len 59 (.t 58)),g 56 (fa 60 3 3),g 56 (ld 61 60),g 56 (b2 62 .lss 59 61),n (pt 63 56 62),m 64 63,g 64 (fa 65 1 7),g 64 (ld 66 65),g 64 (.len 67 (.t 66)),g 64 (fa 68 3 4),g 64 (ld 69 68),g 64 (b2 70 .gtr 67 69),n (pt 71 64 70)]) (.cond (.t 71) (.seq (.reg [n (mb 2 false)]) .ret) .skip)) (.seq (.seq (.reg [n (.ld 72 8 true (.t 1)),n (.ld 73 8 true (.t 3)),n (cf 74 240 [.t 72,.t 73]),n (.no 75 (.t 74)),m 76 75,g 76 (.ld 77 8 true (.t 1)),g 76 (.ld 78 8 true (.t 3)),g 76 (cf 79 241 [.t 77,.t 78]),g 76 (.no 80 (.t 79)),n (pt 81 76 80),m 82 81,g 82 (fa 83 1 5),g 82 (ld 84 83),g 82 (cf 85 242 [.t 84]),g 82 (.no 86 (.t 85)),n (pt 87 82 86)]) (.cond (.t 87) (.seq (.reg [n (mb 2 false)]) .ret) .skip)) (.seq (.seq (.reg [n (fa 88 1 0),n (ld 89 88),n (bs 90 .eql 89 [122,105,112]),m 91 90,w 91 (fa 92 1 5),w 91 (ld 93 92),w 91 (cf 94 243 [.t 93,.c (.fn 244 [])]),n (pf 95 91 94)]) (.cond (.t 95) (.seq (.reg [n (mb 2 false)]) .ret) .skip)) (.seq (.seq (.reg [n (fa 96 1 7),n (ld 97 96),n (.len 98 (.t 97)),n (mi 99 0)]) (.block 0 (.loop (.seq (.reg [n (b2 100 .lss 99 98)]) (.seq (.cond (.t 100) .skip (.exit 0)) (.seq (.block 1 (.seq (.reg [n (ix 101 1 97 99),n (ld 102 101),m 6 102]) (.seq (.reg [m 103 6,n (cf 104 118 [.t 103]),n (.no 105 (.t 104))]) (.cond (.t 105) (.seq (.reg [n (mb 2 false)]) .ret) .skip)))) (.reg [n (bi 106 .add 99 1),m 99 106]))))))) (.seq (.reg [n (mb 2 true)]) .ret))))))),[(2,0)],107,[]⟩
open K in
def F104:Fn:=⟨.seq (.reg [n (mb 2 false)]) (.seq (.seq (.reg [m 5 0,n (.len 6 (.t 5)),n (mi 7 0)]) (.block 0 (.loop (.seq (.reg [n (b2 8 .lss 7 6)]) (.seq (.cond (.t 8) .skip (.exit 0)) (.seq (.block 1 (.seq (.reg [n (ix 9 8 5 7),n (.ld 10 8 true (.t 9)),n (.alloc 4 [.sc (.s []),.sc (.s []),.sc (.s []),.sc (.i .i64 0),.sl 1 [] .full,.sl 4 [] .full,.sl 2 [] .full,.sl 1 [] .full]),n (.st (.t 4) 8 (.t 10))]) (.seq (.reg [n (.ld 11 8 true (.t 4)),n (cf 12 180 [.t 11]),n (.no 13 (.t 12))]) (.cond (.t 13) (.seq (.reg [n (mb 2 false)]) .ret) .skip)))) (.reg [n (bi 14 .add 7 1),m 7 14]))))))) (.seq (.reg [n (mb 2 true)]) .ret)),[(2,0)],15,[]⟩
theorem F169_ok:aI Tryz.prog (fun _=>an0) 180=some F169:=by kernel_rfl
theorem F104_ok:aI Tryz.prog (fun _=>an0) 118=some F104:=by kernel_rfl
theorem c151m (W0:Go.World) (o nm tx:S) (n:Int) (ns:List S) (es:List Exp) (fs:List Fold) (bs:List (List Stm)):Ctr Tryz.prog W0 239 [eS (.mk o nm tx n ns es fs bs)] [] (shpA (dY o es.length)) []:=c151 W0 _
theorem c209m (W0:Go.World) (hk:Wk W0) (o nm tx:S) (n:Int) (ns:List S) (es:List Exp) (fs:List Fold) (bs:List (List Stm)) (hx:(Stm.mk o nm tx n ns es fs bs).ok) (y:Shp):Ctr Tryz.prog W0 240 [eS (.mk o nm tx n ns es fs bs),y.a] [] (.sc (.b (textB y.text tx n))) []:=c209 W0 hk _ hx y
theorem b169 (W0:Go.World) (hk:Wk W0) (x:Stm) (hx0:x.ok) (h104:∀ l,l.length≤140737488355328→iS l→SizeOf.sizeOf l<SizeOf.sizeOf x→Ctr Tryz.prog W0 118 [eB l] [] (.sc (.b (dV l))) []):aD (Ctr Tryz.prog W0) F169.ac F169.rs [eS x] [] (.sc (.b (jk x))) []:=by
 cases x with | mk o nm tx n ns es fs bs=>
 have hl:=hx0.2.2.2.2.1
 repeat' ((conv=>whnf);(first | with_reducible refine ap (fun _=>?_) (fun _=>?_) | (refine callP.pure _ (c151m W0 o nm tx n ns es fs bs) ⟨rfl,rfl⟩ ?_) | (refine callP.pure _ (c168 W0 hk nm hx0.1.2.1) ⟨rfl,rfl⟩ ?_) | (refine callP.pure _ (c209m W0 hk o nm tx n ns es fs bs hx0 (dY o es.length)) ⟨rfl,rfl⟩ ?_) | (refine callP.pure _ (c210 W0 hk o nm tx n ns es fs bs hx0 (dY o es.length)) ⟨rfl,rfl⟩ ?_) | (refine callP.pure _ (c69 W0 hk es hx0.2.2.1.1 hx0.2.2.1.2) ⟨rfl,rfl⟩ ?_) | (refine callP.pure _ (c211 W0 es hx0.2.2.1.1) ⟨rfl,rfl⟩ ?_) | fail))
 all_goals (conv=>whnf)
 all_goals (first | ((refine aE ?_;simp_all [jk,flatS,aU,bS]);done) | skip)
 all_goals (
  refine .st 1000 (fun k=>bs.length - k) (fun k=>[(.s 97,.av (eBs bs)),(.s 98,.av (.sc (.i .i64 ((eh bs).length:Nat)))),(.s 99,.av (.sc (.i .i64 (k:Nat))))])
   (fun k=>k≤bs.length∧gw bs=gw (bs.drop k)) 0 ?_ ⟨Nat.zero_le _,rfl⟩ ?_
  ·(refine aN rfl rfl ?_;repeat' (first | exact rfl | exact trivial | refine ⟨?_,?_⟩))
  ·rintro k ⟨hk',he⟩
   conv=>whnf
   refine ap (fun h2=>?_) (fun h2=>?_)
   ·simp only [bS,decide_eq_false_iff_not] at h2
    have e1:bs.drop k=[]:=by simp;omega
    have he:gw bs=true:=by rw [he,e1];simp [gw]
    clear e1 h2 hk'
    conv=>whnf
    (refine aE ?_;simp_all [jk,flatS,aU,bS])
   ·simp only [bS,decide_eq_true_eq] at h2
    obtain ⟨x,hx⟩:=aB (l:=bs) (k:=k) (by omega)
    have dx:=kZ hx
    have ox:=ka hx0.2.2.2.2.2 hx
    have sx:=lW hx
    rw [aR hx,gw] at he
    conv=>whnf
    refine ⟨_,⟨Int.natCast_nonneg _,dx⟩,?_⟩
    conv=>whnf
    refine callP.pure _ (h104 _ ox.1 ox.2 (by simp;omega)) ⟨rfl,rfl⟩ ?_
    conv=>whnf
    refine ap (fun h3=>?_) (fun h3=>?_)
    ·have h4:dV x=true:=by rw [Bool.not_eq_false'] at h3;exact h3
     conv=>whnf
     refine ⟨?_,?_⟩
     ·constructor<;>omega
     ·conv=>whnf
      refine nxt (k+1) ⟨by omega,by omega,?_⟩ ?_
      ·rw [he,h4,Bool.true_and]
      ·(refine aN rfl rfl ?_;repeat' (first | exact rfl | exact trivial | refine ⟨?_,?_⟩))
    ·have h4:dV x=false:=by rw [Bool.not_eq_true'] at h3;exact h3
     have he:gw bs=false:=by rw [he,h4,Bool.false_and]
     conv=>whnf
     (refine aE ?_;simp_all [jk,flatS,aU,bS]))
theorem b104 (W0:Go.World) (l:List Stm) (hl:l.length≤140737488355328) (ol:iS l) (hc:∀ x,x.ok→SizeOf.sizeOf x<SizeOf.sizeOf l→Ctr Tryz.prog W0 180 [eS x] [] (.sc (.b (jk x))) []):aD (Ctr Tryz.prog W0) F104.ac F104.rs [eB l] [] (.sc (.b (dV l))) []:=by
 conv=>whnf
 refine .st 1000 (fun k=>l.length - k) (fun k=>[(.s 5,.av (eB l)),(.s 6,.av (.sc (.i .i64 ((eN l).length:Nat)))),(.s 7,.av (.sc (.i .i64 (k:Nat))))])
  (fun k=>k≤l.length∧dV l=dV (l.drop k)) 0 ?_ ⟨Nat.zero_le _,rfl⟩ ?_
 ·(refine aN rfl rfl ?_;repeat' (first | exact rfl | exact trivial | refine ⟨?_,?_⟩))
 ·rintro k ⟨hk',he⟩
  conv=>whnf
  refine ap (fun h2=>?_) (fun h2=>?_)
  ·simp only [d9,decide_eq_false_iff_not] at h2
   have e1:l.drop k=[]:=by simp;omega
   have he:dV l=true:=by rw [he,e1];simp [dV]
   clear e1 h2 hk'
   conv=>whnf
   exact aE he.symm
  ·simp only [d9,decide_eq_true_eq] at h2
   obtain ⟨x,hx⟩:=aB (l:=l) (k:=k) (by omega)
   have dx:=oc hx
   have ox:=mc ol hx
   have sx:=od hx
   rw [aR hx,dV] at he
   cases x with | mk o nm tx n ns es fs bs=>
   conv=>whnf
   refine ⟨_,⟨Int.natCast_nonneg _,dx⟩,?_⟩
   conv=>whnf
   refine callP.pure _ (hc _ ox sx) ⟨rfl,rfl⟩ ?_
   conv=>whnf
   refine ap (fun h3=>?_) (fun h3=>?_)
   ·have h4:jk (.mk o nm tx n ns es fs bs)=true:=by rw [Bool.not_eq_false'] at h3;exact h3
    conv=>whnf
    refine ⟨?_,?_⟩
    ·constructor<;>omega
    ·conv=>whnf
     refine nxt (k+1) ⟨by omega,by omega,?_⟩ ?_
     ·rw [he,h4,Bool.true_and]
     ·(refine aN rfl rfl ?_;repeat' (first | exact rfl | exact trivial | refine ⟨?_,?_⟩))
   ·have h4:jk (.mk o nm tx n ns es fs bs)=false:=by rw [Bool.not_eq_true'] at h3;exact h3
    have he:dV l=false:=by rw [he,h4,Bool.false_and]
    conv=>whnf
    exact aE he.symm
theorem c169s (W0:Go.World) (hk:Wk W0):∀ (n:Nat),(∀ x:Stm,SizeOf.sizeOf x<n→x.ok→Ctr Tryz.prog W0 180 [eS x] [] (.sc (.b (jk x))) []) ∧
  (∀ l:List Stm,SizeOf.sizeOf l<n→l.length≤140737488355328→iS l→Ctr Tryz.prog W0 118 [eB l] [] (.sc (.b (dV l))) [])
 | 0=>⟨fun _ h=>absurd h (Nat.not_lt_zero _),fun _ h=>absurd h (Nat.not_lt_zero _)⟩
 | n + 1 => by
   obtain ⟨ih1,ih2⟩:=c169s W0 hk n
   refine ⟨fun x h hx=>?_,fun l h hl ol=>?_⟩
   ·refine ak follows F169_ok rfl (fun _ _ h=>by cases h) rfl ?_ (b169 W0 hk x hx fun l hl ol hs=>ih2 l (by omega) hl ol)
    cases x;rfl
   ·exact ak follows F104_ok rfl (fun _ _ h=>by cases h) rfl rfl (b104 W0 l hl ol fun x hx hs=>ih1 x (by omega) hx)
theorem c104 (W0:Go.World) (hk:Wk W0) (l:List Stm) (hl:l.length≤140737488355328) (ol:iS l):Ctr Tryz.prog W0 118 [eB l] [] (.sc (.b (dV l))) []:=(c169s W0 hk _).2 l (Nat.lt_succ_self _) hl ol
end Go.Abs
namespace Go.Abs
open Go.Proofs
open K in
def F103:Fn:=⟨.seq (.reg [n (.box 1 (.t 0)),n (mb 2 false)]) (.seq (.seq (.reg [n (fa 7 1 2),n (ld 8 7),n (.len 9 (.t 8)),n (mi 10 0)]) (.block 0 (.loop (.seq (.reg [n (b2 11 .lss 10 9)]) (.seq (.cond (.t 11) .skip (.exit 0)) (.seq (.block 1 (.seq (.reg [n (ix 12 3 8 10),n (.ld 13 3 true (.t 12)),n (.alloc 4 [.sc (.s []),.sc (.s []),.sc (.i .i64 0)]),n (.st (.t 4) 3 (.t 13))]) (.seq (.reg [n (fa 14 4 2),n (ld 15 14),n (bi 16 .eql 15 0),m 5 16]) (.seq (.seq (.reg [n (fa 17 4 1),n (ld 18 17)]) (.block 2 (.seq (.seq (.reg [n (bs 20 .eql 18 [105,110,116]),m 19 20]) (.cond (.t 19) .skip (.seq (.reg [n (bs 21 .eql 18 [98,111,111,108]),m 19 21]) (.cond (.t 19) .skip (.reg [n (bs 22 .eql 18 [97,110,121]),m 19 22]))))) (.cond (.t 19) .skip (.seq (.seq (.reg [n (bs 24 .eql 18 [100,111,109,97,105,110]),m 23 24]) (.cond (.t 23) .skip (.reg [n (bs 25 .eql 18 [97,114,114,97,121]),m 23 25]))) (.cond (.t 23) (.reg [n (fa 26 4 2),n (ld 27 26),n (bi 28 .geq 27 0),m 29 28,w 29 (fa 30 4 2),w 29 (ld 31 30),w 29 (bi 32 .leq 31 3),n (pf 33 29 32),m 5 33]) (.seq (.reg [n (mb 2 false)]) .ret))))))) (.seq (.reg [m 34 5,n (.no 35 (.t 34)),m 36 35,g 36 (fa 37 4 0),g 36 (ld 38 37),g 36 (cf 39 99 [.t 38]),g 36 (.no 40 (.t 39)),n (pt 41 36 40)]) (.cond (.t 41) (.seq (.reg [n (mb 2 false)]) .ret) .skip)))))) (.reg [n (bi 42 .add 10 1),m 10 42]))))))) (.seq (.reg [n (fa 43 1 1),n (ld 44 43),n (bs 45 .eql 44 [105,110,116]),m 46 45,g 46 (fa 47 1 1),g 46 (ld 48 47),g 46 (bs 49 .eql 48 [98,111,111,108]),n (pt 50 46 49),m 51 50,g 51 (fa 52 1 1),g 51 (ld 53 52),g 51 (bs 54 .eql 53 [110,111,110,101]),n (pt 55 51 54),m 6 55]) (.seq (.reg [m 56 6,m 57 56,w 57 (fa 58 1 0),w 57 (ld 59 58),w 57 (cf 60 99 [.t 59]),n (pf 61 57 60),m 62 61,w 62 (fa 63 1 2),w 62 (ld 64 63),w 62 (.len 65 (.t 64)),w 62 (bi 66 .leq 65 6),n (pf 67 62 66),m 68 67,w 68 (fa 69 1 3),w 68 (ld 70 69),w 68 (cf 71 118 [.t 70]),n (pf 72 68 71),m 2 72]) .ret))),[(2,0)],73,[]⟩
open K in
def F52:Fn:=⟨.seq (.reg [n (.box 1 (.t 0)),n (mb 2 false)]) (.seq (.seq (.reg [n (fa 5 1 0),n (ld 6 5),n (.len 7 (.t 6)),n (mi 8 0)]) (.block 0 (.loop (.seq (.reg [n (b2 9 .lss 8 7)]) (.seq (.cond (.t 9) .skip (.exit 0)) (.seq (.block 1 (.seq (.reg [n (ix 10 4 6 8),n (.ld 11 4 true (.t 10)),n (.alloc 4 [.sc (.s []),.sc (.s []),.sl 3 [] .full,.sl 8 [] .full]),n (.st (.t 4) 4 (.t 11))]) (.seq (.reg [n (.ld 12 4 true (.t 4)),n (cf 13 117 [.t 12]),n (.no 14 (.t 13))]) (.cond (.t 14) (.seq (.reg [n (mb 2 false)]) .ret) .skip)))) (.reg [n (bi 15 .add 8 1),m 8 15]))))))) (.seq (.reg [n (fa 16 1 1),n (ld 17 16),n (cf 18 118 [.t 17]),m 2 18]) .ret)),[(2,0)],19,[]⟩
theorem F103_ok:aI Tryz.prog (fun _=>an0) 117=some F103:=by kernel_rfl
theorem F52_ok:aI Tryz.prog (fun _=>an0) 63=some F52:=by kernel_rfl
theorem b103 (W0:Go.World) (hk:Wk W0) (x:Prc) (hx0:x.ok):aD (Ctr Tryz.prog W0) F103.ac F103.rs [eP x] [] (.sc (.b (l8 x))) []:=by
 obtain ⟨nm,res,ps,body⟩:=x
 have hl:ps.length≤140737488355328:=hx0.2.1.1
 conv=>whnf
 refine .st 2000 (fun k=>ps.length - k) (fun k=>[(.s 1,.av (.ptr 1000 0)),(.b 1000,.bx ((Prc.mk nm res ps body).d.map aQ)),(.s 8,.av (ePs ps)),(.s 9,.av (.sc (.i .i64 ((l7 ps).length:Nat)))),(.s 10,.av (.sc (.i .i64 (k:Nat))))])
  (fun k=>k≤ps.length∧dS prmB ps=dS prmB (ps.drop k)) 0 ?_ ⟨Nat.zero_le _,rfl⟩ ?_
 ·(refine aN rfl rfl ?_;repeat' (first | exact rfl | exact trivial | refine ⟨?_,?_⟩))
 ·rintro k ⟨hk',he⟩
  conv=>whnf
  refine ap (fun h2=>?_) (fun h2=>?_)
  ·simp only [fN,decide_eq_false_iff_not] at h2
   have e1:ps.drop k=[]:=by simp;omega
   have he:dS prmB ps=true:=by rw [he,e1];rfl
   clear e1 h2 hk'
   repeat' ((conv=>whnf);(first | with_reducible refine ap (fun _=>?_) (fun _=>?_) | (refine callP.pure _ (c168 W0 hk nm hx0.1.1) ⟨rfl,rfl⟩ ?_) | (refine callP.pure _ (c104 W0 hk body hx0.2.2.1 hx0.2.2.2) ⟨rfl,rfl⟩ ?_) | fail))
   all_goals ((conv=>whnf);(refine aE ?_;simp_all [l8,a7,fN];try (intros;omega)))
  ·simp only [fN,decide_eq_true_eq] at h2
   obtain ⟨x,hx⟩:=aB (l:=ps) (k:=k) (by omega)
   have dx:=prmsD_get hx
   have ox:=hx0.2.1.2 _ (List.mem_of_getElem? hx)
   rw [aR hx,dS] at he
   obtain ⟨a,b,c⟩:=x
   conv=>whnf
   refine ⟨_,⟨Int.natCast_nonneg _,dx⟩,?_⟩
   repeat' ((conv=>whnf);(first | with_reducible refine ap (fun _=>?_) (fun _=>?_) | (refine callP.pure _ (c168 W0 hk a ox.1) ⟨rfl,rfl⟩ ?_) | fail))
   all_goals (conv=>whnf)
   all_goals (first | (refine aE ?_;(simp_all [l8,prmB,a7])<;>(intros;omega)) | (have h4:prmB ⟨a,b,c⟩=true:=by (simp_all [prmB,a7])<;>omega);(refine And.intro ?_ ?_;(constructor<;>omega);(conv=>whnf);refine nxt (k+1) ⟨by omega,by omega,by rw [he,h4,Bool.true_and]⟩ ?_;(refine aN rfl rfl ?_;repeat' (first | exact rfl | exact trivial | refine ⟨?_,?_⟩))))
theorem c103 (W0:Go.World) (hk:Wk W0) (x:Prc) (hx:x.ok):Ctr Tryz.prog W0 117 [eP x] [] (.sc (.b (l8 x))) []:=
 ak follows F103_ok rfl (fun _ _ h=>by cases h) rfl (by rfl) (b103 W0 hk x hx)
theorem b52 (W0:Go.World) (hk:Wk W0) (x:Prg) (hx0:x.ok):aD (Ctr Tryz.prog W0) F52.ac F52.rs [eG x] [] (.sc (.b (prgB x))) []:=by
 obtain ⟨procs,body⟩:=x
 have hl:procs.length≤140737488355328:=hx0.1.1
 conv=>whnf
 refine .st 2000 (fun k=>procs.length - k) (fun k=>[(.s 1,.av (.ptr 1000 0)),(.b 1000,.bx ((Prg.mk procs body).d.map aQ)),(.s 6,.av (ePL procs)),(.s 7,.av (.sc (.i .i64 ((kI procs).length:Nat)))),(.s 8,.av (.sc (.i .i64 (k:Nat))))])
  (fun k=>k≤procs.length∧dS l8 procs=dS l8 (procs.drop k)) 0 ?_ ⟨Nat.zero_le _,rfl⟩ ?_
 ·(refine aN rfl rfl ?_;repeat' (first | exact rfl | exact trivial | refine ⟨?_,?_⟩))
 ·rintro k ⟨hk',he⟩
  conv=>whnf
  refine ap (fun h2=>?_) (fun h2=>?_)
  ·simp only [ea,decide_eq_false_iff_not] at h2
   have e1:procs.drop k=[]:=by simp;omega
   have he:dS l8 procs=true:=by rw [he,e1];simp [dS]
   clear e1 h2 hk'
   conv=>whnf
   repeat' ((conv=>whnf);(first | with_reducible refine ap (fun _=>?_) (fun _=>?_) | (refine callP.pure _ (c104 W0 hk body hx0.2.1 hx0.2.2) ⟨rfl,rfl⟩ ?_) | fail))
   all_goals ((conv=>whnf);refine aE ?_;simp_all [prgB])
  ·simp only [ea,decide_eq_true_eq] at h2
   obtain ⟨x,hx⟩:=aB (l:=procs) (k:=k) (by omega)
   have dx:=og hx
   have ox:=hx0.1.2 _ (List.mem_of_getElem? hx)
   rw [aR hx,dS] at he
   obtain ⟨a,b,c,d⟩:=x
   conv=>whnf
   refine ⟨_,⟨Int.natCast_nonneg _,dx⟩,?_⟩
   conv=>whnf
   refine callP.pure _ (c103 W0 hk _ ox) ⟨rfl,rfl⟩ ?_
   conv=>whnf
   refine ap (fun h3=>?_) (fun h3=>?_)
   ·have h4:l8 ⟨a,b,c,d⟩=true:=by rw [Bool.not_eq_false'] at h3;exact h3
    conv=>whnf
    refine ⟨?_,?_⟩
    ·constructor<;>omega
    ·conv=>whnf
     refine nxt (k+1) ⟨by omega,by omega,?_⟩ ?_
     ·rw [he,h4,Bool.true_and]
     ·(refine aN rfl rfl ?_;repeat' (first | exact rfl | exact trivial | refine ⟨?_,?_⟩))
   ·have h4:l8 ⟨a,b,c,d⟩=false:=by rw [Bool.not_eq_true'] at h3;exact h3
    have he:dS l8 procs=false:=by rw [he,h4,Bool.false_and]
    conv=>whnf
    refine aE ?_
    simp_all [prgB]
theorem c52 (W0:Go.World) (hk:Wk W0) (x:Prg) (hx:x.ok):Ctr Tryz.prog W0 63 [eG x] [] (.sc (.b (prgB x))) []:=
 ak follows F52_ok rfl (fun _ _ h=>by cases h) rfl (by rfl) (b52 W0 hk x hx)
end Go.Abs
namespace Go.Abs
open Go.Proofs
mutual
def nE:Exp→Int | .mk _ _ _ l=>nL l+1
def nL:List Exp→Int | []=>0 | x::r=>nE x+nL r
end
mutual
def dpE:Exp→Int | .mk _ _ _ l=>dpL l+1
def dpL:List Exp→Int | []=>0 | x::r=>max (dpE x) (dpL r)
end
mutual
theorem nE_pos:∀ x,1≤nE x | .mk _ _ _ l=>by simp only [nE];have:=fR l;omega
theorem fR:∀ l,0≤nL l | []=>by simp [nL] | x::r=>by simp only [nL];have:=nE_pos x;have:=fR r;omega
end
mutual
theorem dpE_le:∀ x,0≤dpE x∧dpE x≤nE x | .mk _ _ _ l=>by simp only [nE,dpE];have:=kr l;omega
theorem kr:∀ l,0≤dpL l∧dpL l≤nL l | []=>by simp [nL,dpL] | x::r=>by simp only [nL,dpL];have:=dpE_le x;have:=kr r;have:=nE_pos x;have:=fR r;omega
end
def cL (a b:Int):AV:=.agg [.sc (.i .i64 a),.sc (.i .i64 b)]
open K in
def F68:Fn:=⟨.seq (.reg [n (.alloc 2 [.sc (.i .i64 0),.sc (.i .i64 0)])]) (.seq (.reg [n (.alloc 3 [.sc (.i .i64 0),.sc (.i .i64 0)])]) (.seq (.seq (.reg [m 6 0,n (.len 7 (.t 6)),n (mi 8 0)]) (.block 0 (.loop (.seq (.reg [n (b2 9 .lss 8 7)]) (.seq (.cond (.t 9) .skip (.exit 0)) (.seq (.block 1 (.seq (.reg [n (ix 10 4 6 8),n (.ld 11 4 true (.t 10)),n (.alloc 5 [.sc (.s []),.sc (.s []),.sc (.i .i64 0),.sl 4 [] .full]),n (.st (.t 5) 4 (.t 11))]) (.regD [n (.ld 12 2 true (.t 3)),n (fa 13 5 3),n (ld 14 13),n (cf 15 181 [.t 14]),n (cf 16 121 [.t 15]),n (cf 17 120 [.t 12,.t 16]),n (.st (.t 3) 2 (.t 17))] [0,0,2,6,14,31,63]))) (.reg [n (bi 18 .add 8 1),m 8 18]))))))) (.seq (.reg [n (.ld 19 2 true (.t 3)),n (.st (.t 2) 2 (.t 19))]) .ret))),[(2,2)],20,[]⟩
open K in
def F101:Fn:=⟨.seq (.reg [n (.box 2 (.t 0)),n (.box 3 (.t 1)),n (.alloc 4 [.sc (.i .i64 0),.sc (.i .i64 0)])]) (.seq (.reg [n (fa 5 2 0),n (ld 6 5),n (fa 7 3 0),n (ld 8 7),n (b2 9 .add 6 8),n (fa 10 2 1),n (ld 11 10),n (fa 12 3 1),n (ld 13 12),n (.mx 14 (.t 11) (.t 13)),n (.build 15 [.sc (.i .i64 0),.sc (.i .i64 0)] [(0,(1,.t 9)),(1,(1,.t 14))]),n (.st (.t 4) 2 (.t 15))]) .ret),[(4,2)],16,[]⟩
open K in
def F102:Fn:=⟨.seq (.reg [n (.box 1 (.t 0)),n (.alloc 2 [.sc (.i .i64 0),.sc (.i .i64 0)])]) (.seq (.reg [n (fa 3 1 0),n (ld 4 3),n (bi 5 .add 4 1),n (fa 6 1 1),n (ld 7 6),n (bi 8 .add 7 1),n (.build 9 [.sc (.i .i64 0),.sc (.i .i64 0)] [(0,(1,.t 5)),(1,(1,.t 8))]),n (.st (.t 2) 2 (.t 9))]) .ret),[(2,2)],10,[]⟩
open K in
def F51:Fn:=⟨.seq (.reg [n (.box 1 (.t 0)),n (mb 2 false)]) (.seq (.reg [n (fa 3 1 0),n (ld 4 3),n (bi 5 .leq 4 1500),m 6 5,w 6 (fa 7 1 1),w 6 (ld 8 7),w 6 (bi 9 .leq 8 60),n (pf 10 6 9),m 2 10]) .ret),[(2,0)],11,[]⟩
theorem F68_ok:aI Tryz.prog (fun _=>an0) 181=some F68:=by kernel_rfl
theorem F101_ok:aI Tryz.prog (fun _=>an0) 120=some F101:=by kernel_rfl
theorem F102_ok:aI Tryz.prog (fun _=>an0) 121=some F102:=by kernel_rfl
theorem F51_ok:aI Tryz.prog (fun _=>an0) 116=some F51:=by kernel_rfl
theorem b101 (W0:Go.World) (a b c d:Int) (h:eK .i64 (a+c)):aD (Ctr Tryz.prog W0) F101.ac F101.rs [cL a b,cL c d] [] (cL (a+c) (max b d)) []:=by
 repeat' ((conv=>whnf);(first | with_reducible refine ap (fun _=>?_) (fun _=>?_) | (refine And.intro (by first | assumption | (constructor<;>omega)) ?_) | fail))
 all_goals ((conv=>whnf);(refine nX rfl ?_ rfl;repeat' (first | exact rfl | exact trivial | refine ⟨?_,?_⟩)))
theorem c101 (W0:Go.World) (a b c d:Int) (h:eK .i64 (a+c)):Ctr Tryz.prog W0 120 [cL a b,cL c d] [] (cL (a+c) (max b d)) []:=
 ak follows F101_ok rfl (fun _ _ h=>by cases h) rfl (by rfl) (b101 W0 a b c d h)
theorem b102 (W0:Go.World) (a b:Int) (h1:eK .i64 (a+1)) (h2:eK .i64 (b+1)):aD (Ctr Tryz.prog W0) F102.ac F102.rs [cL a b] [] (cL (a+1) (b+1)) []:=by
 repeat' ((conv=>whnf);(first | with_reducible refine ap (fun _=>?_) (fun _=>?_) | (refine And.intro (by first | assumption | (constructor<;>omega)) ?_) | fail))
 all_goals ((conv=>whnf);(refine nX rfl ?_ rfl;repeat' (first | exact rfl | exact trivial | refine ⟨?_,?_⟩)))
theorem c102 (W0:Go.World) (a b:Int) (h1:eK .i64 (a+1)) (h2:eK .i64 (b+1)):Ctr Tryz.prog W0 121 [cL a b] [] (cL (a+1) (b+1)) []:=
 ak follows F102_ok rfl (fun _ _ h=>by cases h) rfl (by rfl) (b102 W0 a b h1 h2)
theorem b51 (W0:Go.World) (a b:Int):aD (Ctr Tryz.prog W0) F51.ac F51.rs [cL a b] [] (.sc (.b (decide (a≤1500)&&decide (b≤60)))) []:=by
 repeat' ((conv=>whnf);(first | with_reducible refine ap (fun _=>?_) (fun _=>?_) | fail))
 all_goals ((conv=>whnf);(refine aE ?_;simp_all;try (intros;omega)))
theorem c51 (W0:Go.World) (a b:Int):Ctr Tryz.prog W0 116 [cL a b] [] (.sc (.b (decide (a≤1500)&&decide (b≤60)))) []:=
 ak follows F51_ok rfl (fun _ _ h=>by cases h) rfl (by rfl) (b51 W0 a b)
theorem b68 (W0:Go.World) (l:List Exp) (hl:l.length≤140737488355328) (hn:nL l≤1152921504606846976) (hc:∀ x∈l,∀ a b n args,x=.mk a b n args→Ctr Tryz.prog W0 181 [eL args] [] (cL (nL args) (dpL args)) []):aD (Ctr Tryz.prog W0) F68.ac F68.rs [eL l] [] (cL (nL l) (dpL l)) []:=by
 conv=>whnf
 refine .st (α:=Nat × Int × Int) 2000 (fun s=>l.length - s.1) (fun s=>[(.s 2,.av (.ptr 1000 0)),(.s 3,.av (.ptr 1100 0)),(.b 1000,.bx [.sc (.i .i64 0),.sc (.i .i64 0)]),(.b 1100,.bx [.sc (.i .i64 s.2.1),.sc (.i .i64 s.2.2)]),(.s 6,.av (eL l)),(.s 7,.av (.sc (.i .i64 ((gq l).length:Nat)))),(.s 8,.av (.sc (.i .i64 (s.1:Nat))))])
  (fun s=>s.1≤l.length∧nL l=s.2.1+nL (l.drop s.1)∧dpL l=max s.2.2 (dpL (l.drop s.1))∧0≤s.2.1∧0≤s.2.2∧s.2.2≤s.2.1) (0,0,0) ?_ ⟨Nat.zero_le _,by simp,by simp;have:=(kr l).1;omega,by simp,by simp,by simp⟩ ?_
 ·(refine aN rfl rfl ?_;repeat' (first | exact rfl | exact trivial | refine ⟨?_,?_⟩))
 ·rintro ⟨k,a,d⟩ ⟨hk,he,hd,ha0,hd0,hda⟩
  simp only at hk he hd ha0 hd0 hda
  conv=>whnf
  refine ap (fun h2=>?_) (fun h2=>?_)
  ·simp only [aU,decide_eq_false_iff_not] at h2
   have e1:l.drop k=[]:=by simp;omega
   rw [e1] at he hd
   simp only [nL,dpL] at he hd
   conv=>whnf
   have e2:a=nL l:=by omega
   have e3:d=dpL l:=by omega
   subst e2;subst e3
   (refine nX rfl ?_ rfl;repeat' (first | exact rfl | exact trivial | refine ⟨?_,?_⟩))
  ·simp only [aU,decide_eq_true_eq] at h2
   obtain ⟨x,hx⟩:=aB (l:=l) (k:=k) (by omega)
   have dx:=kp hx
   have hmem:=List.mem_of_getElem? hx
   rw [aR hx] at he hd
   simp only [nL,dpL] at he hd
   cases x with | mk o b n args=>
   simp only [nE,dpE] at he hd
   have p1:=fR args
   have p2:=kr args
   have p3:=fR (l.drop (k+1))
   conv=>whnf
   refine ⟨_,⟨Int.natCast_nonneg _,dx⟩,?_⟩
   conv=>whnf
   refine callP.pure _ (hc _ hmem o b n args rfl) ⟨rfl,rfl⟩ ?_
   conv=>whnf
   refine callP.pure _ (c102 W0 (nL args) (dpL args) (by constructor<;>omega) (by constructor<;>omega)) ⟨rfl,rfl⟩ ?_
   conv=>whnf
   refine callP.pure _ (c101 W0 a d (nL args+1) (dpL args+1) (by constructor<;>omega)) ⟨rfl,rfl⟩ ?_
   conv=>whnf
   refine And.intro (by constructor<;>omega) ?_
   conv=>whnf
   refine nxt (k+1,a+(nL args+1),max d (dpL args+1)) ⟨by simp only;omega,by simp only;omega,by simp only;omega,by simp only;omega,by simp only;omega,by simp only;omega,by simp only;omega⟩ ?_
   (refine aN rfl rfl ?_;repeat' (first | exact rfl | exact trivial | refine ⟨?_,?_⟩))
theorem oksE_mem:∀ {l:List Exp} {x:Exp},ll l→x∈l→x.ok
 | y :: r, x, h, hx => by
   rcases List.mem_cons.1 hx with rfl | hx
   ·exact h.1
   ·exact oksE_mem h.2 hx
theorem nE_mem:∀ {l:List Exp} {x:Exp},x∈l→nE x≤nL l
 | y :: r, x, hx => by
   have p1:=nE_pos y
   have p2:=fR r
   simp only [nL]
   rcases List.mem_cons.1 hx with rfl | hx
   ·omega
   ·have:=nE_mem hx;omega
theorem c68s (W0:Go.World):∀ (n:Nat) (l:List Exp),SizeOf.sizeOf l<n→l.length≤140737488355328→ll l→nL l≤1152921504606846976→Ctr Tryz.prog W0 181 [eL l] [] (cL (nL l) (dpL l)) []
 | 0,_,h,_,_,_=>absurd h (Nat.not_lt_zero _)
 | n + 1, l, h, hl, ol, hn => ak follows F68_ok rfl (fun _ _ h => by cases h) rfl (by rfl) (b68 W0 l hl hn (by
     rintro x hx a b m args rfl
     have h1:=List.sizeOf_lt_of_mem hx
     have h2:=oksE_mem ol hx
     have h3:=nE_mem hx
     simp only [nE] at h3
     exact c68s W0 n args (by simp at h1;omega) h2.2.1 h2.2.2 (by omega)))
theorem c68 (W0:Go.World) (l:List Exp) (hl:l.length≤140737488355328) (ol:ll l) (hn:nL l≤1152921504606846976):Ctr Tryz.prog W0 181 [eL l] [] (cL (nL l) (dpL l)) []:=c68s W0 _ l (Nat.lt_succ_self _) hl ol hn
end Go.Abs
namespace Go.Abs
open Go.Proofs
mutual
def nS:Stm→Int | .mk _ _ _ _ _ es _ bs=>nL es+nBs bs+1
def nB:List Stm→Int | []=>0 | x::r=>nS x+nB r
def nBs:List (List Stm)→Int | []=>0 | b::r=>nB b+nBs r
end
mutual
def dpS:Stm→Int | .mk _ _ _ _ _ es _ bs=>max (dpL es) (nZ bs)+1
def dpB:List Stm→Int | []=>0 | x::r=>max (dpS x) (dpB r)
def nZ:List (List Stm)→Int | []=>0 | b::r=>max (dpB b) (nZ r)
end
mutual
theorem nS_pos:∀ x,1≤nS x | .mk _ _ _ _ _ es _ bs=>by simp only [nS];have:=fR es;have:=fS bs;omega
theorem eC:∀ l,0≤nB l | []=>by simp [nB] | x::r=>by simp only [nB];have:=nS_pos x;have:=eC r;omega
theorem fS:∀ l,0≤nBs l | []=>by simp [nBs] | x::r=>by simp only [nBs];have:=eC x;have:=fS r;omega
end
mutual
theorem dpS_le:∀ x,0≤dpS x∧dpS x≤nS x | .mk _ _ _ _ _ es _ bs=>by simp only [nS,dpS];have:=kr es;have:=pM bs;have:=fR es;have:=fS bs;omega
theorem ku:∀ l,0≤dpB l∧dpB l≤nB l | []=>by simp [nB,dpB] | x::r=>by simp only [nB,dpB];have:=dpS_le x;have:=ku r;have:=nS_pos x;have:=eC r;omega
theorem pM:∀ l,0≤nZ l∧nZ l≤nBs l | []=>by simp [nBs,nZ] | x::r=>by simp only [nBs,nZ];have:=ku x;have:=pM r;have:=eC x;have:=fS r;omega
end
theorem nBs_mem:∀ {l:List (List Stm)} {x:List Stm},x∈l→nB x≤nBs l
 | y :: r, x, hx => by
   have p1:=eC y
   have p2:=fS r
   simp only [nBs]
   rcases List.mem_cons.1 hx with rfl | hx
   ·omega
   ·have:=nBs_mem hx;omega
open K in
def F100:Fn:=⟨.seq (.reg [n (.alloc 2 [.sc (.i .i64 0),.sc (.i .i64 0)])]) (.seq (.reg [n (.alloc 3 [.sc (.i .i64 0),.sc (.i .i64 0)])]) (.seq (.seq (.reg [m 9 0,n (.len 10 (.t 9)),n (mi 11 0)]) (.block 0 (.loop (.seq (.reg [n (b2 12 .lss 11 10)]) (.seq (.cond (.t 12) .skip (.exit 0)) (.seq (.block 1 (.seq (.reg [n (ix 13 8 9 11),n (.ld 14 8 true (.t 13)),n (.alloc 5 [.sc (.s []),.sc (.s []),.sc (.s []),.sc (.i .i64 0),.sl 1 [] .full,.sl 4 [] .full,.sl 2 [] .full,.sl 1 [] .full]),n (.st (.t 5) 8 (.t 14))]) (.seq (.reg [n (fa 15 5 5),n (ld 16 15),n (cf 17 181 [.t 16]),n (.alloc 6 [.sc (.i .i64 0),.sc (.i .i64 0)]),n (.st (.t 6) 2 (.t 17))]) (.seq (.seq (.reg [n (fa 18 5 7),n (ld 19 18),n (.len 20 (.t 19)),n (mi 21 0)]) (.block 2 (.loop (.seq (.reg [n (b2 22 .lss 21 20)]) (.seq (.cond (.t 22) .skip (.exit 2)) (.seq (.block 3 (.seq (.reg [n (ix 23 1 19 21),n (ld 24 23),m 8 24]) (.regD [n (.ld 25 2 true (.t 6)),m 26 8,n (cf 27 119 [.t 26]),n (cf 28 120 [.t 25,.t 27]),n (.st (.t 6) 2 (.t 28))] [0,0,2,7,15]))) (.reg [n (bi 29 .add 21 1),m 21 29]))))))) (.regD [n (.ld 30 2 true (.t 3)),n (.ld 31 2 true (.t 6)),n (cf 32 121 [.t 31]),n (cf 33 120 [.t 30,.t 32]),n (.st (.t 3) 2 (.t 33))] [0,0,2,7,15]))))) (.reg [n (bi 34 .add 11 1),m 11 34]))))))) (.seq (.reg [n (.ld 35 2 true (.t 3)),n (.st (.t 2) 2 (.t 35))]) .ret))),[(2,2)],36,[]⟩
open K in
def F50:Fn:=⟨.seq (.reg [n (.box 1 (.t 0)),n (.alloc 2 [.sc (.i .i64 0),.sc (.i .i64 0)])]) (.seq (.reg [n (fa 6 1 1),n (ld 7 6),n (cf 8 119 [.t 7]),n (.alloc 3 [.sc (.i .i64 0),.sc (.i .i64 0)]),n (.st (.t 3) 2 (.t 8))]) (.seq (.seq (.reg [n (fa 9 1 0),n (ld 10 9),n (.len 11 (.t 10)),n (mi 12 0)]) (.block 0 (.loop (.seq (.reg [n (b2 13 .lss 12 11)]) (.seq (.cond (.t 13) .skip (.exit 0)) (.seq (.block 1 (.seq (.reg [n (ix 14 4 10 12),n (.ld 15 4 true (.t 14)),n (.alloc 5 [.sc (.s []),.sc (.s []),.sl 3 [] .full,.sl 8 [] .full]),n (.st (.t 5) 4 (.t 15))]) (.regD [n (.ld 16 2 true (.t 3)),n (fa 17 5 3),n (ld 18 17),n (cf 19 119 [.t 18]),n (cf 20 121 [.t 19]),n (cf 21 120 [.t 16,.t 20]),n (.st (.t 3) 2 (.t 21))] [0,0,2,6,14,31,63]))) (.reg [n (bi 22 .add 12 1),m 12 22]))))))) (.seq (.reg [n (.ld 23 2 true (.t 3)),n (.st (.t 2) 2 (.t 23))]) .ret))),[(2,2)],24,[]⟩
open K in
def F18:Fn:=⟨.seq (.reg [n (.box 1 (.t 0)),n (mb 2 false)]) (.seq (.reg [n (.ld 3 2 true (.t 1)),n (cf 4 64 [.t 3]),n (cf 5 116 [.t 4]),m 6 5,w 6 (.ld 7 2 true (.t 1)),w 6 (cf 8 63 [.t 7]),n (pf 9 6 8),m 2 9]) .ret),[(2,0)],10,[]⟩
theorem F100_ok:aI Tryz.prog (fun _=>an0) 119=some F100:=by kernel_rfl
theorem F50_ok:aI Tryz.prog (fun _=>an0) 64=some F50:=by kernel_rfl
theorem F18_ok:aI Tryz.prog (fun _=>an0) 186=some F18:=by kernel_rfl
theorem b100 (W0:Go.World) (l:List Stm) (hl:l.length≤140737488355328) (ol:iS l) (hn:nB l≤1152921504606846976) (hc:∀ x,x.length≤140737488355328→iS x→nB x≤1152921504606846976→SizeOf.sizeOf x<SizeOf.sizeOf l→Ctr Tryz.prog W0 119 [eB x] [] (cL (nB x) (dpB x)) []):aD (Ctr Tryz.prog W0) F100.ac F100.rs [eB l] [] (cL (nB l) (dpB l)) []:=by
 conv=>whnf
 refine .st (α:=Nat × Int × Int) 2000 (fun s=>l.length - s.1) (fun s=>[(.s 2,.av (.ptr 1000 0)),(.s 3,.av (.ptr 1100 0)),(.b 1000,.bx [.sc (.i .i64 0),.sc (.i .i64 0)]),(.b 1100,.bx [.sc (.i .i64 s.2.1),.sc (.i .i64 s.2.2)]),(.s 9,.av (eB l)),(.s 10,.av (.sc (.i .i64 ((eN l).length:Nat)))),(.s 11,.av (.sc (.i .i64 (s.1:Nat))))])
  (fun s=>s.1≤l.length∧nB l=s.2.1+nB (l.drop s.1)∧dpB l=max s.2.2 (dpB (l.drop s.1))∧0≤s.2.1∧0≤s.2.2∧s.2.2≤s.2.1) (0,0,0) ?_ ⟨Nat.zero_le _,by simp,by simp;have:=(ku l).1;omega,by simp,by simp,by simp⟩ ?_
 ·(refine aN rfl rfl ?_;repeat' (first | exact rfl | exact trivial | refine ⟨?_,?_⟩))
 ·rintro ⟨k,a,d⟩ ⟨hk,he,hd,ha0,hd0,hda⟩
  simp only at hk he hd ha0 hd0 hda
  conv=>whnf
  refine ap (fun h2=>?_) (fun h2=>?_)
  ·simp only [d9,decide_eq_false_iff_not] at h2
   have e1:l.drop k=[]:=by simp;omega
   rw [e1] at he hd
   simp only [nB,dpB] at he hd
   conv=>whnf
   have e2:a=nB l:=by omega
   have e3:d=dpB l:=by omega
   subst e2;subst e3
   (refine nX rfl ?_ rfl;repeat' (first | exact rfl | exact trivial | refine ⟨?_,?_⟩))
  ·simp only [d9,decide_eq_true_eq] at h2
   obtain ⟨x,hx⟩:=aB (l:=l) (k:=k) (by omega)
   have dx:=oc hx
   have ox:=mc ol hx
   have sx:=od hx
   rw [aR hx] at he hd
   simp only [nB,dpB] at he hd
   cases x with | mk o nm tx n ns es fs bs=>
   simp only [nS,dpS] at he hd
   have p1:=fR es
   have p2:=kr es
   have p3:=eC (l.drop (k+1))
   have p4:=fS bs
   have p5:=pM bs
   conv=>whnf
   refine ⟨_,⟨Int.natCast_nonneg _,dx⟩,?_⟩
   conv=>whnf
   refine callP.pure _ (c68 W0 es ox.2.2.1.1 ox.2.2.1.2 (by omega)) ⟨rfl,rfl⟩ ?_
   conv=>whnf
   refine .st (α:=Nat × Int × Int) 4000 (fun s=>bs.length - s.1) (fun s=>[(.s 2,.av (.ptr 1000 0)),(.s 3,.av (.ptr 1100 0)),(.b 1000,.bx [.sc (.i .i64 0),.sc (.i .i64 0)]),(.b 1100,.bx [.sc (.i .i64 a),.sc (.i .i64 d)]),(.s 9,.av (eB l)),(.s 10,.av (.sc (.i .i64 ((eN l).length:Nat)))),(.s 11,.av (.sc (.i .i64 (k:Nat)))),(.s 6,.av (.ptr 2800 0)),(.b 2800,.bx [.sc (.i .i64 s.2.1),.sc (.i .i64 s.2.2)]),(.s 19,.av (eBs bs)),(.s 20,.av (.sc (.i .i64 ((eh bs).length:Nat)))),(.s 21,.av (.sc (.i .i64 (s.1:Nat))))])
    (fun s=>s.1≤bs.length∧nL es+nBs bs=s.2.1+nBs (bs.drop s.1)∧max (dpL es) (nZ bs)=max s.2.2 (nZ (bs.drop s.1))∧0≤s.2.1∧0≤s.2.2∧s.2.2≤s.2.1) (0,nL es,dpL es) ?_ ⟨Nat.zero_le _,by simp,by simp,by simp;omega,by simp;omega,by simp;omega⟩ ?_
   ·(refine aN rfl rfl ?_;repeat' (first | exact rfl | exact trivial | refine ⟨?_,?_⟩))
   ·rintro ⟨j,c,e⟩ ⟨hj,hje,hjd,hc0,he0,hec⟩
    simp only at hj hje hjd hc0 he0 hec
    conv=>whnf
    refine ap (fun g2=>?_) (fun g2=>?_)
    ·simp only [bS,decide_eq_false_iff_not] at g2
     have e1:bs.drop j=[]:=by simp;have:=ox.2.2.2.2.1;omega
     rw [e1] at hje hjd
     simp only [nBs,nZ] at hje hjd
     conv=>whnf
     refine callP.pure _ (c102 W0 c e (by constructor<;>omega) (by constructor<;>omega)) ⟨rfl,rfl⟩ ?_
     conv=>whnf
     refine callP.pure _ (c101 W0 a d (c+1) (e+1) (by constructor<;>omega)) ⟨rfl,rfl⟩ ?_
     conv=>whnf
     refine And.intro (by constructor<;>omega) ?_
     conv=>whnf
     refine nxt (k+1,a+(c+1),max d (e+1)) ⟨by simp only;omega,by simp only;omega,by simp only;omega,by simp only;omega,by simp only;omega,by simp only;omega,by simp only;omega⟩ ?_
     (refine aN rfl rfl ?_;repeat' (first | exact rfl | exact trivial | refine ⟨?_,?_⟩))
    ·simp only [bS,decide_eq_true_eq] at g2
     obtain ⟨y,hy⟩:=aB (l:=bs) (k:=j) (by omega)
     have dy:=kZ hy
     have oy:=ka ox.2.2.2.2.2 hy
     have sy:=lW hy
     have ny:=nBs_mem (List.mem_of_getElem? hy)
     rw [aR hy] at hje hjd
     simp only [nBs,nZ] at hje hjd
     have q1:=eC y
     have q2:=ku y
     have q3:=fS (bs.drop (j+1))
     have hbl:=ox.2.2.2.2.1
     conv=>whnf
     refine ⟨_,⟨Int.natCast_nonneg _,dy⟩,?_⟩
     conv=>whnf
     refine callP.pure _ (hc y oy.1 oy.2 (by omega) (by simp at sx;omega)) ⟨rfl,rfl⟩ ?_
     conv=>whnf
     refine callP.pure _ (c101 W0 c e (nB y) (dpB y) (by constructor<;>omega)) ⟨rfl,rfl⟩ ?_
     conv=>whnf
     refine And.intro (by constructor<;>omega) ?_
     conv=>whnf
     refine nxt (j+1,c+nB y,max e (dpB y)) ⟨by simp only;omega,by simp only;omega,by simp only;omega,by simp only;omega,by simp only;omega,by simp only;omega,by simp only;omega⟩ ?_
     (refine aN rfl rfl ?_;repeat' (first | exact rfl | exact trivial | refine ⟨?_,?_⟩))
theorem c100s (W0:Go.World):∀ (n:Nat) (l:List Stm),SizeOf.sizeOf l<n→l.length≤140737488355328→iS l→nB l≤1152921504606846976→Ctr Tryz.prog W0 119 [eB l] [] (cL (nB l) (dpB l)) []
 | 0,_,h,_,_,_=>absurd h (Nat.not_lt_zero _)
 | n+1,l,h,hl,ol,hn=>ak follows F100_ok rfl (fun _ _ h=>by cases h) rfl (by rfl) (b100 W0 l hl ol hn fun x hx ox nx sx=>c100s W0 n x (by omega) hx ox nx)
theorem c100 (W0:Go.World) (l:List Stm) (hl:l.length≤140737488355328) (ol:iS l) (hn:nB l≤1152921504606846976):Ctr Tryz.prog W0 119 [eB l] [] (cL (nB l) (dpB l)) []:=c100s W0 _ l (Nat.lt_succ_self _) hl ol hn
def nPs:List Prc→Int | []=>0 | p::r=>nB p.body+1+nPs r
def dpPs:List Prc→Int | []=>0 | p::r=>max (dpB p.body+1) (dpPs r)
theorem lz:∀ l,0≤nPs l | []=>by simp [nPs] | p::r=>by simp only [nPs];have:=eC p.body;have:=lz r;omega
def nG (g:Prg):Int:=nB g.body+nPs g.procs
def dpG (g:Prg):Int:=max (dpB g.body) (dpPs g.procs)
theorem nPs_mem:∀ {l:List Prc} {x:Prc},x∈l→nB x.body≤nPs l
 | y :: r, x, hx => by
   have p1:=eC y.body
   have p2:=lz r
   simp only [nPs]
   rcases List.mem_cons.1 hx with rfl | hx
   ·omega
   ·have:=nPs_mem hx;omega
theorem b50 (W0:Go.World) (x:Prg) (hx0:x.ok) (hn:nG x≤1152921504606846976):aD (Ctr Tryz.prog W0) F50.ac F50.rs [eG x] [] (cL (nG x) (dpG x)) []:=by
 obtain ⟨procs,body⟩:=x
 simp only [nG] at hn
 have z1:=eC body
 have z2:=lz procs
 have z3:=ku body
 have hl:procs.length≤140737488355328:=hx0.1.1
 conv=>whnf
 refine callP.pure _ (c100 W0 body hx0.2.1 hx0.2.2 (by omega)) ⟨rfl,rfl⟩ ?_
 conv=>whnf
 refine .st (α:=Nat × Int × Int) 2000 (fun s=>procs.length - s.1) (fun s=>[(.s 2,.av (.ptr 1100 0)),(.s 3,.av (.ptr 1500 0)),(.b 1100,.bx [.sc (.i .i64 0),.sc (.i .i64 0)]),(.b 1500,.bx [.sc (.i .i64 s.2.1),.sc (.i .i64 s.2.2)]),(.s 10,.av (ePL procs)),(.s 11,.av (.sc (.i .i64 ((kI procs).length:Nat)))),(.s 12,.av (.sc (.i .i64 (s.1:Nat))))])
  (fun s=>s.1≤procs.length∧nB body+nPs procs=s.2.1+nPs (procs.drop s.1)∧max (dpB body) (dpPs procs)=max s.2.2 (dpPs (procs.drop s.1))∧0≤s.2.1∧0≤s.2.2∧s.2.2≤s.2.1) (0,nB body,dpB body) ?_ ⟨Nat.zero_le _,by simp,by simp,by simp;omega,by simp;omega,by simp;omega⟩ ?_
 ·(refine aN rfl rfl ?_;repeat' (first | exact rfl | exact trivial | refine ⟨?_,?_⟩))
 ·rintro ⟨k,a,d⟩ ⟨hk,he,hd,ha0,hd0,hda⟩
  simp only at hk he hd ha0 hd0 hda
  conv=>whnf
  refine ap (fun h2=>?_) (fun h2=>?_)
  ·simp only [ea,decide_eq_false_iff_not] at h2
   have e1:procs.drop k=[]:=by simp;omega
   rw [e1] at he hd
   simp only [nPs,dpPs] at he hd
   conv=>whnf
   have e2:nG ⟨procs,body⟩=a:=by simp only [nG];omega
   have e3:dpG ⟨procs,body⟩=d:=by simp only [dpG];omega
   rw [e2,e3]
   (refine nX rfl ?_ rfl;repeat' (first | exact rfl | exact trivial | refine ⟨?_,?_⟩))
  ·simp only [ea,decide_eq_true_eq] at h2
   obtain ⟨x,hx⟩:=aB (l:=procs) (k:=k) (by omega)
   have dx:=og hx
   have ox:=hx0.1.2 _ (List.mem_of_getElem? hx)
   have nx:=nPs_mem (List.mem_of_getElem? hx)
   rw [aR hx] at he hd
   obtain ⟨nm,res,ps,bd⟩:=x
   simp only [nPs,dpPs] at he hd nx
   have p1:=eC bd
   have p2:=ku bd
   have p3:=lz (procs.drop (k+1))
   conv=>whnf
   refine ⟨_,⟨Int.natCast_nonneg _,dx⟩,?_⟩
   conv=>whnf
   refine callP.pure _ (c100 W0 bd ox.2.2.1 ox.2.2.2 (by omega)) ⟨rfl,rfl⟩ ?_
   conv=>whnf
   refine callP.pure _ (c102 W0 (nB bd) (dpB bd) (by constructor<;>omega) (by constructor<;>omega)) ⟨rfl,rfl⟩ ?_
   conv=>whnf
   refine callP.pure _ (c101 W0 a d (nB bd+1) (dpB bd+1) (by constructor<;>omega)) ⟨rfl,rfl⟩ ?_
   conv=>whnf
   refine And.intro (by constructor<;>omega) ?_
   conv=>whnf
   refine nxt (k+1,a+(nB bd+1),max d (dpB bd+1)) ⟨by simp only;omega,by simp only;omega,by simp only;omega,by simp only;omega,by simp only;omega,by simp only;omega,by simp only;omega⟩ ?_
   (refine aN rfl rfl ?_;repeat' (first | exact rfl | exact trivial | refine ⟨?_,?_⟩))
theorem c50 (W0:Go.World) (x:Prg) (hx:x.ok) (hn:nG x≤1152921504606846976):Ctr Tryz.prog W0 64 [eG x] [] (cL (nG x) (dpG x)) []:=
 ak follows F50_ok rfl (fun _ _ h=>by cases h) rfl (by rfl) (b50 W0 x hx hn)
def o8 (x:Prg):Bool:=(decide (nG x≤1500)&&decide (dpG x≤60))&&prgB x
theorem b18 (W0:Go.World) (hk:Wk W0) (x:Prg) (hx:x.ok) (hn:nG x≤1152921504606846976):aD (Ctr Tryz.prog W0) F18.ac F18.rs [eG x] [] (.sc (.b (o8 x))) []:=by
 obtain ⟨procs,body⟩:=x
 repeat' ((conv=>whnf);(first | with_reducible refine ap (fun _=>?_) (fun _=>?_) | (refine callP.pure _ (c50 W0 ⟨procs,body⟩ hx hn) ⟨rfl,rfl⟩ ?_) | (refine callP.pure _ (c51 W0 (nG ⟨procs,body⟩) (dpG ⟨procs,body⟩)) ⟨rfl,rfl⟩ ?_) | (refine callP.pure _ (c52 W0 hk ⟨procs,body⟩ hx) ⟨rfl,rfl⟩ ?_) | fail))
 all_goals ((conv=>whnf);(refine aE ?_;simp_all [o8];try (intros;omega)))
theorem c18 (W0:Go.World) (hk:Wk W0) (x:Prg) (hx:x.ok) (hn:nG x≤1152921504606846976):Ctr Tryz.prog W0 186 [eG x] [] (.sc (.b (o8 x))) []:=
 ak follows F18_ok rfl (fun _ _ h=>by cases h) rfl (by rfl) (b18 W0 hk x hx hn)
end Go.Abs
