/- save.count and save.read$1. -/
import Derived.Test.YteihidcjmfckeaaGreatDoorSa
import Derived.Test.YteihidcjmfckeaaGreatDoorMe
set_option linter.all false
set_option maxRecDepth 1000000
set_option maxHeartbeats 16000000
namespace Go.Abs
open Go.Proofs
open K in
def Fs46:Fn:=⟨.seq (.reg [n (mi 2 0),n (mb 3 false)]) (.seq (.reg [m 7 0,n (cf 8 49 [.t 7]),m 6 8,n (ext 9 6 0),n (ext 10 6 1),m 4 9,m 5 10]) (.seq (.reg [m 11 4,m 12 5,m 13 12,wm 13 14 4,w 13 (bi 15 .geq 14 0),n (pf 16 13 15),m 2 11,m 3 16]) .ret)),[(2,0),(3,0)],17,[]⟩
open K in
def Fs48:Fn:=⟨.seq (.reg [n (mb 2 false)]) (.seq (.reg [m 6 0,n (cf 7 49 [.t 6]),m 5 7,n (ext 8 5 0),n (ext 9 5 1),m 3 8,m 4 9]) (.seq (.reg [m 10 4,n (.no 11 (.t 10)),m 12 11,wm 12 13 0,w 12 (bs 14 .neq 13 [116,114,117,101]),n (pf 15 12 14),m 16 15,wm 16 17 0,w 16 (bs 18 .neq 17 [102,97,108,115,101]),n (pf 19 16 18),m 2 19]) .ret)),[(2,0)],20,[]⟩
theorem Fs46_ok:aI Tryz.prog (fun _=>an0) 46=some Fs46:=by kernel_rfl
theorem Fs48_ok:aI Tryz.prog (fun _=>an0) 48=some Fs48:=by kernel_rfl
theorem jN {σ:Log} {v res:AV} (h1:inR 0 0 res=true) (h2:wk3 v (ren [] [] 0 res)) (h3:toks res=[]):FinOK σ v 0 0 res []:=
 ⟨⟨[],[],⟨rfl,rfl,h1,rfl⟩,h2,trivial,by rw [h3];exact trivial⟩⟩
theorem bM {σ:Log} {n n':Int} {b b':Bool} (h1:n'=n) (h2:b'=b):FinOK σ (.tup [.sc (.i .i64 n'),.sc (.b b')]) 0 0 (.tup [.sc (.i .i64 n),.sc (.b b)]) []:=by
 subst h1;subst h2;exact jN rfl ⟨rfl,rfl,trivial⟩ rfl
theorem bs46 (W0:Go.World) (s:S) (k:Ctr Tryz.prog W0 49 [.sc (.s s)] [] (.tup [.sc (.i .i64 (atoiN s)),.sc (.b (intP s))]) []) :
  aD (Ctr Tryz.prog W0) Fs46.ac Fs46.rs [.sc (.s s)] [] (.tup [.sc (.i .i64 (atoiN s)),.sc (.b (intP s&&decide (0≤atoiN s)))]) []:=by
 conv=>whnf
 refine callP.pure _ k ⟨rfl,rfl⟩ ?_
 conv=>whnf
 generalize intP s=p
 cases p
 ·conv=>whnf
  exact bM rfl rfl
 ·conv=>whnf
  exact bM rfl rfl
theorem bs48 (W0:Go.World) (s:S) (k:Ctr Tryz.prog W0 49 [.sc (.s s)] [] (.tup [.sc (.i .i64 (atoiN s)),.sc (.b (intP s))]) []) :
  aD (Ctr Tryz.prog W0) Fs48.ac Fs48.rs [.sc (.s s)] [] (.sc (.b (!intP s&&(!aH s [116,114,117,101]&&!aH s [102,97,108,115,101])))) []:=by
 conv=>whnf
 refine callP.pure _ k ⟨rfl,rfl⟩ ?_
 conv=>whnf
 generalize intP s=p
 cases p
 ·conv=>whnf
  generalize aH s [116,114,117,101]=q
  cases q
  ·conv=>whnf
   exact aE rfl
  ·conv=>whnf
   exact aE rfl
 ·conv=>whnf
  exact aE rfl
end Go.Abs
namespace Go.Abs
open Go.Proofs
open K in
def Fs44:Fn:=⟨.seq (.reg [n (.mv 2 (.c (.sl 1 [] .full))),n (mb 3 false)]) (.seq (.reg [n (.mv 4 (.c (.sl 1 [] .full)))]) (.seq (.seq (.reg [m 9 0,n (.len 10 (.t 9)),n (mi 11 0)]) (.block 0 (.loop (.seq (.reg [n (b2 12 .lss 11 10)]) (.seq (.cond (.t 12) .skip (.exit 0)) (.seq (.block 1 (.seq (.reg [n (ix 13 1 9 11),n (ld 14 13),m 6 14]) (.seq (.reg [m 16 6,n (cf 17 49 [.t 16]),m 15 17,n (ext 18 15 0),n (ext 19 15 1),m 7 18,m 8 19]) (.seq (.seq (.reg [m 20 8,n (.no 21 (.t 20))]) (.cond (.t 21) (.seq (.reg [n (.mv 2 (.c (.sl 1 [] .full))),n (mb 3 false)]) .ret) .skip)) (.reg [m 22 4,m 23 7,n (.bsl 24 1 [.t 23]),n (.app 25 1 8 (.t 22) (.t 24)),m 4 25]))))) (.reg [n (bi 26 .add 11 1),m 11 26]))))))) (.seq (.reg [m 27 4,m 2 27,n (mb 3 true)]) .ret))),[(2,0),(3,0)],28,[]⟩
theorem ck {σ σ':Log} {N:Nat} (k:Nat) (h1:Nat.ble 1000 N=true) (h2:bY N σ'=true) (h4:(cQ σ').all (fun j=>!([k]:List Nat).contains j)=true) (h5:bE [k]=true) (h3:leP [(9000,k)] σ σ'):Le σ N σ':=⟨[(9000,k)],⟨h5,h4,h1,h2⟩,h3⟩
def eA (f:S→Int) (l:List S):List (List Data):=l.map fun x=>[.sc (.i .i64 (f x))]
theorem b7 (f:S→Int) (l:List S):(eA f l).length=l.length:=by simp [eA]
theorem numsD_take {f:S→Int} {l:List S} {k:Nat} {x:S} (h:l[k]? = some x):eA f (l.take (k+1))=eA f (l.take k)++[[.sc (.i .i64 (f x))]]:=by
 obtain ⟨h1,h2⟩:=List.getElem?_eq_some_iff.1 h
 subst h2
 rw [List.take_succ_eq_append_getElem h1]
 simp only [eA,List.map_append,List.map_cons,List.map_nil]
theorem Fs44_ok:aI Tryz.prog (fun _=>an0) 44=some Fs44:=by kernel_rfl
theorem pH {σ:Log} {e e':List (List Data)} {t:Tok} {b b':Bool} (h1:e'=e) (h2:b'=b):FinOK σ (.tup [.sl 1 e' t,.sc (.b b')]) 0 0 (.tup [.sl 1 e .none,.sc (.b b)]) []:=by
 subst h1;subst h2;exact jN rfl ⟨⟨rfl,rfl,.inl rfl⟩,rfl,trivial⟩ rfl
def dH (L:List S):List (List Data):=match L.all intP with | true=>eA atoiN L | false=>[]
theorem bs44 (W0:Go.World) (L:List S) (hL:L.length≤1099511627776) (k49:∀ x,x∈L→Ctr Tryz.prog W0 49 [.sc (.s x)] [] (.tup [.sc (.i .i64 (atoiN x)),.sc (.b (intP x))]) []) :
  aD (Ctr Tryz.prog W0) Fs44.ac Fs44.rs [bU L] [] (.tup [.sl 1 (dH L) .none,.sc (.b (L.all intP))]) []:=by
 conv=>whnf
 refine .st 10000 (fun k=>L.length - k) (fun k=>[(.s 9,.av (bU L)),(.s 10,.av (.sc (.i .i64 ((ae L).length:Nat)))),(.s 11,.av (.sc (.i .i64 (k:Nat)))),(.s 4,.av (.sl 1 (eA atoiN (L.take k)) (.t 9000))),(.t 9000,.tk true)])
  (fun k=>k≤L.length∧L.all intP=(L.drop k).all intP) 0 ?_ ⟨Nat.zero_le _,rfl⟩ ?_
 ·(refine aN rfl rfl ?_;repeat' (first | exact rfl | exact trivial | refine ⟨?_,?_⟩))
 ·rintro k ⟨hk,he⟩
  conv=>whnf
  refine ap (fun h4=>?_) (fun h4=>?_)
  ·simp only [aa,decide_eq_false_iff_not] at h4
   have e1:k=L.length:=by omega
   have hd:L.all intP=true:=by rw [he,e1,List.drop_length];rfl
   conv=>whnf
   refine pH ?_ ?_
   ·rw [dH,hd,e1,List.take_length]
   ·rw [hd]
  ·simp only [aa,decide_eq_true_eq] at h4
   obtain ⟨x,hx⟩:=aB (l:=L) (k:=k) (by omega)
   have dx:=bD hx
   rw [aR hx,List.all_cons] at he
   conv=>whnf
   refine ⟨_,⟨Int.natCast_nonneg _,dx⟩,?_⟩
   conv=>whnf
   refine callP.pure _ (k49 x (List.mem_of_getElem? hx)) ⟨rfl,rfl⟩ ?_
   conv=>whnf
   refine ap (fun h5=>?_) (fun h5=>?_)
   ·have hf:intP x=true:=by simpa using h5
    conv=>whnf
    refine And.intro (by rw [b7,List.length_take];constructor<;>simp<;>omega) ?_
    conv=>whnf
    refine And.intro (by constructor<;>omega) ?_
    conv=>whnf
    refine nxt (k+1) ⟨by omega,by omega,by rw [he,hf,Bool.true_and]⟩ ?_
    rw [numsD_take hx]
    (apply ck (h1:=rfl);(case h3=>repeat' (first | exact rfl | exact trivial | refine ⟨?_,?_⟩));all_goals exact rfl)
   ·have hf:intP x=false:=by simpa using h5
    have hd:L.all intP=false:=by rw [he,hf,Bool.false_and]
    conv=>whnf
    refine pH ?_ ?_
    ·rw [dH,hd]
    ·rw [hd]
end Go.Abs
namespace Go.Abs
open Go.Proofs
open K in
def Fs51:Fn:=⟨.seq (.reg [n (.mv 2 (.c (.sl 1 [] .full))),n (mb 3 false)]) (.seq (.reg [m 6 0,n (cf 7 43 [.t 6,.c (.sc (.s [32]))]),m 4 7]) (.seq (.seq (.reg [n (mi 5 0)]) (.block 0 (.loop (.seq (.seq (.reg [m 8 5,m 9 4,n (.len 10 (.t 9)),n (b2 11 .lss 8 10)]) (.cond (.t 11) .skip (.exit 0))) (.seq (.block 1 (.seq (.reg [m 14 4,m 15 5,n (ix 16 1 14 15),n (ld 17 16),n (bs 18 .eql 17 [])]) (.cond (.t 18) (.seq (.reg [n (.mv 2 (.c (.sl 1 [] .full))),n (mb 3 false)]) .ret) .skip))) (.reg [m 12 5,n (bi 13 .add 12 1),m 5 13])))))) (.seq (.reg [m 19 4,m 2 19,n (mb 3 true)]) .ret))),[(2,0),(3,0)],20,[]⟩
theorem Fs51_ok:aI Tryz.prog (fun _=>an0) 51=some Fs51:=by kernel_rfl
def eq (L:List S):List (List Data):=match L.all neB with | true=>ae L | false=>[]
theorem bs51 (W0:Go.World) (s:S) (L:List S) (hL:L.length≤1099511627776) (k43:Ctr Tryz.prog W0 43 [.sc (.s s),.sc (.s [32])] [] (.sl 1 (ae L) .full) []) :
  aD (Ctr Tryz.prog W0) Fs51.ac Fs51.rs [.sc (.s s)] [] (.tup [.sl 1 (eq L) .none,.sc (.b (L.all neB))]) []:=by
 conv=>whnf
 refine callP.pure _ k43 ⟨rfl,rfl⟩ ?_
 conv=>whnf
 refine .st 10000 (fun k=>L.length - k) (fun k=>[(.s 4,.av (.sl 1 (ae L) .full)),(.s 5,.av (.sc (.i .i64 (k:Nat))))])
  (fun k=>k≤L.length∧L.all neB=(L.drop k).all neB) 0 ?_ ⟨Nat.zero_le _,rfl⟩ ?_
 ·(refine aN rfl rfl ?_;repeat' (first | exact rfl | exact trivial | refine ⟨?_,?_⟩))
 ·rintro k ⟨hk,he⟩
  conv=>whnf
  refine ap (fun h4=>?_) (fun h4=>?_)
  ·simp only [aa,decide_eq_false_iff_not] at h4
   have e1:k=L.length:=by omega
   have hd:L.all neB=true:=by rw [he,e1,List.drop_length];rfl
   conv=>whnf
   refine pH ?_ ?_
   ·rw [eq,hd]
   ·rw [hd]
  ·simp only [aa,decide_eq_true_eq] at h4
   obtain ⟨x,hx⟩:=aB (l:=L) (k:=k) (by omega)
   have dx:=bD hx
   rw [aR hx,List.all_cons] at he
   conv=>whnf
   refine ⟨_,⟨Int.natCast_nonneg _,dx⟩,?_⟩
   conv=>whnf
   refine ap (fun h5=>?_) (fun h5=>?_)
   ·have hf:neB x=true:=by simpa [neB,aH] using h5
    conv=>whnf
    refine And.intro (by constructor<;>omega) ?_
    conv=>whnf
    refine nxt (k+1) ⟨by omega,by omega,by rw [he,hf,Bool.true_and]⟩ ?_
    (refine aN rfl rfl ?_;repeat' (first | exact rfl | exact trivial | refine ⟨?_,?_⟩))
   ·have hf:neB x=false:=by simpa [neB,aH] using h5
    have hd:L.all neB=false:=by rw [he,hf,Bool.false_and]
    conv=>whnf
    refine pH ?_ ?_
    ·rw [eq,hd]
    ·rw [hd]
end Go.Abs
namespace Go.Abs
open Go.Proofs
open K in
def Fs102:Fn:=⟨.seq (.reg [n (mb 2 false)]) (.seq (.seq (.reg [n (mi 3 0)]) (.block 0 (.loop (.seq (.seq (.reg [m 6 3,m 7 0,n (.len 8 (.t 7)),n (b2 9 .lss 6 8)]) (.cond (.t 9) .skip (.exit 0))) (.seq (.block 1 (.seq (.reg [m 13 0,m 14 3,n (ix 15 1 13 14),n (ld 16 15),n (cf 17 52 [.t 16]),m 12 17,n (ext 18 12 0),n (ext 19 12 1),m 4 18,m 5 19]) (.seq (.reg [m 20 5,n (.no 21 (.t 20))]) (.cond (.t 21) (.seq (.reg [n (mb 2 false)]) .ret) .skip)))) (.reg [m 10 3,n (bi 11 .add 10 1),m 3 11])))))) (.seq (.reg [n (mb 2 true)]) .ret)),[(2,0)],22,[]⟩
open K in
def Fs53:Fn:=⟨.seq (.reg [n (mi 2 0),n (mb 3 false)]) (.seq (.reg [m 7 0,n (cf 8 52 [.t 7]),m 6 8,n (ext 9 6 0),n (ext 10 6 1),m 4 9,m 5 10]) (.seq (.reg [m 11 4,m 12 5,m 13 12,wm 13 14 4,w 13 (bi 15 .geq 14 0),n (pf 16 13 15),m 2 11,m 3 16]) .ret)),[(2,0),(3,0)],17,[]⟩
theorem Fs102_ok:aI Tryz.prog (fun _=>an0) 102=some Fs102:=by kernel_rfl
theorem Fs53_ok:aI Tryz.prog (fun _=>an0) 53=some Fs53:=by kernel_rfl
theorem bs53 (W0:Go.World) (s:S) (k:Ctr Tryz.prog W0 52 [.sc (.s s)] [] (.tup [.sc (.i .i64 (bz s)),.sc (.b (aq s))]) []) :
  aD (Ctr Tryz.prog W0) Fs53.ac Fs53.rs [.sc (.s s)] [] (.tup [.sc (.i .i64 (bz s)),.sc (.b (aq s&&decide (0≤bz s)))]) []:=by
 conv=>whnf
 refine callP.pure _ k ⟨rfl,rfl⟩ ?_
 conv=>whnf
 generalize bz s=w
 generalize aq s=p
 cases p
 ·conv=>whnf
  exact bM rfl rfl
 ·conv=>whnf
  exact bM rfl rfl
theorem bs102 (W0:Go.World) (L:List S) (hL:L.length≤1099511627776) (k52:∀ x,x∈L→Ctr Tryz.prog W0 52 [.sc (.s x)] [] (.tup [.sc (.i .i64 (bz x)),.sc (.b (aq x))]) []) :
  aD (Ctr Tryz.prog W0) Fs102.ac Fs102.rs [bU L] [] (.sc (.b (L.all aq))) []:=by
 conv=>whnf
 refine .st 10000 (fun k=>L.length - k) (fun k=>[(.s 0,.av (bU L)),(.s 3,.av (.sc (.i .i64 (k:Nat))))])
  (fun k=>k≤L.length∧L.all aq=(L.drop k).all aq) 0 ?_ ⟨Nat.zero_le _,rfl⟩ ?_
 ·(refine aN rfl rfl ?_;repeat' (first | exact rfl | exact trivial | refine ⟨?_,?_⟩))
 ·rintro k ⟨hk,he⟩
  conv=>whnf
  refine ap (fun h4=>?_) (fun h4=>?_)
  ·simp only [aa,decide_eq_false_iff_not] at h4
   have e1:k=L.length:=by omega
   have hd:L.all aq=true:=by rw [he,e1,List.drop_length];rfl
   conv=>whnf
   exact aE hd.symm
  ·simp only [aa,decide_eq_true_eq] at h4
   obtain ⟨x,hx⟩:=aB (l:=L) (k:=k) (by omega)
   have dx:=bD hx
   rw [aR hx,List.all_cons] at he
   conv=>whnf
   refine ⟨_,⟨Int.natCast_nonneg _,dx⟩,?_⟩
   conv=>whnf
   refine callP.pure _ (k52 x (List.mem_of_getElem? hx)) ⟨rfl,rfl⟩ ?_
   conv=>whnf
   refine ap (fun h5=>?_) (fun h5=>?_)
   ·have hf:aq x=true:=by simpa using h5
    conv=>whnf
    refine And.intro (by constructor<;>omega) ?_
    conv=>whnf
    refine nxt (k+1) ⟨by omega,by omega,by rw [he,hf,Bool.true_and]⟩ ?_
    (refine aN rfl rfl ?_;repeat' (first | exact rfl | exact trivial | refine ⟨?_,?_⟩))
   ·have hf:aq x=false:=by simpa using h5
    have hd:L.all aq=false:=by rw [he,hf,Bool.false_and]
    conv=>whnf
    exact aE hd.symm
end Go.Abs
