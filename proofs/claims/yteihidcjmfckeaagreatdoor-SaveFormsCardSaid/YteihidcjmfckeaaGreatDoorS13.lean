/- Done and Names of both packages, and the law over Awake. -/
import Derived.Test.YteihidcjmfckeaaGreatDoorS28j
set_option linter.all false
set_option maxRecDepth 1000000
set_option maxHeartbeats 16000000
namespace Go.Abs
open Go.Proofs
open K in
def Fs13:Fn:=⟨.seq (.reg [n (mi 2 0),n (mi 3 0)]) (.seq (.reg [m 7 0,n (cf 8 27 [.t 7]),m 6 8,n (ext 9 6 0),n (ext 10 6 1),n (.alloc 4 [.sc (.i .i64 0),.sc (.i .i64 0),.sc (.i .i64 0),.sl 1 [] .full,.sl 3 [] .full]),n (.st (.t 4) 5 (.t 9)),m 5 10]) (.seq (.seq (.reg [m 11 5,n (.no 12 (.t 11))]) (.cond (.t 12) (.seq (.reg [n (mi 2 0),n (mi 3 240)]) .ret) .skip)) (.seq (.reg [n (fa 13 4 0),n (ld 14 13),m 2 14,n (mi 3 0)]) .ret))),[(2,0),(3,0)],15,[]⟩
theorem Fs13_ok:aI Tryz.prog (fun _=>an0) 13=some Fs13:=by kernel_rfl
open K in
def Fs14:Fn:=⟨.seq (.reg [n (mi 2 0),n (mi 3 0)]) (.seq (.reg [m 7 0,n (cf 8 28 [.t 7]),m 6 8,n (ext 9 6 0),n (ext 10 6 1),n (.alloc 4 [.sc (.i .i64 0),.sc (.i .i64 0),.sc (.i .i64 0),.sl 1 [] .full,.sl 3 [] .full]),n (.st (.t 4) 5 (.t 9)),m 5 10]) (.seq (.seq (.reg [m 11 5,n (.no 12 (.t 11))]) (.cond (.t 12) (.seq (.reg [n (mi 2 0),n (mi 3 240)]) .ret) .skip)) (.seq (.reg [n (fa 13 4 0),n (ld 14 13),m 2 14,n (mi 3 0)]) .ret))),[(2,0),(3,0)],15,[]⟩
theorem Fs14_ok:aI Tryz.prog (fun _=>an0) 14=some Fs14:=by kernel_rfl
open K in
def Fs15:Fn:=⟨.seq (.reg [n (.mv 2 (.c (.sl 1 [] .full))),n (mi 3 0)]) (.seq (.reg [m 10 0,n (cf 11 27 [.t 10]),m 9 11,n (ext 12 9 0),n (ext 13 9 1),n (.alloc 4 [.sc (.i .i64 0),.sc (.i .i64 0),.sc (.i .i64 0),.sl 1 [] .full,.sl 3 [] .full]),n (.st (.t 4) 5 (.t 12)),m 5 13]) (.seq (.seq (.reg [m 14 5,n (.no 15 (.t 14))]) (.cond (.t 15) (.seq (.reg [n (.mv 2 (.c (.sl 1 [] .full))),n (mi 3 240)]) .ret) .skip)) (.seq (.reg [n (.mv 6 (.c (.sl 1 [] .full)))]) (.seq (.seq (.reg [n (fa 16 4 4),n (ld 17 16),n (.len 18 (.t 17)),n (mi 19 0)]) (.block 0 (.loop (.seq (.reg [n (b2 20 .lss 19 18)]) (.seq (.cond (.t 20) .skip (.exit 0)) (.seq (.block 1 (.seq (.reg [n (ix 21 3 17 19),n (.ld 22 3 true (.t 21)),n (.alloc 8 [.sc (.s []),.sc (.s []),.sl 1 [] .full]),n (.st (.t 8) 3 (.t 22))]) (.reg [m 23 6,n (fa 24 8 1),n (ld 25 24),n (.bsl 26 1 [.t 25]),n (.app 27 1 16 (.t 23) (.t 26)),m 6 27]))) (.reg [n (bi 28 .add 19 1),m 19 28]))))))) (.seq (.reg [m 29 6,m 2 29,n (mi 3 0)]) .ret))))),[(2,0),(3,0)],30,[]⟩
theorem Fs15_ok:aI Tryz.prog (fun _=>an0) 15=some Fs15:=by kernel_rfl
open K in
def Fs16:Fn:=⟨.seq (.reg [n (.mv 2 (.c (.sl 1 [] .full))),n (mi 3 0)]) (.seq (.reg [m 9 0,n (cf 10 28 [.t 9]),m 8 10,n (ext 11 8 0),n (ext 12 8 1),n (.alloc 4 [.sc (.i .i64 0),.sc (.i .i64 0),.sc (.i .i64 0),.sl 1 [] .full,.sl 3 [] .full]),n (.st (.t 4) 5 (.t 11)),m 5 12]) (.seq (.seq (.reg [m 13 5,n (.no 14 (.t 13))]) (.cond (.t 14) (.seq (.reg [n (.mv 2 (.c (.sl 1 [] .full))),n (mi 3 240)]) .ret) .skip)) (.seq (.reg [n (.mv 6 (.c (.sl 1 [] .full)))]) (.seq (.seq (.reg [n (mi 7 0)]) (.block 0 (.loop (.seq (.seq (.reg [m 15 7,n (fa 16 4 4),n (ld 17 16),n (.len 18 (.t 17)),n (b2 19 .lss 15 18)]) (.cond (.t 19) .skip (.exit 0))) (.seq (.block 1 (.reg [m 22 6,n (fa 23 4 4),n (ld 24 23),m 25 7,n (ix 26 3 24 25),n (fa 27 26 1),n (ld 28 27),n (.bsl 29 1 [.t 28]),n (.app 30 1 16 (.t 22) (.t 29)),m 6 30])) (.reg [m 20 7,n (bi 21 .add 20 1),m 7 21])))))) (.seq (.reg [m 31 6,m 2 31,n (mi 3 0)]) .ret))))),[(2,0),(3,0)],32,[]⟩
theorem Fs16_ok:aI Tryz.prog (fun _=>an0) 16=some Fs16:=by kernel_rfl
open K in
def Fs17:Fn:=⟨.seq (.reg [n (mb 4 false)]) (.seq (.seq (.reg [m 6 0,n (.len 7 (.t 6)),m 8 1,n (.len 9 (.t 8)),n (b2 10 .neq 7 9)]) (.cond (.t 10) (.seq (.reg [n (mb 4 false)]) .ret) .skip)) (.seq (.seq (.reg [n (mi 5 0)]) (.block 0 (.loop (.seq (.seq (.reg [m 11 5,m 12 0,n (.len 13 (.t 12)),n (b2 14 .lss 11 13)]) (.cond (.t 14) .skip (.exit 0))) (.seq (.block 1 (.seq (.regD [m 17 0,m 18 5,n (ix 19 1 17 18),n (ld 20 19),m 21 1,m 22 5,n (ix 23 1 21 22),n (ld 24 23),n (b2 25 .neq 20 24)] [0,0,3,7,0,0,48,112,255]) (.cond (.t 25) (.seq (.reg [n (mb 4 false)]) .ret) .skip))) (.reg [m 15 5,n (bi 16 .add 15 1),m 5 16])))))) (.seq (.reg [n (mb 4 true)]) .ret))),[(4,0)],26,[]⟩
theorem Fs17_ok:aI Tryz.prog (fun _=>an0) 17=some Fs17:=by kernel_rfl
open K in
def Fs4:Fn:=⟨.seq (.reg [n (mb 2 false)]) (.seq (.seq (.reg [m 11 0,n (.lenS 12 (.t 11)),n (bi 13 .gtr 12 5000)]) (.cond (.t 13) (.seq (.reg [n (cf 14 12 []),m 2 14]) .ret) .skip)) (.seq (.reg [m 16 0,n (cf 17 13 [.t 16]),m 15 17,n (ext 18 15 0),n (ext 19 15 1),m 3 18,m 4 19]) (.seq (.reg [m 21 0,n (cf 22 14 [.t 21]),m 20 22,n (ext 23 20 0),n (ext 24 20 1),m 5 23,m 6 24]) (.seq (.reg [m 26 0,n (cf 27 15 [.t 26]),m 25 27,n (ext 28 25 0),n (ext 29 25 1),m 7 28,m 8 29]) (.seq (.reg [m 31 0,n (cf 32 16 [.t 31]),m 30 32,n (ext 33 30 0),n (ext 34 30 1),m 9 33,m 10 34]) (.seq (.reg [m 35 3,m 36 5,n (b2 37 .eql 35 36),m 38 37,wm 38 39 4,wm 38 40 6,w 38 (b2 41 .eql 39 40),n (pf 42 38 41),m 43 42,wm 43 44 7,wm 43 45 9,w 43 (cf 46 17 [.t 44,.t 45]),n (pf 47 43 46),m 48 47,wm 48 49 8,wm 48 50 10,w 48 (b2 51 .eql 49 50),n (pf 52 48 51),m 53 52,w 53 (cf 54 12 []),n (pf 55 53 54),m 2 55]) .ret)))))),[(2,0)],56,[]⟩
theorem Fs4_ok:aI Tryz.prog (fun _=>an0) 4=some Fs4:=by kernel_rfl
theorem pI {σ:Log} {n n' m m':Int} (h1:n'=n) (h2:m'=m):FinOK σ (.tup [.sc (.i .i64 n'),.sc (.i .i64 m')]) 0 0 (.tup [.sc (.i .i64 n),.sc (.i .i64 m)]) []:=by
 subst h1;subst h2;exact jN rfl ⟨rfl,rfl,trivial⟩ rfl
theorem ko {σ:Log} {e e':List (List Data)} {t:Tok} {n n':Int} (h1:e'=e) (h2:n'=n):FinOK σ (.tup [.sl 1 e' t,.sc (.i .i64 n')]) 0 0 (.tup [.sl 1 e .none,.sc (.i .i64 n)]) []:=by
 subst h1;subst h2;exact jN rfl ⟨⟨rfl,rfl,.inl rfl⟩,rfl,trivial⟩ rfl
def nms (es:List S):List S:=es.map fun x=>(ec x).2.1
theorem nms_take {l:List S} {k:Nat} {x:S} (h:l[k]? = some x):ae (nms (l.take (k+1)))=ae (nms (l.take k))++[[.sc (.s (ec x).2.1)]]:=by
 rw [bu h];simp [nms,ae]
theorem ents_get {l:List S} {k:Nat} {x:S} (h:l[k]? = some x):(eV l)[k]? = some [.sc (.s (ec x).1),.sc (.s (ec x).2.1),.lst 1 (ae (ec x).2.2)]:=by
 simp [eV,entD,h]
def dR (b:Bool) (d:Int):Int:=bif b then d else 0
def eR (b:Bool):Int:=bif b then 0 else 240
def nR (b:Bool) (es:List S):List S:=bif b then nms es else []
theorem bs13 (W0:Go.World) (s:S) (d st md:Int) (os es:List S) (b:Bool) (k:Ctr Tryz.prog W0 27 [.sc (.s s)] [] (.tup [bW d st md os es,.sc (.b b)]) []) :
  aD (Ctr Tryz.prog W0) Fs13.ac Fs13.rs [.sc (.s s)] [] (.tup [.sc (.i .i64 (dR b d)),.sc (.i .i64 (eR b))]) []:=by
 conv=>whnf
 refine callP.pure _ k ⟨rfl,rfl⟩ ?_
 cases b
 ·conv=>whnf
  exact pI rfl rfl
 ·conv=>whnf
  exact pI rfl rfl
theorem cs13 (W0:Go.World) (s:S) (d st md:Int) (os es:List S) (b:Bool) (k:Ctr Tryz.prog W0 27 [.sc (.s s)] [] (.tup [bW d st md os es,.sc (.b b)]) []):Ctr Tryz.prog W0 13 [.sc (.s s)] [] (.tup [.sc (.i .i64 (dR b d)),.sc (.i .i64 (eR b))]) []:=
 ak follows Fs13_ok rfl (fun _ _ h=>by cases h) rfl (by rfl) (bs13 W0 s d st md os es b k)
theorem bs14 (W0:Go.World) (s:S) (d st md:Int) (os es:List S) (b:Bool) (k:Ctr Tryz.prog W0 28 [.sc (.s s)] [] (.tup [bW d st md os es,.sc (.b b)]) []) :
  aD (Ctr Tryz.prog W0) Fs14.ac Fs14.rs [.sc (.s s)] [] (.tup [.sc (.i .i64 (dR b d)),.sc (.i .i64 (eR b))]) []:=by
 conv=>whnf
 refine callP.pure _ k ⟨rfl,rfl⟩ ?_
 cases b
 ·conv=>whnf
  exact pI rfl rfl
 ·conv=>whnf
  exact pI rfl rfl
theorem cs14 (W0:Go.World) (s:S) (d st md:Int) (os es:List S) (b:Bool) (k:Ctr Tryz.prog W0 28 [.sc (.s s)] [] (.tup [bW d st md os es,.sc (.b b)]) []):Ctr Tryz.prog W0 14 [.sc (.s s)] [] (.tup [.sc (.i .i64 (dR b d)),.sc (.i .i64 (eR b))]) []:=
 ak follows Fs14_ok rfl (fun _ _ h=>by cases h) rfl (by rfl) (bs14 W0 s d st md os es b k)
theorem bs15 (W0:Go.World) (s:S) (d st md:Int) (os es:List S) (hes:es.length≤900000) (b:Bool) (k:Ctr Tryz.prog W0 27 [.sc (.s s)] [] (.tup [bW d st md os es,.sc (.b b)]) []) :
  aD (Ctr Tryz.prog W0) Fs15.ac Fs15.rs [.sc (.s s)] [] (.tup [.sl 1 (ae (nR b es)) .none,.sc (.i .i64 (eR b))]) []:=by
 conv=>whnf
 refine callP.pure _ k ⟨rfl,rfl⟩ ?_
 cases b
 ·conv=>whnf
  exact ko rfl rfl
 conv=>whnf
 refine .st 20000 (fun j=>es.length - j) (fun j=>[(.s 17,.av (.sl 3 (eV es) .none)),(.s 18,.av (.sc (.i .i64 ((eV es).length:Nat)))),(.s 19,.av (.sc (.i .i64 (j:Nat)))),(.s 6,.av (.sl 1 (ae (nms (es.take j))) (.t 9000))),(.t 9000,.tk true)])
  (fun j=>j≤es.length) 0 ?_ (Nat.zero_le _) ?_
 ·(refine aN rfl rfl ?_;repeat' (first | exact rfl | exact trivial | refine ⟨?_,?_⟩))
 ·intro j hj
  conv=>whnf
  refine ap (fun h4=>?_) (fun h4=>?_)
  ·simp only [cn,decide_eq_false_iff_not] at h4
   have e1:j=es.length:=by omega
   rw [e1,List.take_length]
   conv=>whnf
   exact ko rfl rfl
  ·simp only [cn,decide_eq_true_eq] at h4
   obtain ⟨x,hx⟩:=aB (l:=es) (k:=j) (by omega)
   have dx:=ents_get hx
   conv=>whnf
   refine ⟨_,⟨Int.natCast_nonneg _,dx⟩,?_⟩
   conv=>whnf
   refine And.intro (by rw [aa];simp only [nms,List.length_map,List.length_take];constructor<;>simp<;>omega) ?_
   conv=>whnf
   refine And.intro (by constructor<;>omega) ?_
   conv=>whnf
   refine nxt (j+1) ⟨by omega,by omega⟩ ?_
   rw [nms_take hx]
   (apply ck (h1:=rfl);(case h3=>repeat' (first | exact rfl | exact trivial | refine ⟨?_,?_⟩));all_goals exact rfl)
theorem cs15 (W0:Go.World) (s:S) (d st md:Int) (os es:List S) (hes:es.length≤900000) (b:Bool) (k:Ctr Tryz.prog W0 27 [.sc (.s s)] [] (.tup [bW d st md os es,.sc (.b b)]) []) :
  Ctr Tryz.prog W0 15 [.sc (.s s)] [] (.tup [.sl 1 (ae (nR b es)) .none,.sc (.i .i64 (eR b))]) []:=
 ak follows Fs15_ok rfl (fun _ _ h=>by cases h) rfl (by rfl) (bs15 W0 s d st md os es hes b k)
theorem bs16 (W0:Go.World) (s:S) (d st md:Int) (os es:List S) (hes:es.length≤900000) (b:Bool) (k:Ctr Tryz.prog W0 28 [.sc (.s s)] [] (.tup [bW d st md os es,.sc (.b b)]) []) :
  aD (Ctr Tryz.prog W0) Fs16.ac Fs16.rs [.sc (.s s)] [] (.tup [.sl 1 (ae (nR b es)) .none,.sc (.i .i64 (eR b))]) []:=by
 conv=>whnf
 refine callP.pure _ k ⟨rfl,rfl⟩ ?_
 cases b
 ·conv=>whnf
  exact ko rfl rfl
 conv=>whnf
 refine .st 20000 (fun j=>es.length - j) (fun j=>[(.s 4,.av (.ptr 1700 0)),(.b 1700,.bx [.sc (.i .i64 d),.sc (.i .i64 st),.sc (.i .i64 md),.sl 1 (ae os) .none,.sl 3 (eV es) .none]),(.s 7,.av (.sc (.i .i64 (j:Nat)))),(.s 6,.av (.sl 1 (ae (nms (es.take j))) (.t 9000))),(.t 9000,.tk true)])
  (fun j=>j≤es.length) 0 ?_ (Nat.zero_le _) ?_
 ·(refine aN rfl rfl ?_;repeat' (first | exact rfl | exact trivial | refine ⟨?_,?_⟩))
 ·intro j hj
  conv=>whnf
  refine ap (fun h4=>?_) (fun h4=>?_)
  ·simp only [cn,decide_eq_false_iff_not] at h4
   have e1:j=es.length:=by omega
   rw [e1,List.take_length]
   conv=>whnf
   exact ko rfl rfl
  ·simp only [cn,decide_eq_true_eq] at h4
   obtain ⟨x,hx⟩:=aB (l:=es) (k:=j) (by omega)
   have dx:=ents_get hx
   conv=>whnf
   refine ⟨_,⟨Int.natCast_nonneg _,dx⟩,?_⟩
   conv=>whnf
   refine And.intro (by rw [aa];simp only [nms,List.length_map,List.length_take];constructor<;>simp<;>omega) ?_
   conv=>whnf
   refine And.intro (by constructor<;>omega) ?_
   conv=>whnf
   refine nxt (j+1) ⟨by omega,by omega⟩ ?_
   rw [nms_take hx]
   (apply ck (h1:=rfl);(case h3=>repeat' (first | exact rfl | exact trivial | refine ⟨?_,?_⟩));all_goals exact rfl)
theorem cs16 (W0:Go.World) (s:S) (d st md:Int) (os es:List S) (hes:es.length≤900000) (b:Bool) (k:Ctr Tryz.prog W0 28 [.sc (.s s)] [] (.tup [bW d st md os es,.sc (.b b)]) []) :
  Ctr Tryz.prog W0 16 [.sc (.s s)] [] (.tup [.sl 1 (ae (nR b es)) .none,.sc (.i .i64 (eR b))]) []:=
 ak follows Fs16_ok rfl (fun _ _ h=>by cases h) rfl (by rfl) (bs16 W0 s d st md os es hes b k)
theorem bs17 (W0:Go.World) (l:List S) (hl:l.length≤900000):aD (Ctr Tryz.prog W0) Fs17.ac Fs17.rs [bU l,bU l] [] (.sc (.b true)) []:=by
 conv=>whnf
 refine ap (fun h1=>?_) (fun h1=>absurd h1 (by simp))
 conv=>whnf
 refine .st 10000 (fun k=>l.length - k) (fun k=>[(.s 0,.av (bU l)),(.s 1,.av (bU l)),(.s 5,.av (.sc (.i .i64 (k:Nat))))])
  (fun k=>k≤l.length) 0 ?_ (Nat.zero_le _) ?_
 ·(refine aN rfl rfl ?_;repeat' (first | exact rfl | exact trivial | refine ⟨?_,?_⟩))
 ·intro k hk
  conv=>whnf
  refine ap (fun h4=>?_) (fun h4=>?_)
  ·conv=>whnf
   exact aE rfl
  ·simp only [aa,decide_eq_true_eq] at h4
   obtain ⟨x,hx⟩:=aB (l:=l) (k:=k) (by omega)
   have dx:=bD hx
   conv=>whnf
   refine ⟨_,⟨Int.natCast_nonneg _,dx⟩,?_⟩
   conv=>whnf
   refine ⟨_,⟨Int.natCast_nonneg _,dx⟩,?_⟩
   conv=>whnf
   refine ap (fun h5=>?_) (fun h5=>absurd h5 (by simp [aH]))
   conv=>whnf
   refine And.intro (by constructor<;>omega) ?_
   conv=>whnf
   refine nxt (k+1) ⟨by omega,by omega⟩ ?_
   (refine aN rfl rfl ?_;repeat' (first | exact rfl | exact trivial | refine ⟨?_,?_⟩))
theorem cs17 (W0:Go.World) (l:List S) (hl:l.length≤900000):Ctr Tryz.prog W0 17 [bU l,bU l] [] (.sc (.b true)) []:=
 ak follows Fs17_ok rfl (fun _ _ h=>by cases h) rfl (by rfl) (bs17 W0 l hl)
theorem bs4 (W0:Go.World) (s:S) (d e:Int) (l:List S)
  (k12:Ctr Tryz.prog W0 12 [] [] (.sc (.b true)) [])
  (k13:s.length≤5000→Ctr Tryz.prog W0 13 [.sc (.s s)] [] (.tup [.sc (.i .i64 d),.sc (.i .i64 e)]) [])
  (k14:s.length≤5000→Ctr Tryz.prog W0 14 [.sc (.s s)] [] (.tup [.sc (.i .i64 d),.sc (.i .i64 e)]) [])
  (k15:s.length≤5000→Ctr Tryz.prog W0 15 [.sc (.s s)] [] (.tup [.sl 1 (ae l) .none,.sc (.i .i64 e)]) [])
  (k16:s.length≤5000→Ctr Tryz.prog W0 16 [.sc (.s s)] [] (.tup [.sl 1 (ae l) .none,.sc (.i .i64 e)]) [])
  (k17:s.length≤5000→Ctr Tryz.prog W0 17 [bU l,bU l] [] (.sc (.b true)) []) :
  aD (Ctr Tryz.prog W0) Fs4.ac Fs4.rs [.sc (.s s)] [] (.sc (.b true)) []:=by
 conv=>whnf
 refine ap (fun h1=>?_) (fun h1=>?_)
 ·have h:s.length≤5000:=by simp only [decide_eq_false_iff_not] at h1;omega
  conv=>whnf
  refine callP.pure _ (k13 h) ⟨rfl,rfl⟩ ?_
  conv=>whnf
  refine callP.pure _ (k14 h) ⟨rfl,rfl⟩ ?_
  conv=>whnf
  refine callP.pure _ (k15 h) ⟨rfl,rfl⟩ ?_
  conv=>whnf
  refine callP.pure _ (k16 h) ⟨rfl,rfl⟩ ?_
  conv=>whnf
  refine ap (fun h2=>absurd h2 (by simp)) (fun _=>?_)
  conv=>whnf
  refine ap (fun h2=>absurd h2 (by simp)) (fun _=>?_)
  conv=>whnf
  refine callP.pure _ (k17 h) ⟨rfl,rfl⟩ ?_
  conv=>whnf
  refine ap (fun h2=>absurd h2 (by simp)) (fun _=>?_)
  conv=>whnf
  refine callP.pure _ k12 ⟨rfl,rfl⟩ ?_
  conv=>whnf
  exact aE rfl
 ·conv=>whnf
  refine callP.pure _ k12 ⟨rfl,rfl⟩ ?_
  conv=>whnf
  exact aE rfl
theorem cs15f (W0:Go.World) (s:S) (d st md:Int) (os es:List S) (k:Ctr Tryz.prog W0 27 [.sc (.s s)] [] (.tup [bW d st md os es,.sc (.b false)]) []) :
  Ctr Tryz.prog W0 15 [.sc (.s s)] [] (.tup [.sl 1 (ae []) .none,.sc (.i .i64 240)]) []:=by
 refine ak follows Fs15_ok rfl (fun _ _ h=>by cases h) rfl (by rfl) ?_
 conv=>whnf
 refine callP.pure _ k ⟨rfl,rfl⟩ ?_
 conv=>whnf
 exact ko rfl rfl
theorem cs16f (W0:Go.World) (s:S) (d st md:Int) (os es:List S) (k:Ctr Tryz.prog W0 28 [.sc (.s s)] [] (.tup [bW d st md os es,.sc (.b false)]) []) :
  Ctr Tryz.prog W0 16 [.sc (.s s)] [] (.tup [.sl 1 (ae []) .none,.sc (.i .i64 240)]) []:=by
 refine ak follows Fs16_ok rfl (fun _ _ h=>by cases h) rfl (by rfl) ?_
 conv=>whnf
 refine callP.pure _ k ⟨rfl,rfl⟩ ?_
 conv=>whnf
 exact ko rfl rfl
theorem cs4 (W0:Go.World) (hw:Ws W0) (k12:Ctr Tryz.prog W0 12 [] [] (.sc (.b true)) []) (s:S):Ctr Tryz.prog W0 4 [.sc (.s s)] [] (.sc (.b true)) []:=by
 by_cases hl:s.length≤5000
 ·obtain ⟨d,st,md,os,es,k27,h27⟩:=cs27 W0 hw s hl
  obtain ⟨d',st',md',os',es',k28,h28⟩:=cs28 W0 hw.wk s hl
  rw [← imgPR] at k28 h28
  have hb:∀ {d:Int} {es:List S},p9 s d es→es.length≤900000:=by
   rintro d es ⟨l0,l1,B,y,z,k,h1,_,_,rfl⟩
   have h2:=fJ 10 s
   rw [h1] at h2
   simp only [List.length_cons,List.length_append,List.length_nil] at h2
   rw [List.length_drop];omega
  cases hi:mK s with
  | true =>
    rw [hi] at k27 k28
    obtain ⟨rfl,rfl⟩:=img_same (h27 hi) (h28 hi)
    have hl2:=hb (h28 hi)
    exact ak follows Fs4_ok rfl (fun _ _ h=>by cases h) rfl (by rfl) (bs4 W0 s d 0 (nms es) k12 (fun _=>cs13 W0 s _ _ _ _ _ true k27) (fun _=>cs14 W0 s _ _ _ _ _ true k28)
     (fun _=>cs15 W0 s _ _ _ _ _ hl2 true k27) (fun _=>cs16 W0 s _ _ _ _ _ hl2 true k28) (fun _=>cs17 W0 _ (by rw [nms,List.length_map];exact hl2)))
  | false =>
    rw [hi] at k27 k28
    have k27':Ctr Tryz.prog W0 27 [.sc (.s s)] [] (.tup [bW d st md os es,.sc (.b false)]) []:=k27
    exact ak follows Fs4_ok rfl (fun _ _ h=>by cases h) rfl (by rfl) (bs4 W0 s 0 240 [] k12 (fun _=>cs13 W0 s _ _ _ _ _ false k27) (fun _=>cs14 W0 s _ _ _ _ _ false k28)
     (fun _=>cs15f W0 s _ _ _ _ _ k27) (fun _=>cs16f W0 s _ _ _ _ _ k28) (fun _=>cs17 W0 _ (by simp)))
 ·exact ak follows Fs4_ok rfl (fun _ _ h=>by cases h) rfl (by rfl) (bs4 W0 s 0 0 [] k12 (fun h=>absurd h hl) (fun h=>absurd h hl) (fun h=>absurd h hl) (fun h=>absurd h hl) (fun h=>absurd h hl))
end Go.Abs
