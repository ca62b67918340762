/- save.readEntry. -/
import Derived.Test.YteihidcjmfckeaaGreatDoorS54
set_option linter.all false
set_option maxRecDepth 1000000
set_option maxHeartbeats 16000000
namespace Go.Abs
open Go.Proofs
open K in
def Fs50:Fn:=⟨.seq (.reg [n (.alloc 2 [.sc (.s []),.sc (.s []),.sl 1 [] .full]),n (mb 3 false)]) (.seq (.reg [m 13 0,n (cf 14 43 [.t 13,.c (.sc (.s [32]))]),m 4 14]) (.seq (.seq (.reg [m 15 4,n (.len 16 (.t 15)),n (bi 17 .lss 16 2),m 18 17,gm 18 19 4,g 18 (.ia 20 1 (.t 19) (.c (.sc (.i .i64 1)))),g 18 (ld 21 20),g 18 (cf 22 99 [.t 21]),g 18 (.no 23 (.t 22)),n (pt 24 18 23)]) (.cond (.t 24) (.seq (.reg [n (.build 25 [.sc (.s []),.sc (.s []),.sl 1 [] .full] []),n (.st (.t 2) 3 (.t 25)),n (mb 3 false)]) .ret) .skip)) (.seq (.regD [m 26 4,n (.ia 27 1 (.t 26) (.c (.sc (.i .i64 0)))),n (ld 28 27),m 29 4,n (.ia 30 1 (.t 29) (.c (.sc (.i .i64 1)))),n (ld 31 30),m 32 4,n (.slL 33 1 (.t 32) (some (.c (.sc (.i .i64 2)))) none none),n (.build 34 [.sc (.s []),.sc (.s []),.sl 1 [] .full] [(0,(1,.t 28)),(1,(1,.t 31)),(2,(1,.t 33))]),n (.alloc 5 [.sc (.s []),.sc (.s []),.sl 1 [] .full]),n (.st (.t 5) 3 (.t 34))] [0,1,3,0,8,24,0,64,255,0,1023]) (.seq (.seq (.reg [n (fa 35 5 0),n (ld 36 35)]) (.block 0 (.seq (.reg [n (bs 38 .eql 36 [100,111,109,97,105,110]),m 37 38]) (.cond (.t 37) (.seq (.seq (.reg [n (fa 39 5 2),n (ld 40 39),n (.len 41 (.t 40)),n (bi 42 .lss 41 2),m 43 42,g 43 (.bsl 44 1 [.c (.sc (.s [119,104,111,108,101])),.c (.sc (.s [98,108,111,99,107])),.c (.sc (.s [99,121,99,108,105,99])),.c (.sc (.s [98,108,111,99,107,115]))]),g 43 (fa 45 5 2),g 43 (ld 46 45),g 43 (.ia 47 1 (.t 46) (.c (.sc (.i .i64 0)))),g 43 (ld 48 47),g 43 (cf 49 100 [.t 44,.t 48]),g 43 (.no 50 (.t 49)),n (pt 51 43 50)]) (.cond (.t 51) (.seq (.reg [n (.ld 52 3 true (.t 5)),n (.st (.t 2) 3 (.t 52)),n (mb 3 false)]) .ret) .skip)) (.seq (.reg [n (fa 54 5 2),n (ld 55 54),n (.slL 56 1 (.t 55) (some (.c (.sc (.i .i64 1)))) none none),n (cf 57 44 [.t 56]),m 53 57,n (ext 58 53 0),n (ext 59 53 1),m 6 58,m 7 59]) (.seq (.reg [m 60 6,n (.len 61 (.t 60)),n (bi 62 .sub 61 1),m 8 62]) (.seq (.reg [n (.ld 63 3 true (.t 5)),m 64 7,m 65 64,wm 65 66 8,w 65 (bi 67 .rem 66 3),w 65 (bi 68 .eql 67 0),n (pf 69 65 68),m 70 69,wm 70 71 8,w 70 (bi 72 .geq 71 3),n (pf 73 70 72),m 74 73,wm 74 75 8,w 74 (bi 76 .leq 75 9),n (pf 77 74 76),n (.st (.t 2) 3 (.t 63)),m 3 77]) .ret)))) (.seq (.reg [n (bs 79 .eql 36 [97,114,114,97,121]),m 78 79]) (.cond (.t 78) (.seq (.seq (.reg [n (fa 80 5 2),n (ld 81 80),n (.len 82 (.t 81)),n (bi 83 .eql 82 0),m 84 83,g 84 (fa 85 5 2),g 84 (ld 86 85),g 84 (.ia 87 1 (.t 86) (.c (.sc (.i .i64 0)))),g 84 (ld 88 87),g 84 (cf 89 99 [.t 88]),g 84 (.no 90 (.t 89)),n (pt 91 84 90)]) (.cond (.t 91) (.seq (.reg [n (.ld 92 3 true (.t 5)),n (.st (.t 2) 3 (.t 92)),n (mb 3 false)]) .ret) .skip)) (.seq (.reg [n (fa 94 5 2),n (ld 95 94),n (.slL 96 1 (.t 95) (some (.c (.sc (.i .i64 1)))) none none),n (cf 97 44 [.t 96]),m 93 97,n (ext 98 93 0),n (ext 99 93 1),m 9 98,m 10 99]) (.seq (.reg [n (.ld 100 3 true (.t 5)),m 101 10,n (.st (.t 2) 3 (.t 100)),m 3 101]) .ret))) .skip)))))) (.seq (.seq (.reg [n (fa 102 5 2),n (ld 103 102),n (.len 104 (.t 103)),n (bi 105 .neq 104 1)]) (.cond (.t 105) (.seq (.reg [n (.ld 106 3 true (.t 5)),n (.st (.t 2) 3 (.t 106)),n (mb 3 false)]) .ret) .skip)) (.seq (.reg [n (fa 108 5 2),n (ld 109 108),n (.ia 110 1 (.t 109) (.c (.sc (.i .i64 0)))),n (ld 111 110),n (cf 112 49 [.t 111]),m 107 112,n (ext 113 107 0),n (ext 114 107 1),m 11 113,m 12 114]) (.seq (.seq (.reg [n (fa 115 5 0),n (ld 116 115)]) (.block 1 (.seq (.seq (.reg [n (bs 118 .eql 116 [105,110,116]),m 117 118]) (.cond (.t 117) .skip (.reg [n (bs 119 .eql 116 [97,116,111,109,105,99]),m 117 119]))) (.cond (.t 117) (.seq (.reg [n (.ld 120 3 true (.t 5)),m 121 12,n (.st (.t 2) 3 (.t 120)),m 3 121]) .ret) (.seq (.reg [n (bs 123 .eql 116 [98,111,111,108]),m 122 123]) (.cond (.t 122) (.seq (.regD [n (.ld 124 3 true (.t 5)),n (fa 125 5 2),n (ld 126 125),n (.ia 127 1 (.t 126) (.c (.sc (.i .i64 0)))),n (ld 128 127),n (bs 129 .eql 128 [48]),m 130 129,g 130 (fa 131 5 2),g 130 (ld 132 131),g 130 (.ia 133 1 (.t 132) (.c (.sc (.i .i64 0)))),g 130 (ld 134 133),g 130 (bs 135 .eql 134 [49]),n (pt 136 130 135),n (.st (.t 2) 3 (.t 124)),m 3 136] [0,0,2,6,14,30,62,126,254,510,1022,2046,4094,127,16383]) .ret) (.seq (.reg [n (bs 138 .eql 116 [115,105,110,103,108,101]),m 137 138]) (.cond (.t 137) (.seq (.regD [n (.ld 139 3 true (.t 5)),m 140 12,m 141 140,g 141 (fa 142 5 2),g 141 (ld 143 142),g 141 (.ia 144 1 (.t 143) (.c (.sc (.i .i64 0)))),g 141 (ld 145 144),g 141 (bs 146 .eql 145 [45]),n (pt 147 141 146),n (.st (.t 2) 3 (.t 139)),m 3 147] [0,0,2,6,14,30,62,126,254,7,1023]) .ret) .skip)))))))) (.seq (.reg [n (.ld 148 3 true (.t 5)),n (.st (.t 2) 3 (.t 148)),n (mb 3 false)]) .ret)))))))),[(2,3),(3,0)],149,[]⟩
theorem qa:aI Tryz.prog (fun _=>an0) 50=some Fs50:=by kernel_rfl
def cD (k nm:S) (r:List S) (b:Bool):AV:=.tup [.agg [.sc (.s k),.sc (.s nm),.sl 1 (ae r) .none],.sc (.b b)]
theorem b8 {σ:Log} {k k' nm nm':S} {e e':List (List Data)} {t:Tok} {b b':Bool} (h1:k'=k) (h2:nm'=nm) (h3:e'=e) (h4:b'=b) :
  FinOK σ (.tup [.agg [.sc (.s k'),.sc (.s nm'),.sl 1 e' t],.sc (.b b')]) 0 0 (.tup [.agg [.sc (.s k),.sc (.s nm),.sl 1 e .none],.sc (.b b)]) []:=by
 subst h1;subst h2;subst h3;subst h4
 exact jN rfl ⟨⟨rfl,rfl,⟨rfl,rfl,.inl rfl⟩,trivial⟩,rfl,trivial⟩ rfl
theorem HB.c44 {k nm:S} {r:List S} (h:HB k nm r) (W0:Go.World) (hw:Ws W0):Ctr Tryz.prog W0 44 [bU r] [] (.tup [.sl 1 (dH r) .none,.sc (.b (r.all intP))]) []:=
 cs44 W0 hw r (by have:=h.hr;omega) fun x hx=>by have:=h.hx x hx;omega
theorem HB.c49 {k nm:S} {x:S} {r:List S} (h:HB k nm (x::r)) (W0:Go.World) (hw:Ws W0):Ctr Tryz.prog W0 49 [.sc (.s x)] [] (.tup [.sc (.i .i64 (atoiN x)),.sc (.b (intP x))]) []:=
 cs49s W0 hw x (by have:=h.hx x (by simp);omega)
theorem HB.c99 {k nm:S} {r:List S} (h:HB k nm r) (W0:Go.World) (hw:Ws W0):Ctr Tryz.prog W0 99 [.sc (.s nm)] [] (.sc (.b (aj nm))) []:=c168 W0 hw.wk nm (by have:=h.hn;omega)
theorem HB.c99x {k nm:S} {x:S} {r:List S} (h:HB k nm (x::r)) (W0:Go.World) (hw:Ws W0):Ctr Tryz.prog W0 99 [.sc (.s x)] [] (.sc (.b (aj x))) []:=c168 W0 hw.wk x (by have:=h.hx x (by simp);omega)
theorem bs50_one (W0:Go.World) (s a:S) (k43:Ctr Tryz.prog W0 43 [.sc (.s s),.sc (.s [32])] [] (.sl 1 (ae [a]) .full) []) :
  aD (Ctr Tryz.prog W0) Fs50.ac Fs50.rs [.sc (.s s)] [] (cD [] [] [] false) []:=by
 conv=>whnf
 refine callP.pure _ k43 ⟨rfl,rfl⟩ ?_
 conv=>whnf
 exact b8 rfl rfl rfl rfl
theorem aP {a b:S} {r:List S} {n:Nat} (hn:n=(ae (a::b::r)).length - 2):List.take n (List.drop 2 (ae (a::b::r)))=ae r:=by
 have h1:List.drop 2 (ae (a::b::r))=ae r:=by simp [ae]
 rw [h1]
 refine List.take_of_length_le ?_
 rw [aa,hn,aa]
 simp only [List.length_cons]
 omega
theorem bs50_noname (W0:Go.World) (hw:Ws W0) (s k nm:S) (r:List S) (hb:HB k nm r) (k43:Ctr Tryz.prog W0 43 [.sc (.s s),.sc (.s [32])] [] (.sl 1 (ae (k::nm::r)) .full) []) (hn:aj nm=false) :
  aD (Ctr Tryz.prog W0) Fs50.ac Fs50.rs [.sc (.s s)] [] (cD [] [] [] false) []:=by
 conv=>whnf
 refine callP.pure _ k43 ⟨rfl,rfl⟩ ?_
 conv=>whnf
 refine ⟨_,⟨by decide,rfl⟩,?_⟩
 conv=>whnf
 refine callP.pure _ (hb.c99 W0 hw) ⟨rfl,rfl⟩ ?_
 rw [hn]
 conv=>whnf
 exact b8 rfl rfl rfl rfl
theorem bs50_dom0 (W0:Go.World) (hw:Ws W0) (s nm:S) (hb:HB a8 nm []) (k43:Ctr Tryz.prog W0 43 [.sc (.s s),.sc (.s [32])] [] (.sl 1 (ae (a8::nm::[])) .full) []) (hn:aj nm=true) :
  aD (Ctr Tryz.prog W0) Fs50.ac Fs50.rs [.sc (.s s)] [] (cD a8 nm [] (aL intP aj a8 [])) []:=by
 conv=>whnf
 refine callP.pure _ k43 ⟨rfl,rfl⟩ ?_
 conv=>whnf
 refine ⟨_,⟨by decide,rfl⟩,?_⟩
 conv=>whnf
 refine callP.pure _ (hb.c99 W0 hw) ⟨rfl,rfl⟩ ?_
 rw [hn]
 conv=>whnf
 refine ⟨_,⟨by decide,rfl⟩,?_⟩
 conv=>whnf
 refine ⟨_,⟨by decide,rfl⟩,?_⟩
 conv=>whnf
 refine ⟨.none,⟨by simp only [aa,List.length_cons];omega,.inl rfl⟩,?_⟩
 generalize hT:List.take _ (List.drop _ (ae _))=T
 have hT:T=ae []:=by rw [← hT];exact aP (by simp)
 subst hT
 conv=>whnf
 exact b8 rfl rfl rfl rfl
theorem bs50_dom1 (W0:Go.World) (hw:Ws W0) (s nm x:S) (hb:HB a8 nm [x]) (k43:Ctr Tryz.prog W0 43 [.sc (.s s),.sc (.s [32])] [] (.sl 1 (ae (a8::nm::[x])) .full) []) (hn:aj nm=true) :
  aD (Ctr Tryz.prog W0) Fs50.ac Fs50.rs [.sc (.s s)] [] (cD a8 nm [x] (aL intP aj a8 [x])) []:=by
 conv=>whnf
 refine callP.pure _ k43 ⟨rfl,rfl⟩ ?_
 conv=>whnf
 refine ⟨_,⟨by decide,rfl⟩,?_⟩
 conv=>whnf
 refine callP.pure _ (hb.c99 W0 hw) ⟨rfl,rfl⟩ ?_
 rw [hn]
 conv=>whnf
 refine ⟨_,⟨by decide,rfl⟩,?_⟩
 conv=>whnf
 refine ⟨_,⟨by decide,rfl⟩,?_⟩
 conv=>whnf
 refine ⟨.none,⟨by simp only [aa,List.length_cons];omega,.inl rfl⟩,?_⟩
 generalize hT:List.take _ (List.drop _ (ae _))=T
 have hT:T=ae [x]:=by rw [← hT];exact aP (by simp)
 subst hT
 conv=>whnf
 refine b8 rfl rfl rfl ?_
 have hg:aL intP aj a8 [x]=((decide (x=eY)||decide (x=eZ)||decide (x=dw)||decide (x=dz))&&false):=rfl
 rw [hg,Bool.and_false]
theorem bs50_dom2 (W0:Go.World) (hw:Ws W0) (s nm x y:S) (r:List S) (hb:HB a8 nm (x::y::r)) (k43:Ctr Tryz.prog W0 43 [.sc (.s s),.sc (.s [32])] [] (.sl 1 (ae (a8::nm::(x::y::r))) .full) []) (hn:aj nm=true) :
  aD (Ctr Tryz.prog W0) Fs50.ac Fs50.rs [.sc (.s s)] [] (cD a8 nm (x::y::r) (aL intP aj a8 (x::y::r))) []:=by
 conv=>whnf
 refine callP.pure _ k43 ⟨rfl,rfl⟩ ?_
 conv=>whnf
 refine ⟨_,⟨by decide,rfl⟩,?_⟩
 conv=>whnf
 refine callP.pure _ (hb.c99 W0 hw) ⟨rfl,rfl⟩ ?_
 rw [hn]
 conv=>whnf
 refine ⟨_,⟨by decide,rfl⟩,?_⟩
 conv=>whnf
 refine ⟨_,⟨by decide,rfl⟩,?_⟩
 conv=>whnf
 refine ⟨.none,⟨by simp only [aa,List.length_cons];omega,.inl rfl⟩,?_⟩
 generalize hT:List.take _ (List.drop _ (ae _))=T
 have hT:T=ae (x::y::r):=by rw [← hT];exact aP (by simp)
 subst hT
 conv=>whnf
 have hg:aL intP aj a8 (x::y::r)=((decide (x=eY)||decide (x=eZ)||decide (x=dw)||decide (x=dz))&&((y::r).all intP&&(decide (4≤(y::r).length)&&(decide ((y::r).length≤10)&&decide (((y::r).length - 1) % 3=0))))):=rfl
 refine ⟨_,⟨by decide,rfl⟩,?_⟩
 conv=>whnf
 refine callP.pure _ (c260 W0 [eY,eZ,dw,dz] x (by decide)) ⟨rfl,rfl⟩ ?_
 conv=>whnf
 have hh:a7 x [eY,eZ,dw,dz]=(decide (x=eY)||decide (x=eZ)||decide (x=dw)||decide (x=dz)):=by
  simp [a7,aH,Bool.or_assoc]
 rw [← hh] at hg
 have hrl:=hb.hr
 simp only [List.length_cons] at hrl
 cases hk:a7 x [eY,eZ,dw,dz]
 ·conv=>whnf
  exact b8 rfl rfl rfl (by rw [hg,hk];rfl)
 rw [hk,Bool.true_and] at hg
 conv=>whnf
 refine ⟨.none,⟨by simp only [aa,List.length_cons];omega,.inl rfl⟩,?_⟩
 generalize hT:List.take _ (List.drop _ (ae _))=T
 have hT:T=ae (y::r):=by rw [← hT];exact cr (r:=x::y::r) (by simp)
 subst hT
 conv=>whnf
 refine callP.pure _ (show Ctr Tryz.prog W0 44 [bU (y::r)] [] (.tup [.sl 1 (dH (y::r)) .none,.sc (.b ((y::r).all intP))]) [] from hb.tail.c44 W0 hw) ⟨rfl,rfl⟩ ?_
 cases ha:(y::r).all intP
 ·rw [show dH (y::r)=[] by rw [dH,ha]]
  conv=>whnf
  refine And.intro (by constructor<;>decide) ?_
  conv=>whnf
  exact b8 rfl rfl rfl (by rw [hg,ha];rfl)
 rw [show dH (y::r)=eA atoiN (y::r) by rw [dH,ha]]
 rw [ha,Bool.true_and] at hg
 obtain ⟨n,hn2⟩:∃ n,n=r.length:=⟨_,rfl⟩
 conv=>whnf
 refine And.intro (by rw [b7];simp only [List.length_cons];constructor<;>omega) ?_
 conv=>whnf
 refine And.intro (by rw [b7];simp only [List.length_cons];constructor<;>omega) ?_
 conv=>whnf
 refine ap (fun h1=>?_) (fun h1=>?_)
 ·rw [b7] at h1
  simp only [List.length_cons,decide_eq_false_iff_not] at h1
  conv=>whnf
  refine b8 rfl rfl rfl ?_
  rw [hg]
  simp only [List.length_cons]
  rw [decide_eq_false (p:=(r.length+1 - 1) % 3=0) (by omega)]
  simp
 rw [b7] at h1
 simp only [List.length_cons,decide_eq_true_eq] at h1
 conv=>whnf
 refine ap (fun h2=>?_) (fun h2=>?_)
 ·rw [b7] at h2
  simp only [List.length_cons,decide_eq_false_iff_not] at h2
  conv=>whnf
  refine b8 rfl rfl rfl ?_
  rw [hg]
  simp only [List.length_cons]
  rw [decide_eq_false (p:=4≤r.length+1) (by omega)]
  simp
 rw [b7] at h2
 simp only [List.length_cons,decide_eq_true_eq] at h2
 conv=>whnf
 refine b8 rfl rfl rfl ?_
 rw [hg,b7]
 simp only [List.length_cons]
 rw [decide_eq_true (p:=4≤r.length+1) (by omega),decide_eq_true (p:=(r.length+1 - 1) % 3=0) (by omega),Bool.and_true,Bool.true_and]
 exact decide_eq_decide.2 (by omega)
theorem bs50_arr0 (W0:Go.World) (hw:Ws W0) (s nm:S) (hb:HB ca nm []) (k43:Ctr Tryz.prog W0 43 [.sc (.s s),.sc (.s [32])] [] (.sl 1 (ae (ca::nm::[])) .full) []) (hn:aj nm=true) :
  aD (Ctr Tryz.prog W0) Fs50.ac Fs50.rs [.sc (.s s)] [] (cD ca nm [] (aL intP aj ca [])) []:=by
 conv=>whnf
 refine callP.pure _ k43 ⟨rfl,rfl⟩ ?_
 conv=>whnf
 refine ⟨_,⟨by decide,rfl⟩,?_⟩
 conv=>whnf
 refine callP.pure _ (hb.c99 W0 hw) ⟨rfl,rfl⟩ ?_
 rw [hn]
 conv=>whnf
 refine ⟨_,⟨by decide,rfl⟩,?_⟩
 conv=>whnf
 refine ⟨_,⟨by decide,rfl⟩,?_⟩
 conv=>whnf
 refine ⟨.none,⟨by simp only [aa,List.length_cons];omega,.inl rfl⟩,?_⟩
 generalize hT:List.take _ (List.drop _ (ae _))=T
 have hT:T=ae []:=by rw [← hT];exact aP (by simp)
 subst hT
 conv=>whnf
 exact b8 rfl rfl rfl rfl
theorem bs50_arr1 (W0:Go.World) (hw:Ws W0) (s nm x:S) (r:List S) (hb:HB ca nm (x::r)) (k43:Ctr Tryz.prog W0 43 [.sc (.s s),.sc (.s [32])] [] (.sl 1 (ae (ca::nm::(x::r))) .full) []) (hn:aj nm=true) :
  aD (Ctr Tryz.prog W0) Fs50.ac Fs50.rs [.sc (.s s)] [] (cD ca nm (x::r) (aL intP aj ca (x::r))) []:=by
 conv=>whnf
 refine callP.pure _ k43 ⟨rfl,rfl⟩ ?_
 conv=>whnf
 refine ⟨_,⟨by decide,rfl⟩,?_⟩
 conv=>whnf
 refine callP.pure _ (hb.c99 W0 hw) ⟨rfl,rfl⟩ ?_
 rw [hn]
 conv=>whnf
 refine ⟨_,⟨by decide,rfl⟩,?_⟩
 conv=>whnf
 refine ⟨_,⟨by decide,rfl⟩,?_⟩
 conv=>whnf
 refine ⟨.none,⟨by simp only [aa,List.length_cons];omega,.inl rfl⟩,?_⟩
 generalize hT:List.take _ (List.drop _ (ae _))=T
 have hT:T=ae (x::r):=by rw [← hT];exact aP (by simp)
 subst hT
 conv=>whnf
 have hg:aL intP aj ca (x::r)=(aj x&&r.all intP):=rfl
 rw [hg]
 refine ⟨_,⟨by decide,rfl⟩,?_⟩
 conv=>whnf
 refine callP.pure _ (hb.c99x W0 hw) ⟨rfl,rfl⟩ ?_
 conv=>whnf
 cases hnx:aj x
 ·conv=>whnf
  exact b8 rfl rfl rfl rfl
 conv=>whnf
 refine ⟨.none,⟨by simp only [aa,List.length_cons];omega,.inl rfl⟩,?_⟩
 generalize hT:List.take _ (List.drop _ (ae _))=T
 have hT:T=ae r:=by rw [← hT];exact cr (r:=x::r) (by simp)
 subst hT
 conv=>whnf
 refine callP.pure _ (show Ctr Tryz.prog W0 44 [bU r] [] (.tup [.sl 1 (dH r) .none,.sc (.b (r.all intP))]) [] from hb.tail.c44 W0 hw) ⟨rfl,rfl⟩ ?_
 conv=>whnf
 exact b8 rfl rfl rfl rfl
theorem bs50_int0 (W0:Go.World) (hw:Ws W0) (s nm:S) (hb:HB d8 nm []) (k43:Ctr Tryz.prog W0 43 [.sc (.s s),.sc (.s [32])] [] (.sl 1 (ae (d8::nm::[])) .full) []) (hn:aj nm=true) :
  aD (Ctr Tryz.prog W0) Fs50.ac Fs50.rs [.sc (.s s)] [] (cD d8 nm [] (aL intP aj d8 [])) []:=by
 conv=>whnf
 refine callP.pure _ k43 ⟨rfl,rfl⟩ ?_
 conv=>whnf
 refine ⟨_,⟨by decide,rfl⟩,?_⟩
 conv=>whnf
 refine callP.pure _ (hb.c99 W0 hw) ⟨rfl,rfl⟩ ?_
 rw [hn]
 conv=>whnf
 refine ⟨_,⟨by decide,rfl⟩,?_⟩
 conv=>whnf
 refine ⟨_,⟨by decide,rfl⟩,?_⟩
 conv=>whnf
 refine ⟨.none,⟨by simp only [aa,List.length_cons];omega,.inl rfl⟩,?_⟩
 generalize hT:List.take _ (List.drop _ (ae _))=T
 have hT:T=ae []:=by rw [← hT];exact aP (by simp)
 subst hT
 conv=>whnf
 exact b8 rfl rfl rfl rfl
theorem bs50_int2 (W0:Go.World) (hw:Ws W0) (s nm x y:S) (r:List S) (hb:HB d8 nm (x::y::r)) (k43:Ctr Tryz.prog W0 43 [.sc (.s s),.sc (.s [32])] [] (.sl 1 (ae (d8::nm::(x::y::r))) .full) []) (hn:aj nm=true) :
  aD (Ctr Tryz.prog W0) Fs50.ac Fs50.rs [.sc (.s s)] [] (cD d8 nm (x::y::r) (aL intP aj d8 (x::y::r))) []:=by
 conv=>whnf
 refine callP.pure _ k43 ⟨rfl,rfl⟩ ?_
 conv=>whnf
 refine ⟨_,⟨by decide,rfl⟩,?_⟩
 conv=>whnf
 refine callP.pure _ (hb.c99 W0 hw) ⟨rfl,rfl⟩ ?_
 rw [hn]
 conv=>whnf
 refine ⟨_,⟨by decide,rfl⟩,?_⟩
 conv=>whnf
 refine ⟨_,⟨by decide,rfl⟩,?_⟩
 conv=>whnf
 refine ⟨.none,⟨by simp only [aa,List.length_cons];omega,.inl rfl⟩,?_⟩
 generalize hT:List.take _ (List.drop _ (ae _))=T
 have hT:T=ae (x::y::r):=by rw [← hT];exact aP (by simp)
 subst hT
 conv=>whnf
 exact b8 rfl rfl rfl rfl
theorem bs50_int1 (W0:Go.World) (hw:Ws W0) (s nm x:S) (hb:HB d8 nm [x]) (k43:Ctr Tryz.prog W0 43 [.sc (.s s),.sc (.s [32])] [] (.sl 1 (ae (d8::nm::[x])) .full) []) (hn:aj nm=true) :
  aD (Ctr Tryz.prog W0) Fs50.ac Fs50.rs [.sc (.s s)] [] (cD d8 nm [x] (aL intP aj d8 [x])) []:=by
 conv=>whnf
 refine callP.pure _ k43 ⟨rfl,rfl⟩ ?_
 conv=>whnf
 refine ⟨_,⟨by decide,rfl⟩,?_⟩
 conv=>whnf
 refine callP.pure _ (hb.c99 W0 hw) ⟨rfl,rfl⟩ ?_
 rw [hn]
 conv=>whnf
 refine ⟨_,⟨by decide,rfl⟩,?_⟩
 conv=>whnf
 refine ⟨_,⟨by decide,rfl⟩,?_⟩
 conv=>whnf
 refine ⟨.none,⟨by simp only [aa,List.length_cons];omega,.inl rfl⟩,?_⟩
 generalize hT:List.take _ (List.drop _ (ae _))=T
 have hT:T=ae [x]:=by rw [← hT];exact aP (by simp)
 subst hT
 conv=>whnf
 have hg:aL intP aj d8 [x]=intP x:=rfl
 rw [hg]
 refine ⟨_,⟨by decide,rfl⟩,?_⟩
 conv=>whnf
 refine callP.pure _ (hb.c49 W0 hw) ⟨rfl,rfl⟩ ?_
 conv=>whnf
 exact b8 rfl rfl rfl rfl
theorem pW (W0:Go.World) (hw:Ws W0) (s nm:S) (hb:HB br nm []) (k43:Ctr Tryz.prog W0 43 [.sc (.s s),.sc (.s [32])] [] (.sl 1 (ae (br::nm::[])) .full) []) (hn:aj nm=true) :
  aD (Ctr Tryz.prog W0) Fs50.ac Fs50.rs [.sc (.s s)] [] (cD br nm [] (aL intP aj br [])) []:=by
 conv=>whnf
 refine callP.pure _ k43 ⟨rfl,rfl⟩ ?_
 conv=>whnf
 refine ⟨_,⟨by decide,rfl⟩,?_⟩
 conv=>whnf
 refine callP.pure _ (hb.c99 W0 hw) ⟨rfl,rfl⟩ ?_
 rw [hn]
 conv=>whnf
 refine ⟨_,⟨by decide,rfl⟩,?_⟩
 conv=>whnf
 refine ⟨_,⟨by decide,rfl⟩,?_⟩
 conv=>whnf
 refine ⟨.none,⟨by simp only [aa,List.length_cons];omega,.inl rfl⟩,?_⟩
 generalize hT:List.take _ (List.drop _ (ae _))=T
 have hT:T=ae []:=by rw [← hT];exact aP (by simp)
 subst hT
 conv=>whnf
 exact b8 rfl rfl rfl rfl
theorem pU (W0:Go.World) (hw:Ws W0) (s nm x y:S) (r:List S) (hb:HB br nm (x::y::r)) (k43:Ctr Tryz.prog W0 43 [.sc (.s s),.sc (.s [32])] [] (.sl 1 (ae (br::nm::(x::y::r))) .full) []) (hn:aj nm=true) :
  aD (Ctr Tryz.prog W0) Fs50.ac Fs50.rs [.sc (.s s)] [] (cD br nm (x::y::r) (aL intP aj br (x::y::r))) []:=by
 conv=>whnf
 refine callP.pure _ k43 ⟨rfl,rfl⟩ ?_
 conv=>whnf
 refine ⟨_,⟨by decide,rfl⟩,?_⟩
 conv=>whnf
 refine callP.pure _ (hb.c99 W0 hw) ⟨rfl,rfl⟩ ?_
 rw [hn]
 conv=>whnf
 refine ⟨_,⟨by decide,rfl⟩,?_⟩
 conv=>whnf
 refine ⟨_,⟨by decide,rfl⟩,?_⟩
 conv=>whnf
 refine ⟨.none,⟨by simp only [aa,List.length_cons];omega,.inl rfl⟩,?_⟩
 generalize hT:List.take _ (List.drop _ (ae _))=T
 have hT:T=ae (x::y::r):=by rw [← hT];exact aP (by simp)
 subst hT
 conv=>whnf
 exact b8 rfl rfl rfl rfl
theorem pV (W0:Go.World) (hw:Ws W0) (s nm x:S) (hb:HB br nm [x]) (k43:Ctr Tryz.prog W0 43 [.sc (.s s),.sc (.s [32])] [] (.sl 1 (ae (br::nm::[x])) .full) []) (hn:aj nm=true) :
  aD (Ctr Tryz.prog W0) Fs50.ac Fs50.rs [.sc (.s s)] [] (cD br nm [x] (aL intP aj br [x])) []:=by
 conv=>whnf
 refine callP.pure _ k43 ⟨rfl,rfl⟩ ?_
 conv=>whnf
 refine ⟨_,⟨by decide,rfl⟩,?_⟩
 conv=>whnf
 refine callP.pure _ (hb.c99 W0 hw) ⟨rfl,rfl⟩ ?_
 rw [hn]
 conv=>whnf
 refine ⟨_,⟨by decide,rfl⟩,?_⟩
 conv=>whnf
 refine ⟨_,⟨by decide,rfl⟩,?_⟩
 conv=>whnf
 refine ⟨.none,⟨by simp only [aa,List.length_cons];omega,.inl rfl⟩,?_⟩
 generalize hT:List.take _ (List.drop _ (ae _))=T
 have hT:T=ae [x]:=by rw [← hT];exact aP (by simp)
 subst hT
 conv=>whnf
 have hg:aL intP aj br [x]=intP x:=rfl
 rw [hg]
 refine ⟨_,⟨by decide,rfl⟩,?_⟩
 conv=>whnf
 refine callP.pure _ (hb.c49 W0 hw) ⟨rfl,rfl⟩ ?_
 conv=>whnf
 exact b8 rfl rfl rfl rfl
theorem bs50_bool0 (W0:Go.World) (hw:Ws W0) (s nm:S) (hb:HB cx nm []) (k43:Ctr Tryz.prog W0 43 [.sc (.s s),.sc (.s [32])] [] (.sl 1 (ae (cx::nm::[])) .full) []) (hn:aj nm=true) :
  aD (Ctr Tryz.prog W0) Fs50.ac Fs50.rs [.sc (.s s)] [] (cD cx nm [] (aL intP aj cx [])) []:=by
 conv=>whnf
 refine callP.pure _ k43 ⟨rfl,rfl⟩ ?_
 conv=>whnf
 refine ⟨_,⟨by decide,rfl⟩,?_⟩
 conv=>whnf
 refine callP.pure _ (hb.c99 W0 hw) ⟨rfl,rfl⟩ ?_
 rw [hn]
 conv=>whnf
 refine ⟨_,⟨by decide,rfl⟩,?_⟩
 conv=>whnf
 refine ⟨_,⟨by decide,rfl⟩,?_⟩
 conv=>whnf
 refine ⟨.none,⟨by simp only [aa,List.length_cons];omega,.inl rfl⟩,?_⟩
 generalize hT:List.take _ (List.drop _ (ae _))=T
 have hT:T=ae []:=by rw [← hT];exact aP (by simp)
 subst hT
 conv=>whnf
 exact b8 rfl rfl rfl rfl
theorem bs50_bool2 (W0:Go.World) (hw:Ws W0) (s nm x y:S) (r:List S) (hb:HB cx nm (x::y::r)) (k43:Ctr Tryz.prog W0 43 [.sc (.s s),.sc (.s [32])] [] (.sl 1 (ae (cx::nm::(x::y::r))) .full) []) (hn:aj nm=true) :
  aD (Ctr Tryz.prog W0) Fs50.ac Fs50.rs [.sc (.s s)] [] (cD cx nm (x::y::r) (aL intP aj cx (x::y::r))) []:=by
 conv=>whnf
 refine callP.pure _ k43 ⟨rfl,rfl⟩ ?_
 conv=>whnf
 refine ⟨_,⟨by decide,rfl⟩,?_⟩
 conv=>whnf
 refine callP.pure _ (hb.c99 W0 hw) ⟨rfl,rfl⟩ ?_
 rw [hn]
 conv=>whnf
 refine ⟨_,⟨by decide,rfl⟩,?_⟩
 conv=>whnf
 refine ⟨_,⟨by decide,rfl⟩,?_⟩
 conv=>whnf
 refine ⟨.none,⟨by simp only [aa,List.length_cons];omega,.inl rfl⟩,?_⟩
 generalize hT:List.take _ (List.drop _ (ae _))=T
 have hT:T=ae (x::y::r):=by rw [← hT];exact aP (by simp)
 subst hT
 conv=>whnf
 exact b8 rfl rfl rfl rfl
theorem bs50_bool1 (W0:Go.World) (hw:Ws W0) (s nm x:S) (hb:HB cx nm [x]) (k43:Ctr Tryz.prog W0 43 [.sc (.s s),.sc (.s [32])] [] (.sl 1 (ae (cx::nm::[x])) .full) []) (hn:aj nm=true) :
  aD (Ctr Tryz.prog W0) Fs50.ac Fs50.rs [.sc (.s s)] [] (cD cx nm [x] (aL intP aj cx [x])) []:=by
 conv=>whnf
 refine callP.pure _ k43 ⟨rfl,rfl⟩ ?_
 conv=>whnf
 refine ⟨_,⟨by decide,rfl⟩,?_⟩
 conv=>whnf
 refine callP.pure _ (hb.c99 W0 hw) ⟨rfl,rfl⟩ ?_
 rw [hn]
 conv=>whnf
 refine ⟨_,⟨by decide,rfl⟩,?_⟩
 conv=>whnf
 refine ⟨_,⟨by decide,rfl⟩,?_⟩
 conv=>whnf
 refine ⟨.none,⟨by simp only [aa,List.length_cons];omega,.inl rfl⟩,?_⟩
 generalize hT:List.take _ (List.drop _ (ae _))=T
 have hT:T=ae [x]:=by rw [← hT];exact aP (by simp)
 subst hT
 conv=>whnf
 have hg:aL intP aj cx [x]=(decide (x=[48])||decide (x=[49])):=rfl
 rw [hg]
 refine ⟨_,⟨by decide,rfl⟩,?_⟩
 conv=>whnf
 refine callP.pure _ (hb.c49 W0 hw) ⟨rfl,rfl⟩ ?_
 conv=>whnf
 refine ⟨_,⟨by decide,rfl⟩,?_⟩
 conv=>whnf
 refine ap (fun h1=>?_) (fun h1=>?_)
 ·conv=>whnf
  refine ⟨_,⟨by decide,rfl⟩,?_⟩
  conv=>whnf
  simp only [aH] at h1
  exact b8 rfl rfl rfl (by rw [h1];rfl)
 ·conv=>whnf
  simp only [aH] at h1
  exact b8 rfl rfl rfl (by rw [h1];rfl)
theorem pT (W0:Go.World) (hw:Ws W0) (s nm:S) (hb:HB bq nm []) (k43:Ctr Tryz.prog W0 43 [.sc (.s s),.sc (.s [32])] [] (.sl 1 (ae (bq::nm::[])) .full) []) (hn:aj nm=true) :
  aD (Ctr Tryz.prog W0) Fs50.ac Fs50.rs [.sc (.s s)] [] (cD bq nm [] (aL intP aj bq [])) []:=by
 conv=>whnf
 refine callP.pure _ k43 ⟨rfl,rfl⟩ ?_
 conv=>whnf
 refine ⟨_,⟨by decide,rfl⟩,?_⟩
 conv=>whnf
 refine callP.pure _ (hb.c99 W0 hw) ⟨rfl,rfl⟩ ?_
 rw [hn]
 conv=>whnf
 refine ⟨_,⟨by decide,rfl⟩,?_⟩
 conv=>whnf
 refine ⟨_,⟨by decide,rfl⟩,?_⟩
 conv=>whnf
 refine ⟨.none,⟨by simp only [aa,List.length_cons];omega,.inl rfl⟩,?_⟩
 generalize hT:List.take _ (List.drop _ (ae _))=T
 have hT:T=ae []:=by rw [← hT];exact aP (by simp)
 subst hT
 conv=>whnf
 exact b8 rfl rfl rfl rfl
theorem pR (W0:Go.World) (hw:Ws W0) (s nm x y:S) (r:List S) (hb:HB bq nm (x::y::r)) (k43:Ctr Tryz.prog W0 43 [.sc (.s s),.sc (.s [32])] [] (.sl 1 (ae (bq::nm::(x::y::r))) .full) []) (hn:aj nm=true) :
  aD (Ctr Tryz.prog W0) Fs50.ac Fs50.rs [.sc (.s s)] [] (cD bq nm (x::y::r) (aL intP aj bq (x::y::r))) []:=by
 conv=>whnf
 refine callP.pure _ k43 ⟨rfl,rfl⟩ ?_
 conv=>whnf
 refine ⟨_,⟨by decide,rfl⟩,?_⟩
 conv=>whnf
 refine callP.pure _ (hb.c99 W0 hw) ⟨rfl,rfl⟩ ?_
 rw [hn]
 conv=>whnf
 refine ⟨_,⟨by decide,rfl⟩,?_⟩
 conv=>whnf
 refine ⟨_,⟨by decide,rfl⟩,?_⟩
 conv=>whnf
 refine ⟨.none,⟨by simp only [aa,List.length_cons];omega,.inl rfl⟩,?_⟩
 generalize hT:List.take _ (List.drop _ (ae _))=T
 have hT:T=ae (x::y::r):=by rw [← hT];exact aP (by simp)
 subst hT
 conv=>whnf
 exact b8 rfl rfl rfl rfl
theorem pS (W0:Go.World) (hw:Ws W0) (s nm x:S) (hb:HB bq nm [x]) (k43:Ctr Tryz.prog W0 43 [.sc (.s s),.sc (.s [32])] [] (.sl 1 (ae (bq::nm::[x])) .full) []) (hn:aj nm=true) :
  aD (Ctr Tryz.prog W0) Fs50.ac Fs50.rs [.sc (.s s)] [] (cD bq nm [x] (aL intP aj bq [x])) []:=by
 conv=>whnf
 refine callP.pure _ k43 ⟨rfl,rfl⟩ ?_
 conv=>whnf
 refine ⟨_,⟨by decide,rfl⟩,?_⟩
 conv=>whnf
 refine callP.pure _ (hb.c99 W0 hw) ⟨rfl,rfl⟩ ?_
 rw [hn]
 conv=>whnf
 refine ⟨_,⟨by decide,rfl⟩,?_⟩
 conv=>whnf
 refine ⟨_,⟨by decide,rfl⟩,?_⟩
 conv=>whnf
 refine ⟨.none,⟨by simp only [aa,List.length_cons];omega,.inl rfl⟩,?_⟩
 generalize hT:List.take _ (List.drop _ (ae _))=T
 have hT:T=ae [x]:=by rw [← hT];exact aP (by simp)
 subst hT
 conv=>whnf
 have hg:aL intP aj bq [x]=(intP x||decide (x=[45])):=rfl
 rw [hg]
 refine ⟨_,⟨by decide,rfl⟩,?_⟩
 conv=>whnf
 refine callP.pure _ (hb.c49 W0 hw) ⟨rfl,rfl⟩ ?_
 conv=>whnf
 cases hi:intP x
 ·conv=>whnf
  refine ⟨_,⟨by decide,rfl⟩,?_⟩
  conv=>whnf
  exact b8 rfl rfl rfl rfl
 ·conv=>whnf
  exact b8 rfl rfl rfl rfl
theorem bs50_else (W0:Go.World) (hw:Ws W0) (s k nm:S) (r:List S) (hb:HB k nm r) (k43:Ctr Tryz.prog W0 43 [.sc (.s s),.sc (.s [32])] [] (.sl 1 (ae (k::nm::r)) .full) []) (hn:aj nm=true)
  (h1:k≠a8) (h2:k≠ca) (h3:k≠d8) (h4:k≠br) (h5:k≠cx) (h6:k≠bq) :
  aD (Ctr Tryz.prog W0) Fs50.ac Fs50.rs [.sc (.s s)] [] (cD k nm r (aL intP aj k r)) []:=by
 have hg:aL intP aj k r=false:=by
  unfold aL
  simp only [h1,h2,h3,h4,h5,h6,decide_false,cond_false,Bool.or_false]
  split<;>rfl
 rw [hg]
 conv=>whnf
 refine callP.pure _ k43 ⟨rfl,rfl⟩ ?_
 conv=>whnf
 refine ⟨_,⟨by decide,rfl⟩,?_⟩
 conv=>whnf
 refine callP.pure _ (hb.c99 W0 hw) ⟨rfl,rfl⟩ ?_
 rw [hn]
 conv=>whnf
 refine ⟨_,⟨by decide,rfl⟩,?_⟩
 conv=>whnf
 refine ⟨_,⟨by decide,rfl⟩,?_⟩
 conv=>whnf
 refine ⟨.none,⟨by simp only [aa,List.length_cons];omega,.inl rfl⟩,?_⟩
 generalize hT:List.take _ (List.drop _ (ae _))=T
 have hT:T=ae r:=by rw [← hT];exact aP (by simp)
 subst hT
 conv=>whnf
 refine ap (fun _=>?_) (fun h=>absurd (of_decide_eq_true h) h1)
 conv=>whnf
 refine ap (fun _=>?_) (fun h=>absurd (of_decide_eq_true h) h2)
 match r,hb with
 | [], _ =>
   conv=>whnf
   exact b8 rfl rfl rfl rfl
 | x :: y :: r', _ =>
   conv=>whnf
   exact b8 rfl rfl rfl rfl
 | [x], hb =>
   conv=>whnf
   refine ⟨_,⟨by decide,rfl⟩,?_⟩
   conv=>whnf
   refine callP.pure _ (hb.c49 W0 hw) ⟨rfl,rfl⟩ ?_
   conv=>whnf
   refine ap (fun _=>?_) (fun h=>absurd (of_decide_eq_true h) h3)
   conv=>whnf
   refine ap (fun _=>?_) (fun h=>absurd (of_decide_eq_true h) h4)
   conv=>whnf
   refine ap (fun _=>?_) (fun h=>absurd (of_decide_eq_true h) h5)
   conv=>whnf
   refine ap (fun _=>?_) (fun h=>absurd (of_decide_eq_true h) h6)
   conv=>whnf
   exact b8 rfl rfl rfl rfl
theorem bs50_all (W0:Go.World) (hw:Ws W0) (s k nm:S) (r:List S) (hb:HB k nm r) (k43:Ctr Tryz.prog W0 43 [.sc (.s s),.sc (.s [32])] [] (.sl 1 (ae (k::nm::r)) .full) []) (hn:aj nm=true) :
  aD (Ctr Tryz.prog W0) Fs50.ac Fs50.rs [.sc (.s s)] [] (cD k nm r (aL intP aj k r)) []:=by
 by_cases h1:k=a8
 ·subst h1
  match r,hb,k43 with
  | [],hb,k43=>exact bs50_dom0 W0 hw s nm hb k43 hn
  | [x],hb,k43=>exact bs50_dom1 W0 hw s nm x hb k43 hn
  | x::y::r,hb,k43=>exact bs50_dom2 W0 hw s nm x y r hb k43 hn
 by_cases h2:k=ca
 ·subst h2
  match r,hb,k43 with
  | [],hb,k43=>exact bs50_arr0 W0 hw s nm hb k43 hn
  | x::r,hb,k43=>exact bs50_arr1 W0 hw s nm x r hb k43 hn
 by_cases h3:k=d8
 ·subst h3
  match r,hb,k43 with
  | [],hb,k43=>exact bs50_int0 W0 hw s nm hb k43 hn
  | [x],hb,k43=>exact bs50_int1 W0 hw s nm x hb k43 hn
  | x::y::r,hb,k43=>exact bs50_int2 W0 hw s nm x y r hb k43 hn
 by_cases h4:k=br
 ·subst h4
  match r,hb,k43 with
  | [],hb,k43=>exact pW W0 hw s nm hb k43 hn
  | [x],hb,k43=>exact pV W0 hw s nm x hb k43 hn
  | x::y::r,hb,k43=>exact pU W0 hw s nm x y r hb k43 hn
 by_cases h5:k=cx
 ·subst h5
  match r,hb,k43 with
  | [],hb,k43=>exact bs50_bool0 W0 hw s nm hb k43 hn
  | [x],hb,k43=>exact bs50_bool1 W0 hw s nm x hb k43 hn
  | x::y::r,hb,k43=>exact bs50_bool2 W0 hw s nm x y r hb k43 hn
 by_cases h6:k=bq
 ·subst h6
  match r,hb,k43 with
  | [],hb,k43=>exact pT W0 hw s nm hb k43 hn
  | [x],hb,k43=>exact pS W0 hw s nm x hb k43 hn
  | x::y::r,hb,k43=>exact pR W0 hw s nm x y r hb k43 hn
 exact bs50_else W0 hw s k nm r hb k43 hn h1 h2 h3 h4 h5 h6
def ec (s:S):S × S × List S:=match spl 32 s with
 | k::x::r=>(match aj x with | true=>(k,x,r) | false=>([],[],[]))
 | _=>([],[],[])
theorem cs50 (W0:Go.World) (hw:Ws W0) (s:S) (hl:s.length≤900000):Ctr Tryz.prog W0 50 [.sc (.s s)] [] (cD (ec s).1 (ec s).2.1 (ec s).2.2 (df intP aj s)) []:=by
 have k43:=fK W0 hw.wk s 32 (by omega)
 have hlen:=fJ 32 s
 have hmem:=fun x=>cO 32 s x
 match hs:spl 32 s with
 | []=>exact absurd hs (gA 32 s)
 | [a] =>
   rw [hs] at k43
   rw [show ec s=([],[],[]) by simp only [ec,hs],show df intP aj s=false by simp only [df,hs]]
   exact ak follows qa rfl (fun _ _ h=>by cases h) rfl (by rfl) (bs50_one W0 s a k43)
 | k :: x :: r =>
   rw [hs] at k43 hlen hmem
   have hb:HB k x r:=⟨by have:=hmem x (by simp);omega,by simp only [List.length_cons] at hlen;omega,fun y hy=>by have:=hmem y (by simp [hy]);omega⟩
   cases hn:aj x with
   | false =>
     rw [show ec s=([],[],[]) by simp only [ec,hs,hn],show df intP aj s=false by simp only [df,hs,hn,Bool.false_and]]
     exact ak follows qa rfl (fun _ _ h=>by cases h) rfl (by rfl) (bs50_noname W0 hw s k x r hb k43 hn)
   | true =>
     rw [show ec s=(k,x,r) by simp only [ec,hs,hn],show df intP aj s=aL intP aj k r by simp only [df,hs,hn,Bool.true_and]]
     exact ak follows qa rfl (fun _ _ h=>by cases h) rfl (by rfl) (bs50_all W0 hw s k x r hb k43 hn)
end Go.Abs
