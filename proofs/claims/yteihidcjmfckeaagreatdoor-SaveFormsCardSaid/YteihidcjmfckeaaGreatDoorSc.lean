/- The image that the program reads of a text, whatever comes of it. -/
import Derived.Test.YteihidcjmfckeaaGreatDoorSa
import Derived.Test.YteihidcjmfckeaaGreatDoorS50
set_option linter.all false
set_option maxRecDepth 1000000
set_option maxHeartbeats 16000000
namespace Go.Abs
open Go
theorem kL {L:List S} (h:4≤L.length):∃ l0 l1 B y z,L=l0::l1::(B++[y,z]):=by
 match L,h with
 | l0 :: l1 :: R, h =>
   simp only [List.length_cons] at h
   have h1:R≠[]:=by intro e;subst e;simp at h
   obtain ⟨R1,z,rfl⟩:∃ R1 z,R=R1++[z]:=⟨R.dropLast,R.getLast h1,(List.dropLast_concat_getLast h1).symm⟩
   simp only [List.length_append,List.length_cons,List.length_nil] at h
   have h2:R1≠[]:=by intro e;subst e;simp at h
   obtain ⟨B,y,rfl⟩:∃ R2 y,R1=R2++[y]:=⟨R1.dropLast,R1.getLast h2,(List.dropLast_concat_getLast h2).symm⟩
   exact ⟨l0,l1,B,y,z,by simp⟩
def entD (s:S):List Data:=[.sc (.s (ec s).1),.sc (.s (ec s).2.1),.lst 1 (ae (ec s).2.2)]
def eV (l:List S):List (List Data):=l.map entD
theorem cn (l:List S):(eV l).length=l.length:=by simp [eV]
theorem ja {l:List S} {k:Nat} {x:S} (h:l[k]? = some x):eV (l.take (k+1))=eV (l.take k)++[entD x]:=by
 rw [bu h];simp [eV]
def bW (d st md:Int) (o:List S) (es:List S):AV:=.agg [.sc (.i .i64 d),.sc (.i .i64 st),.sc (.i .i64 md),.sl 1 (ae o) .none,.sl 3 (eV es) .none]
def mO (g:S→Bool):List S→Nat
 | []=>0
 | x::r=>bif g x then mO g r+1 else 0
theorem fv {g:S→Bool}:∀ {l:List S},l.all g=true→mO g l=l.length
 | [],_=>rfl
 | x :: r, h => by
   simp only [List.all_cons,Bool.and_eq_true] at h
   rw [mO,h.1,fv h.2];rfl
theorem goodN_at {g:S→Bool}:∀ {l:List S} {k:Nat} {x:S},(l.take k).all g=true→l[k]? = some x→g x=false→mO g l=k
 | y::r,0,x,_,hx,hg=>by simp at hx;subst hx;rw [mO,hg];rfl
 | y :: r, k + 1, x, h, hx, hg => by
   simp only [List.take_succ_cons,List.all_cons,Bool.and_eq_true] at h
   rw [mO,h.1,goodN_at (k:=k) h.2 (by simpa using hx) hg];rfl
end Go.Abs
namespace Go.Abs
open Go.Proofs
open K in
def Fs27:Fn:=⟨.seq (.reg [n (.alloc 2 [.sc (.i .i64 0),.sc (.i .i64 0),.sc (.i .i64 0),.sl 1 [] .full,.sl 3 [] .full]),n (mb 3 false)]) (.seq (.reg [n (.alloc 4 [.sc (.i .i64 0),.sc (.i .i64 0),.sc (.i .i64 0),.sl 1 [] .full,.sl 3 [] .full])]) (.seq (.reg [m 16 0,n (cf 17 43 [.t 16,.c (.sc (.s [10]))]),m 5 17]) (.seq (.seq (.reg [m 18 5,n (.len 19 (.t 18)),n (bi 20 .lss 19 4),m 21 20,gm 21 22 5,gm 21 23 5,g 21 (.len 24 (.t 23)),g 21 (bi 25 .sub 24 1),g 21 (ix 26 1 22 25),g 21 (ld 27 26),g 21 (bs 28 .neq 27 []),n (pt 29 21 28),m 30 29,gm 30 31 5,gm 30 32 5,g 30 (.len 33 (.t 32)),g 30 (bi 34 .sub 33 2),g 30 (ix 35 1 31 34),g 30 (ld 36 35),g 30 (bs 37 .neq 36 [101,110,100]),n (pt 38 30 37)]) (.cond (.t 38) (.seq (.reg [n (.ld 39 5 true (.t 4)),n (.st (.t 2) 5 (.t 39)),n (mb 3 false)]) .ret) .skip)) (.seq (.reg [m 40 5,m 41 5,n (.len 42 (.t 41)),n (bi 43 .sub 42 2),n (.slL 44 1 (.t 40) none (some (.t 43)) none),m 5 44]) (.seq (.reg [m 45 5,n (.ia 46 1 (.t 45) (.c (.sc (.i .i64 0)))),n (ld 47 46),n (cf 48 43 [.t 47,.c (.sc (.s [32]))]),m 6 48]) (.seq (.seq (.reg [m 49 6,n (.len 50 (.t 49)),n (bi 51 .neq 50 4),m 52 51,gm 52 53 6,g 52 (.ia 54 1 (.t 53) (.c (.sc (.i .i64 0)))),g 52 (ld 55 54),g 52 (bs 56 .neq 55 [105,109,97,103,101]),n (pt 57 52 56)]) (.cond (.t 57) (.seq (.reg [n (.ld 58 5 true (.t 4)),n (.st (.t 2) 5 (.t 58)),n (mb 3 false)]) .ret) .skip)) (.seq (.reg [m 60 6,n (.slL 61 1 (.t 60) (some (.c (.sc (.i .i64 1)))) none none),n (cf 62 44 [.t 61]),m 59 62,n (ext 63 59 0),n (ext 64 59 1),m 7 63,m 8 64]) (.seq (.seq (.reg [m 65 8,n (.no 66 (.t 65))]) (.cond (.t 66) (.seq (.reg [n (.ld 67 5 true (.t 4)),n (.st (.t 2) 5 (.t 67)),n (mb 3 false)]) .ret) .skip)) (.seq (.regD [m 68 7,n (.ia 69 1 (.t 68) (.c (.sc (.i .i64 0)))),n (ld 70 69),m 71 7,n (.ia 72 1 (.t 71) (.c (.sc (.i .i64 1)))),n (ld 73 72),m 74 7,n (.ia 75 1 (.t 74) (.c (.sc (.i .i64 2)))),n (ld 76 75),n (fa 77 4 0),n (.st (.t 77) 1 (.t 70)),n (fa 78 4 1),n (.st (.t 78) 1 (.t 73)),n (fa 79 4 2),n (.st (.t 79) 1 (.t 76))] [0,1,3,0,8,24,0,64,192,7,519,1599,3647,8191,16383]) (.seq (.reg [m 81 5,n (.ia 82 1 (.t 81) (.c (.sc (.i .i64 1)))),n (ld 83 82),n (cf 84 45 [.t 83,.c (.sc (.s [111,117,116,32]))]),m 80 84,n (ext 85 80 0),n (ext 86 80 1),m 9 85,m 8 86]) (.seq (.reg [m 88 9,n (cf 89 46 [.t 88]),m 87 89,n (ext 90 87 0),n (ext 91 87 1),m 10 90,m 11 91]) (.seq (.seq (.reg [m 92 8,n (.no 93 (.t 92)),m 94 93,gm 94 95 11,g 94 (.no 96 (.t 95)),n (pt 97 94 96),m 98 97,gm 98 99 10,gm 98 100 5,g 98 (.len 101 (.t 100)),g 98 (bi 102 .sub 101 2),g 98 (b2 103 .gtr 99 102),n (pt 104 98 103)]) (.cond (.t 104) (.seq (.reg [n (.ld 105 5 true (.t 4)),n (.st (.t 2) 5 (.t 105)),n (mb 3 false)]) .ret) .skip)) (.seq (.reg [m 106 5,m 107 10,n (.bin 108 .add (.c (.sc (.i .i64 2))) (.t 107)),n (.slL 109 1 (.t 106) (some (.c (.sc (.i .i64 2)))) (some (.t 108)) none),n (fa 110 4 3),n (.st (.t 110) 1 (.t 109))]) (.seq (.seq (.reg [n (fa 111 4 3),n (ld 112 111),n (cf 113 47 [.t 112,.c (.fn 48 [])])]) (.cond (.t 113) (.seq (.reg [n (.ld 114 5 true (.t 4)),n (.st (.t 2) 5 (.t 114)),n (mb 3 false)]) .ret) .skip)) (.seq (.seq (.reg [m 115 5,m 116 10,n (.bin 117 .add (.c (.sc (.i .i64 2))) (.t 116)),n (.slL 118 1 (.t 115) (some (.t 117)) none none),n (.len 119 (.t 118)),n (mi 120 0)]) (.block 0 (.loop (.seq (.reg [n (b2 121 .lss 120 119)]) (.seq (.cond (.t 121) .skip (.exit 0)) (.seq (.block 1 (.seq (.reg [n (ix 122 1 118 120),n (ld 123 122),m 13 123]) (.seq (.reg [m 125 13,n (cf 126 50 [.t 125]),m 124 126,n (ext 127 124 0),n (ext 128 124 1),n (.alloc 14 [.sc (.s []),.sc (.s []),.sl 1 [] .full]),n (.st (.t 14) 3 (.t 127)),m 15 128]) (.seq (.seq (.reg [m 129 15,n (.no 130 (.t 129))]) (.cond (.t 130) (.seq (.reg [n (.ld 131 5 true (.t 4)),n (.st (.t 2) 5 (.t 131)),n (mb 3 false)]) .ret) .skip)) (.reg [n (fa 132 4 4),n (ld 133 132),n (.ld 134 3 true (.t 14)),n (.bsl 135 3 [.t 134]),n (.app 136 3 56 (.t 133) (.t 135)),n (fa 137 4 4),n (.st (.t 137) 1 (.t 136))]))))) (.reg [n (bi 138 .add 120 1),m 120 138]))))))) (.seq (.reg [n (.ld 139 5 true (.t 4)),n (.st (.t 2) 5 (.t 139)),n (mb 3 true)]) .ret)))))))))))))))),[(2,5),(3,0)],140,[]⟩
theorem qb:aI Tryz.prog (fun _=>an0) 27=some Fs27:=by kernel_rfl
theorem cy (l0 l1:S) (B:List S) (y z:S) {n:Int} (hn:n=(((ae (l0::l1::(B++[y,z]))).length:Nat):Int) - 1:=by rfl):(ae (l0::l1::(B++[y,z])))[n.toNat]? = some [.sc (.s z)]:=by
 have e:n.toNat=B.length+3:=by rw [hn,aa];simp only [List.length_cons,List.length_append,List.length_nil];omega
 rw [e]
 refine bD ?_
 simp
theorem cM (l0 l1:S) (B:List S) (y z:S) {n:Int} (hn:n=(((ae (l0::l1::(B++[y,z]))).length:Nat):Int) - 2:=by rfl):(ae (l0::l1::(B++[y,z])))[n.toNat]? = some [.sc (.s y)]:=by
 have e:n.toNat=B.length+2:=by rw [hn,aa];simp only [List.length_cons,List.length_append,List.length_nil];omega
 rw [e]
 refine bD ?_
 simp
theorem kE (l0 l1:S) (B:List S) (y z:S) {n:Nat} (hn:n=B.length+2):List.take n (List.drop 0 (ae (l0::l1::(B++[y,z]))))=ae (l0::l1::B):=by
 subst hn
 have h1:ae (l0::l1::(B++[y,z]))=ae (l0::l1::B)++ae [y,z]:=by simp [ae]
 rw [List.drop_zero,h1]
 refine (List.take_append_of_le_length ?_).trans ?_
 ·simp [ae]
 ·refine List.take_of_length_le ?_
  simp [ae]
theorem bV {σ:Log} {d st md d' st' md':Int} {o o':List (List Data)} {e e':List (List Data)} {t t':Tok} {b b':Bool} (h1:d'=d) (h2:st'=st) (h3:md'=md) (h4:o'=o) (h5:e'=e) (h6:b'=b) :
  FinOK σ (.tup [.agg [.sc (.i .i64 d'),.sc (.i .i64 st'),.sc (.i .i64 md'),.sl 1 o' t,.sl 3 e' t'],.sc (.b b')]) 0 0 (.tup [.agg [.sc (.i .i64 d),.sc (.i .i64 st),.sc (.i .i64 md),.sl 1 o .none,.sl 3 e .none],.sc (.b b)]) []:=by
 subst h1;subst h2;subst h3;subst h4;subst h5;subst h6
 exact jN rfl ⟨⟨rfl,rfl,rfl,⟨rfl,rfl,.inl rfl⟩,⟨rfl,rfl,.inl rfl⟩,trivial⟩,rfl,trivial⟩ rfl
theorem mid2 (l0 l1:S) (B:List S) (k:Nat) {n m:Nat} (hm:m=2) (hn:n=k):List.take n (List.drop m (ae (l0::l1::B)))=ae (B.take k):=by
 subst hm;subst hn
 simp [ae,List.map_take]
theorem end2 (l0 l1:S) (B:List S) (k:Nat) {n m:Nat} (hm:m=k+2) (hn:B.length≤n+k):List.take n (List.drop m (ae (l0::l1::B)))=ae (B.drop k):=by
 subst hm
 have h1:List.drop (k+2) (ae (l0::l1::B))=ae (B.drop k):=by simp [ae,List.map_drop]
 rw [h1]
 refine List.take_of_length_le ?_
 rw [aa,List.length_drop]
 omega
theorem bs27_short (W0:Go.World) (s:S) (Ls:List S) (hL:Ls.length<4) (k43a:Ctr Tryz.prog W0 43 [.sc (.s s),.sc (.s [10])] [] (.sl 1 (ae Ls) .full) []) :
  aD (Ctr Tryz.prog W0) Fs27.ac Fs27.rs [.sc (.s s)] [] (.tup [bW 0 0 0 [] [],.sc (.b false)]) []:=by
 refine ab (m:=1200) rfl fun K hK=>?_
 conv=>whnf
 refine hK _ ?_
 clear hK
 clear K
 refine ab (m:=1300) rfl fun K hK=>?_
 conv=>whnf
 refine hK _ ?_
 clear hK
 clear K
 refine ab (m:=1600) rfl fun K hK=>?_
 conv=>whnf
 refine callP.pure _ k43a ⟨rfl,rfl⟩ ?_
 conv=>whnf
 refine hK _ ?_
 clear hK
 clear K
 refine ah ?_
 refine ab (m:=3700) rfl fun K hK=>?_
 conv=>whnf
 refine ap (fun h=>absurd (of_decide_eq_false h) (by rw [aa];omega)) (fun _=>?_)
 conv=>whnf
 refine hK _ ?_
 clear hK
 clear K
 refine al true rfl (fun h=>absurd h (by decide)) (fun _=>?_)
 conv=>whnf
 exact bV rfl rfl rfl rfl rfl rfl
theorem bs27_last (W0:Go.World) (hw:Ws W0) (s l0 l1 y z:S) (B:List S) (hB:B.length≤900000) (k43a:Ctr Tryz.prog W0 43 [.sc (.s s),.sc (.s [10])] [] (.sl 1 (ae (l0::l1::(B++[y,z]))) .full) []) (hz:z≠[]) :
  aD (Ctr Tryz.prog W0) Fs27.ac Fs27.rs [.sc (.s s)] [] (.tup [bW 0 0 0 [] [],.sc (.b false)]) []:=by
 refine ab (m:=1200) rfl fun K hK=>?_
 conv=>whnf
 refine hK _ ?_
 clear hK
 clear K
 refine ab (m:=1300) rfl fun K hK=>?_
 conv=>whnf
 refine hK _ ?_
 clear hK
 clear K
 refine ab (m:=1600) rfl fun K hK=>?_
 conv=>whnf
 refine callP.pure _ k43a ⟨rfl,rfl⟩ ?_
 conv=>whnf
 refine hK _ ?_
 clear hK
 clear K
 refine ah ?_
 refine ab (m:=3700) rfl fun K hK=>?_
 conv=>whnf
 refine ap (fun h=>?_) (fun h=>absurd (of_decide_eq_true h) (by simp only [aa,List.length_cons,List.length_append,List.length_nil];omega))
 conv=>whnf
 refine And.intro (by simp only [aa,List.length_cons,List.length_append,List.length_nil];constructor<;>omega) ?_
 conv=>whnf
 refine ⟨_,⟨by simp only [aa,List.length_cons,List.length_append,List.length_nil];omega,cy _ _ _ _ _⟩,?_⟩
 conv=>whnf
 refine ap (fun h=>absurd h (by simp [aH,hz])) (fun _=>?_)
 conv=>whnf
 refine hK _ ?_
 clear hK
 clear K
 refine al true rfl (fun h=>absurd h (by decide)) (fun _=>?_)
 conv=>whnf
 exact bV rfl rfl rfl rfl rfl rfl
theorem bs27_end (W0:Go.World) (hw:Ws W0) (s l0 l1 y z:S) (B:List S) (hB:B.length≤900000) (k43a:Ctr Tryz.prog W0 43 [.sc (.s s),.sc (.s [10])] [] (.sl 1 (ae (l0::l1::(B++[y,z]))) .full) []) (hz:z=[]) (hy:y≠cu) :
  aD (Ctr Tryz.prog W0) Fs27.ac Fs27.rs [.sc (.s s)] [] (.tup [bW 0 0 0 [] [],.sc (.b false)]) []:=by
 subst hz
 refine ab (m:=1200) rfl fun K hK=>?_
 conv=>whnf
 refine hK _ ?_
 clear hK
 clear K
 refine ab (m:=1300) rfl fun K hK=>?_
 conv=>whnf
 refine hK _ ?_
 clear hK
 clear K
 refine ab (m:=1600) rfl fun K hK=>?_
 conv=>whnf
 refine callP.pure _ k43a ⟨rfl,rfl⟩ ?_
 conv=>whnf
 refine hK _ ?_
 clear hK
 clear K
 refine ah ?_
 refine ab (m:=3700) rfl fun K hK=>?_
 conv=>whnf
 refine ap (fun h=>?_) (fun h=>absurd (of_decide_eq_true h) (by simp only [aa,List.length_cons,List.length_append,List.length_nil];omega))
 conv=>whnf
 refine And.intro (by simp only [aa,List.length_cons,List.length_append,List.length_nil];constructor<;>omega) ?_
 conv=>whnf
 refine ⟨_,⟨by simp only [aa,List.length_cons,List.length_append,List.length_nil];omega,cy _ _ _ _ _⟩,?_⟩
 conv=>whnf
 refine And.intro (by simp only [aa,List.length_cons,List.length_append,List.length_nil];constructor<;>omega) ?_
 conv=>whnf
 refine ⟨_,⟨by simp only [aa,List.length_cons,List.length_append,List.length_nil];omega,cM _ _ _ _ _⟩,?_⟩
 conv=>whnf
 refine hK _ ?_
 clear hK
 clear K
 refine al _ rfl (fun h=>absurd h (by simp only [aH,Bool.not_eq_false',decide_eq_true_eq];exact hy)) (fun _=>?_)
 conv=>whnf
 exact bV rfl rfl rfl rfl rfl rfl
theorem bs27_hlen (W0:Go.World) (hw:Ws W0) (s l0 l1 y z:S) (B:List S) (hB:B.length≤900000) (k43a:Ctr Tryz.prog W0 43 [.sc (.s s),.sc (.s [10])] [] (.sl 1 (ae (l0::l1::(B++[y,z]))) .full) []) (hz:z=[]) (hy:y=cu) (W:List S) (hW:W.length≠4) (k43b:Ctr Tryz.prog W0 43 [.sc (.s l0),.sc (.s [32])] [] (.sl 1 (ae W) .full) []) :
  aD (Ctr Tryz.prog W0) Fs27.ac Fs27.rs [.sc (.s s)] [] (.tup [bW 0 0 0 [] [],.sc (.b false)]) []:=by
 subst hz
 subst hy
 refine ab (m:=1200) rfl fun K hK=>?_
 conv=>whnf
 refine hK _ ?_
 clear hK
 clear K
 refine ab (m:=1300) rfl fun K hK=>?_
 conv=>whnf
 refine hK _ ?_
 clear hK
 clear K
 refine ab (m:=1600) rfl fun K hK=>?_
 conv=>whnf
 refine callP.pure _ k43a ⟨rfl,rfl⟩ ?_
 conv=>whnf
 refine hK _ ?_
 clear hK
 clear K
 refine ah ?_
 refine ab (m:=3700) rfl fun K hK=>?_
 conv=>whnf
 refine ap (fun h=>?_) (fun h=>absurd (of_decide_eq_true h) (by simp only [aa,List.length_cons,List.length_append,List.length_nil];omega))
 conv=>whnf
 refine And.intro (by simp only [aa,List.length_cons,List.length_append,List.length_nil];constructor<;>omega) ?_
 conv=>whnf
 refine ⟨_,⟨by simp only [aa,List.length_cons,List.length_append,List.length_nil];omega,cy _ _ _ _ _⟩,?_⟩
 conv=>whnf
 refine And.intro (by simp only [aa,List.length_cons,List.length_append,List.length_nil];constructor<;>omega) ?_
 conv=>whnf
 refine ⟨_,⟨by simp only [aa,List.length_cons,List.length_append,List.length_nil];omega,cM _ _ _ _ _⟩,?_⟩
 conv=>whnf
 refine hK _ ?_
 clear hK
 clear K
 refine al false rfl (fun _=>?_) (fun h=>absurd h (by decide))
 refine aw ?_
 refine ab (m:=4300) rfl fun K hK=>?_
 conv=>whnf
 refine And.intro (by simp only [aa,List.length_cons,List.length_append,List.length_nil];constructor<;>omega) ?_
 conv=>whnf
 refine ⟨.none,⟨by simp only [aa,List.length_cons,List.length_append,List.length_nil];omega,.inl rfl⟩,?_⟩
 generalize hT:List.take _ (List.drop _ (ae _))=T
 have hT:T=ae (l0::l1::B):=by rw [← hT];exact kE _ _ _ _ _ (by simp only [aa,List.length_cons,List.length_append,List.length_nil];omega)
 subst hT
 conv=>whnf
 refine hK _ ?_
 clear hK
 clear K
 refine ab (m:=4800) rfl fun K hK=>?_
 conv=>whnf
 refine ⟨_,⟨by decide,rfl⟩,?_⟩
 conv=>whnf
 refine callP.pure _ k43b ⟨rfl,rfl⟩ ?_
 conv=>whnf
 refine hK _ ?_
 clear hK
 clear K
 refine ah ?_
 refine ab (m:=5700) rfl fun K hK=>?_
 conv=>whnf
 refine ap (fun h=>absurd h (by simp only [aa,Bool.not_eq_false',decide_eq_true_eq];omega)) (fun _=>?_)
 conv=>whnf
 refine hK _ ?_
 clear hK
 clear K
 refine al true rfl (fun h=>absurd h (by decide)) (fun _=>?_)
 conv=>whnf
 exact bV rfl rfl rfl rfl rfl rfl
theorem bs27_hname (W0:Go.World) (hw:Ws W0) (s l0 l1 y z:S) (B:List S) (hB:B.length≤900000) (k43a:Ctr Tryz.prog W0 43 [.sc (.s s),.sc (.s [10])] [] (.sl 1 (ae (l0::l1::(B++[y,z]))) .full) []) (hz:z=[]) (hy:y=cu) (a w1 w2 w3:S) (ha:a≠ba) (k43b:Ctr Tryz.prog W0 43 [.sc (.s l0),.sc (.s [32])] [] (.sl 1 (ae [a,w1,w2,w3]) .full) []) :
  aD (Ctr Tryz.prog W0) Fs27.ac Fs27.rs [.sc (.s s)] [] (.tup [bW 0 0 0 [] [],.sc (.b false)]) []:=by
 subst hz
 subst hy
 refine ab (m:=1200) rfl fun K hK=>?_
 conv=>whnf
 refine hK _ ?_
 clear hK
 clear K
 refine ab (m:=1300) rfl fun K hK=>?_
 conv=>whnf
 refine hK _ ?_
 clear hK
 clear K
 refine ab (m:=1600) rfl fun K hK=>?_
 conv=>whnf
 refine callP.pure _ k43a ⟨rfl,rfl⟩ ?_
 conv=>whnf
 refine hK _ ?_
 clear hK
 clear K
 refine ah ?_
 refine ab (m:=3700) rfl fun K hK=>?_
 conv=>whnf
 refine ap (fun h=>?_) (fun h=>absurd (of_decide_eq_true h) (by simp only [aa,List.length_cons,List.length_append,List.length_nil];omega))
 conv=>whnf
 refine And.intro (by simp only [aa,List.length_cons,List.length_append,List.length_nil];constructor<;>omega) ?_
 conv=>whnf
 refine ⟨_,⟨by simp only [aa,List.length_cons,List.length_append,List.length_nil];omega,cy _ _ _ _ _⟩,?_⟩
 conv=>whnf
 refine And.intro (by simp only [aa,List.length_cons,List.length_append,List.length_nil];constructor<;>omega) ?_
 conv=>whnf
 refine ⟨_,⟨by simp only [aa,List.length_cons,List.length_append,List.length_nil];omega,cM _ _ _ _ _⟩,?_⟩
 conv=>whnf
 refine hK _ ?_
 clear hK
 clear K
 refine al false rfl (fun _=>?_) (fun h=>absurd h (by decide))
 refine aw ?_
 refine ab (m:=4300) rfl fun K hK=>?_
 conv=>whnf
 refine And.intro (by simp only [aa,List.length_cons,List.length_append,List.length_nil];constructor<;>omega) ?_
 conv=>whnf
 refine ⟨.none,⟨by simp only [aa,List.length_cons,List.length_append,List.length_nil];omega,.inl rfl⟩,?_⟩
 generalize hT:List.take _ (List.drop _ (ae _))=T
 have hT:T=ae (l0::l1::B):=by rw [← hT];exact kE _ _ _ _ _ (by simp only [aa,List.length_cons,List.length_append,List.length_nil];omega)
 subst hT
 conv=>whnf
 refine hK _ ?_
 clear hK
 clear K
 refine ab (m:=4800) rfl fun K hK=>?_
 conv=>whnf
 refine ⟨_,⟨by decide,rfl⟩,?_⟩
 conv=>whnf
 refine callP.pure _ k43b ⟨rfl,rfl⟩ ?_
 conv=>whnf
 refine hK _ ?_
 clear hK
 clear K
 refine ah ?_
 refine ab (m:=5700) rfl fun K hK=>?_
 conv=>whnf
 refine ⟨_,⟨by decide,rfl⟩,?_⟩
 conv=>whnf
 refine hK _ ?_
 clear hK
 clear K
 refine al _ rfl (fun h=>absurd h (by simp only [aH,Bool.not_eq_false',decide_eq_true_eq];exact ha)) (fun _=>?_)
 conv=>whnf
 exact bV rfl rfl rfl rfl rfl rfl
theorem bs27_nums (W0:Go.World) (hw:Ws W0) (s l0 l1 y z:S) (B:List S) (hB:B.length≤900000) (k43a:Ctr Tryz.prog W0 43 [.sc (.s s),.sc (.s [10])] [] (.sl 1 (ae (l0::l1::(B++[y,z]))) .full) []) (hz:z=[]) (hy:y=cu) (w1 w2 w3:S) (k43b:Ctr Tryz.prog W0 43 [.sc (.s l0),.sc (.s [32])] [] (.sl 1 (ae [ba,w1,w2,w3]) .full) []) (k44:Ctr Tryz.prog W0 44 [bU [w1,w2,w3]] [] (.tup [.sl 1 [] .none,.sc (.b false)]) []) :
  aD (Ctr Tryz.prog W0) Fs27.ac Fs27.rs [.sc (.s s)] [] (.tup [bW 0 0 0 [] [],.sc (.b false)]) []:=by
 subst hz
 subst hy
 refine ab (m:=1200) rfl fun K hK=>?_
 conv=>whnf
 refine hK _ ?_
 clear hK
 clear K
 refine ab (m:=1300) rfl fun K hK=>?_
 conv=>whnf
 refine hK _ ?_
 clear hK
 clear K
 refine ab (m:=1600) rfl fun K hK=>?_
 conv=>whnf
 refine callP.pure _ k43a ⟨rfl,rfl⟩ ?_
 conv=>whnf
 refine hK _ ?_
 clear hK
 clear K
 refine ah ?_
 refine ab (m:=3700) rfl fun K hK=>?_
 conv=>whnf
 refine ap (fun h=>?_) (fun h=>absurd (of_decide_eq_true h) (by simp only [aa,List.length_cons,List.length_append,List.length_nil];omega))
 conv=>whnf
 refine And.intro (by simp only [aa,List.length_cons,List.length_append,List.length_nil];constructor<;>omega) ?_
 conv=>whnf
 refine ⟨_,⟨by simp only [aa,List.length_cons,List.length_append,List.length_nil];omega,cy _ _ _ _ _⟩,?_⟩
 conv=>whnf
 refine And.intro (by simp only [aa,List.length_cons,List.length_append,List.length_nil];constructor<;>omega) ?_
 conv=>whnf
 refine ⟨_,⟨by simp only [aa,List.length_cons,List.length_append,List.length_nil];omega,cM _ _ _ _ _⟩,?_⟩
 conv=>whnf
 refine hK _ ?_
 clear hK
 clear K
 refine al false rfl (fun _=>?_) (fun h=>absurd h (by decide))
 refine aw ?_
 refine ab (m:=4300) rfl fun K hK=>?_
 conv=>whnf
 refine And.intro (by simp only [aa,List.length_cons,List.length_append,List.length_nil];constructor<;>omega) ?_
 conv=>whnf
 refine ⟨.none,⟨by simp only [aa,List.length_cons,List.length_append,List.length_nil];omega,.inl rfl⟩,?_⟩
 generalize hT:List.take _ (List.drop _ (ae _))=T
 have hT:T=ae (l0::l1::B):=by rw [← hT];exact kE _ _ _ _ _ (by simp only [aa,List.length_cons,List.length_append,List.length_nil];omega)
 subst hT
 conv=>whnf
 refine hK _ ?_
 clear hK
 clear K
 refine ab (m:=4800) rfl fun K hK=>?_
 conv=>whnf
 refine ⟨_,⟨by decide,rfl⟩,?_⟩
 conv=>whnf
 refine callP.pure _ k43b ⟨rfl,rfl⟩ ?_
 conv=>whnf
 refine hK _ ?_
 clear hK
 clear K
 refine ah ?_
 refine ab (m:=5700) rfl fun K hK=>?_
 conv=>whnf
 refine ⟨_,⟨by decide,rfl⟩,?_⟩
 conv=>whnf
 refine hK _ ?_
 clear hK
 clear K
 refine al false rfl (fun _=>?_) (fun h=>absurd h (by decide))
 refine aw ?_
 refine ab (m:=6500) rfl fun K hK=>?_
 conv=>whnf
 refine ⟨.none,⟨by simp only [aa,List.length_cons,List.length_append,List.length_nil];omega,.inl rfl⟩,?_⟩
 generalize hT:List.take _ (List.drop _ (ae _))=T
 have hT:T=ae [w1,w2,w3]:=by rw [← hT];exact cr (r:=[ba,w1,w2,w3]) (by simp)
 subst hT
 conv=>whnf
 refine callP.pure _ k44 ⟨rfl,rfl⟩ ?_
 conv=>whnf
 refine hK _ ?_
 clear hK
 clear K
 refine ah ?_
 refine ab (m:=6700) rfl fun K hK=>?_
 conv=>whnf
 refine hK _ ?_
 clear hK
 clear K
 refine al true rfl (fun h=>absurd h (by decide)) (fun _=>?_)
 conv=>whnf
 exact bV rfl rfl rfl rfl rfl rfl
theorem bs27_many0 (W0:Go.World) (hw:Ws W0) (s l0 l1 y z:S) (B:List S) (hB:B.length≤900000) (k43a:Ctr Tryz.prog W0 43 [.sc (.s s),.sc (.s [10])] [] (.sl 1 (ae (l0::l1::(B++[y,z]))) .full) []) (hz:z=[]) (hy:y=cu) (w1 w2 w3:S) (k43b:Ctr Tryz.prog W0 43 [.sc (.s l0),.sc (.s [32])] [] (.sl 1 (ae [ba,w1,w2,w3]) .full) []) (k44:Ctr Tryz.prog W0 44 [bU [w1,w2,w3]] [] (.tup [.sl 1 (eA atoiN [w1,w2,w3]) .none,.sc (.b true)]) []) (x:S) (k45:Ctr Tryz.prog W0 45 [.sc (.s l1),.sc (.s [111,117,116,32])] [] (.tup [.sc (.s x),.sc (.b false)]) []) (n:Int) (c:Bool) (k46:Ctr Tryz.prog W0 46 [.sc (.s x)] [] (.tup [.sc (.i .i64 n),.sc (.b c)]) []) :
  aD (Ctr Tryz.prog W0) Fs27.ac Fs27.rs [.sc (.s s)] [] (.tup [bW (atoiN w1) (atoiN w2) (atoiN w3) [] [],.sc (.b false)]) []:=by
 subst hz
 subst hy
 refine ab (m:=1200) rfl fun K hK=>?_
 conv=>whnf
 refine hK _ ?_
 clear hK
 clear K
 refine ab (m:=1300) rfl fun K hK=>?_
 conv=>whnf
 refine hK _ ?_
 clear hK
 clear K
 refine ab (m:=1600) rfl fun K hK=>?_
 conv=>whnf
 refine callP.pure _ k43a ⟨rfl,rfl⟩ ?_
 conv=>whnf
 refine hK _ ?_
 clear hK
 clear K
 refine ah ?_
 refine ab (m:=3700) rfl fun K hK=>?_
 conv=>whnf
 refine ap (fun h=>?_) (fun h=>absurd (of_decide_eq_true h) (by simp only [aa,List.length_cons,List.length_append,List.length_nil];omega))
 conv=>whnf
 refine And.intro (by simp only [aa,List.length_cons,List.length_append,List.length_nil];constructor<;>omega) ?_
 conv=>whnf
 refine ⟨_,⟨by simp only [aa,List.length_cons,List.length_append,List.length_nil];omega,cy _ _ _ _ _⟩,?_⟩
 conv=>whnf
 refine And.intro (by simp only [aa,List.length_cons,List.length_append,List.length_nil];constructor<;>omega) ?_
 conv=>whnf
 refine ⟨_,⟨by simp only [aa,List.length_cons,List.length_append,List.length_nil];omega,cM _ _ _ _ _⟩,?_⟩
 conv=>whnf
 refine hK _ ?_
 clear hK
 clear K
 refine al false rfl (fun _=>?_) (fun h=>absurd h (by decide))
 refine aw ?_
 refine ab (m:=4300) rfl fun K hK=>?_
 conv=>whnf
 refine And.intro (by simp only [aa,List.length_cons,List.length_append,List.length_nil];constructor<;>omega) ?_
 conv=>whnf
 refine ⟨.none,⟨by simp only [aa,List.length_cons,List.length_append,List.length_nil];omega,.inl rfl⟩,?_⟩
 generalize hT:List.take _ (List.drop _ (ae _))=T
 have hT:T=ae (l0::l1::B):=by rw [← hT];exact kE _ _ _ _ _ (by simp only [aa,List.length_cons,List.length_append,List.length_nil];omega)
 subst hT
 conv=>whnf
 refine hK _ ?_
 clear hK
 clear K
 refine ab (m:=4800) rfl fun K hK=>?_
 conv=>whnf
 refine ⟨_,⟨by decide,rfl⟩,?_⟩
 conv=>whnf
 refine callP.pure _ k43b ⟨rfl,rfl⟩ ?_
 conv=>whnf
 refine hK _ ?_
 clear hK
 clear K
 refine ah ?_
 refine ab (m:=5700) rfl fun K hK=>?_
 conv=>whnf
 refine ⟨_,⟨by decide,rfl⟩,?_⟩
 conv=>whnf
 refine hK _ ?_
 clear hK
 clear K
 refine al false rfl (fun _=>?_) (fun h=>absurd h (by decide))
 refine aw ?_
 refine ab (m:=6500) rfl fun K hK=>?_
 conv=>whnf
 refine ⟨.none,⟨by simp only [aa,List.length_cons,List.length_append,List.length_nil];omega,.inl rfl⟩,?_⟩
 generalize hT:List.take _ (List.drop _ (ae _))=T
 have hT:T=ae [w1,w2,w3]:=by rw [← hT];exact cr (r:=[ba,w1,w2,w3]) (by simp)
 subst hT
 conv=>whnf
 refine callP.pure _ k44 ⟨rfl,rfl⟩ ?_
 conv=>whnf
 refine hK _ ?_
 clear hK
 clear K
 refine ah ?_
 refine ab (m:=6700) rfl fun K hK=>?_
 conv=>whnf
 refine hK _ ?_
 clear hK
 clear K
 refine al false rfl (fun _=>?_) (fun h=>absurd h (by decide))
 refine aw ?_
 refine gB (m:=8200) rfl fun K hK=>?_
 conv=>whnf
 refine ⟨_,⟨by decide,rfl⟩,?_⟩
 conv=>whnf
 refine ⟨_,⟨by decide,rfl⟩,?_⟩
 conv=>whnf
 refine ⟨_,⟨by decide,rfl⟩,?_⟩
 conv=>whnf
 refine hK _ ?_
 clear hK
 clear K
 refine ab (m:=9100) rfl fun K hK=>?_
 conv=>whnf
 refine ⟨_,⟨by decide,rfl⟩,?_⟩
 conv=>whnf
 refine callP.pure _ k45 ⟨rfl,rfl⟩ ?_
 conv=>whnf
 refine hK _ ?_
 clear hK
 clear K
 refine ab (m:=9800) rfl fun K hK=>?_
 conv=>whnf
 refine callP.pure _ k46 ⟨rfl,rfl⟩ ?_
 conv=>whnf
 refine hK _ ?_
 clear hK
 clear K
 refine ah ?_
 refine ab (m:=11100) rfl fun K hK=>?_
 conv=>whnf
 refine hK _ ?_
 clear hK
 clear K
 refine al true rfl (fun h=>absurd h (by decide)) (fun _=>?_)
 conv=>whnf
 exact bV rfl rfl rfl rfl rfl rfl
theorem bs27_many1 (W0:Go.World) (hw:Ws W0) (s l0 l1 y z:S) (B:List S) (hB:B.length≤900000) (k43a:Ctr Tryz.prog W0 43 [.sc (.s s),.sc (.s [10])] [] (.sl 1 (ae (l0::l1::(B++[y,z]))) .full) []) (hz:z=[]) (hy:y=cu) (w1 w2 w3:S) (k43b:Ctr Tryz.prog W0 43 [.sc (.s l0),.sc (.s [32])] [] (.sl 1 (ae [ba,w1,w2,w3]) .full) []) (k44:Ctr Tryz.prog W0 44 [bU [w1,w2,w3]] [] (.tup [.sl 1 (eA atoiN [w1,w2,w3]) .none,.sc (.b true)]) []) (x:S) (k45:Ctr Tryz.prog W0 45 [.sc (.s l1),.sc (.s [111,117,116,32])] [] (.tup [.sc (.s x),.sc (.b true)]) []) (n:Int) (k46:Ctr Tryz.prog W0 46 [.sc (.s x)] [] (.tup [.sc (.i .i64 n),.sc (.b false)]) []) :
  aD (Ctr Tryz.prog W0) Fs27.ac Fs27.rs [.sc (.s s)] [] (.tup [bW (atoiN w1) (atoiN w2) (atoiN w3) [] [],.sc (.b false)]) []:=by
 subst hz
 subst hy
 refine ab (m:=1200) rfl fun K hK=>?_
 conv=>whnf
 refine hK _ ?_
 clear hK
 clear K
 refine ab (m:=1300) rfl fun K hK=>?_
 conv=>whnf
 refine hK _ ?_
 clear hK
 clear K
 refine ab (m:=1600) rfl fun K hK=>?_
 conv=>whnf
 refine callP.pure _ k43a ⟨rfl,rfl⟩ ?_
 conv=>whnf
 refine hK _ ?_
 clear hK
 clear K
 refine ah ?_
 refine ab (m:=3700) rfl fun K hK=>?_
 conv=>whnf
 refine ap (fun h=>?_) (fun h=>absurd (of_decide_eq_true h) (by simp only [aa,List.length_cons,List.length_append,List.length_nil];omega))
 conv=>whnf
 refine And.intro (by simp only [aa,List.length_cons,List.length_append,List.length_nil];constructor<;>omega) ?_
 conv=>whnf
 refine ⟨_,⟨by simp only [aa,List.length_cons,List.length_append,List.length_nil];omega,cy _ _ _ _ _⟩,?_⟩
 conv=>whnf
 refine And.intro (by simp only [aa,List.length_cons,List.length_append,List.length_nil];constructor<;>omega) ?_
 conv=>whnf
 refine ⟨_,⟨by simp only [aa,List.length_cons,List.length_append,List.length_nil];omega,cM _ _ _ _ _⟩,?_⟩
 conv=>whnf
 refine hK _ ?_
 clear hK
 clear K
 refine al false rfl (fun _=>?_) (fun h=>absurd h (by decide))
 refine aw ?_
 refine ab (m:=4300) rfl fun K hK=>?_
 conv=>whnf
 refine And.intro (by simp only [aa,List.length_cons,List.length_append,List.length_nil];constructor<;>omega) ?_
 conv=>whnf
 refine ⟨.none,⟨by simp only [aa,List.length_cons,List.length_append,List.length_nil];omega,.inl rfl⟩,?_⟩
 generalize hT:List.take _ (List.drop _ (ae _))=T
 have hT:T=ae (l0::l1::B):=by rw [← hT];exact kE _ _ _ _ _ (by simp only [aa,List.length_cons,List.length_append,List.length_nil];omega)
 subst hT
 conv=>whnf
 refine hK _ ?_
 clear hK
 clear K
 refine ab (m:=4800) rfl fun K hK=>?_
 conv=>whnf
 refine ⟨_,⟨by decide,rfl⟩,?_⟩
 conv=>whnf
 refine callP.pure _ k43b ⟨rfl,rfl⟩ ?_
 conv=>whnf
 refine hK _ ?_
 clear hK
 clear K
 refine ah ?_
 refine ab (m:=5700) rfl fun K hK=>?_
 conv=>whnf
 refine ⟨_,⟨by decide,rfl⟩,?_⟩
 conv=>whnf
 refine hK _ ?_
 clear hK
 clear K
 refine al false rfl (fun _=>?_) (fun h=>absurd h (by decide))
 refine aw ?_
 refine ab (m:=6500) rfl fun K hK=>?_
 conv=>whnf
 refine ⟨.none,⟨by simp only [aa,List.length_cons,List.length_append,List.length_nil];omega,.inl rfl⟩,?_⟩
 generalize hT:List.take _ (List.drop _ (ae _))=T
 have hT:T=ae [w1,w2,w3]:=by rw [← hT];exact cr (r:=[ba,w1,w2,w3]) (by simp)
 subst hT
 conv=>whnf
 refine callP.pure _ k44 ⟨rfl,rfl⟩ ?_
 conv=>whnf
 refine hK _ ?_
 clear hK
 clear K
 refine ah ?_
 refine ab (m:=6700) rfl fun K hK=>?_
 conv=>whnf
 refine hK _ ?_
 clear hK
 clear K
 refine al false rfl (fun _=>?_) (fun h=>absurd h (by decide))
 refine aw ?_
 refine gB (m:=8200) rfl fun K hK=>?_
 conv=>whnf
 refine ⟨_,⟨by decide,rfl⟩,?_⟩
 conv=>whnf
 refine ⟨_,⟨by decide,rfl⟩,?_⟩
 conv=>whnf
 refine ⟨_,⟨by decide,rfl⟩,?_⟩
 conv=>whnf
 refine hK _ ?_
 clear hK
 clear K
 refine ab (m:=9100) rfl fun K hK=>?_
 conv=>whnf
 refine ⟨_,⟨by decide,rfl⟩,?_⟩
 conv=>whnf
 refine callP.pure _ k45 ⟨rfl,rfl⟩ ?_
 conv=>whnf
 refine hK _ ?_
 clear hK
 clear K
 refine ab (m:=9800) rfl fun K hK=>?_
 conv=>whnf
 refine callP.pure _ k46 ⟨rfl,rfl⟩ ?_
 conv=>whnf
 refine hK _ ?_
 clear hK
 clear K
 refine ah ?_
 refine ab (m:=11100) rfl fun K hK=>?_
 conv=>whnf
 refine hK _ ?_
 clear hK
 clear K
 refine al true rfl (fun h=>absurd h (by decide)) (fun _=>?_)
 conv=>whnf
 exact bV rfl rfl rfl rfl rfl rfl
theorem bs27_many2 (W0:Go.World) (hw:Ws W0) (s l0 l1 y z:S) (B:List S) (hB:B.length≤900000) (k43a:Ctr Tryz.prog W0 43 [.sc (.s s),.sc (.s [10])] [] (.sl 1 (ae (l0::l1::(B++[y,z]))) .full) []) (hz:z=[]) (hy:y=cu) (w1 w2 w3:S) (k43b:Ctr Tryz.prog W0 43 [.sc (.s l0),.sc (.s [32])] [] (.sl 1 (ae [ba,w1,w2,w3]) .full) []) (k44:Ctr Tryz.prog W0 44 [bU [w1,w2,w3]] [] (.tup [.sl 1 (eA atoiN [w1,w2,w3]) .none,.sc (.b true)]) []) (x:S) (k45:Ctr Tryz.prog W0 45 [.sc (.s l1),.sc (.s [111,117,116,32])] [] (.tup [.sc (.s x),.sc (.b true)]) []) (n:Int) (k46:Ctr Tryz.prog W0 46 [.sc (.s x)] [] (.tup [.sc (.i .i64 n),.sc (.b true)]) []) (hn:(B.length:Int)<n) :
  aD (Ctr Tryz.prog W0) Fs27.ac Fs27.rs [.sc (.s s)] [] (.tup [bW (atoiN w1) (atoiN w2) (atoiN w3) [] [],.sc (.b false)]) []:=by
 subst hz
 subst hy
 refine ab (m:=1200) rfl fun K hK=>?_
 conv=>whnf
 refine hK _ ?_
 clear hK
 clear K
 refine ab (m:=1300) rfl fun K hK=>?_
 conv=>whnf
 refine hK _ ?_
 clear hK
 clear K
 refine ab (m:=1600) rfl fun K hK=>?_
 conv=>whnf
 refine callP.pure _ k43a ⟨rfl,rfl⟩ ?_
 conv=>whnf
 refine hK _ ?_
 clear hK
 clear K
 refine ah ?_
 refine ab (m:=3700) rfl fun K hK=>?_
 conv=>whnf
 refine ap (fun h=>?_) (fun h=>absurd (of_decide_eq_true h) (by simp only [aa,List.length_cons,List.length_append,List.length_nil];omega))
 conv=>whnf
 refine And.intro (by simp only [aa,List.length_cons,List.length_append,List.length_nil];constructor<;>omega) ?_
 conv=>whnf
 refine ⟨_,⟨by simp only [aa,List.length_cons,List.length_append,List.length_nil];omega,cy _ _ _ _ _⟩,?_⟩
 conv=>whnf
 refine And.intro (by simp only [aa,List.length_cons,List.length_append,List.length_nil];constructor<;>omega) ?_
 conv=>whnf
 refine ⟨_,⟨by simp only [aa,List.length_cons,List.length_append,List.length_nil];omega,cM _ _ _ _ _⟩,?_⟩
 conv=>whnf
 refine hK _ ?_
 clear hK
 clear K
 refine al false rfl (fun _=>?_) (fun h=>absurd h (by decide))
 refine aw ?_
 refine ab (m:=4300) rfl fun K hK=>?_
 conv=>whnf
 refine And.intro (by simp only [aa,List.length_cons,List.length_append,List.length_nil];constructor<;>omega) ?_
 conv=>whnf
 refine ⟨.none,⟨by simp only [aa,List.length_cons,List.length_append,List.length_nil];omega,.inl rfl⟩,?_⟩
 generalize hT:List.take _ (List.drop _ (ae _))=T
 have hT:T=ae (l0::l1::B):=by rw [← hT];exact kE _ _ _ _ _ (by simp only [aa,List.length_cons,List.length_append,List.length_nil];omega)
 subst hT
 conv=>whnf
 refine hK _ ?_
 clear hK
 clear K
 refine ab (m:=4800) rfl fun K hK=>?_
 conv=>whnf
 refine ⟨_,⟨by decide,rfl⟩,?_⟩
 conv=>whnf
 refine callP.pure _ k43b ⟨rfl,rfl⟩ ?_
 conv=>whnf
 refine hK _ ?_
 clear hK
 clear K
 refine ah ?_
 refine ab (m:=5700) rfl fun K hK=>?_
 conv=>whnf
 refine ⟨_,⟨by decide,rfl⟩,?_⟩
 conv=>whnf
 refine hK _ ?_
 clear hK
 clear K
 refine al false rfl (fun _=>?_) (fun h=>absurd h (by decide))
 refine aw ?_
 refine ab (m:=6500) rfl fun K hK=>?_
 conv=>whnf
 refine ⟨.none,⟨by simp only [aa,List.length_cons,List.length_append,List.length_nil];omega,.inl rfl⟩,?_⟩
 generalize hT:List.take _ (List.drop _ (ae _))=T
 have hT:T=ae [w1,w2,w3]:=by rw [← hT];exact cr (r:=[ba,w1,w2,w3]) (by simp)
 subst hT
 conv=>whnf
 refine callP.pure _ k44 ⟨rfl,rfl⟩ ?_
 conv=>whnf
 refine hK _ ?_
 clear hK
 clear K
 refine ah ?_
 refine ab (m:=6700) rfl fun K hK=>?_
 conv=>whnf
 refine hK _ ?_
 clear hK
 clear K
 refine al false rfl (fun _=>?_) (fun h=>absurd h (by decide))
 refine aw ?_
 refine gB (m:=8200) rfl fun K hK=>?_
 conv=>whnf
 refine ⟨_,⟨by decide,rfl⟩,?_⟩
 conv=>whnf
 refine ⟨_,⟨by decide,rfl⟩,?_⟩
 conv=>whnf
 refine ⟨_,⟨by decide,rfl⟩,?_⟩
 conv=>whnf
 refine hK _ ?_
 clear hK
 clear K
 refine ab (m:=9100) rfl fun K hK=>?_
 conv=>whnf
 refine ⟨_,⟨by decide,rfl⟩,?_⟩
 conv=>whnf
 refine callP.pure _ k45 ⟨rfl,rfl⟩ ?_
 conv=>whnf
 refine hK _ ?_
 clear hK
 clear K
 refine ab (m:=9800) rfl fun K hK=>?_
 conv=>whnf
 refine callP.pure _ k46 ⟨rfl,rfl⟩ ?_
 conv=>whnf
 refine hK _ ?_
 clear hK
 clear K
 refine ah ?_
 refine ab (m:=11100) rfl fun K hK=>?_
 conv=>whnf
 refine And.intro (by simp only [aa,List.length_cons,List.length_append,List.length_nil];constructor<;>omega) ?_
 conv=>whnf
 refine hK _ ?_
 clear hK
 clear K
 refine al _ rfl (fun h=>absurd h (by simp only [aa,List.length_cons,decide_eq_false_iff_not];omega)) (fun _=>?_)
 conv=>whnf
 exact bV rfl rfl rfl rfl rfl rfl
theorem bs27_out (W0:Go.World) (hw:Ws W0) (s l0 l1 y z:S) (B:List S) (hB:B.length≤900000) (k43a:Ctr Tryz.prog W0 43 [.sc (.s s),.sc (.s [10])] [] (.sl 1 (ae (l0::l1::(B++[y,z]))) .full) []) (hz:z=[]) (hy:y=cu) (w1 w2 w3:S) (k43b:Ctr Tryz.prog W0 43 [.sc (.s l0),.sc (.s [32])] [] (.sl 1 (ae [ba,w1,w2,w3]) .full) []) (k44:Ctr Tryz.prog W0 44 [bU [w1,w2,w3]] [] (.tup [.sl 1 (eA atoiN [w1,w2,w3]) .none,.sc (.b true)]) []) (x:S) (k45:Ctr Tryz.prog W0 45 [.sc (.s l1),.sc (.s [111,117,116,32])] [] (.tup [.sc (.s x),.sc (.b true)]) []) (k:Nat) (hk:k≤B.length) (k46:Ctr Tryz.prog W0 46 [.sc (.s x)] [] (.tup [.sc (.i .i64 (k:Nat)),.sc (.b true)]) []) (k47:Ctr Tryz.prog W0 47 [bU (B.take k),.fn 48 []] [] (.sc (.b true)) []) :
  aD (Ctr Tryz.prog W0) Fs27.ac Fs27.rs [.sc (.s s)] [] (.tup [bW (atoiN w1) (atoiN w2) (atoiN w3) (B.take k) [],.sc (.b false)]) []:=by
 subst hz
 subst hy
 refine ab (m:=1200) rfl fun K hK=>?_
 conv=>whnf
 refine hK _ ?_
 clear hK
 clear K
 refine ab (m:=1300) rfl fun K hK=>?_
 conv=>whnf
 refine hK _ ?_
 clear hK
 clear K
 refine ab (m:=1600) rfl fun K hK=>?_
 conv=>whnf
 refine callP.pure _ k43a ⟨rfl,rfl⟩ ?_
 conv=>whnf
 refine hK _ ?_
 clear hK
 clear K
 refine ah ?_
 refine ab (m:=3700) rfl fun K hK=>?_
 conv=>whnf
 refine ap (fun h=>?_) (fun h=>absurd (of_decide_eq_true h) (by simp only [aa,List.length_cons,List.length_append,List.length_nil];omega))
 conv=>whnf
 refine And.intro (by simp only [aa,List.length_cons,List.length_append,List.length_nil];constructor<;>omega) ?_
 conv=>whnf
 refine ⟨_,⟨by simp only [aa,List.length_cons,List.length_append,List.length_nil];omega,cy _ _ _ _ _⟩,?_⟩
 conv=>whnf
 refine And.intro (by simp only [aa,List.length_cons,List.length_append,List.length_nil];constructor<;>omega) ?_
 conv=>whnf
 refine ⟨_,⟨by simp only [aa,List.length_cons,List.length_append,List.length_nil];omega,cM _ _ _ _ _⟩,?_⟩
 conv=>whnf
 refine hK _ ?_
 clear hK
 clear K
 refine al false rfl (fun _=>?_) (fun h=>absurd h (by decide))
 refine aw ?_
 refine ab (m:=4300) rfl fun K hK=>?_
 conv=>whnf
 refine And.intro (by simp only [aa,List.length_cons,List.length_append,List.length_nil];constructor<;>omega) ?_
 conv=>whnf
 refine ⟨.none,⟨by simp only [aa,List.length_cons,List.length_append,List.length_nil];omega,.inl rfl⟩,?_⟩
 generalize hT:List.take _ (List.drop _ (ae _))=T
 have hT:T=ae (l0::l1::B):=by rw [← hT];exact kE _ _ _ _ _ (by simp only [aa,List.length_cons,List.length_append,List.length_nil];omega)
 subst hT
 conv=>whnf
 refine hK _ ?_
 clear hK
 clear K
 refine ab (m:=4800) rfl fun K hK=>?_
 conv=>whnf
 refine ⟨_,⟨by decide,rfl⟩,?_⟩
 conv=>whnf
 refine callP.pure _ k43b ⟨rfl,rfl⟩ ?_
 conv=>whnf
 refine hK _ ?_
 clear hK
 clear K
 refine ah ?_
 refine ab (m:=5700) rfl fun K hK=>?_
 conv=>whnf
 refine ⟨_,⟨by decide,rfl⟩,?_⟩
 conv=>whnf
 refine hK _ ?_
 clear hK
 clear K
 refine al false rfl (fun _=>?_) (fun h=>absurd h (by decide))
 refine aw ?_
 refine ab (m:=6500) rfl fun K hK=>?_
 conv=>whnf
 refine ⟨.none,⟨by simp only [aa,List.length_cons,List.length_append,List.length_nil];omega,.inl rfl⟩,?_⟩
 generalize hT:List.take _ (List.drop _ (ae _))=T
 have hT:T=ae [w1,w2,w3]:=by rw [← hT];exact cr (r:=[ba,w1,w2,w3]) (by simp)
 subst hT
 conv=>whnf
 refine callP.pure _ k44 ⟨rfl,rfl⟩ ?_
 conv=>whnf
 refine hK _ ?_
 clear hK
 clear K
 refine ah ?_
 refine ab (m:=6700) rfl fun K hK=>?_
 conv=>whnf
 refine hK _ ?_
 clear hK
 clear K
 refine al false rfl (fun _=>?_) (fun h=>absurd h (by decide))
 refine aw ?_
 refine gB (m:=8200) rfl fun K hK=>?_
 conv=>whnf
 refine ⟨_,⟨by decide,rfl⟩,?_⟩
 conv=>whnf
 refine ⟨_,⟨by decide,rfl⟩,?_⟩
 conv=>whnf
 refine ⟨_,⟨by decide,rfl⟩,?_⟩
 conv=>whnf
 refine hK _ ?_
 clear hK
 clear K
 refine ab (m:=9100) rfl fun K hK=>?_
 conv=>whnf
 refine ⟨_,⟨by decide,rfl⟩,?_⟩
 conv=>whnf
 refine callP.pure _ k45 ⟨rfl,rfl⟩ ?_
 conv=>whnf
 refine hK _ ?_
 clear hK
 clear K
 refine ab (m:=9800) rfl fun K hK=>?_
 conv=>whnf
 refine callP.pure _ k46 ⟨rfl,rfl⟩ ?_
 conv=>whnf
 refine hK _ ?_
 clear hK
 clear K
 refine ah ?_
 refine ab (m:=11100) rfl fun K hK=>?_
 conv=>whnf
 refine And.intro (by simp only [aa,List.length_cons,List.length_append,List.length_nil];constructor<;>omega) ?_
 conv=>whnf
 refine hK _ ?_
 clear hK
 clear K
 refine al _ rfl (fun _=>?_) (fun h=>absurd h (by simp only [aa,List.length_cons,decide_eq_true_eq];omega))
 refine aw ?_
 refine ab (m:=11700) rfl fun K hK=>?_
 conv=>whnf
 refine And.intro (by constructor<;>omega) ?_
 conv=>whnf
 refine ⟨.none,⟨by simp only [aa,List.length_cons,List.length_append,List.length_nil];omega,.inl rfl⟩,?_⟩
 generalize hT:List.take _ (List.drop _ (ae _))=T
 have hT:T=ae (B.take k):=by rw [← hT];exact mid2 _ _ _ _ rfl (by omega)
 subst hT
 conv=>whnf
 refine hK _ ?_
 clear hK
 clear K
 refine ah ?_
 refine ab (m:=12000) rfl fun K hK=>?_
 conv=>whnf
 refine callP.pure _ k47 ⟨rfl,rfl⟩ ?_
 conv=>whnf
 refine hK _ ?_
 clear hK
 clear K
 refine al true rfl (fun h=>absurd h (by decide)) (fun _=>?_)
 conv=>whnf
 exact bV rfl rfl rfl rfl rfl rfl
theorem oY (W0:Go.World) (hw:Ws W0) (s l0 l1 y z:S) (B:List S) (hB:B.length≤900000) (k43a:Ctr Tryz.prog W0 43 [.sc (.s s),.sc (.s [10])] [] (.sl 1 (ae (l0::l1::(B++[y,z]))) .full) []) (hz:z=[]) (hy:y=cu) (w1 w2 w3:S) (k43b:Ctr Tryz.prog W0 43 [.sc (.s l0),.sc (.s [32])] [] (.sl 1 (ae [ba,w1,w2,w3]) .full) []) (k44:Ctr Tryz.prog W0 44 [bU [w1,w2,w3]] [] (.tup [.sl 1 (eA atoiN [w1,w2,w3]) .none,.sc (.b true)]) []) (x:S) (k45:Ctr Tryz.prog W0 45 [.sc (.s l1),.sc (.s [111,117,116,32])] [] (.tup [.sc (.s x),.sc (.b true)]) []) (k:Nat) (hk:k≤B.length) (k46:Ctr Tryz.prog W0 46 [.sc (.s x)] [] (.tup [.sc (.i .i64 (k:Nat)),.sc (.b true)]) []) (k47:Ctr Tryz.prog W0 47 [bU (B.take k),.fn 48 []] [] (.sc (.b false)) []) (E:List S) (hE:E=B.drop k) (g:S→Bool) (k50:∀ x,x∈E→Ctr Tryz.prog W0 50 [.sc (.s x)] [] (cD (ec x).1 (ec x).2.1 (ec x).2.2 (g x)) []) :
  aD (Ctr Tryz.prog W0) Fs27.ac Fs27.rs [.sc (.s s)] [] (.tup [bW (atoiN w1) (atoiN w2) (atoiN w3) (B.take k) (E.take (mO g E)),.sc (.b (E.all g))]) []:=by
 subst hz
 subst hy
 refine ab (m:=1200) rfl fun K hK=>?_
 conv=>whnf
 refine hK _ ?_
 clear hK
 clear K
 refine ab (m:=1300) rfl fun K hK=>?_
 conv=>whnf
 refine hK _ ?_
 clear hK
 clear K
 refine ab (m:=1600) rfl fun K hK=>?_
 conv=>whnf
 refine callP.pure _ k43a ⟨rfl,rfl⟩ ?_
 conv=>whnf
 refine hK _ ?_
 clear hK
 clear K
 refine ah ?_
 refine ab (m:=3700) rfl fun K hK=>?_
 conv=>whnf
 refine ap (fun h=>?_) (fun h=>absurd (of_decide_eq_true h) (by simp only [aa,List.length_cons,List.length_append,List.length_nil];omega))
 conv=>whnf
 refine And.intro (by simp only [aa,List.length_cons,List.length_append,List.length_nil];constructor<;>omega) ?_
 conv=>whnf
 refine ⟨_,⟨by simp only [aa,List.length_cons,List.length_append,List.length_nil];omega,cy _ _ _ _ _⟩,?_⟩
 conv=>whnf
 refine And.intro (by simp only [aa,List.length_cons,List.length_append,List.length_nil];constructor<;>omega) ?_
 conv=>whnf
 refine ⟨_,⟨by simp only [aa,List.length_cons,List.length_append,List.length_nil];omega,cM _ _ _ _ _⟩,?_⟩
 conv=>whnf
 refine hK _ ?_
 clear hK
 clear K
 refine al false rfl (fun _=>?_) (fun h=>absurd h (by decide))
 refine aw ?_
 refine ab (m:=4300) rfl fun K hK=>?_
 conv=>whnf
 refine And.intro (by simp only [aa,List.length_cons,List.length_append,List.length_nil];constructor<;>omega) ?_
 conv=>whnf
 refine ⟨.none,⟨by simp only [aa,List.length_cons,List.length_append,List.length_nil];omega,.inl rfl⟩,?_⟩
 generalize hT:List.take _ (List.drop _ (ae _))=T
 have hT:T=ae (l0::l1::B):=by rw [← hT];exact kE _ _ _ _ _ (by simp only [aa,List.length_cons,List.length_append,List.length_nil];omega)
 subst hT
 conv=>whnf
 refine hK _ ?_
 clear hK
 clear K
 refine ab (m:=4800) rfl fun K hK=>?_
 conv=>whnf
 refine ⟨_,⟨by decide,rfl⟩,?_⟩
 conv=>whnf
 refine callP.pure _ k43b ⟨rfl,rfl⟩ ?_
 conv=>whnf
 refine hK _ ?_
 clear hK
 clear K
 refine ah ?_
 refine ab (m:=5700) rfl fun K hK=>?_
 conv=>whnf
 refine ⟨_,⟨by decide,rfl⟩,?_⟩
 conv=>whnf
 refine hK _ ?_
 clear hK
 clear K
 refine al false rfl (fun _=>?_) (fun h=>absurd h (by decide))
 refine aw ?_
 refine ab (m:=6500) rfl fun K hK=>?_
 conv=>whnf
 refine ⟨.none,⟨by simp only [aa,List.length_cons,List.length_append,List.length_nil];omega,.inl rfl⟩,?_⟩
 generalize hT:List.take _ (List.drop _ (ae _))=T
 have hT:T=ae [w1,w2,w3]:=by rw [← hT];exact cr (r:=[ba,w1,w2,w3]) (by simp)
 subst hT
 conv=>whnf
 refine callP.pure _ k44 ⟨rfl,rfl⟩ ?_
 conv=>whnf
 refine hK _ ?_
 clear hK
 clear K
 refine ah ?_
 refine ab (m:=6700) rfl fun K hK=>?_
 conv=>whnf
 refine hK _ ?_
 clear hK
 clear K
 refine al false rfl (fun _=>?_) (fun h=>absurd h (by decide))
 refine aw ?_
 refine gB (m:=8200) rfl fun K hK=>?_
 conv=>whnf
 refine ⟨_,⟨by decide,rfl⟩,?_⟩
 conv=>whnf
 refine ⟨_,⟨by decide,rfl⟩,?_⟩
 conv=>whnf
 refine ⟨_,⟨by decide,rfl⟩,?_⟩
 conv=>whnf
 refine hK _ ?_
 clear hK
 clear K
 refine ab (m:=9100) rfl fun K hK=>?_
 conv=>whnf
 refine ⟨_,⟨by decide,rfl⟩,?_⟩
 conv=>whnf
 refine callP.pure _ k45 ⟨rfl,rfl⟩ ?_
 conv=>whnf
 refine hK _ ?_
 clear hK
 clear K
 refine ab (m:=9800) rfl fun K hK=>?_
 conv=>whnf
 refine callP.pure _ k46 ⟨rfl,rfl⟩ ?_
 conv=>whnf
 refine hK _ ?_
 clear hK
 clear K
 refine ah ?_
 refine ab (m:=11100) rfl fun K hK=>?_
 conv=>whnf
 refine And.intro (by simp only [aa,List.length_cons,List.length_append,List.length_nil];constructor<;>omega) ?_
 conv=>whnf
 refine hK _ ?_
 clear hK
 clear K
 refine al _ rfl (fun _=>?_) (fun h=>absurd h (by simp only [aa,List.length_cons,decide_eq_true_eq];omega))
 refine aw ?_
 refine ab (m:=11700) rfl fun K hK=>?_
 conv=>whnf
 refine And.intro (by constructor<;>omega) ?_
 conv=>whnf
 refine ⟨.none,⟨by simp only [aa,List.length_cons,List.length_append,List.length_nil];omega,.inl rfl⟩,?_⟩
 generalize hT:List.take _ (List.drop _ (ae _))=T
 have hT:T=ae (B.take k):=by rw [← hT];exact mid2 _ _ _ _ rfl (by omega)
 subst hT
 conv=>whnf
 refine hK _ ?_
 clear hK
 clear K
 refine ah ?_
 refine ab (m:=12000) rfl fun K hK=>?_
 conv=>whnf
 refine callP.pure _ k47 ⟨rfl,rfl⟩ ?_
 conv=>whnf
 refine hK _ ?_
 clear hK
 clear K
 refine al false rfl (fun _=>?_) (fun h=>absurd h (by decide))
 refine aw ?_
 have hEl:E.length≤900000:=by rw [hE,List.length_drop];omega
 refine ah ?_
 refine ab (m:=12600) rfl fun K hK=>?_
 conv=>whnf
 refine And.intro (by constructor<;>omega) ?_
 conv=>whnf
 refine ⟨.none,⟨by simp only [aa,List.length_cons,List.length_append,List.length_nil];omega,.inl rfl⟩,?_⟩
 generalize hT:List.take _ (List.drop _ (ae _))=T
 have hT:T=ae E:=by rw [← hT];exact (end2 _ _ _ k (by omega) (by simp only [aa,List.length_cons,List.length_append,List.length_nil];omega)).trans (by rw [hE])
 subst hT
 conv=>whnf
 refine hK _ ?_
 clear hK
 clear K
 refine fh fun Q' hQ hR=>?_
 refine .st 20000 (fun j=>E.length - j) (fun j=>[(.s 2,.av (.ptr 1000 0)),(.s 4,.av (.ptr 1200 0)),(.s 118,.av (.sl 1 (ae E) .none)),(.s 119,.av (.sc (.i .i64 ((ae E).length:Nat)))),(.s 120,.av (.sc (.i .i64 (j:Nat)))),(.b 1000,.bx [.sc (.i .i64 0),.sc (.i .i64 0),.sc (.i .i64 0),.sl 1 [] .full,.sl 3 [] .full]),(.b 1200,.bx [.sc (.i .i64 (atoiN w1)),.sc (.i .i64 (atoiN w2)),.sc (.i .i64 (atoiN w3)),.sl 1 (ae (B.take k)) .none,.sl 3 (eV (E.take j)) (.t 9000)]),(.t 9000,.tk true)])
  (fun j=>j≤E.length∧(E.take j).all g=true) 0 ?_ ⟨Nat.zero_le _,rfl⟩ ?_
 ·(refine aN rfl rfl ?_;repeat' (first | exact rfl | exact trivial | refine ⟨?_,?_⟩))
 rintro j ⟨hj,he⟩
 conv=>whnf
 refine ap (fun h4=>?_) (fun h4=>?_)
 ·simp only [aa,decide_eq_false_iff_not] at h4
  have e1:j=E.length:=by omega
  rw [e1,List.take_length] at he ⊢
  conv=>whnf
  refine hQ _ _ ?_
  conv=>whnf
  exact bV rfl rfl rfl rfl (by rw [fv he,List.take_length]) he.symm
 ·simp only [aa,decide_eq_true_eq] at h4
  obtain ⟨x',hx⟩:=aB (l:=E) (k:=j) (by omega)
  have dx:=bD hx
  conv=>whnf
  refine ⟨_,⟨Int.natCast_nonneg _,dx⟩,?_⟩
  conv=>whnf
  refine callP.pure _ (k50 x' (List.mem_of_getElem? hx)) ⟨rfl,rfl⟩ ?_
  conv=>whnf
  refine ap (fun h5=>?_) (fun h5=>?_)
  ·have hg:g x'=true:=by simpa using h5
   conv=>whnf
   refine And.intro (by rw [cn,List.length_take];constructor<;>simp<;>omega) ?_
   conv=>whnf
   refine And.intro (by constructor<;>omega) ?_
   conv=>whnf
   refine nxt (j+1) ⟨by omega,by omega,by rw [bu hx,List.all_append,he];simp [hg]⟩ ?_
   rw [ja hx]
   (apply ck (h1:=rfl);(case h3=>repeat' (first | exact rfl | exact trivial | refine ⟨?_,?_⟩));all_goals exact rfl)
  ·have hg:g x'=false:=by simpa using h5
   have hd:E.all g=false:=by
    rw [List.all_eq_false]
    exact ⟨x',List.mem_of_getElem? hx,by simp [hg]⟩
   conv=>whnf
   refine hR _ _ ?_
   conv=>whnf
   exact bV rfl rfl rfl rfl (by rw [goodN_at he hx hg]) hd.symm
end Go.Abs
