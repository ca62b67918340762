/- ref24.Parse. -/
import Derived.Test.YteihidcjmfckeaaGreatDoorS27j
set_option linter.all false
set_option maxRecDepth 1000000
set_option maxHeartbeats 16000000
namespace Go.Abs
open Go.Proofs
open K in
def Fs28:Fn:=⟨.seq (.reg [n (.alloc 2 [.sc (.i .i64 0),.sc (.i .i64 0),.sc (.i .i64 0),.sl 1 [] .full,.sl 3 [] .full]),n (mb 3 false)]) (.seq (.reg [m 25 0,n (cf 26 43 [.t 25,.c (.sc (.s [10]))]),m 4 26]) (.seq (.reg [m 27 4,n (.len 28 (.t 27)),m 5 28]) (.seq (.seq (.reg [m 29 5,n (bi 30 .lss 29 4),m 31 30,gm 31 32 4,gm 31 33 5,g 31 (bi 34 .sub 33 1),g 31 (ix 35 1 32 34),g 31 (ld 36 35),g 31 (bs 37 .neq 36 []),n (pt 38 31 37),m 39 38,gm 39 40 4,gm 39 41 5,g 39 (bi 42 .sub 41 2),g 39 (ix 43 1 40 42),g 39 (ld 44 43),g 39 (bs 45 .neq 44 [101,110,100]),n (pt 46 39 45)]) (.cond (.t 46) (.seq (.reg [n (.build 47 [.sc (.i .i64 0),.sc (.i .i64 0),.sc (.i .i64 0),.sl 1 [] .full,.sl 3 [] .full] []),n (.st (.t 2) 5 (.t 47)),n (mb 3 false)]) .ret) .skip)) (.seq (.reg [m 49 4,n (.ia 50 1 (.t 49) (.c (.sc (.i .i64 0)))),n (ld 51 50),n (cf 52 51 [.t 51]),m 48 52,n (ext 53 48 0),n (ext 54 48 1),m 6 53,m 7 54]) (.seq (.seq (.reg [m 55 7,n (.no 56 (.t 55)),m 57 56,gm 57 58 6,g 57 (.len 59 (.t 58)),g 57 (bi 60 .neq 59 4),n (pt 61 57 60),m 62 61,gm 62 63 6,g 62 (.ia 64 1 (.t 63) (.c (.sc (.i .i64 0)))),g 62 (ld 65 64),g 62 (bs 66 .neq 65 [105,109,97,103,101]),n (pt 67 62 66)]) (.cond (.t 67) (.seq (.reg [n (.build 68 [.sc (.i .i64 0),.sc (.i .i64 0),.sc (.i .i64 0),.sl 1 [] .full,.sl 3 [] .full] []),n (.st (.t 2) 5 (.t 68)),n (mb 3 false)]) .ret) .skip)) (.seq (.reg [m 70 6,n (.ia 71 1 (.t 70) (.c (.sc (.i .i64 1)))),n (ld 72 71),n (cf 73 52 [.t 72]),m 69 73,n (ext 74 69 0),n (ext 75 69 1),m 8 74,m 9 75]) (.seq (.reg [m 77 6,n (.ia 78 1 (.t 77) (.c (.sc (.i .i64 2)))),n (ld 79 78),n (cf 80 52 [.t 79]),m 76 80,n (ext 81 76 0),n (ext 82 76 1),m 10 81,m 11 82]) (.seq (.reg [m 84 6,n (.ia 85 1 (.t 84) (.c (.sc (.i .i64 3)))),n (ld 86 85),n (cf 87 52 [.t 86]),m 83 87,n (ext 88 83 0),n (ext 89 83 1),m 12 88,m 13 89]) (.seq (.reg [m 91 4,n (.ia 92 1 (.t 91) (.c (.sc (.i .i64 1)))),n (ld 93 92),n (cf 94 51 [.t 93]),m 90 94,n (ext 95 90 0),n (ext 96 90 1),m 14 95,m 7 96]) (.seq (.seq (.reg [m 97 9,n (.no 98 (.t 97)),m 99 98,gm 99 100 11,g 99 (.no 101 (.t 100)),n (pt 102 99 101),m 103 102,gm 103 104 13,g 103 (.no 105 (.t 104)),n (pt 106 103 105),m 107 106,gm 107 108 7,g 107 (.no 109 (.t 108)),n (pt 110 107 109),m 111 110,gm 111 112 14,g 111 (.len 113 (.t 112)),g 111 (bi 114 .neq 113 2),n (pt 115 111 114),m 116 115,gm 116 117 14,g 116 (.ia 118 1 (.t 117) (.c (.sc (.i .i64 0)))),g 116 (ld 119 118),g 116 (bs 120 .neq 119 [111,117,116]),n (pt 121 116 120)]) (.cond (.t 121) (.seq (.reg [n (.build 122 [.sc (.i .i64 0),.sc (.i .i64 0),.sc (.i .i64 0),.sl 1 [] .full,.sl 3 [] .full] []),n (.st (.t 2) 5 (.t 122)),n (mb 3 false)]) .ret) .skip)) (.seq (.reg [m 123 8,m 124 10,m 125 12,n (.build 126 [.sc (.i .i64 0),.sc (.i .i64 0),.sc (.i .i64 0),.sl 1 [] .full,.sl 3 [] .full] [(0,(1,.t 123)),(1,(1,.t 124)),(2,(1,.t 125))]),n (.alloc 15 [.sc (.i .i64 0),.sc (.i .i64 0),.sc (.i .i64 0),.sl 1 [] .full,.sl 3 [] .full]),n (.st (.t 15) 5 (.t 126))]) (.seq (.reg [m 128 14,n (.ia 129 1 (.t 128) (.c (.sc (.i .i64 1)))),n (ld 130 129),n (cf 131 53 [.t 130]),m 127 131,n (ext 132 127 0),n (ext 133 127 1),m 16 132,m 7 133]) (.seq (.seq (.reg [m 134 7,n (.no 135 (.t 134)),m 136 135,gm 136 137 16,gm 136 138 5,g 136 (bi 139 .sub 138 4),g 136 (b2 140 .gtr 137 139),n (pt 141 136 140)]) (.cond (.t 141) (.seq (.reg [n (.build 142 [.sc (.i .i64 0),.sc (.i .i64 0),.sc (.i .i64 0),.sl 1 [] .full,.sl 3 [] .full] []),n (.st (.t 2) 5 (.t 142)),n (mb 3 false)]) .ret) .skip)) (.seq (.seq (.reg [n (mi 17 0)]) (.block 0 (.loop (.seq (.seq (.reg [m 143 17,m 144 16,n (b2 145 .lss 143 144)]) (.cond (.t 145) .skip (.exit 0))) (.seq (.block 1 (.seq (.reg [m 148 4,m 149 17,n (.bin 150 .add (.c (.sc (.i .i64 2))) (.t 149)),n (ix 151 1 148 150),n (ld 152 151),m 18 152]) (.seq (.seq (.reg [m 154 18,n (cf 155 52 [.t 154]),m 153 155,n (ext 156 153 0),n (ext 157 153 1),m 19 156,m 20 157]) (.seq (.reg [m 158 20,n (.no 159 (.t 158)),m 160 159,wm 160 161 18,w 160 (bs 162 .neq 161 [116,114,117,101]),n (pf 163 160 162),m 164 163,wm 164 165 18,w 164 (bs 166 .neq 165 [102,97,108,115,101]),n (pf 167 164 166)]) (.cond (.t 167) (.seq (.reg [n (.build 168 [.sc (.i .i64 0),.sc (.i .i64 0),.sc (.i .i64 0),.sl 1 [] .full,.sl 3 [] .full] []),n (.st (.t 2) 5 (.t 168)),n (mb 3 false)]) .ret) .skip))) (.reg [n (fa 169 15 3),n (ld 170 169),m 171 18,n (.bsl 172 1 [.t 171]),n (.app 173 1 16 (.t 170) (.t 172)),n (fa 174 15 3),n (.st (.t 174) 1 (.t 173))])))) (.reg [m 146 17,n (bi 147 .add 146 1),m 17 147])))))) (.seq (.seq (.reg [m 175 16,n (.bin 176 .add (.c (.sc (.i .i64 2))) (.t 175)),m 21 176]) (.block 2 (.loop (.seq (.seq (.reg [m 177 21,m 178 5,n (bi 179 .sub 178 2),n (b2 180 .lss 177 179)]) (.cond (.t 180) .skip (.exit 2))) (.seq (.block 3 (.seq (.reg [m 184 4,m 185 21,n (ix 186 1 184 185),n (ld 187 186),n (cf 188 51 [.t 187]),m 183 188,n (ext 189 183 0),n (ext 190 183 1),m 22 189,m 23 190]) (.seq (.seq (.reg [m 191 23,n (.no 192 (.t 191)),m 193 192,gm 193 194 22,g 193 (.len 195 (.t 194)),g 193 (bi 196 .lss 195 3),n (pt 197 193 196)]) (.cond (.t 197) (.seq (.reg [n (.build 198 [.sc (.i .i64 0),.sc (.i .i64 0),.sc (.i .i64 0),.sl 1 [] .full,.sl 3 [] .full] []),n (.st (.t 2) 5 (.t 198)),n (mb 3 false)]) .ret) .skip)) (.seq (.regD [m 199 22,n (.ia 200 1 (.t 199) (.c (.sc (.i .i64 0)))),n (ld 201 200),m 202 22,n (.ia 203 1 (.t 202) (.c (.sc (.i .i64 1)))),n (ld 204 203),m 205 22,n (.slL 206 1 (.t 205) (some (.c (.sc (.i .i64 2)))) none none),n (.build 207 [.sc (.s []),.sc (.s []),.sl 1 [] .full] [(0,(1,.t 201)),(1,(1,.t 204)),(2,(1,.t 206))]),n (.alloc 24 [.sc (.s []),.sc (.s []),.sl 1 [] .full]),n (.st (.t 24) 3 (.t 207))] [0,1,3,0,8,24,0,64,255,0,1023]) (.seq (.seq (.reg [n (.ld 208 3 true (.t 24)),n (cf 209 54 [.t 208]),n (.no 210 (.t 209))]) (.cond (.t 210) (.seq (.reg [n (.build 211 [.sc (.i .i64 0),.sc (.i .i64 0),.sc (.i .i64 0),.sl 1 [] .full,.sl 3 [] .full] []),n (.st (.t 2) 5 (.t 211)),n (mb 3 false)]) .ret) .skip)) (.reg [n (fa 212 15 4),n (ld 213 212),n (.ld 214 3 true (.t 24)),n (.bsl 215 3 [.t 214]),n (.app 216 3 56 (.t 213) (.t 215)),n (fa 217 15 4),n (.st (.t 217) 1 (.t 216))])))))) (.reg [m 181 21,n (bi 182 .add 181 1),m 21 182])))))) (.seq (.reg [n (.ld 218 5 true (.t 15)),n (.st (.t 2) 5 (.t 218)),n (mb 3 true)]) .ret)))))))))))))))),[(2,5),(3,0)],219,[]⟩
theorem Fs28_ok:aI Tryz.prog (fun _=>an0) 28=some Fs28:=by kernel_rfl
theorem mh {l0 l1:S} {B:List S} {y z:S} {j:Nat} {x:S} {n:Int} (hn:n=2+(j:Int)) (hx:B[j]? = some x):0≤n∧(ae (l0::l1::(B++[y,z])))[n.toNat]? = some [.sc (.s x)]:=by
 have e:n.toNat=j+2:=by omega
 refine ⟨by omega,?_⟩
 rw [e]
 refine bD ?_
 have hlt:j<B.length:=(List.getElem?_eq_some_iff.1 hx).1
 simp only [List.getElem?_cons_succ]
 rw [List.getElem?_append_left hlt];exact hx
theorem hU {L:List S} (h:L.all neB=true):eq L=ae L:=by rw [eq,h]
theorem ib {L:List S} (h:L.all neB=false):eq L=[]:=by rw [eq,h]
theorem cj {l:List S} {k:Nat} {x:S} (h:l[k]? = some x):ae (l.take (k+1))=ae (l.take k)++[[.sc (.s x)]]:=by
 rw [bu h];simp [ae]
theorem bs28_short (W0:Go.World) (s:S) (Ls:List S) (hL:Ls.length<4) (k43a:Ctr Tryz.prog W0 43 [.sc (.s s),.sc (.s [10])] [] (.sl 1 (ae Ls) .full) []) :
  aD (Ctr Tryz.prog W0) Fs28.ac Fs28.rs [.sc (.s s)] [] (.tup [bW 0 0 0 [] [],.sc (.b false)]) []:=by
 refine ab (m:=1200) rfl fun K hK=>?_
 conv=>whnf
 refine hK _ ?_
 clear hK
 clear K
 refine ab (m:=1500) rfl fun K hK=>?_
 conv=>whnf
 refine callP.pure _ k43a ⟨rfl,rfl⟩ ?_
 conv=>whnf
 refine hK _ ?_
 clear hK
 clear K
 refine ab (m:=1800) rfl fun K hK=>?_
 conv=>whnf
 refine hK _ ?_
 clear hK
 clear K
 refine ah ?_
 refine ab (m:=3600) rfl fun K hK=>?_
 conv=>whnf
 refine ap (fun h=>absurd (of_decide_eq_false h) (by rw [aa];omega)) (fun _=>?_)
 conv=>whnf
 refine hK _ ?_
 clear hK
 clear K
 refine al true rfl (fun h=>absurd h (by decide)) (fun _=>?_)
 conv=>whnf
 exact bV rfl rfl rfl rfl rfl rfl
theorem bs28_last (W0:Go.World) (s l0 l1 y z:S) (B:List S) (hB:B.length≤900000) (k43a:Ctr Tryz.prog W0 43 [.sc (.s s),.sc (.s [10])] [] (.sl 1 (ae (l0::l1::(B++[y,z]))) .full) []) (hz:z≠[]) :
  aD (Ctr Tryz.prog W0) Fs28.ac Fs28.rs [.sc (.s s)] [] (.tup [bW 0 0 0 [] [],.sc (.b false)]) []:=by
 refine ab (m:=1200) rfl fun K hK=>?_
 conv=>whnf
 refine hK _ ?_
 clear hK
 clear K
 refine ab (m:=1500) rfl fun K hK=>?_
 conv=>whnf
 refine callP.pure _ k43a ⟨rfl,rfl⟩ ?_
 conv=>whnf
 refine hK _ ?_
 clear hK
 clear K
 refine ab (m:=1800) rfl fun K hK=>?_
 conv=>whnf
 refine hK _ ?_
 clear hK
 clear K
 refine ah ?_
 refine ab (m:=3600) rfl fun K hK=>?_
 conv=>whnf
 refine ap (fun h=>?_) (fun h=>absurd (of_decide_eq_true h) (by simp only [aa,List.length_cons,List.length_append,List.length_nil];omega))
 conv=>whnf
 refine And.intro (by simp only [aa,List.length_cons,List.length_append,List.length_nil];constructor<;>omega) ?_
 conv=>whnf
 refine ⟨_,⟨by simp only [aa,List.length_cons,List.length_append,List.length_nil];omega,cy _ _ _ _ _⟩,?_⟩
 conv=>whnf
 refine ap (fun h=>absurd h (by simp [aH,hz])) (fun _=>?_)
 conv=>whnf
 refine hK _ ?_
 clear hK
 clear K
 refine al true rfl (fun h=>absurd h (by decide)) (fun _=>?_)
 conv=>whnf
 exact bV rfl rfl rfl rfl rfl rfl
theorem bs28_end (W0:Go.World) (s l0 l1 y z:S) (B:List S) (hB:B.length≤900000) (k43a:Ctr Tryz.prog W0 43 [.sc (.s s),.sc (.s [10])] [] (.sl 1 (ae (l0::l1::(B++[y,z]))) .full) []) (hz:z=[]) (hy:y≠cu) :
  aD (Ctr Tryz.prog W0) Fs28.ac Fs28.rs [.sc (.s s)] [] (.tup [bW 0 0 0 [] [],.sc (.b false)]) []:=by
 subst hz
 refine ab (m:=1200) rfl fun K hK=>?_
 conv=>whnf
 refine hK _ ?_
 clear hK
 clear K
 refine ab (m:=1500) rfl fun K hK=>?_
 conv=>whnf
 refine callP.pure _ k43a ⟨rfl,rfl⟩ ?_
 conv=>whnf
 refine hK _ ?_
 clear hK
 clear K
 refine ab (m:=1800) rfl fun K hK=>?_
 conv=>whnf
 refine hK _ ?_
 clear hK
 clear K
 refine ah ?_
 refine ab (m:=3600) rfl fun K hK=>?_
 conv=>whnf
 refine ap (fun h=>?_) (fun h=>absurd (of_decide_eq_true h) (by simp only [aa,List.length_cons,List.length_append,List.length_nil];omega))
 conv=>whnf
 refine And.intro (by simp only [aa,List.length_cons,List.length_append,List.length_nil];constructor<;>omega) ?_
 conv=>whnf
 refine ⟨_,⟨by simp only [aa,List.length_cons,List.length_append,List.length_nil];omega,cy _ _ _ _ _⟩,?_⟩
 conv=>whnf
 refine And.intro (by simp only [aa,List.length_cons,List.length_append,List.length_nil];constructor<;>omega) ?_
 conv=>whnf
 refine ⟨_,⟨by simp only [aa,List.length_cons,List.length_append,List.length_nil];omega,cM _ _ _ _ _⟩,?_⟩
 conv=>whnf
 refine hK _ ?_
 clear hK
 clear K
 refine al _ rfl (fun h=>absurd h (by simp only [aH,Bool.not_eq_false',decide_eq_true_eq];exact hy)) (fun _=>?_)
 conv=>whnf
 exact bV rfl rfl rfl rfl rfl rfl
theorem bs28_hne (W0:Go.World) (s l0 l1 y z:S) (B:List S) (hB:B.length≤900000) (k43a:Ctr Tryz.prog W0 43 [.sc (.s s),.sc (.s [10])] [] (.sl 1 (ae (l0::l1::(B++[y,z]))) .full) []) (hz:z=[]) (hy:y=cu) (k51a:Ctr Tryz.prog W0 51 [.sc (.s l0)] [] (.tup [.sl 1 [] .none,.sc (.b false)]) []) :
  aD (Ctr Tryz.prog W0) Fs28.ac Fs28.rs [.sc (.s s)] [] (.tup [bW 0 0 0 [] [],.sc (.b false)]) []:=by
 subst hz
 subst hy
 refine ab (m:=1200) rfl fun K hK=>?_
 conv=>whnf
 refine hK _ ?_
 clear hK
 clear K
 refine ab (m:=1500) rfl fun K hK=>?_
 conv=>whnf
 refine callP.pure _ k43a ⟨rfl,rfl⟩ ?_
 conv=>whnf
 refine hK _ ?_
 clear hK
 clear K
 refine ab (m:=1800) rfl fun K hK=>?_
 conv=>whnf
 refine hK _ ?_
 clear hK
 clear K
 refine ah ?_
 refine ab (m:=3600) rfl fun K hK=>?_
 conv=>whnf
 refine ap (fun h=>?_) (fun h=>absurd (of_decide_eq_true h) (by simp only [aa,List.length_cons,List.length_append,List.length_nil];omega))
 conv=>whnf
 refine And.intro (by simp only [aa,List.length_cons,List.length_append,List.length_nil];constructor<;>omega) ?_
 conv=>whnf
 refine ⟨_,⟨by simp only [aa,List.length_cons,List.length_append,List.length_nil];omega,cy _ _ _ _ _⟩,?_⟩
 conv=>whnf
 refine And.intro (by simp only [aa,List.length_cons,List.length_append,List.length_nil];constructor<;>omega) ?_
 conv=>whnf
 refine ⟨_,⟨by simp only [aa,List.length_cons,List.length_append,List.length_nil];omega,cM _ _ _ _ _⟩,?_⟩
 conv=>whnf
 refine hK _ ?_
 clear hK
 clear K
 refine al false rfl (fun _=>?_) (fun h=>absurd h (by decide))
 refine aw ?_
 refine ab (m:=4500) rfl fun K hK=>?_
 conv=>whnf
 refine ⟨_,⟨by decide,rfl⟩,?_⟩
 conv=>whnf
 refine callP.pure _ k51a ⟨rfl,rfl⟩ ?_
 conv=>whnf
 refine hK _ ?_
 clear hK
 clear K
 refine ah ?_
 refine ab (m:=5800) rfl fun K hK=>?_
 conv=>whnf
 refine hK _ ?_
 clear hK
 clear K
 refine al true rfl (fun h=>absurd h (by decide)) (fun _=>?_)
 conv=>whnf
 exact bV rfl rfl rfl rfl rfl rfl
theorem bs28_hlen (W0:Go.World) (s l0 l1 y z:S) (B:List S) (hB:B.length≤900000) (k43a:Ctr Tryz.prog W0 43 [.sc (.s s),.sc (.s [10])] [] (.sl 1 (ae (l0::l1::(B++[y,z]))) .full) []) (hz:z=[]) (hy:y=cu) (Ws:List S) (hW:Ws.length≠4) (k51a:Ctr Tryz.prog W0 51 [.sc (.s l0)] [] (.tup [.sl 1 (ae Ws) .none,.sc (.b true)]) []) :
  aD (Ctr Tryz.prog W0) Fs28.ac Fs28.rs [.sc (.s s)] [] (.tup [bW 0 0 0 [] [],.sc (.b false)]) []:=by
 subst hz
 subst hy
 refine ab (m:=1200) rfl fun K hK=>?_
 conv=>whnf
 refine hK _ ?_
 clear hK
 clear K
 refine ab (m:=1500) rfl fun K hK=>?_
 conv=>whnf
 refine callP.pure _ k43a ⟨rfl,rfl⟩ ?_
 conv=>whnf
 refine hK _ ?_
 clear hK
 clear K
 refine ab (m:=1800) rfl fun K hK=>?_
 conv=>whnf
 refine hK _ ?_
 clear hK
 clear K
 refine ah ?_
 refine ab (m:=3600) rfl fun K hK=>?_
 conv=>whnf
 refine ap (fun h=>?_) (fun h=>absurd (of_decide_eq_true h) (by simp only [aa,List.length_cons,List.length_append,List.length_nil];omega))
 conv=>whnf
 refine And.intro (by simp only [aa,List.length_cons,List.length_append,List.length_nil];constructor<;>omega) ?_
 conv=>whnf
 refine ⟨_,⟨by simp only [aa,List.length_cons,List.length_append,List.length_nil];omega,cy _ _ _ _ _⟩,?_⟩
 conv=>whnf
 refine And.intro (by simp only [aa,List.length_cons,List.length_append,List.length_nil];constructor<;>omega) ?_
 conv=>whnf
 refine ⟨_,⟨by simp only [aa,List.length_cons,List.length_append,List.length_nil];omega,cM _ _ _ _ _⟩,?_⟩
 conv=>whnf
 refine hK _ ?_
 clear hK
 clear K
 refine al false rfl (fun _=>?_) (fun h=>absurd h (by decide))
 refine aw ?_
 refine ab (m:=4500) rfl fun K hK=>?_
 conv=>whnf
 refine ⟨_,⟨by decide,rfl⟩,?_⟩
 conv=>whnf
 refine callP.pure _ k51a ⟨rfl,rfl⟩ ?_
 conv=>whnf
 refine hK _ ?_
 clear hK
 clear K
 refine ah ?_
 refine ab (m:=5800) rfl fun K hK=>?_
 conv=>whnf
 refine ap (fun h=>absurd h (by simp only [aa,Bool.not_eq_false',decide_eq_true_eq];omega)) (fun _=>?_)
 conv=>whnf
 refine hK _ ?_
 clear hK
 clear K
 refine al true rfl (fun h=>absurd h (by decide)) (fun _=>?_)
 conv=>whnf
 exact bV rfl rfl rfl rfl rfl rfl
theorem bs28_hname (W0:Go.World) (s l0 l1 y z:S) (B:List S) (hB:B.length≤900000) (k43a:Ctr Tryz.prog W0 43 [.sc (.s s),.sc (.s [10])] [] (.sl 1 (ae (l0::l1::(B++[y,z]))) .full) []) (hz:z=[]) (hy:y=cu) (a w1 w2 w3:S) (ha:a≠ba) (k51a:Ctr Tryz.prog W0 51 [.sc (.s l0)] [] (.tup [.sl 1 (ae [a,w1,w2,w3]) .none,.sc (.b true)]) []) :
  aD (Ctr Tryz.prog W0) Fs28.ac Fs28.rs [.sc (.s s)] [] (.tup [bW 0 0 0 [] [],.sc (.b false)]) []:=by
 subst hz
 subst hy
 refine ab (m:=1200) rfl fun K hK=>?_
 conv=>whnf
 refine hK _ ?_
 clear hK
 clear K
 refine ab (m:=1500) rfl fun K hK=>?_
 conv=>whnf
 refine callP.pure _ k43a ⟨rfl,rfl⟩ ?_
 conv=>whnf
 refine hK _ ?_
 clear hK
 clear K
 refine ab (m:=1800) rfl fun K hK=>?_
 conv=>whnf
 refine hK _ ?_
 clear hK
 clear K
 refine ah ?_
 refine ab (m:=3600) rfl fun K hK=>?_
 conv=>whnf
 refine ap (fun h=>?_) (fun h=>absurd (of_decide_eq_true h) (by simp only [aa,List.length_cons,List.length_append,List.length_nil];omega))
 conv=>whnf
 refine And.intro (by simp only [aa,List.length_cons,List.length_append,List.length_nil];constructor<;>omega) ?_
 conv=>whnf
 refine ⟨_,⟨by simp only [aa,List.length_cons,List.length_append,List.length_nil];omega,cy _ _ _ _ _⟩,?_⟩
 conv=>whnf
 refine And.intro (by simp only [aa,List.length_cons,List.length_append,List.length_nil];constructor<;>omega) ?_
 conv=>whnf
 refine ⟨_,⟨by simp only [aa,List.length_cons,List.length_append,List.length_nil];omega,cM _ _ _ _ _⟩,?_⟩
 conv=>whnf
 refine hK _ ?_
 clear hK
 clear K
 refine al false rfl (fun _=>?_) (fun h=>absurd h (by decide))
 refine aw ?_
 refine ab (m:=4500) rfl fun K hK=>?_
 conv=>whnf
 refine ⟨_,⟨by decide,rfl⟩,?_⟩
 conv=>whnf
 refine callP.pure _ k51a ⟨rfl,rfl⟩ ?_
 conv=>whnf
 refine hK _ ?_
 clear hK
 clear K
 refine ah ?_
 refine ab (m:=5800) rfl fun K hK=>?_
 conv=>whnf
 refine ⟨_,⟨by decide,rfl⟩,?_⟩
 conv=>whnf
 refine hK _ ?_
 clear hK
 clear K
 refine al _ rfl (fun h=>absurd h (by simp only [aH,Bool.not_eq_false',decide_eq_true_eq];exact ha)) (fun _=>?_)
 conv=>whnf
 exact bV rfl rfl rfl rfl rfl rfl
theorem bs28_ints (W0:Go.World) (s l0 l1 y z:S) (B:List S) (hB:B.length≤900000) (k43a:Ctr Tryz.prog W0 43 [.sc (.s s),.sc (.s [10])] [] (.sl 1 (ae (l0::l1::(B++[y,z]))) .full) []) (hz:z=[]) (hy:y=cu) (w1 w2 w3:S) (k51a:Ctr Tryz.prog W0 51 [.sc (.s l0)] [] (.tup [.sl 1 (ae [ba,w1,w2,w3]) .none,.sc (.b true)]) []) (i1:Bool) (v1:Int) (k521:Ctr Tryz.prog W0 52 [.sc (.s w1)] [] (.tup [.sc (.i .i64 v1),.sc (.b i1)]) []) (i2:Bool) (v2:Int) (k522:Ctr Tryz.prog W0 52 [.sc (.s w2)] [] (.tup [.sc (.i .i64 v2),.sc (.b i2)]) []) (i3:Bool) (v3:Int) (k523:Ctr Tryz.prog W0 52 [.sc (.s w3)] [] (.tup [.sc (.i .i64 v3),.sc (.b i3)]) []) (hi:(i1&&(i2&&i3))=false) (V:List (List Data)) (ob:Bool) (k51b:Ctr Tryz.prog W0 51 [.sc (.s l1)] [] (.tup [.sl 1 V .none,.sc (.b ob)]) []) :
  aD (Ctr Tryz.prog W0) Fs28.ac Fs28.rs [.sc (.s s)] [] (.tup [bW 0 0 0 [] [],.sc (.b false)]) []:=by
 cases i1<;>cases i2<;>cases i3<;>first | (cases hi;done) | skip
 all_goals
  subst hz
  subst hy
  refine ab (m:=1200) rfl fun K hK=>?_
  conv=>whnf
  refine hK _ ?_
  clear hK
  clear K
  refine ab (m:=1500) rfl fun K hK=>?_
  conv=>whnf
  refine callP.pure _ k43a ⟨rfl,rfl⟩ ?_
  conv=>whnf
  refine hK _ ?_
  clear hK
  clear K
  refine ab (m:=1800) rfl fun K hK=>?_
  conv=>whnf
  refine hK _ ?_
  clear hK
  clear K
  refine ah ?_
  refine ab (m:=3600) rfl fun K hK=>?_
  conv=>whnf
  refine ap (fun h=>?_) (fun h=>absurd (of_decide_eq_true h) (by simp only [aa,List.length_cons,List.length_append,List.length_nil];omega))
  conv=>whnf
  refine And.intro (by simp only [aa,List.length_cons,List.length_append,List.length_nil];constructor<;>omega) ?_
  conv=>whnf
  refine ⟨_,⟨by simp only [aa,List.length_cons,List.length_append,List.length_nil];omega,cy _ _ _ _ _⟩,?_⟩
  conv=>whnf
  refine And.intro (by simp only [aa,List.length_cons,List.length_append,List.length_nil];constructor<;>omega) ?_
  conv=>whnf
  refine ⟨_,⟨by simp only [aa,List.length_cons,List.length_append,List.length_nil];omega,cM _ _ _ _ _⟩,?_⟩
  conv=>whnf
  refine hK _ ?_
  clear hK
  clear K
  refine al false rfl (fun _=>?_) (fun h=>absurd h (by decide))
  refine aw ?_
  refine ab (m:=4500) rfl fun K hK=>?_
  conv=>whnf
  refine ⟨_,⟨by decide,rfl⟩,?_⟩
  conv=>whnf
  refine callP.pure _ k51a ⟨rfl,rfl⟩ ?_
  conv=>whnf
  refine hK _ ?_
  clear hK
  clear K
  refine ah ?_
  refine ab (m:=5800) rfl fun K hK=>?_
  conv=>whnf
  refine ⟨_,⟨by decide,rfl⟩,?_⟩
  conv=>whnf
  refine hK _ ?_
  clear hK
  clear K
  refine al false rfl (fun _=>?_) (fun h=>absurd h (by decide))
  refine aw ?_
  refine ab (m:=6700) rfl fun K hK=>?_
  conv=>whnf
  refine ⟨_,⟨by decide,rfl⟩,?_⟩
  conv=>whnf
  refine callP.pure _ k521 ⟨rfl,rfl⟩ ?_
  conv=>whnf
  refine hK _ ?_
  clear hK
  clear K
  refine ab (m:=7600) rfl fun K hK=>?_
  conv=>whnf
  refine ⟨_,⟨by decide,rfl⟩,?_⟩
  conv=>whnf
  refine callP.pure _ k522 ⟨rfl,rfl⟩ ?_
  conv=>whnf
  refine hK _ ?_
  clear hK
  clear K
  refine ab (m:=8500) rfl fun K hK=>?_
  conv=>whnf
  refine ⟨_,⟨by decide,rfl⟩,?_⟩
  conv=>whnf
  refine callP.pure _ k523 ⟨rfl,rfl⟩ ?_
  conv=>whnf
  refine hK _ ?_
  clear hK
  clear K
  refine ab (m:=9400) rfl fun K hK=>?_
  conv=>whnf
  refine ⟨_,⟨by decide,rfl⟩,?_⟩
  conv=>whnf
  refine callP.pure _ k51b ⟨rfl,rfl⟩ ?_
  conv=>whnf
  refine hK _ ?_
  clear hK
  clear K
  refine ah ?_
  refine ab (m:=11900) rfl fun K hK=>?_
  conv=>whnf
  refine hK _ ?_
  clear hK
  clear K
  refine al true rfl (fun h=>absurd h (by decide)) (fun _=>?_)
  conv=>whnf
  exact bV rfl rfl rfl rfl rfl rfl
theorem bs28_one (W0:Go.World) (s l0 l1 y z:S) (B:List S) (hB:B.length≤900000) (k43a:Ctr Tryz.prog W0 43 [.sc (.s s),.sc (.s [10])] [] (.sl 1 (ae (l0::l1::(B++[y,z]))) .full) []) (hz:z=[]) (hy:y=cu) (w1 w2 w3:S) (k51a:Ctr Tryz.prog W0 51 [.sc (.s l0)] [] (.tup [.sl 1 (ae [ba,w1,w2,w3]) .none,.sc (.b true)]) []) (i1:Bool) (v1:Int) (k521:Ctr Tryz.prog W0 52 [.sc (.s w1)] [] (.tup [.sc (.i .i64 v1),.sc (.b i1)]) []) (i2:Bool) (v2:Int) (k522:Ctr Tryz.prog W0 52 [.sc (.s w2)] [] (.tup [.sc (.i .i64 v2),.sc (.b i2)]) []) (i3:Bool) (v3:Int) (k523:Ctr Tryz.prog W0 52 [.sc (.s w3)] [] (.tup [.sc (.i .i64 v3),.sc (.b i3)]) []) (hi1:i1=true) (hi2:i2=true) (hi3:i3=true) (k51b:Ctr Tryz.prog W0 51 [.sc (.s l1)] [] (.tup [.sl 1 [] .none,.sc (.b false)]) []) :
  aD (Ctr Tryz.prog W0) Fs28.ac Fs28.rs [.sc (.s s)] [] (.tup [bW 0 0 0 [] [],.sc (.b false)]) []:=by
 subst hi1
 subst hi2
 subst hi3
 subst hz
 subst hy
 refine ab (m:=1200) rfl fun K hK=>?_
 conv=>whnf
 refine hK _ ?_
 clear hK
 clear K
 refine ab (m:=1500) rfl fun K hK=>?_
 conv=>whnf
 refine callP.pure _ k43a ⟨rfl,rfl⟩ ?_
 conv=>whnf
 refine hK _ ?_
 clear hK
 clear K
 refine ab (m:=1800) rfl fun K hK=>?_
 conv=>whnf
 refine hK _ ?_
 clear hK
 clear K
 refine ah ?_
 refine ab (m:=3600) rfl fun K hK=>?_
 conv=>whnf
 refine ap (fun h=>?_) (fun h=>absurd (of_decide_eq_true h) (by simp only [aa,List.length_cons,List.length_append,List.length_nil];omega))
 conv=>whnf
 refine And.intro (by simp only [aa,List.length_cons,List.length_append,List.length_nil];constructor<;>omega) ?_
 conv=>whnf
 refine ⟨_,⟨by simp only [aa,List.length_cons,List.length_append,List.length_nil];omega,cy _ _ _ _ _⟩,?_⟩
 conv=>whnf
 refine And.intro (by simp only [aa,List.length_cons,List.length_append,List.length_nil];constructor<;>omega) ?_
 conv=>whnf
 refine ⟨_,⟨by simp only [aa,List.length_cons,List.length_append,List.length_nil];omega,cM _ _ _ _ _⟩,?_⟩
 conv=>whnf
 refine hK _ ?_
 clear hK
 clear K
 refine al false rfl (fun _=>?_) (fun h=>absurd h (by decide))
 refine aw ?_
 refine ab (m:=4500) rfl fun K hK=>?_
 conv=>whnf
 refine ⟨_,⟨by decide,rfl⟩,?_⟩
 conv=>whnf
 refine callP.pure _ k51a ⟨rfl,rfl⟩ ?_
 conv=>whnf
 refine hK _ ?_
 clear hK
 clear K
 refine ah ?_
 refine ab (m:=5800) rfl fun K hK=>?_
 conv=>whnf
 refine ⟨_,⟨by decide,rfl⟩,?_⟩
 conv=>whnf
 refine hK _ ?_
 clear hK
 clear K
 refine al false rfl (fun _=>?_) (fun h=>absurd h (by decide))
 refine aw ?_
 refine ab (m:=6700) rfl fun K hK=>?_
 conv=>whnf
 refine ⟨_,⟨by decide,rfl⟩,?_⟩
 conv=>whnf
 refine callP.pure _ k521 ⟨rfl,rfl⟩ ?_
 conv=>whnf
 refine hK _ ?_
 clear hK
 clear K
 refine ab (m:=7600) rfl fun K hK=>?_
 conv=>whnf
 refine ⟨_,⟨by decide,rfl⟩,?_⟩
 conv=>whnf
 refine callP.pure _ k522 ⟨rfl,rfl⟩ ?_
 conv=>whnf
 refine hK _ ?_
 clear hK
 clear K
 refine ab (m:=8500) rfl fun K hK=>?_
 conv=>whnf
 refine ⟨_,⟨by decide,rfl⟩,?_⟩
 conv=>whnf
 refine callP.pure _ k523 ⟨rfl,rfl⟩ ?_
 conv=>whnf
 refine hK _ ?_
 clear hK
 clear K
 refine ab (m:=9400) rfl fun K hK=>?_
 conv=>whnf
 refine ⟨_,⟨by decide,rfl⟩,?_⟩
 conv=>whnf
 refine callP.pure _ k51b ⟨rfl,rfl⟩ ?_
 conv=>whnf
 refine hK _ ?_
 clear hK
 clear K
 refine ah ?_
 refine ab (m:=11900) rfl fun K hK=>?_
 conv=>whnf
 refine hK _ ?_
 clear hK
 clear K
 refine al true rfl (fun h=>absurd h (by decide)) (fun _=>?_)
 conv=>whnf
 exact bV rfl rfl rfl rfl rfl rfl
theorem bs28_olen (W0:Go.World) (s l0 l1 y z:S) (B:List S) (hB:B.length≤900000) (k43a:Ctr Tryz.prog W0 43 [.sc (.s s),.sc (.s [10])] [] (.sl 1 (ae (l0::l1::(B++[y,z]))) .full) []) (hz:z=[]) (hy:y=cu) (w1 w2 w3:S) (k51a:Ctr Tryz.prog W0 51 [.sc (.s l0)] [] (.tup [.sl 1 (ae [ba,w1,w2,w3]) .none,.sc (.b true)]) []) (i1:Bool) (v1:Int) (k521:Ctr Tryz.prog W0 52 [.sc (.s w1)] [] (.tup [.sc (.i .i64 v1),.sc (.b i1)]) []) (i2:Bool) (v2:Int) (k522:Ctr Tryz.prog W0 52 [.sc (.s w2)] [] (.tup [.sc (.i .i64 v2),.sc (.b i2)]) []) (i3:Bool) (v3:Int) (k523:Ctr Tryz.prog W0 52 [.sc (.s w3)] [] (.tup [.sc (.i .i64 v3),.sc (.b i3)]) []) (hi1:i1=true) (hi2:i2=true) (hi3:i3=true) (Vs:List S) (hV:Vs.length≠2) (k51b:Ctr Tryz.prog W0 51 [.sc (.s l1)] [] (.tup [.sl 1 (ae Vs) .none,.sc (.b true)]) []) :
  aD (Ctr Tryz.prog W0) Fs28.ac Fs28.rs [.sc (.s s)] [] (.tup [bW 0 0 0 [] [],.sc (.b false)]) []:=by
 subst hi1
 subst hi2
 subst hi3
 subst hz
 subst hy
 refine ab (m:=1200) rfl fun K hK=>?_
 conv=>whnf
 refine hK _ ?_
 clear hK
 clear K
 refine ab (m:=1500) rfl fun K hK=>?_
 conv=>whnf
 refine callP.pure _ k43a ⟨rfl,rfl⟩ ?_
 conv=>whnf
 refine hK _ ?_
 clear hK
 clear K
 refine ab (m:=1800) rfl fun K hK=>?_
 conv=>whnf
 refine hK _ ?_
 clear hK
 clear K
 refine ah ?_
 refine ab (m:=3600) rfl fun K hK=>?_
 conv=>whnf
 refine ap (fun h=>?_) (fun h=>absurd (of_decide_eq_true h) (by simp only [aa,List.length_cons,List.length_append,List.length_nil];omega))
 conv=>whnf
 refine And.intro (by simp only [aa,List.length_cons,List.length_append,List.length_nil];constructor<;>omega) ?_
 conv=>whnf
 refine ⟨_,⟨by simp only [aa,List.length_cons,List.length_append,List.length_nil];omega,cy _ _ _ _ _⟩,?_⟩
 conv=>whnf
 refine And.intro (by simp only [aa,List.length_cons,List.length_append,List.length_nil];constructor<;>omega) ?_
 conv=>whnf
 refine ⟨_,⟨by simp only [aa,List.length_cons,List.length_append,List.length_nil];omega,cM _ _ _ _ _⟩,?_⟩
 conv=>whnf
 refine hK _ ?_
 clear hK
 clear K
 refine al false rfl (fun _=>?_) (fun h=>absurd h (by decide))
 refine aw ?_
 refine ab (m:=4500) rfl fun K hK=>?_
 conv=>whnf
 refine ⟨_,⟨by decide,rfl⟩,?_⟩
 conv=>whnf
 refine callP.pure _ k51a ⟨rfl,rfl⟩ ?_
 conv=>whnf
 refine hK _ ?_
 clear hK
 clear K
 refine ah ?_
 refine ab (m:=5800) rfl fun K hK=>?_
 conv=>whnf
 refine ⟨_,⟨by decide,rfl⟩,?_⟩
 conv=>whnf
 refine hK _ ?_
 clear hK
 clear K
 refine al false rfl (fun _=>?_) (fun h=>absurd h (by decide))
 refine aw ?_
 refine ab (m:=6700) rfl fun K hK=>?_
 conv=>whnf
 refine ⟨_,⟨by decide,rfl⟩,?_⟩
 conv=>whnf
 refine callP.pure _ k521 ⟨rfl,rfl⟩ ?_
 conv=>whnf
 refine hK _ ?_
 clear hK
 clear K
 refine ab (m:=7600) rfl fun K hK=>?_
 conv=>whnf
 refine ⟨_,⟨by decide,rfl⟩,?_⟩
 conv=>whnf
 refine callP.pure _ k522 ⟨rfl,rfl⟩ ?_
 conv=>whnf
 refine hK _ ?_
 clear hK
 clear K
 refine ab (m:=8500) rfl fun K hK=>?_
 conv=>whnf
 refine ⟨_,⟨by decide,rfl⟩,?_⟩
 conv=>whnf
 refine callP.pure _ k523 ⟨rfl,rfl⟩ ?_
 conv=>whnf
 refine hK _ ?_
 clear hK
 clear K
 refine ab (m:=9400) rfl fun K hK=>?_
 conv=>whnf
 refine ⟨_,⟨by decide,rfl⟩,?_⟩
 conv=>whnf
 refine callP.pure _ k51b ⟨rfl,rfl⟩ ?_
 conv=>whnf
 refine hK _ ?_
 clear hK
 clear K
 refine ah ?_
 refine ab (m:=11900) rfl fun K hK=>?_
 conv=>whnf
 refine ap (fun h=>absurd h (by simp only [aa,Bool.not_eq_false',decide_eq_true_eq];omega)) (fun _=>?_)
 conv=>whnf
 refine hK _ ?_
 clear hK
 clear K
 refine al true rfl (fun h=>absurd h (by decide)) (fun _=>?_)
 conv=>whnf
 exact bV rfl rfl rfl rfl rfl rfl
theorem bs28_oname (W0:Go.World) (s l0 l1 y z:S) (B:List S) (hB:B.length≤900000) (k43a:Ctr Tryz.prog W0 43 [.sc (.s s),.sc (.s [10])] [] (.sl 1 (ae (l0::l1::(B++[y,z]))) .full) []) (hz:z=[]) (hy:y=cu) (w1 w2 w3:S) (k51a:Ctr Tryz.prog W0 51 [.sc (.s l0)] [] (.tup [.sl 1 (ae [ba,w1,w2,w3]) .none,.sc (.b true)]) []) (i1:Bool) (v1:Int) (k521:Ctr Tryz.prog W0 52 [.sc (.s w1)] [] (.tup [.sc (.i .i64 v1),.sc (.b i1)]) []) (i2:Bool) (v2:Int) (k522:Ctr Tryz.prog W0 52 [.sc (.s w2)] [] (.tup [.sc (.i .i64 v2),.sc (.b i2)]) []) (i3:Bool) (v3:Int) (k523:Ctr Tryz.prog W0 52 [.sc (.s w3)] [] (.tup [.sc (.i .i64 v3),.sc (.b i3)]) []) (hi1:i1=true) (hi2:i2=true) (hi3:i3=true) (b x:S) (hb:b≠jl) (k51b:Ctr Tryz.prog W0 51 [.sc (.s l1)] [] (.tup [.sl 1 (ae [b,x]) .none,.sc (.b true)]) []) :
  aD (Ctr Tryz.prog W0) Fs28.ac Fs28.rs [.sc (.s s)] [] (.tup [bW 0 0 0 [] [],.sc (.b false)]) []:=by
 subst hi1
 subst hi2
 subst hi3
 subst hz
 subst hy
 refine ab (m:=1200) rfl fun K hK=>?_
 conv=>whnf
 refine hK _ ?_
 clear hK
 clear K
 refine ab (m:=1500) rfl fun K hK=>?_
 conv=>whnf
 refine callP.pure _ k43a ⟨rfl,rfl⟩ ?_
 conv=>whnf
 refine hK _ ?_
 clear hK
 clear K
 refine ab (m:=1800) rfl fun K hK=>?_
 conv=>whnf
 refine hK _ ?_
 clear hK
 clear K
 refine ah ?_
 refine ab (m:=3600) rfl fun K hK=>?_
 conv=>whnf
 refine ap (fun h=>?_) (fun h=>absurd (of_decide_eq_true h) (by simp only [aa,List.length_cons,List.length_append,List.length_nil];omega))
 conv=>whnf
 refine And.intro (by simp only [aa,List.length_cons,List.length_append,List.length_nil];constructor<;>omega) ?_
 conv=>whnf
 refine ⟨_,⟨by simp only [aa,List.length_cons,List.length_append,List.length_nil];omega,cy _ _ _ _ _⟩,?_⟩
 conv=>whnf
 refine And.intro (by simp only [aa,List.length_cons,List.length_append,List.length_nil];constructor<;>omega) ?_
 conv=>whnf
 refine ⟨_,⟨by simp only [aa,List.length_cons,List.length_append,List.length_nil];omega,cM _ _ _ _ _⟩,?_⟩
 conv=>whnf
 refine hK _ ?_
 clear hK
 clear K
 refine al false rfl (fun _=>?_) (fun h=>absurd h (by decide))
 refine aw ?_
 refine ab (m:=4500) rfl fun K hK=>?_
 conv=>whnf
 refine ⟨_,⟨by decide,rfl⟩,?_⟩
 conv=>whnf
 refine callP.pure _ k51a ⟨rfl,rfl⟩ ?_
 conv=>whnf
 refine hK _ ?_
 clear hK
 clear K
 refine ah ?_
 refine ab (m:=5800) rfl fun K hK=>?_
 conv=>whnf
 refine ⟨_,⟨by decide,rfl⟩,?_⟩
 conv=>whnf
 refine hK _ ?_
 clear hK
 clear K
 refine al false rfl (fun _=>?_) (fun h=>absurd h (by decide))
 refine aw ?_
 refine ab (m:=6700) rfl fun K hK=>?_
 conv=>whnf
 refine ⟨_,⟨by decide,rfl⟩,?_⟩
 conv=>whnf
 refine callP.pure _ k521 ⟨rfl,rfl⟩ ?_
 conv=>whnf
 refine hK _ ?_
 clear hK
 clear K
 refine ab (m:=7600) rfl fun K hK=>?_
 conv=>whnf
 refine ⟨_,⟨by decide,rfl⟩,?_⟩
 conv=>whnf
 refine callP.pure _ k522 ⟨rfl,rfl⟩ ?_
 conv=>whnf
 refine hK _ ?_
 clear hK
 clear K
 refine ab (m:=8500) rfl fun K hK=>?_
 conv=>whnf
 refine ⟨_,⟨by decide,rfl⟩,?_⟩
 conv=>whnf
 refine callP.pure _ k523 ⟨rfl,rfl⟩ ?_
 conv=>whnf
 refine hK _ ?_
 clear hK
 clear K
 refine ab (m:=9400) rfl fun K hK=>?_
 conv=>whnf
 refine ⟨_,⟨by decide,rfl⟩,?_⟩
 conv=>whnf
 refine callP.pure _ k51b ⟨rfl,rfl⟩ ?_
 conv=>whnf
 refine hK _ ?_
 clear hK
 clear K
 refine ah ?_
 refine ab (m:=11900) rfl fun K hK=>?_
 conv=>whnf
 refine ⟨_,⟨by decide,rfl⟩,?_⟩
 conv=>whnf
 refine hK _ ?_
 clear hK
 clear K
 refine al _ rfl (fun h=>absurd h (by simp only [aH,Bool.not_eq_false',decide_eq_true_eq];exact hb)) (fun _=>?_)
 conv=>whnf
 exact bV rfl rfl rfl rfl rfl rfl
theorem bs28_cnt (W0:Go.World) (s l0 l1 y z:S) (B:List S) (hB:B.length≤900000) (k43a:Ctr Tryz.prog W0 43 [.sc (.s s),.sc (.s [10])] [] (.sl 1 (ae (l0::l1::(B++[y,z]))) .full) []) (hz:z=[]) (hy:y=cu) (w1 w2 w3:S) (k51a:Ctr Tryz.prog W0 51 [.sc (.s l0)] [] (.tup [.sl 1 (ae [ba,w1,w2,w3]) .none,.sc (.b true)]) []) (i1:Bool) (v1:Int) (k521:Ctr Tryz.prog W0 52 [.sc (.s w1)] [] (.tup [.sc (.i .i64 v1),.sc (.b i1)]) []) (i2:Bool) (v2:Int) (k522:Ctr Tryz.prog W0 52 [.sc (.s w2)] [] (.tup [.sc (.i .i64 v2),.sc (.b i2)]) []) (i3:Bool) (v3:Int) (k523:Ctr Tryz.prog W0 52 [.sc (.s w3)] [] (.tup [.sc (.i .i64 v3),.sc (.b i3)]) []) (hi1:i1=true) (hi2:i2=true) (hi3:i3=true) (x:S) (k51b:Ctr Tryz.prog W0 51 [.sc (.s l1)] [] (.tup [.sl 1 (ae [jl,x]) .none,.sc (.b true)]) []) (n:Int) (k53:Ctr Tryz.prog W0 53 [.sc (.s x)] [] (.tup [.sc (.i .i64 n),.sc (.b false)]) []) :
  aD (Ctr Tryz.prog W0) Fs28.ac Fs28.rs [.sc (.s s)] [] (.tup [bW 0 0 0 [] [],.sc (.b false)]) []:=by
 subst hi1
 subst hi2
 subst hi3
 subst hz
 subst hy
 refine ab (m:=1200) rfl fun K hK=>?_
 conv=>whnf
 refine hK _ ?_
 clear hK
 clear K
 refine ab (m:=1500) rfl fun K hK=>?_
 conv=>whnf
 refine callP.pure _ k43a ⟨rfl,rfl⟩ ?_
 conv=>whnf
 refine hK _ ?_
 clear hK
 clear K
 refine ab (m:=1800) rfl fun K hK=>?_
 conv=>whnf
 refine hK _ ?_
 clear hK
 clear K
 refine ah ?_
 refine ab (m:=3600) rfl fun K hK=>?_
 conv=>whnf
 refine ap (fun h=>?_) (fun h=>absurd (of_decide_eq_true h) (by simp only [aa,List.length_cons,List.length_append,List.length_nil];omega))
 conv=>whnf
 refine And.intro (by simp only [aa,List.length_cons,List.length_append,List.length_nil];constructor<;>omega) ?_
 conv=>whnf
 refine ⟨_,⟨by simp only [aa,List.length_cons,List.length_append,List.length_nil];omega,cy _ _ _ _ _⟩,?_⟩
 conv=>whnf
 refine And.intro (by simp only [aa,List.length_cons,List.length_append,List.length_nil];constructor<;>omega) ?_
 conv=>whnf
 refine ⟨_,⟨by simp only [aa,List.length_cons,List.length_append,List.length_nil];omega,cM _ _ _ _ _⟩,?_⟩
 conv=>whnf
 refine hK _ ?_
 clear hK
 clear K
 refine al false rfl (fun _=>?_) (fun h=>absurd h (by decide))
 refine aw ?_
 refine ab (m:=4500) rfl fun K hK=>?_
 conv=>whnf
 refine ⟨_,⟨by decide,rfl⟩,?_⟩
 conv=>whnf
 refine callP.pure _ k51a ⟨rfl,rfl⟩ ?_
 conv=>whnf
 refine hK _ ?_
 clear hK
 clear K
 refine ah ?_
 refine ab (m:=5800) rfl fun K hK=>?_
 conv=>whnf
 refine ⟨_,⟨by decide,rfl⟩,?_⟩
 conv=>whnf
 refine hK _ ?_
 clear hK
 clear K
 refine al false rfl (fun _=>?_) (fun h=>absurd h (by decide))
 refine aw ?_
 refine ab (m:=6700) rfl fun K hK=>?_
 conv=>whnf
 refine ⟨_,⟨by decide,rfl⟩,?_⟩
 conv=>whnf
 refine callP.pure _ k521 ⟨rfl,rfl⟩ ?_
 conv=>whnf
 refine hK _ ?_
 clear hK
 clear K
 refine ab (m:=7600) rfl fun K hK=>?_
 conv=>whnf
 refine ⟨_,⟨by decide,rfl⟩,?_⟩
 conv=>whnf
 refine callP.pure _ k522 ⟨rfl,rfl⟩ ?_
 conv=>whnf
 refine hK _ ?_
 clear hK
 clear K
 refine ab (m:=8500) rfl fun K hK=>?_
 conv=>whnf
 refine ⟨_,⟨by decide,rfl⟩,?_⟩
 conv=>whnf
 refine callP.pure _ k523 ⟨rfl,rfl⟩ ?_
 conv=>whnf
 refine hK _ ?_
 clear hK
 clear K
 refine ab (m:=9400) rfl fun K hK=>?_
 conv=>whnf
 refine ⟨_,⟨by decide,rfl⟩,?_⟩
 conv=>whnf
 refine callP.pure _ k51b ⟨rfl,rfl⟩ ?_
 conv=>whnf
 refine hK _ ?_
 clear hK
 clear K
 refine ah ?_
 refine ab (m:=11900) rfl fun K hK=>?_
 conv=>whnf
 refine ⟨_,⟨by decide,rfl⟩,?_⟩
 conv=>whnf
 refine hK _ ?_
 clear hK
 clear K
 refine al false rfl (fun _=>?_) (fun h=>absurd h (by decide))
 refine aw ?_
 refine ab (m:=12500) rfl fun K hK=>?_
 conv=>whnf
 refine hK _ ?_
 clear hK
 clear K
 refine ab (m:=13400) rfl fun K hK=>?_
 conv=>whnf
 refine ⟨_,⟨by decide,rfl⟩,?_⟩
 conv=>whnf
 refine callP.pure _ k53 ⟨rfl,rfl⟩ ?_
 conv=>whnf
 refine hK _ ?_
 clear hK
 clear K
 refine ah ?_
 refine ab (m:=14200) rfl fun K hK=>?_
 conv=>whnf
 refine hK _ ?_
 clear hK
 clear K
 refine al true rfl (fun h=>absurd h (by decide)) (fun _=>?_)
 conv=>whnf
 exact bV rfl rfl rfl rfl rfl rfl
theorem bs28_many (W0:Go.World) (s l0 l1 y z:S) (B:List S) (hB:B.length≤900000) (k43a:Ctr Tryz.prog W0 43 [.sc (.s s),.sc (.s [10])] [] (.sl 1 (ae (l0::l1::(B++[y,z]))) .full) []) (hz:z=[]) (hy:y=cu) (w1 w2 w3:S) (k51a:Ctr Tryz.prog W0 51 [.sc (.s l0)] [] (.tup [.sl 1 (ae [ba,w1,w2,w3]) .none,.sc (.b true)]) []) (i1:Bool) (v1:Int) (k521:Ctr Tryz.prog W0 52 [.sc (.s w1)] [] (.tup [.sc (.i .i64 v1),.sc (.b i1)]) []) (i2:Bool) (v2:Int) (k522:Ctr Tryz.prog W0 52 [.sc (.s w2)] [] (.tup [.sc (.i .i64 v2),.sc (.b i2)]) []) (i3:Bool) (v3:Int) (k523:Ctr Tryz.prog W0 52 [.sc (.s w3)] [] (.tup [.sc (.i .i64 v3),.sc (.b i3)]) []) (hi1:i1=true) (hi2:i2=true) (hi3:i3=true) (x:S) (k51b:Ctr Tryz.prog W0 51 [.sc (.s l1)] [] (.tup [.sl 1 (ae [jl,x]) .none,.sc (.b true)]) []) (n:Int) (hn:(B.length:Int)<n) (k53:Ctr Tryz.prog W0 53 [.sc (.s x)] [] (.tup [.sc (.i .i64 n),.sc (.b true)]) []) :
  aD (Ctr Tryz.prog W0) Fs28.ac Fs28.rs [.sc (.s s)] [] (.tup [bW 0 0 0 [] [],.sc (.b false)]) []:=by
 subst hi1
 subst hi2
 subst hi3
 subst hz
 subst hy
 refine ab (m:=1200) rfl fun K hK=>?_
 conv=>whnf
 refine hK _ ?_
 clear hK
 clear K
 refine ab (m:=1500) rfl fun K hK=>?_
 conv=>whnf
 refine callP.pure _ k43a ⟨rfl,rfl⟩ ?_
 conv=>whnf
 refine hK _ ?_
 clear hK
 clear K
 refine ab (m:=1800) rfl fun K hK=>?_
 conv=>whnf
 refine hK _ ?_
 clear hK
 clear K
 refine ah ?_
 refine ab (m:=3600) rfl fun K hK=>?_
 conv=>whnf
 refine ap (fun h=>?_) (fun h=>absurd (of_decide_eq_true h) (by simp only [aa,List.length_cons,List.length_append,List.length_nil];omega))
 conv=>whnf
 refine And.intro (by simp only [aa,List.length_cons,List.length_append,List.length_nil];constructor<;>omega) ?_
 conv=>whnf
 refine ⟨_,⟨by simp only [aa,List.length_cons,List.length_append,List.length_nil];omega,cy _ _ _ _ _⟩,?_⟩
 conv=>whnf
 refine And.intro (by simp only [aa,List.length_cons,List.length_append,List.length_nil];constructor<;>omega) ?_
 conv=>whnf
 refine ⟨_,⟨by simp only [aa,List.length_cons,List.length_append,List.length_nil];omega,cM _ _ _ _ _⟩,?_⟩
 conv=>whnf
 refine hK _ ?_
 clear hK
 clear K
 refine al false rfl (fun _=>?_) (fun h=>absurd h (by decide))
 refine aw ?_
 refine ab (m:=4500) rfl fun K hK=>?_
 conv=>whnf
 refine ⟨_,⟨by decide,rfl⟩,?_⟩
 conv=>whnf
 refine callP.pure _ k51a ⟨rfl,rfl⟩ ?_
 conv=>whnf
 refine hK _ ?_
 clear hK
 clear K
 refine ah ?_
 refine ab (m:=5800) rfl fun K hK=>?_
 conv=>whnf
 refine ⟨_,⟨by decide,rfl⟩,?_⟩
 conv=>whnf
 refine hK _ ?_
 clear hK
 clear K
 refine al false rfl (fun _=>?_) (fun h=>absurd h (by decide))
 refine aw ?_
 refine ab (m:=6700) rfl fun K hK=>?_
 conv=>whnf
 refine ⟨_,⟨by decide,rfl⟩,?_⟩
 conv=>whnf
 refine callP.pure _ k521 ⟨rfl,rfl⟩ ?_
 conv=>whnf
 refine hK _ ?_
 clear hK
 clear K
 refine ab (m:=7600) rfl fun K hK=>?_
 conv=>whnf
 refine ⟨_,⟨by decide,rfl⟩,?_⟩
 conv=>whnf
 refine callP.pure _ k522 ⟨rfl,rfl⟩ ?_
 conv=>whnf
 refine hK _ ?_
 clear hK
 clear K
 refine ab (m:=8500) rfl fun K hK=>?_
 conv=>whnf
 refine ⟨_,⟨by decide,rfl⟩,?_⟩
 conv=>whnf
 refine callP.pure _ k523 ⟨rfl,rfl⟩ ?_
 conv=>whnf
 refine hK _ ?_
 clear hK
 clear K
 refine ab (m:=9400) rfl fun K hK=>?_
 conv=>whnf
 refine ⟨_,⟨by decide,rfl⟩,?_⟩
 conv=>whnf
 refine callP.pure _ k51b ⟨rfl,rfl⟩ ?_
 conv=>whnf
 refine hK _ ?_
 clear hK
 clear K
 refine ah ?_
 refine ab (m:=11900) rfl fun K hK=>?_
 conv=>whnf
 refine ⟨_,⟨by decide,rfl⟩,?_⟩
 conv=>whnf
 refine hK _ ?_
 clear hK
 clear K
 refine al false rfl (fun _=>?_) (fun h=>absurd h (by decide))
 refine aw ?_
 refine ab (m:=12500) rfl fun K hK=>?_
 conv=>whnf
 refine hK _ ?_
 clear hK
 clear K
 refine ab (m:=13400) rfl fun K hK=>?_
 conv=>whnf
 refine ⟨_,⟨by decide,rfl⟩,?_⟩
 conv=>whnf
 refine callP.pure _ k53 ⟨rfl,rfl⟩ ?_
 conv=>whnf
 refine hK _ ?_
 clear hK
 clear K
 refine ah ?_
 refine ab (m:=14200) rfl fun K hK=>?_
 conv=>whnf
 refine And.intro (by simp only [aa,List.length_cons,List.length_append,List.length_nil];constructor<;>omega) ?_
 conv=>whnf
 refine hK _ ?_
 clear hK
 clear K
 refine al _ rfl (fun h=>absurd h (by simp only [aa,List.length_cons,List.length_append,List.length_nil,decide_eq_false_iff_not];omega)) (fun _=>?_)
 conv=>whnf
 exact bV rfl rfl rfl rfl rfl rfl
theorem bs28_out (W0:Go.World) (s l0 l1 y z:S) (B:List S) (hB:B.length≤900000) (k43a:Ctr Tryz.prog W0 43 [.sc (.s s),.sc (.s [10])] [] (.sl 1 (ae (l0::l1::(B++[y,z]))) .full) []) (hz:z=[]) (hy:y=cu) (w1 w2 w3:S) (k51a:Ctr Tryz.prog W0 51 [.sc (.s l0)] [] (.tup [.sl 1 (ae [ba,w1,w2,w3]) .none,.sc (.b true)]) []) (i1:Bool) (v1:Int) (k521:Ctr Tryz.prog W0 52 [.sc (.s w1)] [] (.tup [.sc (.i .i64 v1),.sc (.b i1)]) []) (i2:Bool) (v2:Int) (k522:Ctr Tryz.prog W0 52 [.sc (.s w2)] [] (.tup [.sc (.i .i64 v2),.sc (.b i2)]) []) (i3:Bool) (v3:Int) (k523:Ctr Tryz.prog W0 52 [.sc (.s w3)] [] (.tup [.sc (.i .i64 v3),.sc (.b i3)]) []) (hi1:i1=true) (hi2:i2=true) (hi3:i3=true) (x:S) (k51b:Ctr Tryz.prog W0 51 [.sc (.s l1)] [] (.tup [.sl 1 (ae [jl,x]) .none,.sc (.b true)]) []) (k:Nat) (hk:k≤B.length) (k53:Ctr Tryz.prog W0 53 [.sc (.s x)] [] (.tup [.sc (.i .i64 (k:Nat)),.sc (.b true)]) []) (k52:∀ x,x∈B→Ctr Tryz.prog W0 52 [.sc (.s x)] [] (.tup [.sc (.i .i64 (bz x)),.sc (.b (aq x))]) []) (ho:(B.take k).all (ci aq)=false) :
  aD (Ctr Tryz.prog W0) Fs28.ac Fs28.rs [.sc (.s s)] [] (.tup [bW 0 0 0 [] [],.sc (.b false)]) []:=by
 subst hi1
 subst hi2
 subst hi3
 subst hz
 subst hy
 refine ab (m:=1200) rfl fun K hK=>?_
 conv=>whnf
 refine hK _ ?_
 clear hK
 clear K
 refine ab (m:=1500) rfl fun K hK=>?_
 conv=>whnf
 refine callP.pure _ k43a ⟨rfl,rfl⟩ ?_
 conv=>whnf
 refine hK _ ?_
 clear hK
 clear K
 refine ab (m:=1800) rfl fun K hK=>?_
 conv=>whnf
 refine hK _ ?_
 clear hK
 clear K
 refine ah ?_
 refine ab (m:=3600) rfl fun K hK=>?_
 conv=>whnf
 refine ap (fun h=>?_) (fun h=>absurd (of_decide_eq_true h) (by simp only [aa,List.length_cons,List.length_append,List.length_nil];omega))
 conv=>whnf
 refine And.intro (by simp only [aa,List.length_cons,List.length_append,List.length_nil];constructor<;>omega) ?_
 conv=>whnf
 refine ⟨_,⟨by simp only [aa,List.length_cons,List.length_append,List.length_nil];omega,cy _ _ _ _ _⟩,?_⟩
 conv=>whnf
 refine And.intro (by simp only [aa,List.length_cons,List.length_append,List.length_nil];constructor<;>omega) ?_
 conv=>whnf
 refine ⟨_,⟨by simp only [aa,List.length_cons,List.length_append,List.length_nil];omega,cM _ _ _ _ _⟩,?_⟩
 conv=>whnf
 refine hK _ ?_
 clear hK
 clear K
 refine al false rfl (fun _=>?_) (fun h=>absurd h (by decide))
 refine aw ?_
 refine ab (m:=4500) rfl fun K hK=>?_
 conv=>whnf
 refine ⟨_,⟨by decide,rfl⟩,?_⟩
 conv=>whnf
 refine callP.pure _ k51a ⟨rfl,rfl⟩ ?_
 conv=>whnf
 refine hK _ ?_
 clear hK
 clear K
 refine ah ?_
 refine ab (m:=5800) rfl fun K hK=>?_
 conv=>whnf
 refine ⟨_,⟨by decide,rfl⟩,?_⟩
 conv=>whnf
 refine hK _ ?_
 clear hK
 clear K
 refine al false rfl (fun _=>?_) (fun h=>absurd h (by decide))
 refine aw ?_
 refine ab (m:=6700) rfl fun K hK=>?_
 conv=>whnf
 refine ⟨_,⟨by decide,rfl⟩,?_⟩
 conv=>whnf
 refine callP.pure _ k521 ⟨rfl,rfl⟩ ?_
 conv=>whnf
 refine hK _ ?_
 clear hK
 clear K
 refine ab (m:=7600) rfl fun K hK=>?_
 conv=>whnf
 refine ⟨_,⟨by decide,rfl⟩,?_⟩
 conv=>whnf
 refine callP.pure _ k522 ⟨rfl,rfl⟩ ?_
 conv=>whnf
 refine hK _ ?_
 clear hK
 clear K
 refine ab (m:=8500) rfl fun K hK=>?_
 conv=>whnf
 refine ⟨_,⟨by decide,rfl⟩,?_⟩
 conv=>whnf
 refine callP.pure _ k523 ⟨rfl,rfl⟩ ?_
 conv=>whnf
 refine hK _ ?_
 clear hK
 clear K
 refine ab (m:=9400) rfl fun K hK=>?_
 conv=>whnf
 refine ⟨_,⟨by decide,rfl⟩,?_⟩
 conv=>whnf
 refine callP.pure _ k51b ⟨rfl,rfl⟩ ?_
 conv=>whnf
 refine hK _ ?_
 clear hK
 clear K
 refine ah ?_
 refine ab (m:=11900) rfl fun K hK=>?_
 conv=>whnf
 refine ⟨_,⟨by decide,rfl⟩,?_⟩
 conv=>whnf
 refine hK _ ?_
 clear hK
 clear K
 refine al false rfl (fun _=>?_) (fun h=>absurd h (by decide))
 refine aw ?_
 refine ab (m:=12500) rfl fun K hK=>?_
 conv=>whnf
 refine hK _ ?_
 clear hK
 clear K
 refine ab (m:=13400) rfl fun K hK=>?_
 conv=>whnf
 refine ⟨_,⟨by decide,rfl⟩,?_⟩
 conv=>whnf
 refine callP.pure _ k53 ⟨rfl,rfl⟩ ?_
 conv=>whnf
 refine hK _ ?_
 clear hK
 clear K
 refine ah ?_
 refine ab (m:=14200) rfl fun K hK=>?_
 conv=>whnf
 refine And.intro (by simp only [aa,List.length_cons,List.length_append,List.length_nil];constructor<;>omega) ?_
 conv=>whnf
 refine hK _ ?_
 clear hK
 clear K
 refine al _ rfl (fun _=>?_) (fun h=>absurd h (by simp only [aa,List.length_cons,List.length_append,List.length_nil,decide_eq_true_eq];omega))
 refine aw ?_
 refine ah ?_
 refine ab (m:=14300) rfl fun K hK=>?_
 conv=>whnf
 refine hK _ ?_
 clear hK
 clear K
 refine fh fun Q' hQ hR=>?_
 refine .st 20000 (fun j=>k - j) (fun j=>[(.s 2,.av (.ptr 1000 0)),(.s 4,.av (.sl 1 (ae (l0::l1::(B++[cu,[]]))) .full)),(.s 5,.av (.sc (.i .i64 ((ae (l0::l1::(B++[cu,[]]))).length:Nat)))),(.s 15,.av (.ptr 12300 0)),(.s 16,.av (.sc (.i .i64 (k:Nat)))),(.s 17,.av (.sc (.i .i64 (j:Nat)))),(.b 1000,.bx [.sc (.i .i64 0),.sc (.i .i64 0),.sc (.i .i64 0),.sl 1 [] .full,.sl 3 [] .full]),(.b 12300,.bx [.sc (.i .i64 v1),.sc (.i .i64 v2),.sc (.i .i64 v3),.sl 1 (ae (B.take j)) (.t 9000),.sl 3 [] .full]),(.t 9000,.tk true)])
  (fun j=>j≤k∧(B.take j).all (ci aq)=true) 0 ?_ ⟨Nat.zero_le _,rfl⟩ ?_
 ·(refine aN rfl rfl ?_;repeat' (first | exact rfl | exact trivial | refine ⟨?_,?_⟩))
 rintro j ⟨hj,he⟩
 conv=>whnf
 refine ap (fun h4=>?_) (fun h4=>?_)
 ·simp only [decide_eq_false_iff_not] at h4
  have e1:k=j:=by omega
  rw [← e1,ho] at he
  cases he
 ·simp only [decide_eq_true_eq] at h4
  obtain ⟨x',hx⟩:=aB (l:=B) (k:=j) (by omega)
  conv=>whnf
  refine And.intro (by constructor<;>omega) ?_
  conv=>whnf
  refine ⟨_,mh rfl hx,?_⟩
  conv=>whnf
  refine callP.pure _ (k52 x' (List.mem_of_getElem? hx)) ⟨rfl,rfl⟩ ?_
  conv=>whnf
  have h4':j<k:=by omega
  cases hq:aq x' with
  | true =>
    have hg:ci aq x'=true:=by simp [ci,hq]
    conv=>whnf
    refine And.intro (by rw [aa,List.length_take];constructor<;>simp<;>omega) ?_
    conv=>whnf
    refine And.intro (by constructor<;>omega) ?_
    conv=>whnf
    refine nxt (j+1) ⟨by omega,by omega,by rw [bu hx,List.all_append,he];simp [hg]⟩ ?_
    rw [cj hx]
    (apply ck (h1:=rfl);(case h3=>repeat' (first | exact rfl | exact trivial | refine ⟨?_,?_⟩));all_goals exact rfl)
  | false =>
    conv=>whnf
    refine ap (fun h5=>?_) (fun h5=>?_)
    ·have hg:ci aq x'=true:=by
      have:aH x' eM=true:=by simpa [eM] using h5
      simp [ci,this]
     conv=>whnf
     refine And.intro (by rw [aa,List.length_take];constructor<;>simp<;>omega) ?_
     conv=>whnf
     refine And.intro (by constructor<;>omega) ?_
     conv=>whnf
     refine nxt (j+1) ⟨by omega,by omega,by rw [bu hx,List.all_append,he];simp [hg]⟩ ?_
     rw [cj hx]
     (apply ck (h1:=rfl);(case h3=>repeat' (first | exact rfl | exact trivial | refine ⟨?_,?_⟩));all_goals exact rfl)
    ·conv=>whnf
     refine ap (fun h6=>?_) (fun h6=>?_)
     ·have hg:ci aq x'=true:=by
       have:aH x' cY=true:=by simpa [cY] using h6
       simp [ci,this]
      conv=>whnf
      refine And.intro (by rw [aa,List.length_take];constructor<;>simp<;>omega) ?_
      conv=>whnf
      refine And.intro (by constructor<;>omega) ?_
      conv=>whnf
      refine nxt (j+1) ⟨by omega,by omega,by rw [bu hx,List.all_append,he];simp [hg]⟩ ?_
      rw [cj hx]
      (apply ck (h1:=rfl);(case h3=>repeat' (first | exact rfl | exact trivial | refine ⟨?_,?_⟩));all_goals exact rfl)
     ·have hg:ci aq x'=false:=by
       have h5':aH x' eM=false:=by simpa [eM] using h5
       have h6':aH x' cY=false:=by simpa [cY] using h6
       simp [ci,hq,h5',h6']
      conv=>whnf
      refine hR _ _ ?_
      conv=>whnf
      exact bV rfl rfl rfl rfl rfl rfl
theorem bs28_entbad (W0:Go.World) (s l0 l1 y z:S) (B:List S) (hB:B.length≤900000) (k43a:Ctr Tryz.prog W0 43 [.sc (.s s),.sc (.s [10])] [] (.sl 1 (ae (l0::l1::(B++[y,z]))) .full) []) (hz:z=[]) (hy:y=cu) (w1 w2 w3:S) (k51a:Ctr Tryz.prog W0 51 [.sc (.s l0)] [] (.tup [.sl 1 (ae [ba,w1,w2,w3]) .none,.sc (.b true)]) []) (i1:Bool) (v1:Int) (k521:Ctr Tryz.prog W0 52 [.sc (.s w1)] [] (.tup [.sc (.i .i64 v1),.sc (.b i1)]) []) (i2:Bool) (v2:Int) (k522:Ctr Tryz.prog W0 52 [.sc (.s w2)] [] (.tup [.sc (.i .i64 v2),.sc (.b i2)]) []) (i3:Bool) (v3:Int) (k523:Ctr Tryz.prog W0 52 [.sc (.s w3)] [] (.tup [.sc (.i .i64 v3),.sc (.b i3)]) []) (hi1:i1=true) (hi2:i2=true) (hi3:i3=true) (x:S) (k51b:Ctr Tryz.prog W0 51 [.sc (.s l1)] [] (.tup [.sl 1 (ae [jl,x]) .none,.sc (.b true)]) []) (k:Nat) (hk:k≤B.length) (k53:Ctr Tryz.prog W0 53 [.sc (.s x)] [] (.tup [.sc (.i .i64 (k:Nat)),.sc (.b true)]) []) (k52:∀ x,x∈B→Ctr Tryz.prog W0 52 [.sc (.s x)] [] (.tup [.sc (.i .i64 (bz x)),.sc (.b (aq x))]) []) (ho:(B.take k).all (ci aq)=true) (k51:∀ x,x∈B→Ctr Tryz.prog W0 51 [.sc (.s x)] [] (.tup [.sl 1 (eq (spl 32 x)) .none,.sc (.b ((spl 32 x).all neB))]) []) (k54:∀ x a nm r,x∈B→spl 32 x=a::nm::r→Ctr Tryz.prog W0 54 [lu a nm r] [] (.sc (.b (aF nm&&aL aq aF a r))) []) (E:List S) (hE:E=B.drop k) (ha:E.all (ed aq aF)=false) :
  aD (Ctr Tryz.prog W0) Fs28.ac Fs28.rs [.sc (.s s)] [] (.tup [bW 0 0 0 [] [],.sc (.b false)]) []:=by
 subst hi1
 subst hi2
 subst hi3
 subst hz
 subst hy
 refine ab (m:=1200) rfl fun K hK=>?_
 conv=>whnf
 refine hK _ ?_
 clear hK
 clear K
 refine ab (m:=1500) rfl fun K hK=>?_
 conv=>whnf
 refine callP.pure _ k43a ⟨rfl,rfl⟩ ?_
 conv=>whnf
 refine hK _ ?_
 clear hK
 clear K
 refine ab (m:=1800) rfl fun K hK=>?_
 conv=>whnf
 refine hK _ ?_
 clear hK
 clear K
 refine ah ?_
 refine ab (m:=3600) rfl fun K hK=>?_
 conv=>whnf
 refine ap (fun h=>?_) (fun h=>absurd (of_decide_eq_true h) (by simp only [aa,List.length_cons,List.length_append,List.length_nil];omega))
 conv=>whnf
 refine And.intro (by simp only [aa,List.length_cons,List.length_append,List.length_nil];constructor<;>omega) ?_
 conv=>whnf
 refine ⟨_,⟨by simp only [aa,List.length_cons,List.length_append,List.length_nil];omega,cy _ _ _ _ _⟩,?_⟩
 conv=>whnf
 refine And.intro (by simp only [aa,List.length_cons,List.length_append,List.length_nil];constructor<;>omega) ?_
 conv=>whnf
 refine ⟨_,⟨by simp only [aa,List.length_cons,List.length_append,List.length_nil];omega,cM _ _ _ _ _⟩,?_⟩
 conv=>whnf
 refine hK _ ?_
 clear hK
 clear K
 refine al false rfl (fun _=>?_) (fun h=>absurd h (by decide))
 refine aw ?_
 refine ab (m:=4500) rfl fun K hK=>?_
 conv=>whnf
 refine ⟨_,⟨by decide,rfl⟩,?_⟩
 conv=>whnf
 refine callP.pure _ k51a ⟨rfl,rfl⟩ ?_
 conv=>whnf
 refine hK _ ?_
 clear hK
 clear K
 refine ah ?_
 refine ab (m:=5800) rfl fun K hK=>?_
 conv=>whnf
 refine ⟨_,⟨by decide,rfl⟩,?_⟩
 conv=>whnf
 refine hK _ ?_
 clear hK
 clear K
 refine al false rfl (fun _=>?_) (fun h=>absurd h (by decide))
 refine aw ?_
 refine ab (m:=6700) rfl fun K hK=>?_
 conv=>whnf
 refine ⟨_,⟨by decide,rfl⟩,?_⟩
 conv=>whnf
 refine callP.pure _ k521 ⟨rfl,rfl⟩ ?_
 conv=>whnf
 refine hK _ ?_
 clear hK
 clear K
 refine ab (m:=7600) rfl fun K hK=>?_
 conv=>whnf
 refine ⟨_,⟨by decide,rfl⟩,?_⟩
 conv=>whnf
 refine callP.pure _ k522 ⟨rfl,rfl⟩ ?_
 conv=>whnf
 refine hK _ ?_
 clear hK
 clear K
 refine ab (m:=8500) rfl fun K hK=>?_
 conv=>whnf
 refine ⟨_,⟨by decide,rfl⟩,?_⟩
 conv=>whnf
 refine callP.pure _ k523 ⟨rfl,rfl⟩ ?_
 conv=>whnf
 refine hK _ ?_
 clear hK
 clear K
 refine ab (m:=9400) rfl fun K hK=>?_
 conv=>whnf
 refine ⟨_,⟨by decide,rfl⟩,?_⟩
 conv=>whnf
 refine callP.pure _ k51b ⟨rfl,rfl⟩ ?_
 conv=>whnf
 refine hK _ ?_
 clear hK
 clear K
 refine ah ?_
 refine ab (m:=11900) rfl fun K hK=>?_
 conv=>whnf
 refine ⟨_,⟨by decide,rfl⟩,?_⟩
 conv=>whnf
 refine hK _ ?_
 clear hK
 clear K
 refine al false rfl (fun _=>?_) (fun h=>absurd h (by decide))
 refine aw ?_
 refine ab (m:=12500) rfl fun K hK=>?_
 conv=>whnf
 refine hK _ ?_
 clear hK
 clear K
 refine ab (m:=13400) rfl fun K hK=>?_
 conv=>whnf
 refine ⟨_,⟨by decide,rfl⟩,?_⟩
 conv=>whnf
 refine callP.pure _ k53 ⟨rfl,rfl⟩ ?_
 conv=>whnf
 refine hK _ ?_
 clear hK
 clear K
 refine ah ?_
 refine ab (m:=14200) rfl fun K hK=>?_
 conv=>whnf
 refine And.intro (by simp only [aa,List.length_cons,List.length_append,List.length_nil];constructor<;>omega) ?_
 conv=>whnf
 refine hK _ ?_
 clear hK
 clear K
 refine al _ rfl (fun _=>?_) (fun h=>absurd h (by simp only [aa,List.length_cons,List.length_append,List.length_nil,decide_eq_true_eq];omega))
 refine aw ?_
 refine ah ?_
 refine ab (m:=14300) rfl fun K hK=>?_
 conv=>whnf
 refine hK _ ?_
 clear hK
 clear K
 refine fh fun Q' hQ hR=>?_
 refine .st 20000 (fun j=>k - j) (fun j=>[(.s 2,.av (.ptr 1000 0)),(.s 4,.av (.sl 1 (ae (l0::l1::(B++[cu,[]]))) .full)),(.s 5,.av (.sc (.i .i64 ((ae (l0::l1::(B++[cu,[]]))).length:Nat)))),(.s 15,.av (.ptr 12300 0)),(.s 16,.av (.sc (.i .i64 (k:Nat)))),(.s 17,.av (.sc (.i .i64 (j:Nat)))),(.b 1000,.bx [.sc (.i .i64 0),.sc (.i .i64 0),.sc (.i .i64 0),.sl 1 [] .full,.sl 3 [] .full]),(.b 12300,.bx [.sc (.i .i64 v1),.sc (.i .i64 v2),.sc (.i .i64 v3),.sl 1 (ae (B.take j)) (.t 9000),.sl 3 [] .full]),(.t 9000,.tk true)])
  (fun j=>j≤k∧(B.take j).all (ci aq)=true) 0 ?_ ⟨Nat.zero_le _,rfl⟩ ?_
 ·(refine aN rfl rfl ?_;repeat' (first | exact rfl | exact trivial | refine ⟨?_,?_⟩))
 rintro j ⟨hj,he⟩
 conv=>whnf
 refine ap (fun h4=>?_) (fun h4=>?_)
 ·simp only [decide_eq_false_iff_not] at h4
  have e1:k=j:=by omega
  subst e1
  conv=>whnf
  refine hQ _ _ ?_
  clear hQ
  refine ah ?_
  refine ab (m:=20600) rfl fun K hK=>?_
  conv=>whnf
  refine And.intro (by constructor<;>omega) ?_
  conv=>whnf
  refine hK _ ?_
  clear hK
  clear K
  have hEl:E.length=B.length - k:=by rw [hE,List.length_drop]
  refine fh fun Q' hQ hR=>?_
  refine .st 30000 (fun j=>E.length - j) (fun j=>[(.s 2,.av (.ptr 1000 0)),(.s 4,.av (.sl 1 (ae (l0::l1::(B++[cu,[]]))) .full)),(.s 5,.av (.sc (.i .i64 ((ae (l0::l1::(B++[cu,[]]))).length:Nat)))),(.s 15,.av (.ptr 12300 0)),(.s 21,.av (.sc (.i .i64 (2+(k:Int)+(j:Nat))))),(.b 1000,.bx [.sc (.i .i64 0),.sc (.i .i64 0),.sc (.i .i64 0),.sl 1 [] .full,.sl 3 [] .full]),(.b 12300,.bx [.sc (.i .i64 v1),.sc (.i .i64 v2),.sc (.i .i64 v3),.sl 1 (ae (B.take k)) .none,.sl 3 (eV (E.take j)) (.t 9000)]),(.t 9000,.tk true)])
   (fun j=>j≤E.length∧(E.take j).all (ed aq aF)=true) 0 ?_ ⟨Nat.zero_le _,rfl⟩ ?_
  ·(refine aN rfl rfl ?_;repeat' (first | exact rfl | exact trivial | exact .inl rfl | refine ⟨?_,?_⟩))
  rintro j ⟨hj,he⟩
  conv=>whnf
  refine And.intro (by simp only [aa,List.length_cons,List.length_append,List.length_nil];constructor<;>omega) ?_
  conv=>whnf
  refine ap (fun h4=>?_) (fun h4=>?_)
  ·simp only [aa,List.length_cons,List.length_append,List.length_nil,decide_eq_false_iff_not] at h4
   have e1:j=E.length:=by omega
   rw [e1,List.take_length,ha] at he
   cases he
  ·simp only [aa,List.length_cons,List.length_append,List.length_nil,decide_eq_true_eq] at h4
   obtain ⟨x',hx⟩:=aB (l:=E) (k:=j) (by omega)
   have hxB:B[k+j]? = some x':=by rw [hE,List.getElem?_drop] at hx;exact hx
   have hm:=List.mem_of_getElem? hxB
   conv=>whnf
   refine ⟨_,mh (by omega) hxB,?_⟩
   conv=>whnf
   refine callP.pure _ (k51 x' hm) ⟨rfl,rfl⟩ ?_
   have hen:ed aq aF x'=((spl 32 x').all neB&&df aq aF x'):=rfl
   cases hne:(spl 32 x').all neB with
   | false =>
     have hg:ed aq aF x'=false:=by rw [hen,hne];rfl
     rw [ib hne]
     conv=>whnf
     refine hR _ _ ?_
     conv=>whnf
     exact bV rfl rfl rfl rfl rfl rfl
   | true =>
     rw [hU hne]
     rw [hne,Bool.true_and] at hen
     match hs:spl 32 x' with
     | []=>exact absurd hs (gA 32 x')
     | [a] =>
       have hg:ed aq aF x'=false:=by rw [hen,df,hs]
       conv=>whnf
       refine hR _ _ ?_
       conv=>whnf
       exact bV rfl rfl rfl rfl rfl rfl
     | [a, nm] =>
       have hg:ed aq aF x'=false:=by
        rw [hen,df,hs]
        have:aL aq aF a []=false:=by
         unfold aL
         cases decide (a=a8)<;>cases decide (a=ca)<;>rfl
        simp [this]
       conv=>whnf
       refine hR _ _ ?_
       conv=>whnf
       exact bV rfl rfl rfl rfl rfl rfl
     | a :: nm :: r0 :: r1 =>
       have k54':=k54 x' a nm (r0::r1) hm hs
       have hge:ed aq aF x'=(aF nm&&aL aq aF a (r0::r1)):=by rw [hen,df,hs]
       rw [← hge] at k54'
       conv=>whnf
       refine ⟨_,⟨by decide,rfl⟩,?_⟩
       conv=>whnf
       refine ⟨_,⟨by decide,rfl⟩,?_⟩
       conv=>whnf
       refine ⟨.none,⟨by simp only [aa,List.length_cons];omega,.inl rfl⟩,?_⟩
       generalize hT:List.take _ (List.drop _ (ae _))=T
       have hT:T=ae (r0::r1):=by rw [← hT];exact aP (by simp)
       subst hT
       conv=>whnf
       refine callP.pure _ k54' ⟨rfl,rfl⟩ ?_
       cases hg:ed aq aF x' with
       | false =>
         conv=>whnf
         refine hR _ _ ?_
         conv=>whnf
         exact bV rfl rfl rfl rfl rfl rfl
       | true =>
         have hx3:ec x'=(a,nm,r0::r1):=by
          have hnm:aj nm=true:=by rw [hge,Bool.and_eq_true,jt] at hg;exact hg.1
          rw [ec,hs];simp only [hnm]
         conv=>whnf
         refine And.intro (by rw [cn,List.length_take];constructor<;>simp<;>omega) ?_
         conv=>whnf
         refine And.intro (by constructor<;>omega) ?_
         conv=>whnf
         refine nxt (j+1) ⟨by omega,by omega,by rw [bu hx,List.all_append,he];simp [hg]⟩ ?_
         rw [ja hx,show entD x'=[.sc (.s a),.sc (.s nm),.lst 1 (ae (r0::r1))] by rw [entD,hx3]]
         (apply ck (h1:=rfl);(case h3=>repeat' (first | exact rfl | exact trivial | refine ⟨?_,?_⟩));all_goals exact rfl)
 ·simp only [decide_eq_true_eq] at h4
  obtain ⟨x',hx⟩:=aB (l:=B) (k:=j) (by omega)
  conv=>whnf
  refine And.intro (by constructor<;>omega) ?_
  conv=>whnf
  refine ⟨_,mh rfl hx,?_⟩
  conv=>whnf
  refine callP.pure _ (k52 x' (List.mem_of_getElem? hx)) ⟨rfl,rfl⟩ ?_
  conv=>whnf
  have h4':j<k:=by omega
  cases hq:aq x' with
  | true =>
    have hg:ci aq x'=true:=by simp [ci,hq]
    conv=>whnf
    refine And.intro (by rw [aa,List.length_take];constructor<;>simp<;>omega) ?_
    conv=>whnf
    refine And.intro (by constructor<;>omega) ?_
    conv=>whnf
    refine nxt (j+1) ⟨by omega,by omega,by rw [bu hx,List.all_append,he];simp [hg]⟩ ?_
    rw [cj hx]
    (apply ck (h1:=rfl);(case h3=>repeat' (first | exact rfl | exact trivial | refine ⟨?_,?_⟩));all_goals exact rfl)
  | false =>
    conv=>whnf
    refine ap (fun h5=>?_) (fun h5=>?_)
    ·have hg:ci aq x'=true:=by
      have:aH x' eM=true:=by simpa [eM] using h5
      simp [ci,this]
     conv=>whnf
     refine And.intro (by rw [aa,List.length_take];constructor<;>simp<;>omega) ?_
     conv=>whnf
     refine And.intro (by constructor<;>omega) ?_
     conv=>whnf
     refine nxt (j+1) ⟨by omega,by omega,by rw [bu hx,List.all_append,he];simp [hg]⟩ ?_
     rw [cj hx]
     (apply ck (h1:=rfl);(case h3=>repeat' (first | exact rfl | exact trivial | refine ⟨?_,?_⟩));all_goals exact rfl)
    ·conv=>whnf
     refine ap (fun h6=>?_) (fun h6=>?_)
     ·have hg:ci aq x'=true:=by
       have:aH x' cY=true:=by simpa [cY] using h6
       simp [ci,this]
      conv=>whnf
      refine And.intro (by rw [aa,List.length_take];constructor<;>simp<;>omega) ?_
      conv=>whnf
      refine And.intro (by constructor<;>omega) ?_
      conv=>whnf
      refine nxt (j+1) ⟨by omega,by omega,by rw [bu hx,List.all_append,he];simp [hg]⟩ ?_
      rw [cj hx]
      (apply ck (h1:=rfl);(case h3=>repeat' (first | exact rfl | exact trivial | refine ⟨?_,?_⟩));all_goals exact rfl)
     ·have hg:ci aq x'=false:=by
       have h5':aH x' eM=false:=by simpa [eM] using h5
       have h6':aH x' cY=false:=by simpa [cY] using h6
       simp [ci,hq,h5',h6']
      have hg2:=List.all_eq_true.1 ho x' (List.mem_of_getElem? (by rw [List.getElem?_take_of_lt h4'];exact hx))
      rw [hg] at hg2
      cases hg2
theorem bs28_good (W0:Go.World) (s l0 l1 y z:S) (B:List S) (hB:B.length≤900000) (k43a:Ctr Tryz.prog W0 43 [.sc (.s s),.sc (.s [10])] [] (.sl 1 (ae (l0::l1::(B++[y,z]))) .full) []) (hz:z=[]) (hy:y=cu) (w1 w2 w3:S) (k51a:Ctr Tryz.prog W0 51 [.sc (.s l0)] [] (.tup [.sl 1 (ae [ba,w1,w2,w3]) .none,.sc (.b true)]) []) (i1:Bool) (v1:Int) (k521:Ctr Tryz.prog W0 52 [.sc (.s w1)] [] (.tup [.sc (.i .i64 v1),.sc (.b i1)]) []) (i2:Bool) (v2:Int) (k522:Ctr Tryz.prog W0 52 [.sc (.s w2)] [] (.tup [.sc (.i .i64 v2),.sc (.b i2)]) []) (i3:Bool) (v3:Int) (k523:Ctr Tryz.prog W0 52 [.sc (.s w3)] [] (.tup [.sc (.i .i64 v3),.sc (.b i3)]) []) (hi1:i1=true) (hi2:i2=true) (hi3:i3=true) (x:S) (k51b:Ctr Tryz.prog W0 51 [.sc (.s l1)] [] (.tup [.sl 1 (ae [jl,x]) .none,.sc (.b true)]) []) (k:Nat) (hk:k≤B.length) (k53:Ctr Tryz.prog W0 53 [.sc (.s x)] [] (.tup [.sc (.i .i64 (k:Nat)),.sc (.b true)]) []) (k52:∀ x,x∈B→Ctr Tryz.prog W0 52 [.sc (.s x)] [] (.tup [.sc (.i .i64 (bz x)),.sc (.b (aq x))]) []) (ho:(B.take k).all (ci aq)=true) (k51:∀ x,x∈B→Ctr Tryz.prog W0 51 [.sc (.s x)] [] (.tup [.sl 1 (eq (spl 32 x)) .none,.sc (.b ((spl 32 x).all neB))]) []) (k54:∀ x a nm r,x∈B→spl 32 x=a::nm::r→Ctr Tryz.prog W0 54 [lu a nm r] [] (.sc (.b (aF nm&&aL aq aF a r))) []) (E:List S) (hE:E=B.drop k) (ha:E.all (ed aq aF)=true) :
  aD (Ctr Tryz.prog W0) Fs28.ac Fs28.rs [.sc (.s s)] [] (.tup [bW v1 v2 v3 (B.take k) E,.sc (.b true)]) []:=by
 subst hi1
 subst hi2
 subst hi3
 subst hz
 subst hy
 refine ab (m:=1200) rfl fun K hK=>?_
 conv=>whnf
 refine hK _ ?_
 clear hK
 clear K
 refine ab (m:=1500) rfl fun K hK=>?_
 conv=>whnf
 refine callP.pure _ k43a ⟨rfl,rfl⟩ ?_
 conv=>whnf
 refine hK _ ?_
 clear hK
 clear K
 refine ab (m:=1800) rfl fun K hK=>?_
 conv=>whnf
 refine hK _ ?_
 clear hK
 clear K
 refine ah ?_
 refine ab (m:=3600) rfl fun K hK=>?_
 conv=>whnf
 refine ap (fun h=>?_) (fun h=>absurd (of_decide_eq_true h) (by simp only [aa,List.length_cons,List.length_append,List.length_nil];omega))
 conv=>whnf
 refine And.intro (by simp only [aa,List.length_cons,List.length_append,List.length_nil];constructor<;>omega) ?_
 conv=>whnf
 refine ⟨_,⟨by simp only [aa,List.length_cons,List.length_append,List.length_nil];omega,cy _ _ _ _ _⟩,?_⟩
 conv=>whnf
 refine And.intro (by simp only [aa,List.length_cons,List.length_append,List.length_nil];constructor<;>omega) ?_
 conv=>whnf
 refine ⟨_,⟨by simp only [aa,List.length_cons,List.length_append,List.length_nil];omega,cM _ _ _ _ _⟩,?_⟩
 conv=>whnf
 refine hK _ ?_
 clear hK
 clear K
 refine al false rfl (fun _=>?_) (fun h=>absurd h (by decide))
 refine aw ?_
 refine ab (m:=4500) rfl fun K hK=>?_
 conv=>whnf
 refine ⟨_,⟨by decide,rfl⟩,?_⟩
 conv=>whnf
 refine callP.pure _ k51a ⟨rfl,rfl⟩ ?_
 conv=>whnf
 refine hK _ ?_
 clear hK
 clear K
 refine ah ?_
 refine ab (m:=5800) rfl fun K hK=>?_
 conv=>whnf
 refine ⟨_,⟨by decide,rfl⟩,?_⟩
 conv=>whnf
 refine hK _ ?_
 clear hK
 clear K
 refine al false rfl (fun _=>?_) (fun h=>absurd h (by decide))
 refine aw ?_
 refine ab (m:=6700) rfl fun K hK=>?_
 conv=>whnf
 refine ⟨_,⟨by decide,rfl⟩,?_⟩
 conv=>whnf
 refine callP.pure _ k521 ⟨rfl,rfl⟩ ?_
 conv=>whnf
 refine hK _ ?_
 clear hK
 clear K
 refine ab (m:=7600) rfl fun K hK=>?_
 conv=>whnf
 refine ⟨_,⟨by decide,rfl⟩,?_⟩
 conv=>whnf
 refine callP.pure _ k522 ⟨rfl,rfl⟩ ?_
 conv=>whnf
 refine hK _ ?_
 clear hK
 clear K
 refine ab (m:=8500) rfl fun K hK=>?_
 conv=>whnf
 refine ⟨_,⟨by decide,rfl⟩,?_⟩
 conv=>whnf
 refine callP.pure _ k523 ⟨rfl,rfl⟩ ?_
 conv=>whnf
 refine hK _ ?_
 clear hK
 clear K
 refine ab (m:=9400) rfl fun K hK=>?_
 conv=>whnf
 refine ⟨_,⟨by decide,rfl⟩,?_⟩
 conv=>whnf
 refine callP.pure _ k51b ⟨rfl,rfl⟩ ?_
 conv=>whnf
 refine hK _ ?_
 clear hK
 clear K
 refine ah ?_
 refine ab (m:=11900) rfl fun K hK=>?_
 conv=>whnf
 refine ⟨_,⟨by decide,rfl⟩,?_⟩
 conv=>whnf
 refine hK _ ?_
 clear hK
 clear K
 refine al false rfl (fun _=>?_) (fun h=>absurd h (by decide))
 refine aw ?_
 refine ab (m:=12500) rfl fun K hK=>?_
 conv=>whnf
 refine hK _ ?_
 clear hK
 clear K
 refine ab (m:=13400) rfl fun K hK=>?_
 conv=>whnf
 refine ⟨_,⟨by decide,rfl⟩,?_⟩
 conv=>whnf
 refine callP.pure _ k53 ⟨rfl,rfl⟩ ?_
 conv=>whnf
 refine hK _ ?_
 clear hK
 clear K
 refine ah ?_
 refine ab (m:=14200) rfl fun K hK=>?_
 conv=>whnf
 refine And.intro (by simp only [aa,List.length_cons,List.length_append,List.length_nil];constructor<;>omega) ?_
 conv=>whnf
 refine hK _ ?_
 clear hK
 clear K
 refine al _ rfl (fun _=>?_) (fun h=>absurd h (by simp only [aa,List.length_cons,List.length_append,List.length_nil,decide_eq_true_eq];omega))
 refine aw ?_
 refine ah ?_
 refine ab (m:=14300) rfl fun K hK=>?_
 conv=>whnf
 refine hK _ ?_
 clear hK
 clear K
 refine fh fun Q' hQ hR=>?_
 refine .st 20000 (fun j=>k - j) (fun j=>[(.s 2,.av (.ptr 1000 0)),(.s 4,.av (.sl 1 (ae (l0::l1::(B++[cu,[]]))) .full)),(.s 5,.av (.sc (.i .i64 ((ae (l0::l1::(B++[cu,[]]))).length:Nat)))),(.s 15,.av (.ptr 12300 0)),(.s 16,.av (.sc (.i .i64 (k:Nat)))),(.s 17,.av (.sc (.i .i64 (j:Nat)))),(.b 1000,.bx [.sc (.i .i64 0),.sc (.i .i64 0),.sc (.i .i64 0),.sl 1 [] .full,.sl 3 [] .full]),(.b 12300,.bx [.sc (.i .i64 v1),.sc (.i .i64 v2),.sc (.i .i64 v3),.sl 1 (ae (B.take j)) (.t 9000),.sl 3 [] .full]),(.t 9000,.tk true)])
  (fun j=>j≤k∧(B.take j).all (ci aq)=true) 0 ?_ ⟨Nat.zero_le _,rfl⟩ ?_
 ·(refine aN rfl rfl ?_;repeat' (first | exact rfl | exact trivial | refine ⟨?_,?_⟩))
 rintro j ⟨hj,he⟩
 conv=>whnf
 refine ap (fun h4=>?_) (fun h4=>?_)
 ·simp only [decide_eq_false_iff_not] at h4
  have e1:k=j:=by omega
  subst e1
  conv=>whnf
  refine hQ _ _ ?_
  clear hQ
  refine ah ?_
  refine ab (m:=20600) rfl fun K hK=>?_
  conv=>whnf
  refine And.intro (by constructor<;>omega) ?_
  conv=>whnf
  refine hK _ ?_
  clear hK
  clear K
  have hEl:E.length=B.length - k:=by rw [hE,List.length_drop]
  refine fh fun Q' hQ hR=>?_
  refine .st 30000 (fun j=>E.length - j) (fun j=>[(.s 2,.av (.ptr 1000 0)),(.s 4,.av (.sl 1 (ae (l0::l1::(B++[cu,[]]))) .full)),(.s 5,.av (.sc (.i .i64 ((ae (l0::l1::(B++[cu,[]]))).length:Nat)))),(.s 15,.av (.ptr 12300 0)),(.s 21,.av (.sc (.i .i64 (2+(k:Int)+(j:Nat))))),(.b 1000,.bx [.sc (.i .i64 0),.sc (.i .i64 0),.sc (.i .i64 0),.sl 1 [] .full,.sl 3 [] .full]),(.b 12300,.bx [.sc (.i .i64 v1),.sc (.i .i64 v2),.sc (.i .i64 v3),.sl 1 (ae (B.take k)) .none,.sl 3 (eV (E.take j)) (.t 9000)]),(.t 9000,.tk true)])
   (fun j=>j≤E.length∧(E.take j).all (ed aq aF)=true) 0 ?_ ⟨Nat.zero_le _,rfl⟩ ?_
  ·(refine aN rfl rfl ?_;repeat' (first | exact rfl | exact trivial | exact .inl rfl | refine ⟨?_,?_⟩))
  rintro j ⟨hj,he⟩
  conv=>whnf
  refine And.intro (by simp only [aa,List.length_cons,List.length_append,List.length_nil];constructor<;>omega) ?_
  conv=>whnf
  refine ap (fun h4=>?_) (fun h4=>?_)
  ·simp only [aa,List.length_cons,List.length_append,List.length_nil,decide_eq_false_iff_not] at h4
   have e1:j=E.length:=by omega
   rw [e1,List.take_length]
   conv=>whnf
   refine hQ _ _ ?_
   conv=>whnf
   exact bV rfl rfl rfl rfl rfl rfl
  ·simp only [aa,List.length_cons,List.length_append,List.length_nil,decide_eq_true_eq] at h4
   obtain ⟨x',hx⟩:=aB (l:=E) (k:=j) (by omega)
   have hxB:B[k+j]? = some x':=by rw [hE,List.getElem?_drop] at hx;exact hx
   have hm:=List.mem_of_getElem? hxB
   conv=>whnf
   refine ⟨_,mh (by omega) hxB,?_⟩
   conv=>whnf
   refine callP.pure _ (k51 x' hm) ⟨rfl,rfl⟩ ?_
   have hen:ed aq aF x'=((spl 32 x').all neB&&df aq aF x'):=rfl
   cases hne:(spl 32 x').all neB with
   | false =>
     have hg:ed aq aF x'=false:=by rw [hen,hne];rfl
     rw [ib hne]
     have hg2:=List.all_eq_true.1 ha x' (List.mem_of_getElem? hx)
     rw [hg] at hg2
     cases hg2
   | true =>
     rw [hU hne]
     rw [hne,Bool.true_and] at hen
     match hs:spl 32 x' with
     | []=>exact absurd hs (gA 32 x')
     | [a] =>
       have hg:ed aq aF x'=false:=by rw [hen,df,hs]
       have hg2:=List.all_eq_true.1 ha x' (List.mem_of_getElem? hx)
       rw [hg] at hg2
       cases hg2
     | [a, nm] =>
       have hg:ed aq aF x'=false:=by
        rw [hen,df,hs]
        have:aL aq aF a []=false:=by
         unfold aL
         cases decide (a=a8)<;>cases decide (a=ca)<;>rfl
        simp [this]
       have hg2:=List.all_eq_true.1 ha x' (List.mem_of_getElem? hx)
       rw [hg] at hg2
       cases hg2
     | a :: nm :: r0 :: r1 =>
       have k54':=k54 x' a nm (r0::r1) hm hs
       have hge:ed aq aF x'=(aF nm&&aL aq aF a (r0::r1)):=by rw [hen,df,hs]
       rw [← hge] at k54'
       conv=>whnf
       refine ⟨_,⟨by decide,rfl⟩,?_⟩
       conv=>whnf
       refine ⟨_,⟨by decide,rfl⟩,?_⟩
       conv=>whnf
       refine ⟨.none,⟨by simp only [aa,List.length_cons];omega,.inl rfl⟩,?_⟩
       generalize hT:List.take _ (List.drop _ (ae _))=T
       have hT:T=ae (r0::r1):=by rw [← hT];exact aP (by simp)
       subst hT
       conv=>whnf
       refine callP.pure _ k54' ⟨rfl,rfl⟩ ?_
       cases hg:ed aq aF x' with
       | false =>
         have hg2:=List.all_eq_true.1 ha x' (List.mem_of_getElem? hx)
         rw [hg] at hg2
         cases hg2
       | true =>
         have hx3:ec x'=(a,nm,r0::r1):=by
          have hnm:aj nm=true:=by rw [hge,Bool.and_eq_true,jt] at hg;exact hg.1
          rw [ec,hs];simp only [hnm]
         conv=>whnf
         refine And.intro (by rw [cn,List.length_take];constructor<;>simp<;>omega) ?_
         conv=>whnf
         refine And.intro (by constructor<;>omega) ?_
         conv=>whnf
         refine nxt (j+1) ⟨by omega,by omega,by rw [bu hx,List.all_append,he];simp [hg]⟩ ?_
         rw [ja hx,show entD x'=[.sc (.s a),.sc (.s nm),.lst 1 (ae (r0::r1))] by rw [entD,hx3]]
         (apply ck (h1:=rfl);(case h3=>repeat' (first | exact rfl | exact trivial | refine ⟨?_,?_⟩));all_goals exact rfl)
 ·simp only [decide_eq_true_eq] at h4
  obtain ⟨x',hx⟩:=aB (l:=B) (k:=j) (by omega)
  conv=>whnf
  refine And.intro (by constructor<;>omega) ?_
  conv=>whnf
  refine ⟨_,mh rfl hx,?_⟩
  conv=>whnf
  refine callP.pure _ (k52 x' (List.mem_of_getElem? hx)) ⟨rfl,rfl⟩ ?_
  conv=>whnf
  have h4':j<k:=by omega
  cases hq:aq x' with
  | true =>
    have hg:ci aq x'=true:=by simp [ci,hq]
    conv=>whnf
    refine And.intro (by rw [aa,List.length_take];constructor<;>simp<;>omega) ?_
    conv=>whnf
    refine And.intro (by constructor<;>omega) ?_
    conv=>whnf
    refine nxt (j+1) ⟨by omega,by omega,by rw [bu hx,List.all_append,he];simp [hg]⟩ ?_
    rw [cj hx]
    (apply ck (h1:=rfl);(case h3=>repeat' (first | exact rfl | exact trivial | refine ⟨?_,?_⟩));all_goals exact rfl)
  | false =>
    conv=>whnf
    refine ap (fun h5=>?_) (fun h5=>?_)
    ·have hg:ci aq x'=true:=by
      have:aH x' eM=true:=by simpa [eM] using h5
      simp [ci,this]
     conv=>whnf
     refine And.intro (by rw [aa,List.length_take];constructor<;>simp<;>omega) ?_
     conv=>whnf
     refine And.intro (by constructor<;>omega) ?_
     conv=>whnf
     refine nxt (j+1) ⟨by omega,by omega,by rw [bu hx,List.all_append,he];simp [hg]⟩ ?_
     rw [cj hx]
     (apply ck (h1:=rfl);(case h3=>repeat' (first | exact rfl | exact trivial | refine ⟨?_,?_⟩));all_goals exact rfl)
    ·conv=>whnf
     refine ap (fun h6=>?_) (fun h6=>?_)
     ·have hg:ci aq x'=true:=by
       have:aH x' cY=true:=by simpa [cY] using h6
       simp [ci,this]
      conv=>whnf
      refine And.intro (by rw [aa,List.length_take];constructor<;>simp<;>omega) ?_
      conv=>whnf
      refine And.intro (by constructor<;>omega) ?_
      conv=>whnf
      refine nxt (j+1) ⟨by omega,by omega,by rw [bu hx,List.all_append,he];simp [hg]⟩ ?_
      rw [cj hx]
      (apply ck (h1:=rfl);(case h3=>repeat' (first | exact rfl | exact trivial | refine ⟨?_,?_⟩));all_goals exact rfl)
     ·have hg:ci aq x'=false:=by
       have h5':aH x' eM=false:=by simpa [eM] using h5
       have h6':aH x' cY=false:=by simpa [cY] using h6
       simp [ci,hq,h5',h6']
      have hg2:=List.all_eq_true.1 ho x' (List.mem_of_getElem? (by rw [List.getElem?_take_of_lt h4'];exact hx))
      rw [hg] at hg2
      cases hg2
end Go.Abs
