/- ref24.isEntry. -/
import Derived.Test.YteihidcjmfckeaaGreatDoorS47
set_option linter.all false
set_option maxRecDepth 1000000
set_option maxHeartbeats 16000000
namespace Go.Abs
open Go.Proofs
open K in
def Fs54:Fn:=⟨.seq (.reg [n (.box 1 (.t 0)),n (mb 2 false)]) (.seq (.reg [n (fa 5 1 2),n (ld 6 5),n (.len 7 (.t 6)),m 3 7]) (.seq (.seq (.reg [n (fa 8 1 1),n (ld 9 8),n (cf 10 101 [.t 9]),n (.no 11 (.t 10))]) (.cond (.t 11) (.seq (.reg [n (mb 2 false)]) .ret) .skip)) (.seq (.seq (.reg [n (fa 12 1 0),n (ld 13 12)]) (.block 0 (.seq (.reg [n (bs 15 .eql 13 [100,111,109,97,105,110]),m 14 15]) (.cond (.t 14) (.seq (.seq (.reg [m 16 3,n (bi 17 .lss 16 5),m 18 17,gm 18 19 3,g 18 (bi 20 .sub 19 2),g 18 (bi 21 .rem 20 3),g 18 (bi 22 .neq 21 0),n (pt 23 18 22),m 24 23,gm 24 25 3,g 24 (bi 26 .gtr 25 11),n (pt 27 24 26),m 28 27,g 28 (fa 29 1 2),g 28 (ld 30 29),g 28 (.slL 31 1 (.t 30) (some (.c (.sc (.i .i64 1)))) none none),g 28 (cf 32 102 [.t 31]),g 28 (.no 33 (.t 32)),n (pt 34 28 33)]) (.cond (.t 34) (.seq (.reg [n (mb 2 false)]) .ret) .skip)) (.seq (.reg [n (fa 35 1 2),n (ld 36 35),n (.ia 37 1 (.t 36) (.c (.sc (.i .i64 0)))),n (ld 38 37),m 4 38]) (.seq (.reg [m 39 4,n (bs 40 .eql 39 [98,108,111,99,107,115]),m 41 40,gm 41 42 4,g 41 (bs 43 .eql 42 [98,108,111,99,107]),n (pt 44 41 43),m 45 44,gm 45 46 4,g 45 (bs 47 .eql 46 [119,104,111,108,101]),n (pt 48 45 47),m 49 48,gm 49 50 4,g 49 (bs 51 .eql 50 [99,121,99,108,105,99]),n (pt 52 49 51),m 2 52]) .ret))) (.seq (.reg [n (bs 54 .eql 13 [97,114,114,97,121]),m 53 54]) (.cond (.t 53) (.seq (.reg [m 55 3,n (bi 56 .geq 55 1),m 57 56,w 57 (fa 58 1 2),w 57 (ld 59 58),w 57 (.ia 60 1 (.t 59) (.c (.sc (.i .i64 0)))),w 57 (ld 61 60),w 57 (cf 62 101 [.t 61]),n (pf 63 57 62),m 64 63,w 64 (fa 65 1 2),w 64 (ld 66 65),w 64 (.slL 67 1 (.t 66) (some (.c (.sc (.i .i64 1)))) none none),w 64 (cf 68 102 [.t 67]),n (pf 69 64 68),m 2 69]) .ret) (.seq (.seq (.reg [n (bs 71 .eql 13 [105,110,116]),m 70 71]) (.cond (.t 70) .skip (.reg [n (bs 72 .eql 13 [97,116,111,109,105,99]),m 70 72]))) (.cond (.t 70) (.seq (.reg [m 73 3,n (bi 74 .eql 73 1),m 75 74,w 75 (fa 76 1 2),w 75 (ld 77 76),w 75 (cf 78 102 [.t 77]),n (pf 79 75 78),m 2 79]) .ret) (.seq (.reg [n (bs 81 .eql 13 [98,111,111,108]),m 80 81]) (.cond (.t 80) (.seq (.reg [m 82 3,n (bi 83 .eql 82 1),m 84 83,w 84 (fa 85 1 2),w 84 (ld 86 85),w 84 (.ia 87 1 (.t 86) (.c (.sc (.i .i64 0)))),w 84 (ld 88 87),w 84 (bs 89 .eql 88 [48]),wm 84 90 89,g 90 (fa 91 1 2),g 90 (ld 92 91),g 90 (.ia 93 1 (.t 92) (.c (.sc (.i .i64 0)))),g 90 (ld 94 93),g 90 (bs 95 .eql 94 [49]),w 84 (pt 96 90 95),n (pf 97 84 96),m 2 97]) .ret) (.seq (.reg [n (bs 99 .eql 13 [115,105,110,103,108,101]),m 98 99]) (.cond (.t 98) (.seq (.reg [m 100 3,n (bi 101 .eql 100 1),m 102 101,w 102 (fa 103 1 2),w 102 (ld 104 103),w 102 (.ia 105 1 (.t 104) (.c (.sc (.i .i64 0)))),w 102 (ld 106 105),w 102 (bs 107 .eql 106 [45]),wm 102 108 107,g 108 (fa 109 1 2),g 108 (ld 110 109),g 108 (cf 111 102 [.t 110]),w 102 (pt 112 108 111),n (pf 113 102 112),m 2 113]) .ret) .skip)))))))))))) (.seq (.reg [n (mb 2 false)]) .ret)))),[(2,0)],114,[]⟩
theorem Fs54_ok:aI Tryz.prog (fun _=>an0) 54=some Fs54:=by kernel_rfl
theorem cr {r:List S} {n:Nat} (hn:n=(ae r).length - 1):List.take n (List.drop 1 (ae r))=ae (r.drop 1):=by
 have h1:List.drop 1 (ae r)=ae (r.drop 1):=by simp [ae]
 rw [h1]
 refine List.take_of_length_le ?_
 rw [aa,List.length_drop,hn,aa]
 exact Nat.le_refl _
def lu (k nm:S) (r:List S):AV:=.agg [.sc (.s k),.sc (.s nm),.sl 1 (ae r) .none]
structure HB (k nm:S) (r:List S):Prop where
 hn:nm.length≤1000000
 hr:r.length≤1000000
 hx:∀ x,x∈r→x.length≤1000000
theorem HB.tail {k nm:S} {r:List S} (h:HB k nm r):HB k nm (r.drop 1):=⟨h.hn,by rw [List.length_drop];have:=h.hr;omega,fun x hx=>h.hx x (List.mem_of_mem_drop hx)⟩
theorem HB.c102 {k nm:S} {r:List S} (h:HB k nm r) (W0:Go.World):Ctr Tryz.prog W0 102 [bU r] [] (.sc (.b (r.all aq))) []:=
 cs102 W0 r (by have:=h.hr;omega) fun x hx=>by have:=h.hx x hx;omega
theorem bs54_dom (W0:Go.World) (nm:S) (r:List S) (hb:HB a8 nm r) :
  aD (Ctr Tryz.prog W0) Fs54.ac Fs54.rs [lu a8 nm r] [] (.sc (.b (aF nm&&aL aq aF a8 r))) []:=by
 have hr0:=hb.hr
 conv=>whnf
 refine callP.pure _ (c129 W0 nm (by have:=hb.hn;omega)) ⟨rfl,rfl⟩ ?_
 conv=>whnf
 cases hn:aF nm
 ·conv=>whnf
  exact aE rfl
 conv=>whnf
 refine ap (fun h1=>?_) (fun h1=>?_)
 ·simp only [aa,decide_eq_false_iff_not] at h1
  obtain ⟨x,r',rfl⟩:∃ x r',r=x::r':=by
   cases r with
   | nil=>simp at h1
   | cons x r'=>exact ⟨x,r',rfl⟩
  have hg:aL aq aF a8 (x::r')=((decide (x=eY)||decide (x=eZ)||decide (x=dw)||decide (x=dz))&&(r'.all aq&&(decide (4≤r'.length)&&(decide (r'.length≤10)&&decide ((r'.length - 1) % 3=0))))):=rfl
  simp only [List.length_cons] at h1 hr0
  conv=>whnf
  refine And.intro (by simp only [aa,List.length_cons];constructor<;>omega) ?_
  conv=>whnf
  refine And.intro (by simp only [aa,List.length_cons];omega) ?_
  conv=>whnf
  refine ap (fun h2=>?_) (fun h2=>?_)
  ·simp only [aa,List.length_cons,Bool.not_eq_false',decide_eq_true_eq] at h2
   conv=>whnf
   refine ap (fun h3=>?_) (fun h3=>?_)
   ·simp only [aa,List.length_cons,decide_eq_false_iff_not] at h3
    conv=>whnf
    refine ⟨.none,⟨by simp only [aa,List.length_cons];omega,.inl rfl⟩,?_⟩
    generalize hT:List.take _ (List.drop _ (ae _))=T
    have hT:T=ae r':=by rw [← hT];exact cr (r:=x::r') (by simp)
    subst hT
    conv=>whnf
    refine callP.pure _ (show Ctr Tryz.prog W0 102 [bU r'] [] (.sc (.b (r'.all aq))) [] from hb.tail.c102 W0) ⟨rfl,rfl⟩ ?_
    conv=>whnf
    have hlen:(decide (4≤r'.length)&&(decide (r'.length≤10)&&decide ((r'.length - 1) % 3=0)))=true:=by
     simp only [Bool.and_eq_true,decide_eq_true_eq];omega
    rw [hlen,Bool.and_true] at hg
    cases hi:r'.all aq
    ·conv=>whnf
     exact aE (by rw [hg,hi,Bool.and_false];rfl)
    ·conv=>whnf
     refine ⟨_,⟨Int.le_refl _,rfl⟩,?_⟩
     rw [hi,Bool.and_true] at hg
     rw [hg]
     repeat' ((conv=>whnf);(first | with_reducible refine ap (fun _=>?_) (fun _=>?_) | fail))
     all_goals (refine aE ?_;simp_all [aH,eY,eZ,dw,dz];try rfl)
   ·simp only [aa,List.length_cons,decide_eq_true_eq] at h3
    conv=>whnf
    have hlen:(decide (4≤r'.length)&&(decide (r'.length≤10)&&decide ((r'.length - 1) % 3=0)))=false:=by
     rw [decide_eq_false (p:=r'.length≤10) (by omega)];simp
    exact aE (by rw [hg,hlen];simp)
  ·simp only [aa,List.length_cons,Bool.not_eq_true',decide_eq_false_iff_not] at h2
   conv=>whnf
   have hlen:(decide (4≤r'.length)&&(decide (r'.length≤10)&&decide ((r'.length - 1) % 3=0)))=false:=by
    rw [decide_eq_false (p:=(r'.length - 1) % 3=0) (by omega)];simp
   exact aE (by rw [hg,hlen];simp)
 ·simp only [aa,decide_eq_true_eq] at h1
  conv=>whnf
  refine aE ?_
  cases r with
  | nil=>rfl
  | cons x r' =>
    have hg:aL aq aF a8 (x::r')=((decide (x=eY)||decide (x=eZ)||decide (x=dw)||decide (x=dz))&&(r'.all aq&&(decide (4≤r'.length)&&(decide (r'.length≤10)&&decide ((r'.length - 1) % 3=0))))):=rfl
    simp only [List.length_cons] at h1
    rw [hg,decide_eq_false (p:=4≤r'.length) (by omega)];simp
theorem bs54_arr (W0:Go.World) (nm:S) (r:List S) (hb:HB ca nm r) :
  aD (Ctr Tryz.prog W0) Fs54.ac Fs54.rs [lu ca nm r] [] (.sc (.b (aF nm&&aL aq aF ca r))) []:=by
 conv=>whnf
 refine callP.pure _ (c129 W0 nm (by have:=hb.hn;omega)) ⟨rfl,rfl⟩ ?_
 conv=>whnf
 cases hn:aF nm
 ·conv=>whnf
  exact aE rfl
 cases r with
 | nil =>
   conv=>whnf
   exact aE rfl
 | cons x r' =>
   have hg:aL aq aF ca (x::r')=(aF x&&r'.all aq):=rfl
   conv=>whnf
   refine ap (fun h1=>?_) (fun h1=>?_)
   ·simp only [aa,List.length_cons,decide_eq_false_iff_not] at h1
    omega
   conv=>whnf
   refine ⟨_,⟨Int.le_refl _,rfl⟩,?_⟩
   conv=>whnf
   refine callP.pure _ (c129 W0 x (by have:=hb.hx x (by simp);omega)) ⟨rfl,rfl⟩ ?_
   conv=>whnf
   cases hnx:aF x
   ·conv=>whnf
    exact aE (by rw [hg,hnx];rfl)
   conv=>whnf
   refine ⟨.none,⟨by simp only [aa,List.length_cons];omega,.inl rfl⟩,?_⟩
   generalize hT:List.take _ (List.drop _ (ae _))=T
   have hT:T=ae r':=by rw [← hT];exact cr (r:=x::r') (by simp)
   subst hT
   conv=>whnf
   refine callP.pure _ (show Ctr Tryz.prog W0 102 [bU r'] [] (.sc (.b (r'.all aq))) [] from hb.tail.c102 W0) ⟨rfl,rfl⟩ ?_
   conv=>whnf
   exact aE (by rw [hg,hnx];rfl)
theorem bs54_int (W0:Go.World) (nm:S) (r:List S) (hb:HB d8 nm r) :
  aD (Ctr Tryz.prog W0) Fs54.ac Fs54.rs [lu d8 nm r] [] (.sc (.b (aF nm&&aL aq aF d8 r))) []:=by
 conv=>whnf
 refine callP.pure _ (c129 W0 nm (by have:=hb.hn;omega)) ⟨rfl,rfl⟩ ?_
 conv=>whnf
 cases hn:aF nm
 ·conv=>whnf
  exact aE rfl
 match r,hb with
 | [], _ =>
   conv=>whnf
   exact aE rfl
 | [x], hb =>
   have hg:aL aq aF d8 [x]=aq x:=rfl
   rw [hg]
   conv=>whnf
   refine callP.pure _ (hb.c102 W0) ⟨rfl,rfl⟩ ?_
   conv=>whnf
   exact aE (by simp)
 | x :: y :: r', hb =>
   have hg:aL aq aF d8 (x::y::r')=false:=rfl
   conv=>whnf
   exact aE (by rw [hg];rfl)
theorem bs54_atomic (W0:Go.World) (nm:S) (r:List S) (hb:HB br nm r) :
  aD (Ctr Tryz.prog W0) Fs54.ac Fs54.rs [lu br nm r] [] (.sc (.b (aF nm&&aL aq aF br r))) []:=by
 conv=>whnf
 refine callP.pure _ (c129 W0 nm (by have:=hb.hn;omega)) ⟨rfl,rfl⟩ ?_
 conv=>whnf
 cases hn:aF nm
 ·conv=>whnf
  exact aE rfl
 match r,hb with
 | [], _ =>
   conv=>whnf
   exact aE rfl
 | [x], hb =>
   have hg:aL aq aF br [x]=aq x:=rfl
   rw [hg]
   conv=>whnf
   refine callP.pure _ (hb.c102 W0) ⟨rfl,rfl⟩ ?_
   conv=>whnf
   exact aE (by simp)
 | x :: y :: r', hb =>
   have hg:aL aq aF br (x::y::r')=false:=rfl
   conv=>whnf
   exact aE (by rw [hg];rfl)
theorem bs54_bool (W0:Go.World) (nm:S) (r:List S) (hb:HB cx nm r) :
  aD (Ctr Tryz.prog W0) Fs54.ac Fs54.rs [lu cx nm r] [] (.sc (.b (aF nm&&aL aq aF cx r))) []:=by
 conv=>whnf
 refine callP.pure _ (c129 W0 nm (by have:=hb.hn;omega)) ⟨rfl,rfl⟩ ?_
 conv=>whnf
 cases hn:aF nm
 ·conv=>whnf
  exact aE rfl
 match r,hb with
 | [], _ =>
   conv=>whnf
   exact aE rfl
 | [x], hb =>
   have hg:aL aq aF cx [x]=(decide (x=[48])||decide (x=[49])):=rfl
   rw [hg]
   conv=>whnf
   refine ⟨_,⟨Int.le_refl _,rfl⟩,?_⟩
   conv=>whnf
   refine ap (fun h1=>?_) (fun h1=>?_)
   ·conv=>whnf
    refine ⟨_,⟨Int.le_refl _,rfl⟩,?_⟩
    conv=>whnf
    simp only [aH] at h1
    exact aE (by rw [h1];rfl)
   ·conv=>whnf
    simp only [aH] at h1
    exact aE (by rw [h1];rfl)
 | x :: y :: r', hb =>
   have hg:aL aq aF cx (x::y::r')=false:=rfl
   conv=>whnf
   exact aE (by rw [hg];rfl)
theorem bs54_single (W0:Go.World) (nm:S) (r:List S) (hb:HB bq nm r) :
  aD (Ctr Tryz.prog W0) Fs54.ac Fs54.rs [lu bq nm r] [] (.sc (.b (aF nm&&aL aq aF bq r))) []:=by
 conv=>whnf
 refine callP.pure _ (c129 W0 nm (by have:=hb.hn;omega)) ⟨rfl,rfl⟩ ?_
 conv=>whnf
 cases hn:aF nm
 ·conv=>whnf
  exact aE rfl
 match r,hb with
 | [], _ =>
   conv=>whnf
   exact aE rfl
 | [x], hb =>
   have hg:aL aq aF bq [x]=(aq x||decide (x=[45])):=rfl
   rw [hg]
   conv=>whnf
   refine ⟨_,⟨Int.le_refl _,rfl⟩,?_⟩
   conv=>whnf
   refine ap (fun h1=>?_) (fun h1=>?_)
   ·conv=>whnf
    refine callP.pure _ (hb.c102 W0) ⟨rfl,rfl⟩ ?_
    conv=>whnf
    simp only [aH] at h1
    exact aE (by rw [h1];simp)
   ·conv=>whnf
    simp only [aH] at h1
    exact aE (by rw [h1];simp)
 | x :: y :: r', hb =>
   have hg:aL aq aF bq (x::y::r')=false:=rfl
   conv=>whnf
   exact aE (by rw [hg];rfl)
theorem bs54_else (W0:Go.World) (k nm:S) (r:List S) (hb:HB k nm r) (h1:k≠a8) (h2:k≠ca) (h3:k≠d8) (h4:k≠br) (h5:k≠cx) (h6:k≠bq) :
  aD (Ctr Tryz.prog W0) Fs54.ac Fs54.rs [lu k nm r] [] (.sc (.b (aF nm&&aL aq aF k r))) []:=by
 have hg:aL aq aF k r=false:=by
  unfold aL
  simp only [h1,h2,h3,h4,h5,h6,decide_false,cond_false,Bool.or_false]
  split<;>rfl
 rw [hg,Bool.and_false]
 conv=>whnf
 refine callP.pure _ (c129 W0 nm (by have:=hb.hn;omega)) ⟨rfl,rfl⟩ ?_
 conv=>whnf
 generalize aF nm=q
 cases q
 ·conv=>whnf
  exact aE rfl
 conv=>whnf
 refine ap (fun _=>?_) (fun h=>absurd (of_decide_eq_true h) h1)
 conv=>whnf
 refine ap (fun _=>?_) (fun h=>absurd (of_decide_eq_true h) h2)
 conv=>whnf
 refine ap (fun _=>?_) (fun h=>absurd (of_decide_eq_true h) h3)
 conv=>whnf
 refine ap (fun _=>?_) (fun h=>absurd (of_decide_eq_true h) h4)
 conv=>whnf
 refine ap (fun _=>?_) (fun h=>absurd (of_decide_eq_true h) h5)
 conv=>whnf
 refine ap (fun _=>?_) (fun h=>absurd (of_decide_eq_true h) h6)
 conv=>whnf
 exact aE rfl
theorem bs54 (W0:Go.World) (k nm:S) (r:List S) (hb:HB k nm r) :
  aD (Ctr Tryz.prog W0) Fs54.ac Fs54.rs [lu k nm r] [] (.sc (.b (aF nm&&aL aq aF k r))) []:=by
 by_cases h1:k=a8
 ·subst h1;exact bs54_dom W0 nm r hb
 by_cases h2:k=ca
 ·subst h2;exact bs54_arr W0 nm r hb
 by_cases h3:k=d8
 ·subst h3;exact bs54_int W0 nm r hb
 by_cases h4:k=br
 ·subst h4;exact bs54_atomic W0 nm r hb
 by_cases h5:k=cx
 ·subst h5;exact bs54_bool W0 nm r hb
 by_cases h6:k=bq
 ·subst h6;exact bs54_single W0 nm r hb
 exact bs54_else W0 k nm r hb h1 h2 h3 h4 h5 h6
theorem cs54 (W0:Go.World) (k nm:S) (r:List S) (hb:HB k nm r):Ctr Tryz.prog W0 54 [lu k nm r] [] (.sc (.b (aF nm&&aL aq aF k r))) []:=
 ak follows Fs54_ok rfl (fun _ _ h=>by cases h) rfl (by rfl) (bs54 W0 k nm r hb)
end Go.Abs
