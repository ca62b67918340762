/- ref24.Int. -/
import Derived.Test.YteihidcjmfckeaaGreatDoorSb
import Derived.Test.YteihidcjmfckeaaGreatDoorSa
set_option linter.all false
set_option maxRecDepth 1000000
set_option maxHeartbeats 16000000
namespace Go.Abs
open Go.Proofs
def Fs52g (M:Int):Fn:=⟨.seq (.reg [⟨none,.mv 2 (.c (.sc (.i .i64 0)))⟩,⟨none,.mv 3 (.c (.sc (.b false)))⟩]) (.seq (.reg [⟨none,.mv 9 (.t 0)⟩,⟨none,.mv 4 (.t 9)⟩,⟨none,.mv 5 (.c (.sc (.b false)))⟩]) (.seq (.seq (.reg [⟨none,.mv 10 (.t 0)⟩,⟨none,.lenS 11 (.t 10)⟩,⟨none,.bin 12 .gtr (.t 11) (.c (.sc (.i .i64 0)))⟩,⟨none,.mv 13 (.t 12)⟩,⟨some (13,true),.mv 14 (.t 0)⟩,⟨some (13,true),.ix 15 (.t 14) (.c (.sc (.i .i64 0)))⟩,⟨some (13,true),.bin 16 .eql (.t 15) (.c (.sc (.i .u8 45)))⟩,⟨none,.pick 17 (.t 13) (.t 16) (.c (.sc (.b false)))⟩]) (.cond (.t 17) (.reg [⟨none,.mv 18 (.t 0)⟩,⟨none,.slS 19 (.t 18) (some (.c (.sc (.i .i64 1)))) none⟩,⟨none,.mv 4 (.t 19)⟩,⟨none,.mv 5 (.c (.sc (.b true)))⟩]) .skip)) (.seq (.seq (.reg [⟨none,.mv 20 (.t 4)⟩,⟨none,.lenS 21 (.t 20)⟩,⟨none,.bin 22 .lss (.t 21) (.c (.sc (.i .i64 1)))⟩,⟨none,.mv 23 (.t 22)⟩,⟨some (23,false),.mv 24 (.t 4)⟩,⟨some (23,false),.lenS 25 (.t 24)⟩,⟨some (23,false),.bin 26 .gtr (.t 25) (.c (.sc (.i .i64 19)))⟩,⟨none,.pick 27 (.t 23) (.c (.sc (.b true))) (.t 26)⟩,⟨none,.mv 28 (.t 27)⟩,⟨some (28,false),.mv 29 (.t 4)⟩,⟨some (28,false),.ix 30 (.t 29) (.c (.sc (.i .i64 0)))⟩,⟨some (28,false),.bin 31 .eql (.t 30) (.c (.sc (.i .u8 48)))⟩,⟨some (28,false),.mv 32 (.t 31)⟩,⟨some (32,true),.mv 33 (.t 4)⟩,⟨some (32,true),.lenS 34 (.t 33)⟩,⟨some (32,true),.bin 35 .gtr (.t 34) (.c (.sc (.i .i64 1)))⟩,⟨some (32,true),.mv 36 (.t 35)⟩,⟨some (36,false),.mv 37 (.t 5)⟩,⟨some (32,true),.pick 38 (.t 36) (.c (.sc (.b true))) (.t 37)⟩,⟨some (28,false),.pick 39 (.t 32) (.t 38) (.c (.sc (.b false)))⟩,⟨none,.pick 40 (.t 28) (.c (.sc (.b true))) (.t 39)⟩]) (.cond (.t 40) (.seq (.reg [⟨none,.mv 2 (.c (.sc (.i .i64 0)))⟩,⟨none,.mv 3 (.c (.sc (.b false)))⟩]) .ret) .skip)) (.seq (.reg [⟨none,.mv 6 (.c (.sc (.i .u64 0)))⟩]) (.seq (.seq (.reg [⟨none,.mv 7 (.c (.sc (.i .i64 0)))⟩]) (.block 0 (.loop (.seq (.seq (.reg [⟨none,.mv 41 (.t 7)⟩,⟨none,.mv 42 (.t 4)⟩,⟨none,.lenS 43 (.t 42)⟩,⟨none,.bin 44 .lss (.t 41) (.t 43)⟩]) (.cond (.t 44) .skip (.exit 0))) (.seq (.block 1 (.seq (.seq (.reg [⟨none,.mv 47 (.t 4)⟩,⟨none,.mv 48 (.t 7)⟩,⟨none,.ix 49 (.t 47) (.t 48)⟩,⟨none,.bin 50 .lss (.t 49) (.c (.sc (.i .u8 48)))⟩,⟨none,.mv 51 (.t 50)⟩,⟨some (51,false),.mv 52 (.t 4)⟩,⟨some (51,false),.mv 53 (.t 7)⟩,⟨some (51,false),.ix 54 (.t 52) (.t 53)⟩,⟨some (51,false),.bin 55 .gtr (.t 54) (.c (.sc (.i .u8 57)))⟩,⟨none,.pick 56 (.t 51) (.c (.sc (.b true))) (.t 55)⟩]) (.cond (.t 56) (.seq (.reg [⟨none,.mv 2 (.c (.sc (.i .i64 0)))⟩,⟨none,.mv 3 (.c (.sc (.b false)))⟩]) .ret) .skip)) (.reg [⟨none,.mv 57 (.t 6)⟩,⟨none,.bin 58 .mul (.t 57) (.c (.sc (.i .u64 10)))⟩,⟨none,.mv 59 (.t 4)⟩,⟨none,.mv 60 (.t 7)⟩,⟨none,.ix 61 (.t 59) (.t 60)⟩,⟨none,.bin 62 .sub (.t 61) (.c (.sc (.i .u8 48)))⟩,⟨none,.cvi 63 .u64 (.t 62)⟩,⟨none,.bin 64 .add (.t 58) (.t 63)⟩,⟨none,.mv 6 (.t 64)⟩]))) (.reg [⟨none,.mv 45 (.t 7)⟩,⟨none,.bin 46 .add (.t 45) (.c (.sc (.i .i64 1)))⟩,⟨none,.mv 7 (.t 46)⟩])))))) (.seq (.reg [⟨none,.mv 8 (.c (.sc (.i .u64 M)))⟩]) (.seq (.block 2 (.seq (.reg [⟨none,.mv 66 (.t 5)⟩,⟨none,.mv 67 (.t 66)⟩,⟨some (67,true),.mv 68 (.t 6)⟩,⟨some (67,true),.mv 69 (.t 8)⟩,⟨some (67,true),.bin 70 .leq (.t 68) (.t 69)⟩,⟨none,.pick 71 (.t 67) (.t 70) (.c (.sc (.b false)))⟩,⟨none,.mv 65 (.t 71)⟩]) (.cond (.t 65) (.seq (.reg [⟨none,.mv 72 (.t 6)⟩,⟨none,.bin 73 .sub (.c (.sc (.i .u64 18446744073709551616))) (.t 72)⟩,⟨none,.cvu 74 (.t 73)⟩,⟨none,.mv 2 (.t 74)⟩,⟨none,.mv 3 (.c (.sc (.b true)))⟩]) .ret) (.seq (.reg [⟨none,.mv 76 (.t 5)⟩,⟨none,.no 77 (.t 76)⟩,⟨none,.mv 78 (.t 77)⟩,⟨some (78,true),.mv 79 (.t 6)⟩,⟨some (78,true),.mv 80 (.t 8)⟩,⟨some (78,true),.bin 81 .lss (.t 79) (.t 80)⟩,⟨none,.pick 82 (.t 78) (.t 81) (.c (.sc (.b false)))⟩,⟨none,.mv 75 (.t 82)⟩]) (.cond (.t 75) (.seq (.reg [⟨none,.mv 83 (.t 6)⟩,⟨none,.cvi 84 .i64 (.t 83)⟩,⟨none,.mv 2 (.t 84)⟩,⟨none,.mv 3 (.c (.sc (.b true)))⟩]) .ret) .skip))))) (.seq (.reg [⟨none,.mv 2 (.c (.sc (.i .i64 0)))⟩,⟨none,.mv 3 (.c (.sc (.b false)))⟩]) .ret)))))))),[(2,0),(3,0)],85,[]⟩
def an52:Ann:={ an0 with cs:=[74] }
theorem Fs52_ok:aI Tryz.prog (fun _=>an52) 52=some (Fs52g 9223372036854775808):=by kernel_rfl
theorem dv_lta:∀ (l:List UInt8) (a:Nat),l.all bm=true→dv a l<(a+1) * 10 ^ l.length
 | [],a,_=>by rw [m4];simp
 | c :: r, a, h => by
   simp only [List.all_cons,Bool.and_eq_true] at h
   have h1:=dv_lta r (a * 10+(c.toNat - 48)) h.2
   have h2:=h.1
   simp only [bm,Bool.and_eq_true,decide_eq_true_eq] at h2
   rw [iq,List.length_cons,Nat.pow_succ]
   refine Nat.lt_of_lt_of_le h1 ?_
   have h3:a * 10+(c.toNat - 48)+1≤(a+1) * 10:=by omega
   calc (a * 10+(c.toNat - 48)+1) * 10 ^ r.length≤(a+1) * 10 * 10 ^ r.length:=Nat.mul_le_mul_right _ h3
    _=(a+1) * (10 ^ r.length * 10):=by rw [Nat.mul_assoc,Nat.mul_comm 10]
theorem dv_lt (l:List UInt8) (h:l.all bm=true):dv 0 l<10 ^ l.length:=by
 have:=dv_lta l 0 h
 simpa using this
theorem bu {α:Type} {l:List α} {k:Nat} {x:α} (h:l[k]? = some x):l.take (k+1)=l.take k++[x]:=by
 obtain ⟨h1,h2⟩:=List.getElem?_eq_some_iff.1 h
 rw [List.take_succ_eq_append_getElem h1,h2]
theorem pL {l:List UInt8} {k:Nat} {x:UInt8} (h:l[k]? = some x) (hd:bm x=true):((dv 0 (l.take (k+1)):Nat):Int)=(dv 0 (l.take k):Nat) * 10+((x.toNat:Int) - 48):=by
 simp only [bm,Bool.and_eq_true,decide_eq_true_eq] at hd
 rw [bu h,dv_snoc]
 omega
def rngB (m:Bool) (n:Nat):Bool:=match m with | true=>decide (n≤9223372036854775808) | false=>decide (n<9223372036854775808)
theorem pz {s d:S} {m:Bool} (hdg:bj s=d) (hm:bL s=m) (e1:1≤d.length) (e2:d.length≤19) (hZ:(decide (d.head? = some 48)&&(decide (1<d.length)||m))=false) (hd:d.all bm=true) :
  aq s=(rngB m (dv 0 d)):=by
 subst hdg
 subst hm
 unfold aq
 rw [hZ,hd,decide_eq_true e1,decide_eq_true e2]
 rfl
theorem fu {s d:S} (hdg:bj s=d) (h:d.all bm=false):aq s=false:=by
 unfold aq;rw [hdg,h];simp
theorem kj {s d:S} {m:Bool} (hdg:bj s=d) (hm:bL s=m) (h:(decide (d.head? = some 48)&&(decide (1<d.length)||m))=true):aq s=false:=by
 unfold aq;rw [hdg,hm,h];simp
theorem oF {s d:S} (hdg:bj s=d) (h:¬ d.length≤19):aq s=false:=by
 unfold aq;rw [hdg,decide_eq_false h];simp
theorem mE {s d:S} (hdg:bj s=d) (h:¬ 1≤d.length):aq s=false:=by
 unfold aq;rw [hdg,decide_eq_false h];simp
theorem bs52 (W0:Go.World) (s:S) (hl:s.length≤1099511627776) (M:Int) (hM:M=9223372036854775808):aD (Ctr Tryz.prog W0) (Fs52g M).ac (Fs52g M).rs [.sc (.s s)] [] (.tup [.sc (.i .i64 (bz s)),.sc (.b (aq s))]) []:=by
 cases s with
 | nil =>
   conv=>whnf
   exact bM rfl rfl
 | cons c r =>
   conv=>whnf
   refine ap (fun h0=>?_) (fun h0=>?_)
   ·simp only [List.length_cons,decide_eq_false_iff_not] at h0
    omega
   ·conv=>whnf
    refine ⟨c,⟨Int.le_refl _,rfl⟩,?_⟩
    conv=>whnf
    refine ap (fun hm=>?_) (fun hm=>?_)
    ·simp only [decide_eq_false_iff_not] at hm
     have hmc:¬ c=45:=fun e=>hm (by rw [e];rfl)
     obtain ⟨T,hT⟩:∃ T,T=c::r:=⟨_,rfl⟩
     have hdg:bj T=T:=by rw [hT];simp [bj,hmc]
     have hmn:bL T=false:=by rw [hT];simp [bL,hmc]
     rw [← hT] at hl ⊢
     clear hT h0 hm hmc
     conv=>whnf
     refine ap (fun h1=>?_) (fun h1=>?_)
     ·simp only [decide_eq_false_iff_not] at h1
      have e1:1≤T.length:=by omega
      conv=>whnf
      refine ap (fun h2=>?_) (fun h2=>?_)
      ·simp only [decide_eq_false_iff_not] at h2
       have e2:T.length≤19:=by omega
       obtain ⟨x0,hx0⟩:=aB (l:=T) (k:=0) (by omega)
       have hh0:(T).head? = some x0:=by rw [List.head?_eq_getElem?];exact hx0
       conv=>whnf
       refine ⟨x0,⟨Int.le_refl _,hx0⟩,?_⟩
       conv=>whnf
       refine ap (fun h3=>?_) (fun h3=>?_)
       ·simp only [decide_eq_false_iff_not] at h3
        have h3:¬ x0=48:=fun e=>h3 (by rw [e];rfl)
        have hZ:(decide (T.head? = some 48)&&(decide (1<T.length)||false))=false:=by rw [hh0];simp [h3]
        conv=>whnf
        refine .st 10000 (fun k=>T.length - k) (fun k=>[(.s 4,.av (.sc (.s T))),(.s 5,.av (.sc (.b false))),(.s 6,.av (.sc (.i .u64 (dv 0 (T.take k):Nat)))),(.s 7,.av (.sc (.i .i64 (k:Nat))))])
         (fun k=>k≤T.length∧(T.all bm=(T.drop k).all bm∧(T.take k).all bm=true)) 0 ?_ ⟨Nat.zero_le _,rfl,rfl⟩ ?_
        ·(refine aN rfl rfl ?_;repeat' (first | exact rfl | exact trivial | refine ⟨?_,?_⟩))
        ·rintro k ⟨hk,he,ht⟩
         have hv:=dv_lt _ ht
         rw [List.length_take,Nat.min_eq_left hk] at hv
         conv=>whnf
         refine ap (fun h4=>?_) (fun h4=>?_)
         ·simp only [decide_eq_false_iff_not] at h4
          have ek:k=T.length:=by omega
          have hd:T.all bm=true:=by rw [he,ek,List.drop_length];rfl
          have hv2:dv 0 T<10 ^ 19:=Nat.lt_of_lt_of_le (by rw [ek,List.take_length] at hv;exact hv) (Nat.pow_le_pow_right (by omega) e2)
          have et:T.take k=T:=by rw [ek,List.take_length]
          have hr:=pz hdg hmn e1 e2 hZ hd
          rw [et]
          generalize hv4:((dv 0 T:Nat):Int)=v
          conv=>whnf
          refine ap (fun h5=>?_) (fun h5=>?_)
          ·simp only [decide_eq_false_iff_not] at h5
           have hr:aq T=false:=hr.trans (by rw [rngB];exact decide_eq_false (by omega))
           conv=>whnf
           exact bM (by rw [bz,hr];rfl) (by rw [hr])
          ·simp only [decide_eq_true_eq] at h5
           have hr:aq T=true:=hr.trans (by rw [rngB];exact decide_eq_true (by omega))
           have hv5:=Int.natCast_nonneg (dv 0 T)
           conv=>whnf
           refine And.intro (by constructor<;>omega) ?_
           conv=>whnf
           refine bM ?_ hr.symm
           rw [bz,hr,jG,hmn,hdg];simp only [cond_true];omega
         ·simp only [decide_eq_true_eq] at h4
          have hk2:k<T.length:=by omega
          obtain ⟨x,hx⟩:=aB (l:=T) (k:=k) hk2
          rw [aR hx,List.all_cons] at he
          have hv3:dv 0 (T.take k)<10 ^ 18:=Nat.lt_of_lt_of_le hv (Nat.pow_le_pow_right (by omega) (by omega))
          conv=>whnf
          refine ⟨x,⟨Int.natCast_nonneg _,hx⟩,?_⟩
          conv=>whnf
          refine ap (fun h6=>?_) (fun h6=>?_)
          ·simp only [decide_eq_false_iff_not] at h6
           conv=>whnf
           refine ⟨x,⟨Int.natCast_nonneg _,hx⟩,?_⟩
           conv=>whnf
           refine ap (fun h7=>?_) (fun h7=>?_)
           ·simp only [decide_eq_false_iff_not] at h7
            have hdx:bm x=true:=by simp only [bm,Bool.and_eq_true,decide_eq_true_eq];omega
            conv=>whnf
            refine And.intro (by constructor<;>omega) ?_
            conv=>whnf
            refine ⟨x,⟨Int.natCast_nonneg _,hx⟩,?_⟩
            conv=>whnf
            refine And.intro (by constructor<;>omega) ?_
            conv=>whnf
            refine And.intro (by constructor<;>omega) ?_
            conv=>whnf
            refine And.intro (by constructor<;>omega) ?_
            conv=>whnf
            refine And.intro (by constructor<;>omega) ?_
            conv=>whnf
            have hsn:=pL (l:=T) hx hdx
            refine nxt (k+1) ⟨by omega,by omega,by rw [he,hdx,Bool.true_and],by rw [bu hx,List.all_append,ht];simp [hdx]⟩ ?_
            rw [hsn]
            (refine aN rfl rfl ?_;repeat' (first | exact rfl | exact trivial | refine ⟨?_,?_⟩))
           ·simp only [decide_eq_true_eq] at h7
            have hdx:bm x=false:=by simp only [bm];simp;omega
            have hd:=fu hdg (by rw [he,hdx,Bool.false_and])
            conv=>whnf
            exact bM (by rw [bz,hd];rfl) (by rw [hd])
          ·simp only [decide_eq_true_eq] at h6
           have hdx:bm x=false:=by simp only [bm];simp;omega
           have hd:=fu hdg (by rw [he,hdx,Bool.false_and])
           conv=>whnf
           exact bM (by rw [bz,hd];rfl) (by rw [hd])
       ·simp only [decide_eq_true_eq] at h3
        have h3:x0=48:=UInt8.toNat_inj.1 (by have:(48:UInt8).toNat=48:=rfl;omega)
        conv=>whnf
        refine ap (fun h8=>?_) (fun h8=>?_)
        ·simp only [decide_eq_false_iff_not] at h8
         have hZ:(decide (T.head? = some 48)&&(decide (1<T.length)||false))=false:=by rw [decide_eq_false (p:=1<T.length) (by omega)];simp
         conv=>whnf
         refine .st 10000 (fun k=>T.length - k) (fun k=>[(.s 4,.av (.sc (.s T))),(.s 5,.av (.sc (.b false))),(.s 6,.av (.sc (.i .u64 (dv 0 (T.take k):Nat)))),(.s 7,.av (.sc (.i .i64 (k:Nat))))])
          (fun k=>k≤T.length∧(T.all bm=(T.drop k).all bm∧(T.take k).all bm=true)) 0 ?_ ⟨Nat.zero_le _,rfl,rfl⟩ ?_
         ·(refine aN rfl rfl ?_;repeat' (first | exact rfl | exact trivial | refine ⟨?_,?_⟩))
         ·rintro k ⟨hk,he,ht⟩
          have hv:=dv_lt _ ht
          rw [List.length_take,Nat.min_eq_left hk] at hv
          conv=>whnf
          refine ap (fun h4=>?_) (fun h4=>?_)
          ·simp only [decide_eq_false_iff_not] at h4
           have ek:k=T.length:=by omega
           have hd:T.all bm=true:=by rw [he,ek,List.drop_length];rfl
           have hv2:dv 0 T<10 ^ 19:=Nat.lt_of_lt_of_le (by rw [ek,List.take_length] at hv;exact hv) (Nat.pow_le_pow_right (by omega) e2)
           have et:T.take k=T:=by rw [ek,List.take_length]
           have hr:=pz hdg hmn e1 e2 hZ hd
           rw [et]
           generalize hv4:((dv 0 T:Nat):Int)=v
           conv=>whnf
           refine ap (fun h5=>?_) (fun h5=>?_)
           ·simp only [decide_eq_false_iff_not] at h5
            have hr:aq T=false:=hr.trans (by rw [rngB];exact decide_eq_false (by omega))
            conv=>whnf
            exact bM (by rw [bz,hr];rfl) (by rw [hr])
           ·simp only [decide_eq_true_eq] at h5
            have hr:aq T=true:=hr.trans (by rw [rngB];exact decide_eq_true (by omega))
            have hv5:=Int.natCast_nonneg (dv 0 T)
            conv=>whnf
            refine And.intro (by constructor<;>omega) ?_
            conv=>whnf
            refine bM ?_ hr.symm
            rw [bz,hr,jG,hmn,hdg];simp only [cond_true];omega
          ·simp only [decide_eq_true_eq] at h4
           have hk2:k<T.length:=by omega
           obtain ⟨x,hx⟩:=aB (l:=T) (k:=k) hk2
           rw [aR hx,List.all_cons] at he
           have hv3:dv 0 (T.take k)<10 ^ 18:=Nat.lt_of_lt_of_le hv (Nat.pow_le_pow_right (by omega) (by omega))
           conv=>whnf
           refine ⟨x,⟨Int.natCast_nonneg _,hx⟩,?_⟩
           conv=>whnf
           refine ap (fun h6=>?_) (fun h6=>?_)
           ·simp only [decide_eq_false_iff_not] at h6
            conv=>whnf
            refine ⟨x,⟨Int.natCast_nonneg _,hx⟩,?_⟩
            conv=>whnf
            refine ap (fun h7=>?_) (fun h7=>?_)
            ·simp only [decide_eq_false_iff_not] at h7
             have hdx:bm x=true:=by simp only [bm,Bool.and_eq_true,decide_eq_true_eq];omega
             conv=>whnf
             refine And.intro (by constructor<;>omega) ?_
             conv=>whnf
             refine ⟨x,⟨Int.natCast_nonneg _,hx⟩,?_⟩
             conv=>whnf
             refine And.intro (by constructor<;>omega) ?_
             conv=>whnf
             refine And.intro (by constructor<;>omega) ?_
             conv=>whnf
             refine And.intro (by constructor<;>omega) ?_
             conv=>whnf
             refine And.intro (by constructor<;>omega) ?_
             conv=>whnf
             have hsn:=pL (l:=T) hx hdx
             refine nxt (k+1) ⟨by omega,by omega,by rw [he,hdx,Bool.true_and],by rw [bu hx,List.all_append,ht];simp [hdx]⟩ ?_
             rw [hsn]
             (refine aN rfl rfl ?_;repeat' (first | exact rfl | exact trivial | refine ⟨?_,?_⟩))
            ·simp only [decide_eq_true_eq] at h7
             have hdx:bm x=false:=by simp only [bm];simp;omega
             have hd:=fu hdg (by rw [he,hdx,Bool.false_and])
             conv=>whnf
             exact bM (by rw [bz,hd];rfl) (by rw [hd])
           ·simp only [decide_eq_true_eq] at h6
            have hdx:bm x=false:=by simp only [bm];simp;omega
            have hd:=fu hdg (by rw [he,hdx,Bool.false_and])
            conv=>whnf
            exact bM (by rw [bz,hd];rfl) (by rw [hd])
        ·simp only [decide_eq_true_eq] at h8
         have hd:=kj hdg hmn (by rw [hh0,h3,decide_eq_true (p:=1<T.length) (by omega)];simp)
         conv=>whnf
         exact bM (by rw [bz,hd];rfl) (by rw [hd])
      ·simp only [decide_eq_true_eq] at h2
       have hd:=oF hdg (by omega)
       conv=>whnf
       exact bM (by rw [bz,hd];rfl) (by rw [hd])
     ·simp only [decide_eq_true_eq] at h1
      have hd:=mE hdg (by omega)
      conv=>whnf
      exact bM (by rw [bz,hd];rfl) (by rw [hd])
    ·simp only [decide_eq_true_eq] at hm
     have hm:c=45:=UInt8.toNat_inj.1 (by have:(45:UInt8).toNat=45:=rfl;omega)
     subst hm
     conv=>whnf
     refine And.intro (by simp only [List.length_cons];omega) ?_
     generalize hT:List.take _ (List.drop _ _)=T
     have hT:T=r:=by rw [← hT];simp
     subst hT
     have hdg:bj (45::T)=T:=by simp [bj]
     have hmn:bL (45::T)=true:=by simp [bL]
     clear h0
     conv=>whnf
     refine ap (fun h1=>?_) (fun h1=>?_)
     ·simp only [decide_eq_false_iff_not] at h1
      have e1:1≤T.length:=by omega
      conv=>whnf
      refine ap (fun h2=>?_) (fun h2=>?_)
      ·simp only [decide_eq_false_iff_not] at h2
       have e2:T.length≤19:=by omega
       obtain ⟨x0,hx0⟩:=aB (l:=T) (k:=0) (by omega)
       have hh0:(T).head? = some x0:=by rw [List.head?_eq_getElem?];exact hx0
       conv=>whnf
       refine ⟨x0,⟨Int.le_refl _,hx0⟩,?_⟩
       conv=>whnf
       refine ap (fun h3=>?_) (fun h3=>?_)
       ·simp only [decide_eq_false_iff_not] at h3
        have h3:¬ x0=48:=fun e=>h3 (by rw [e];rfl)
        have hZ:(decide (T.head? = some 48)&&(decide (1<T.length)||true))=false:=by rw [hh0];simp [h3]
        conv=>whnf
        refine .st 10000 (fun k=>T.length - k) (fun k=>[(.s 4,.av (.sc (.s T))),(.s 5,.av (.sc (.b true))),(.s 6,.av (.sc (.i .u64 (dv 0 (T.take k):Nat)))),(.s 7,.av (.sc (.i .i64 (k:Nat))))])
         (fun k=>k≤T.length∧(T.all bm=(T.drop k).all bm∧(T.take k).all bm=true)) 0 ?_ ⟨Nat.zero_le _,rfl,rfl⟩ ?_
        ·(refine aN rfl rfl ?_;repeat' (first | exact rfl | exact trivial | refine ⟨?_,?_⟩))
        ·rintro k ⟨hk,he,ht⟩
         have hv:=dv_lt _ ht
         rw [List.length_take,Nat.min_eq_left hk] at hv
         conv=>whnf
         refine ap (fun h4=>?_) (fun h4=>?_)
         ·simp only [decide_eq_false_iff_not] at h4
          have ek:k=T.length:=by omega
          have hd:T.all bm=true:=by rw [he,ek,List.drop_length];rfl
          have hv2:dv 0 T<10 ^ 19:=Nat.lt_of_lt_of_le (by rw [ek,List.take_length] at hv;exact hv) (Nat.pow_le_pow_right (by omega) e2)
          have et:T.take k=T:=by rw [ek,List.take_length]
          have hr:=pz hdg hmn e1 e2 hZ hd
          rw [et]
          generalize hv4:((dv 0 T:Nat):Int)=v
          conv=>whnf
          refine ap (fun h5=>?_) (fun h5=>?_)
          ·simp only [decide_eq_false_iff_not] at h5
           have hr:aq (45::T)=false:=hr.trans (by rw [rngB];exact decide_eq_false (by omega))
           conv=>whnf
           exact bM (by rw [bz,hr];rfl) (by rw [hr])
          ·simp only [decide_eq_true_eq] at h5
           have hr:aq (45::T)=true:=hr.trans (by rw [rngB];exact decide_eq_true (by omega))
           have hv5:=Int.natCast_nonneg (dv 0 T)
           have hp:=dv_pos hd (by intro e;rw [e] at e1;simp at e1) (by rw [hh0];intro e;cases e;exact h3 rfl)
           conv=>whnf
           refine And.intro (by constructor<;>omega) ?_
           conv=>whnf
           refine And.intro (by constructor<;>omega) ?_
           conv=>whnf
           refine bM ?_ hr.symm
           rw [bz,hr,jG,hmn,hdg];simp only [cond_true];omega
         ·simp only [decide_eq_true_eq] at h4
          have hk2:k<T.length:=by omega
          obtain ⟨x,hx⟩:=aB (l:=T) (k:=k) hk2
          rw [aR hx,List.all_cons] at he
          have hv3:dv 0 (T.take k)<10 ^ 18:=Nat.lt_of_lt_of_le hv (Nat.pow_le_pow_right (by omega) (by omega))
          conv=>whnf
          refine ⟨x,⟨Int.natCast_nonneg _,hx⟩,?_⟩
          conv=>whnf
          refine ap (fun h6=>?_) (fun h6=>?_)
          ·simp only [decide_eq_false_iff_not] at h6
           conv=>whnf
           refine ⟨x,⟨Int.natCast_nonneg _,hx⟩,?_⟩
           conv=>whnf
           refine ap (fun h7=>?_) (fun h7=>?_)
           ·simp only [decide_eq_false_iff_not] at h7
            have hdx:bm x=true:=by simp only [bm,Bool.and_eq_true,decide_eq_true_eq];omega
            conv=>whnf
            refine And.intro (by constructor<;>omega) ?_
            conv=>whnf
            refine ⟨x,⟨Int.natCast_nonneg _,hx⟩,?_⟩
            conv=>whnf
            refine And.intro (by constructor<;>omega) ?_
            conv=>whnf
            refine And.intro (by constructor<;>omega) ?_
            conv=>whnf
            refine And.intro (by constructor<;>omega) ?_
            conv=>whnf
            refine And.intro (by constructor<;>omega) ?_
            conv=>whnf
            have hsn:=pL (l:=T) hx hdx
            refine nxt (k+1) ⟨by omega,by omega,by rw [he,hdx,Bool.true_and],by rw [bu hx,List.all_append,ht];simp [hdx]⟩ ?_
            rw [hsn]
            (refine aN rfl rfl ?_;repeat' (first | exact rfl | exact trivial | refine ⟨?_,?_⟩))
           ·simp only [decide_eq_true_eq] at h7
            have hdx:bm x=false:=by simp only [bm];simp;omega
            have hd:=fu hdg (by rw [he,hdx,Bool.false_and])
            conv=>whnf
            exact bM (by rw [bz,hd];rfl) (by rw [hd])
          ·simp only [decide_eq_true_eq] at h6
           have hdx:bm x=false:=by simp only [bm];simp;omega
           have hd:=fu hdg (by rw [he,hdx,Bool.false_and])
           conv=>whnf
           exact bM (by rw [bz,hd];rfl) (by rw [hd])
       ·simp only [decide_eq_true_eq] at h3
        have h3:x0=48:=UInt8.toNat_inj.1 (by have:(48:UInt8).toNat=48:=rfl;omega)
        conv=>whnf
        refine ap (fun h8=>?_) (fun h8=>?_)
        ·simp only [decide_eq_false_iff_not] at h8
         have hd:=kj hdg hmn (by rw [hh0,h3];simp)
         conv=>whnf
         exact bM (by rw [bz,hd];rfl) (by rw [hd])
        ·simp only [decide_eq_true_eq] at h8
         have hd:=kj hdg hmn (by rw [hh0,h3,decide_eq_true (p:=1<T.length) (by omega)];simp)
         conv=>whnf
         exact bM (by rw [bz,hd];rfl) (by rw [hd])
      ·simp only [decide_eq_true_eq] at h2
       have hd:=oF hdg (by omega)
       conv=>whnf
       exact bM (by rw [bz,hd];rfl) (by rw [hd])
     ·simp only [decide_eq_true_eq] at h1
      have hd:=mE hdg (by omega)
      conv=>whnf
      exact bM (by rw [bz,hd];rfl) (by rw [hd])
theorem cs52 (W0:Go.World) (s:S) (hl:s.length≤1099511627776):Ctr Tryz.prog W0 52 [.sc (.s s)] [] (.tup [.sc (.i .i64 (bz s)),.sc (.b (aq s))]) []:=
 ak follows Fs52_ok rfl (fun _ _ h=>by cases h) rfl (by rfl) (bs52 W0 s hl _ rfl)
end Go.Abs
