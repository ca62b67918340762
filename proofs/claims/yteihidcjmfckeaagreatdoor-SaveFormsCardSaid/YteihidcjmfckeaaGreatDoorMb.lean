/- A call: the callee's view of the world, and the way back. -/
import Derived.Test.YteihidcjmfckeaaGreatDoorMa
import Derived.MapKept
import Derived.Deep.Upon
import Derived.LaidEqlPtr
import Derived.Laws.RangeString
import Derived.Laws.CopyRow
import Derived.Laws.MakeOwn
import Derived.Below
set_option linter.all false
namespace Go.Abs
open Go
theorem bZ {nb nt:Nat}:∀ {l:List AV},km nb nt l=true→∀ v,v∈l→in1 nb nt v=true
 | [],_,v,h=>by cases h
 | x :: r, h, v, hv => by
   simp only [km] at h
   split at h
   ·rename_i hx
    rcases List.mem_cons.1 hv with rfl | hv
    ·exact hx
    ·exact bZ h v hv
   ·cases h
theorem bF {nb nt:Nat}:∀ {l:List AV},dI nb nt l=true→∀ v,v∈l→in2 nb nt v=true
 | [],_,v,h=>by cases h
 | x :: r, h, v, hv => by
   simp only [dI] at h
   split at h
   ·rename_i hx
    rcases List.mem_cons.1 hv with rfl | hv
    ·exact hx
    ·exact bF h v hv
   ·cases h
theorem gO {nb nt:Nat}:∀ {l:List (List AV)},inH nb nt l=true→∀ v,v∈l→dI nb nt v=true
 | [],_,v,h=>by cases h
 | x :: r, h, v, hv => by
   simp only [inH] at h
   split at h
   ·rename_i hx
    rcases List.mem_cons.1 hv with rfl | hv
    ·exact hx
    ·exact gO h v hv
   ·cases h
structure Ren (κ κ':Gh) (fb ft:Nat→Nat) (nb nt:Nat):Prop where
 I_:∀ b o,κ.I b o→κ'.I b o
 db:∀ b,b<nb→κ.Db b→κ'.Db (fb b)∧κ'.ι (fb b)=κ.ι b
 dt:∀ k,k<nt→κ.Dt k→κ'.Dt (ft k)∧κ'.τ (ft k)=κ.τ k
section ren
variable {κ κ':Gh} {w:World} {bs ts:List Nat} {id nb nt:Nat}
theorem RepV.ren1 (h:Ren κ κ' (rb bs id) (rb ts id) nb nt) {v:AV} {x:Value} (hv:RepV κ w v x) (hi:in1 nb nt v=true):RepV κ' w (ren1 bs ts id v) x:=by
 cases hv with
 | sc c=>exact .sc c
 | sl sz els t x hd ht =>
   have hd':=hd.mono (w':=w) h.I_ (fun _ _ _=>rfl)
   cases t with
   | none=>exact .sl sz els _ x hd' trivial
   | full=>exact .sl sz els _ x hd' ht
   | t k =>
     have hk:k<nt:=by simpa [in1,Nat.blt_eq] using hi
     obtain ⟨g1,g2⟩:=h.dt k hk ht.1
     exact .sl sz els _ x hd' ⟨g1,fun a n c e l=>g2.trans (ht.2 a n c e l)⟩
 | ptr b o hb =>
   have hk:b<nb:=by simpa [in1,Nat.blt_eq] using hi
   obtain ⟨g1,g2⟩:=h.db b hk hb
   rw [← g2]
   exact .ptr _ o g1
 | elp cells o b q hc =>
   refine .elp cells o b q fun j d hj=>?_
   obtain ⟨c,h1,h2,h3⟩:=hc j d hj
   exact ⟨c,h.I_ _ _ h1,h2,h3.mono h.I_ (fun _ _ _=>rfl)⟩
 | mx sz els b n t off cap hd ho hn hh ht =>
   have hh':=hh.mono (w':=w) h.I_ (fun _ _ _=>rfl)
   cases t with
   | none =>
     have hk:b<nb:=by simpa [in1,Nat.blt_eq] using hi
     obtain ⟨g1,g2⟩:=h.db b hk hd
     rw [← g2] at ho hh' ⊢
     exact .mx sz els _ n _ off cap g1 ho hn hh' trivial
   | full =>
     have hk:b<nb:=by simpa [in1,Nat.blt_eq] using hi
     obtain ⟨g1,g2⟩:=h.db b hk hd
     rw [← g2] at ho hh' ht ⊢
     exact .mx sz els _ n _ off cap g1 ho hn hh' ht
   | t k =>
     have hkk:k<nt∧b<nb:=by
      simp only [in1] at hi
      split at hi
      ·rename_i h1;exact ⟨by simpa [Nat.blt_eq] using h1,by simpa [Nat.blt_eq] using hi⟩
      ·cases hi
     obtain ⟨g1,g2⟩:=h.db b hkk.2 hd
     obtain ⟨q1,q2⟩:=h.dt k hkk.1 ht.1
     rw [← g2] at ho hh' ht ⊢
     exact .mx sz els _ n _ off cap g1 ho hn hh' ⟨q1,fun a n c e l=>q2.trans (ht.2 a n c e l)⟩
 | mr b hb =>
   have hk:b<nb:=by simpa [in1,Nat.blt_eq] using hi
   obtain ⟨g1,g2⟩:=h.db b hk hb
   rw [← g2]
   exact .mr _ g1
 | fb f b o hb =>
   have hk:b<nb:=by simpa [in1,Nat.blt_eq] using hi
   obtain ⟨g1,g2⟩:=h.db b hk hb
   rw [← g2]
   exact .fb _ _ _ g1
 | cs sz b o n c t cap hd hn hc ht =>
   cases t with
   | none =>
     have hk:b<nb:=by simpa [in1,Nat.blt_eq] using hi
     obtain ⟨g1,g2⟩:=h.db b hk hd
     rw [← g2]
     exact .cs sz _ o n c _ cap g1 hn hc trivial
   | full =>
     have hk:b<nb:=by simpa [in1,Nat.blt_eq] using hi
     obtain ⟨g1,g2⟩:=h.db b hk hd
     rw [← g2] at ht ⊢
     exact .cs sz _ o n c _ cap g1 hn hc ht
   | t k =>
     have hkk:k<nt∧b<nb:=by
      simp only [in1] at hi
      split at hi
      ·rename_i h1;exact ⟨by simpa [Nat.blt_eq] using h1,by simpa [Nat.blt_eq] using hi⟩
      ·cases hi
     obtain ⟨g1,g2⟩:=h.db b hkk.2 hd
     obtain ⟨q1,q2⟩:=h.dt k hkk.1 ht.1
     rw [← g2] at ht ⊢
     exact .cs sz _ o n c _ cap g1 hn hc ⟨q1,fun a n c e l=>q2.trans (ht.2 a n c e l)⟩
 | fn=>cases hi
 | agg=>cases hi
 | tup=>cases hi
 | bad=>cases hi
theorem one_ren1 {v:AV}:one (ren1 bs ts id v)=one v:=by
 cases v<;>try rfl
 all_goals (rename_i t;cases t<;>rfl)
theorem mval_ren {v:AV} (h:mval v=some v):mval (Abs.ren1 bs ts id v)=some (Abs.ren1 bs ts id v):=by
 cases v with
 | sc c=>rfl
 | ptr b o=>rfl
 | sl z e t=>cases t<;>first | rfl | (simp [mval] at h)
 | _=>cases h
theorem oD {a b:AV} {r:List AV}:isM (a::b::r)=false:=by cases a<;>rfl
theorem one_ren2 {v:AV}:one (ren2 bs ts id v)=one v:=by
 cases v<;>try rfl
 all_goals (rename_i t;cases t<;>rfl)
theorem RepV.ren2 (h:Ren κ κ' (rb bs id) (rb ts id) nb nt) {v:AV} {x:Value} (hv:RepV κ w v x) (hi:in2 nb nt v=true):RepV κ' w (ren2 bs ts id v) x:=by
 cases hv with
 | fn f caps vs hs hc =>
   refine .fn f _ vs (by simpa using hs) fun j v hj=>?_
   rw [List.getElem?_map] at hj
   cases hu:caps[j]? with
   | none=>simp [hu] at hj
   | some u =>
     simp [hu] at hj
     subst hj
     exact (hc j u hu).ren1 h (bZ hi u (List.mem_of_getElem? hu))
 | agg l vs hs h1 hc =>
   refine .agg _ vs (by simpa using hs) ?_ fun j v hj=>?_
   ·intro v hv
    obtain ⟨u,hu,rfl⟩:=List.mem_map.1 hv
    rw [one_ren1];exact h1 u hu
   ·rw [List.getElem?_map] at hj
    cases hu:l[j]? with
    | none=>simp [hu] at hj
    | some u =>
      simp [hu] at hj
      subst hj
      exact (hc j u hu).ren1 h (bZ hi u (List.mem_of_getElem? hu))
 | sc c=>exact RepV.ren1 h (.sc c) hi
 | sl sz els t x hd ht=>exact RepV.ren1 h (.sl sz els t x hd ht) hi
 | ptr b o hb=>exact RepV.ren1 h (.ptr b o hb) hi
 | elp cells o b q hc=>exact RepV.ren1 h (.elp cells o b q hc) hi
 | mx sz els b n t off cap hd ho hn hh ht=>exact RepV.ren1 h (.mx sz els b n t off cap hd ho hn hh ht) hi
 | mr b hb=>exact RepV.ren1 h (.mr b hb) hi
 | fb f b o hb=>exact RepV.ren1 h (.fb f b o hb) hi
 | cs sz b o n c t cap hd hn hc ht=>exact RepV.ren1 h (.cs sz b o n c t cap hd hn hc ht) hi
 | tup=>cases hi
 | bad=>cases hi
theorem RepV.ren (h:Ren κ κ' (rb bs id) (rb ts id) nb nt) {v:AV} {x:Value} (hv:RepV κ w v x) (hi:inR nb nt v=true):RepV κ' w (ren bs ts id v) x:=by
 by_cases ht:∃ l,v=.tup l
 ·obtain ⟨l,rfl⟩:=ht
  obtain ⟨vs,rfl,hs,hc⟩:=hv.tup_inv
  refine .tup _ vs (by simpa using hs) fun j v hj=>?_
  rw [List.getElem?_map] at hj
  cases hu:l[j]? with
  | none=>simp [hu] at hj
  | some u =>
    simp [hu] at hj
    subst hj
    exact (hc j u hu).ren2 h (bF hi u (List.mem_of_getElem? hu))
 ·have e1:Abs.ren bs ts id v=Abs.ren2 bs ts id v:=by cases v<;>first | rfl | exact absurd ⟨_,rfl⟩ ht
  have e2:inR nb nt v=in2 nb nt v:=by cases v<;>first | rfl | exact absurd ⟨_,rfl⟩ ht
  rw [e1];rw [e2] at hi
  exact hv.ren2 h hi
theorem RepL.ren2 (h:Ren κ κ' (rb bs id) (rb ts id) nb nt) {l:List AV} {C:Array Value} (hl:RepL κ w l C) (hi:dI nb nt l=true):RepL κ' w (l.map (Abs.ren2 bs ts id)) C:=by
 refine ⟨by simpa using hl.1,?_,fun j v hj=>?_⟩
 ·intro v hv
  obtain ⟨u,hu,rfl⟩:=List.mem_map.1 hv
  rw [one_ren2];exact hl.2.1 u hu
 ·rw [List.getElem?_map] at hj
  cases hu:l[j]? with
  | none=>simp [hu] at hj
  | some u =>
    simp [hu] at hj
    subst hj
    exact (hl.2.2 j u hu).ren2 h (bF hi u (List.mem_of_getElem? hu))
theorem RepC.ren2 (h:Ren κ κ' (rb bs id) (rb ts id) nb nt) {l:List AV} {C:Array Value} {o:Nat} (hl:RepC κ w l C o) (hi:dI nb nt l=true):RepC κ' w (l.map (Abs.ren2 bs ts id)) C o:=by
 have h1:=dF.1 hl
 refine dF.2 ⟨by simpa using h1.1,?_⟩
 rw [List.length_map]
 exact h1.2.ren2 h hi
end ren
section wk
variable {κ:Gh} {w:World}
theorem RepV.wk1 {v u:AV} {x:Value} (hv:RepV κ w v x) (h:wk1 v u):RepV κ w u x∧one u=one v:=by
 unfold Abs.wk1 at h
 split at h
 ·obtain ⟨rfl,rfl,ht⟩:=h
  obtain ⟨h1,h2⟩:=hv.sl_inv
  rcases ht with rfl | rfl
  ·exact ⟨.sl _ _ _ _ h1 trivial,rfl⟩
  ·exact ⟨hv,rfl⟩
 ·obtain ⟨rfl,rfl,rfl,rfl,ht⟩:=h
  obtain ⟨off,cap,h1,h2,h3,h4,h5,rfl⟩:=hv.mx_inv
  rcases ht with rfl | rfl
  ·exact ⟨.mx _ _ _ _ _ off cap h1 h2 h3 h4 trivial,rfl⟩
  ·exact ⟨hv,rfl⟩
 ·obtain ⟨rfl,rfl,rfl,rfl,rfl,ht⟩:=h
  obtain ⟨cap,h1,h2,h3,h4,rfl⟩:=hv.cs_inv
  rcases ht with rfl | rfl
  ·exact ⟨.cs _ _ _ _ _ _ cap h1 h2 h3 trivial,rfl⟩
  ·exact ⟨hv,rfl⟩
 ·subst h;exact ⟨hv,rfl⟩
theorem jX:∀ {l m:List AV},wkL1 l m→m.length=l.length∧∀ (j:Nat) (u:AV),m[j]? = some u→∃ v,l[j]? = some v∧wk1 v u
 | [],[],_=>⟨rfl,fun j u h=>by simp at h⟩
 | x :: l, y :: m, h => by
   obtain ⟨h1,h2⟩:=h
   obtain ⟨g1,g2⟩:=jX h2
   refine ⟨by simp [g1],fun j u hj=>?_⟩
   cases j with
   | zero=>simp at hj;subst hj;exact ⟨x,rfl,h1⟩
   | succ j=>simpa using g2 j u (by simpa using hj)
 | [],_::_,h=>h.elim
 | _::_,[],h=>h.elim
theorem RepV.wk2 {v u:AV} {x:Value} (hv:RepV κ w v x) (h:wk2 v u):RepV κ w u x∧one u=one v:=by
 unfold Abs.wk2 at h
 split at h
 ·obtain ⟨rfl,h⟩:=h
  obtain ⟨vs,rfl,hs,hc⟩:=hv.fn_inv
  obtain ⟨g1,g2⟩:=jX h
  refine ⟨.fn _ _ vs (by rw [hs,g1]) fun j u hj=>?_,rfl⟩
  obtain ⟨v,h1,h2⟩:=g2 j u hj
  exact ((hc j v h1).wk1 h2).1
 ·obtain ⟨vs,rfl,hl⟩:=hv.agg_inv
  obtain ⟨g1,g2⟩:=jX h
  refine ⟨.agg _ vs (by rw [hl.1,g1]) ?_ fun j u hj=>?_,rfl⟩
  ·intro u hu
   obtain ⟨j,hj⟩:=List.mem_iff_getElem?.1 hu
   obtain ⟨v,h1,h2⟩:=g2 j u hj
   rw [((hl.2.2 j v h1).wk1 h2).2]
   exact hl.2.1 v (List.mem_of_getElem? h1)
  ·obtain ⟨v,h1,h2⟩:=g2 j u hj
   exact ((hl.2.2 j v h1).wk1 h2).1
 ·exact hv.wk1 h
theorem dj:∀ {l m:List AV},gt l m→m.length=l.length∧∀ (j:Nat) (u:AV),m[j]? = some u→∃ v,l[j]? = some v∧wk2 v u
 | [],[],_=>⟨rfl,fun j u h=>by simp at h⟩
 | x :: l, y :: m, h => by
   obtain ⟨h1,h2⟩:=h
   obtain ⟨g1,g2⟩:=dj h2
   refine ⟨by simp [g1],fun j u hj=>?_⟩
   cases j with
   | zero=>simp at hj;subst hj;exact ⟨x,rfl,h1⟩
   | succ j=>simpa using g2 j u (by simpa using hj)
 | [],_::_,h=>h.elim
 | _::_,[],h=>h.elim
theorem RepL.wk {l m:List AV} {C:Array Value} (hl:RepL κ w l C) (h:gt l m):RepL κ w m C:=by
 obtain ⟨g1,g2⟩:=dj h
 refine ⟨by rw [hl.1,g1],?_,fun j u hj=>?_⟩
 ·intro u hu
  obtain ⟨j,hj⟩:=List.mem_iff_getElem?.1 hu
  obtain ⟨v,h1,h2⟩:=g2 j u hj
  rw [((hl.2.2 j v h1).wk2 h2).2]
  exact hl.2.1 v (List.mem_of_getElem? h1)
 ·obtain ⟨v,h1,h2⟩:=g2 j u hj
  exact ((hl.2.2 j v h1).wk2 h2).1
end wk
theorem RepC.wk {κ:Gh} {w:World} {l m:List AV} {C:Array Value} {o:Nat} (hl:RepC κ w l C o) (h:gt l m):RepC κ w m C o:=by
 have h1:=dF.1 hl
 have h2:=(dj h).1
 refine dF.2 ⟨by rw [h2];exact h1.1,?_⟩
 rw [h2]
 exact h1.2.wk h
theorem RepMM.ren {κ κ':Gh} {w:World} {bs ts:List Nat} {id nb nt:Nat} (h:Ren κ κ' (rb bs id) (rb ts id) nb nt):∀ {ks:List Sc} {vs:List AV} {E:List MapEntry},km nb nt vs=true→RepMM κ w ks vs E→RepMM κ' w ks (vs.map (Abs.ren1 bs ts id)) E
 | [],[],[],_,_=>trivial
 | k :: ks, v :: vs, x :: s, hi, ⟨⟨h1, h2, h3⟩, h4⟩ => by
   have hv:=bZ hi v (by simp)
   refine ⟨⟨h1,mval_ren h2,RepV.ren1 h h3 hv⟩,RepMM.ren h ?_ h4⟩
   simp only [km,hv] at hi;exact hi
 | [],[],_::_,_,h=>h.elim
 | [],_::_,_,_,h=>h.elim
 | _::_,[],_,_,h=>h.elim
 | _::_,_::_,[],_,h=>h.elim
theorem BoxR.ren2 {κ κ':Gh} {w:World} {bs ts:List Nat} {id nb nt:Nat} (h:Ren κ κ' (rb bs id) (rb ts id) nb nt) {l:List AV} {p:Nat × Nat} (hl:BoxR κ w p l) (hi:dI nb nt l=true):BoxR κ' w p (l.map (Abs.ren2 bs ts id)):=by
 cases hm:isM l with
 | false =>
   obtain ⟨C,ty,h1,h2⟩:=hl.row hm
   exact .of h1 (h2.ren2 h hi)
 | true =>
   obtain ⟨m,rfl,hA⟩:=fV.1 hm
   rcases hl with ⟨h0,_⟩ | ⟨m',ob,h1,h2,h3,h4⟩
   ·rw [h0] at hm;cases hm
   ·cases h1
    refine .inr ⟨_,ob,rfl,h2,h3,?_⟩
    cases m<;>first | (cases hA;done) | skip
    ·rename_i es
     cases es with
     | m es=>exact RepMP.mono h.I_ (fun _ _ _=>rfl) (es:=.m es) h4
     | it s p=>exact RepMP.mono h.I_ (fun _ _ _=>rfl) (es:=.it s p) h4
     | ie b=>exact absurd (bF hi _ (List.mem_singleton.2 rfl)) (by simp [in2,in1])
    cases ob<;>first | exact h4.elim | exact RepMM.ren h (bF hi _ (List.mem_singleton.2 rfl)) h4
/- the callee's spelling,got from the caller's -/
section unren
variable {κ κc:Gh} {w:World} {bs ts:List Nat} {id:Nat}
structure Un (κ κc:Gh) (bs ts:List Nat):Prop where
 I_:∀ b o,κ.I b o→κc.I b o
 db:∀ b x,bs[b]? = some x→κ.Db x→κc.Db b∧κc.ι b=κ.ι x
 dt:∀ k x,ts[k]? = some x→κ.Dt x→κc.Dt k∧κc.τ k=κ.τ x
theorem RepV.un1 (h:Un κ κc bs ts) {v:AV} {x:Value} (hi:in1 bs.length ts.length v=true) (hv:RepV κ w (Abs.ren1 bs ts id v) x):RepV κc w v x:=by
 cases v with
 | sc c=>rw [hv.sc_inv];exact .sc c
 | sl sz els t =>
   cases t with
   | none =>
     obtain ⟨h1,_⟩:=hv.sl_inv
     exact .sl sz els _ x (h1.mono h.I_ fun _ _ _=>rfl) trivial
   | full =>
     obtain ⟨h1,h2⟩:=hv.sl_inv
     exact .sl sz els _ x (h1.mono h.I_ fun _ _ _=>rfl) h2
   | t k =>
     have hk:k<ts.length:=by simpa [in1,Nat.blt_eq] using hi
     have e:ts[k]? = some ts[k]:=List.getElem?_eq_getElem hk
     simp only [Abs.ren1,rb,e] at hv
     obtain ⟨h1,h2⟩:=hv.sl_inv
     obtain ⟨g1,g2⟩:=h.dt k _ e h2.1
     exact .sl sz els _ x (h1.mono h.I_ fun _ _ _=>rfl) ⟨g1,fun a n c e l=>g2.trans (h2.2 a n c e l)⟩
 | ptr b o =>
   have hk:b<bs.length:=by simpa [in1,Nat.blt_eq] using hi
   have e:bs[b]? = some bs[b]:=List.getElem?_eq_getElem hk
   simp only [Abs.ren1,rb,e] at hv
   obtain ⟨h1,h2⟩:=hv.ptr_inv
   obtain ⟨g1,g2⟩:=h.db b _ e h1
   rw [h2,← g2]
   exact .ptr b o g1
 | elp cells o =>
   obtain ⟨b,q,e,hc⟩:=hv.elp_inv
   rw [e]
   refine .elp cells o b q fun j d hj=>?_
   obtain ⟨c,h1,h2,h3⟩:=hc j d hj
   exact ⟨c,h.I_ _ _ h1,h2,h3.mono h.I_ fun _ _ _=>rfl⟩
 | mx sz els b n t =>
   cases t with
   | none =>
     have hk:b<bs.length:=by simpa [in1,Nat.blt_eq] using hi
     have e:bs[b]? = some bs[b]:=List.getElem?_eq_getElem hk
     simp only [Abs.ren1,rb,e] at hv
     obtain ⟨off,cap,h1,h2,h3,h4,h5,rfl⟩:=hv.mx_inv
     obtain ⟨g1,g2⟩:=h.db b _ e h1
     have h4:=h4.mono (w':=w) h.I_ fun _ _ _=>rfl
     rw [← g2] at h2 h4 ⊢
     exact .mx sz els b n _ off cap g1 h2 h3 h4 trivial
   | full =>
     have hk:b<bs.length:=by simpa [in1,Nat.blt_eq] using hi
     have e:bs[b]? = some bs[b]:=List.getElem?_eq_getElem hk
     simp only [Abs.ren1,rb,e] at hv
     obtain ⟨off,cap,h1,h2,h3,h4,h5,rfl⟩:=hv.mx_inv
     obtain ⟨g1,g2⟩:=h.db b _ e h1
     have h4:=h4.mono (w':=w) h.I_ fun _ _ _=>rfl
     rw [← g2] at h2 h4 h5 ⊢
     exact .mx sz els b n _ off cap g1 h2 h3 h4 h5
   | t k =>
     have hkk:k<ts.length∧b<bs.length:=by
      simp only [in1] at hi
      split at hi
      ·rename_i h1;exact ⟨by simpa [Nat.blt_eq] using h1,by simpa [Nat.blt_eq] using hi⟩
      ·cases hi
     have e:bs[b]? = some bs[b]:=List.getElem?_eq_getElem hkk.2
     have e':ts[k]? = some ts[k]:=List.getElem?_eq_getElem hkk.1
     simp only [Abs.ren1,rb,e,e'] at hv
     obtain ⟨off,cap,h1,h2,h3,h4,h5,rfl⟩:=hv.mx_inv
     obtain ⟨g1,g2⟩:=h.db b _ e h1
     obtain ⟨q1,q2⟩:=h.dt k _ e' h5.1
     have h4:=h4.mono (w':=w) h.I_ fun _ _ _=>rfl
     rw [← g2] at h2 h4 h5 ⊢
     exact .mx sz els b n _ off cap g1 h2 h3 h4 ⟨q1,fun a n c e l=>q2.trans (h5.2 a n c e l)⟩
 | mr b =>
   have hk:b<bs.length:=by simpa [in1,Nat.blt_eq] using hi
   have e:bs[b]? = some bs[b]:=List.getElem?_eq_getElem hk
   simp only [Abs.ren1,rb,e] at hv
   obtain ⟨h1,h2⟩:=hv.mr_inv
   obtain ⟨g1,g2⟩:=h.db b _ e h1
   rw [h2,← g2]
   exact .mr b g1
 | fb f b o =>
   have hk:b<bs.length:=by simpa [in1,Nat.blt_eq] using hi
   have e:bs[b]? = some bs[b]:=List.getElem?_eq_getElem hk
   simp only [Abs.ren1,rb,e] at hv
   obtain ⟨h1,h2⟩:=hv.fb_inv
   obtain ⟨g1,g2⟩:=h.db b _ e h1
   rw [h2,← g2]
   exact .fb f b o g1
 | cs sz b o n c t =>
   cases t with
   | none =>
     have hk:b<bs.length:=by simpa [in1,Nat.blt_eq] using hi
     have e:bs[b]? = some bs[b]:=List.getElem?_eq_getElem hk
     simp only [Abs.ren1,rb,e] at hv
     obtain ⟨cap,h1,h2,h3,h4,rfl⟩:=hv.cs_inv
     obtain ⟨g1,g2⟩:=h.db b _ e h1
     rw [← g2]
     exact .cs sz b o n c _ cap g1 h2 h3 trivial
   | full =>
     have hk:b<bs.length:=by simpa [in1,Nat.blt_eq] using hi
     have e:bs[b]? = some bs[b]:=List.getElem?_eq_getElem hk
     simp only [Abs.ren1,rb,e] at hv
     obtain ⟨cap,h1,h2,h3,h4,rfl⟩:=hv.cs_inv
     obtain ⟨g1,g2⟩:=h.db b _ e h1
     rw [← g2] at h4 ⊢
     exact .cs sz b o n c _ cap g1 h2 h3 h4
   | t k =>
     have hkk:k<ts.length∧b<bs.length:=by
      simp only [in1] at hi
      split at hi
      ·rename_i h1;exact ⟨by simpa [Nat.blt_eq] using h1,by simpa [Nat.blt_eq] using hi⟩
      ·cases hi
     have e:bs[b]? = some bs[b]:=List.getElem?_eq_getElem hkk.2
     have e':ts[k]? = some ts[k]:=List.getElem?_eq_getElem hkk.1
     simp only [Abs.ren1,rb,e,e'] at hv
     obtain ⟨cap,h1,h2,h3,h4,rfl⟩:=hv.cs_inv
     obtain ⟨g1,g2⟩:=h.db b _ e h1
     obtain ⟨q1,q2⟩:=h.dt k _ e' h4.1
     rw [← g2] at h4 ⊢
     exact .cs sz b o n c _ cap g1 h2 h3 ⟨q1,fun a n c e l=>q2.trans (h4.2 a n c e l)⟩
 | mpv es=>cases hv
 | mm ks vs=>cases hv
 | fn=>cases hi
 | agg=>cases hi
 | tup=>cases hi
 | bad=>cases hi
theorem RepV.un2 (h:Un κ κc bs ts) {v:AV} {x:Value} (hi:in2 bs.length ts.length v=true) (hv:RepV κ w (Abs.ren2 bs ts id v) x):RepV κc w v x:=by
 cases v with
 | fn f caps =>
   obtain ⟨vs,e,hs,hc⟩:=hv.fn_inv
   rw [e]
   refine .fn f caps vs (by simpa using hs) fun j u hj=>?_
   exact (hc j _ (by rw [List.getElem?_map,hj];rfl)).un1 h (bZ hi u (List.mem_of_getElem? hj))
 | agg l =>
   obtain ⟨vs,e,hl⟩:=hv.agg_inv
   rw [e]
   refine .agg l vs (by simpa using hl.1) ?_ fun j u hj=>?_
   ·intro u hu
    have:=hl.2.1 _ (List.mem_map_of_mem (f:=Abs.ren1 bs ts id) hu)
    rwa [one_ren1] at this
   ·exact (hl.2.2 j _ (by rw [List.getElem?_map,hj];rfl)).un1 h (bZ hi u (List.mem_of_getElem? hj))
 | sc c=>exact RepV.un1 (id:=id) h hi hv
 | sl z e t=>exact RepV.un1 (id:=id) h hi hv
 | ptr b o=>exact RepV.un1 (id:=id) h hi hv
 | elp c o=>exact RepV.un1 (id:=id) h hi hv
 | mx z e b n t=>exact RepV.un1 (id:=id) h hi hv
 | mr b=>exact RepV.un1 (id:=id) h hi hv
 | fb f b o=>exact RepV.un1 (id:=id) h hi hv
 | cs sz b o n c t=>exact RepV.un1 (id:=id) h hi hv
 | mpv es=>cases hv
 | mm ks vs=>cases hv
 | tup=>cases hi
 | bad=>cases hi
theorem RepL.un (h:Un κ κc bs ts) {l:List AV} {C:Array Value} (hi:dI bs.length ts.length l=true) (hl:RepL κ w (l.map (Abs.ren2 bs ts id)) C):RepL κc w l C:=by
 refine ⟨by simpa using hl.1,?_,fun j u hj=>?_⟩
 ·intro u hu
  have:=hl.2.1 _ (List.mem_map_of_mem (f:=Abs.ren2 bs ts id) hu)
  rwa [one_ren2] at this
 ·exact (hl.2.2 j _ (by rw [List.getElem?_map,hj];rfl)).un2 h (bF hi u (List.mem_of_getElem? hj))
theorem RepC.un (h:Un κ κc bs ts) {l:List AV} {C:Array Value} {o:Nat} (hi:dI bs.length ts.length l=true) (hl:RepC κ w (l.map (Abs.ren2 bs ts id)) C o):RepC κc w l C o:=by
 have h1:=dF.1 hl
 simp only [List.length_map] at h1
 exact dF.2 ⟨h1.1,h1.2.un h hi⟩
theorem ren2_isMA {v:AV}:isMA (Abs.ren2 bs ts id v)=isMA v:=by
 cases v with
 | sl z e t=>cases t<;>rfl
 | mx z e b n t=>cases t<;>rfl
 | cs z b o n c t=>cases t<;>rfl
 | _=>rfl
theorem RepMM.un (h:Un κ κc bs ts):∀ {ks:List Sc} {vs:List AV} {E:List MapEntry},km bs.length ts.length vs=true→(∀ v,v∈vs→mval v=some v)→RepMM κ w ks (vs.map (Abs.ren1 bs ts id)) E→RepMM κc w ks vs E
 | [],[],[],_,_,_=>trivial
 | k :: ks, v :: vs, x :: s, hi, hm, ⟨⟨h1, h2, h3⟩, h4⟩ => by
   have hv:=bZ hi v (by simp)
   refine ⟨⟨h1,hm v (by simp),h3.un1 h hv⟩,RepMM.un h ?_ (fun u hu=>hm u (by simp [hu])) h4⟩
   simp only [km,hv] at hi;exact hi
 | [],[],_::_,_,_,h=>h.elim
 | [],_::_,_,_,_,h=>h.elim
 | _::_,[],_,_,_,h=>h.elim
 | _::_,_::_,[],_,_,h=>h.elim
theorem mval_unren {v:AV} (h:mval (Abs.ren1 bs ts id v)=some (Abs.ren1 bs ts id v)):mval v=some v:=by
 cases v with
 | sl z e t=>cases t<;>first | rfl | (simp [mval,Abs.ren1] at h)
 | mx z e b n t=>cases t<;>cases h
 | cs z b o n c t=>cases t<;>cases h
 | sc | ptr=>rfl
 | elp | fn | agg | tup | mr | fb | bad | mpv | mm=>cases h
theorem RepMM.mval:∀ {ks:List Sc} {vs:List AV} {E:List MapEntry},RepMM κ w ks vs E→∀ v,v∈vs→Abs.mval v=some v
 | k :: ks, v :: vs, x :: s, ⟨⟨_, h2, _⟩, h4⟩, u, hu => by
   rcases List.mem_cons.1 hu with rfl | hu
   ·exact h2
   ·exact RepMM.mval h4 u hu
 | [],[],_,_,u,hu=>by simp at hu
 | [],_::_,_,h,_,_=>h.elim
 | _::_,[],_,h,_,_=>h.elim
 | _::_,_::_,[],h,_,_=>h.elim
theorem isM_ren {l:List AV}:isM (l.map (Abs.ren2 bs ts id))=isM l:=by
 match l with
 | []=>rfl
 | [v]=>rw [List.map_cons,List.map_nil,lB,lB,ren2_isMA]
 | a::b::r=>rw [List.map_cons,List.map_cons,oD,oD]
theorem BoxR.un (h:Un κ κc bs ts) {l:List AV} {p:Nat × Nat} (hi:dI bs.length ts.length l=true) (hl:BoxR κ w p (l.map (Abs.ren2 bs ts id))):BoxR κc w p l:=by
 cases hm:isM l with
 | false =>
   obtain ⟨C,ty,h1,h2⟩:=hl.row (by rw [isM_ren];exact hm)
   exact .of h1 (h2.un h hi)
 | true =>
   obtain ⟨m,rfl,hA⟩:=fV.1 hm
   rcases hl with ⟨h0,_⟩ | ⟨m',ob,h1,h2,h3,h4⟩
   ·rw [isM_ren,hm] at h0;cases h0
   ·simp only [List.map_cons,List.map_nil,List.cons.injEq,and_true] at h1
    subst h1
    refine .inr ⟨m,ob,rfl,h2,h3,?_⟩
    cases m<;>first | (cases hA;done) | skip
    ·rename_i es
     cases es with
     | m es=>exact RepMP.mono h.I_ (fun _ _ _=>rfl) (es:=.m es) h4
     | it s p=>exact RepMP.mono h.I_ (fun _ _ _=>rfl) (es:=.it s p) h4
     | ie b=>exact absurd (bF hi _ (List.mem_singleton.2 rfl)) (by simp [in2,in1])
    cases ob<;>first | exact h4.elim | skip
    exact RepMM.un h (bF hi _ (List.mem_singleton.2 rfl)) (fun v hv=>mval_unren (RepMM.mval h4 _ (List.mem_map_of_mem (f:=Abs.ren1 bs ts id) hv))) h4
end unren
theorem BoxR.wk {κ:Gh} {w:World} {l m:List AV} {p:Nat × Nat} (hl:BoxR κ w p l) (h:gt l m):BoxR κ w p m:=by
 cases hm:isM l with
 | false =>
   obtain ⟨C,ty,h1,h2⟩:=hl.row hm
   exact .of h1 (h2.wk h)
 | true =>
   obtain ⟨x,rfl,hA⟩:=fV.1 hm
   have hm2:m=[x]:=by
    cases m with
    | nil=>exact h.elim
    | cons v r =>
      obtain ⟨h1,h2⟩:=h
      cases r with
      | nil =>
        have hv:x=v:=by cases x<;>first | (cases hA;done) | (cases v<;>exact h1)
        rw [hv]
      | cons u r=>exact h2.elim
   rw [hm2];exact hl
theorem cV:∀ {l:List Nat},bE l=true→∀ (i j x:Nat),l[i]? = some x→l[j]? = some x→i=j
 | [],_,i,j,x,h,_=>by simp at h
 | y :: r, h, i, j, x, hi, hj => by
   simp only [bE] at h
   split at h
   ·cases h
   ·rename_i hc
    have hn:∀ k,r[k]? = some y→False:=fun k hk=>by
     have:r.contains y=true:=List.contains_iff_mem.2 (List.mem_of_getElem? hk)
     rw [hc] at this;cases this
    cases i with
    | zero =>
      cases j with
      | zero=>rfl
      | succ j=>simp at hi hj;subst hi;exact (hn j hj).elim
    | succ i =>
      cases j with
      | zero=>simp at hi hj;subst hj;exact (hn i hi).elim
      | succ j=>rw [cV h i j x (by simpa using hi) (by simpa using hj)]
theorem jd {σ:Log} {bs0 ts:List Nat} {id:Nat}:∀ {bs:List Nat} {H:List (List AV)},iJ σ bs0 ts id bs H→H.length=bs.length ∧
  ∀ (i:Nat) (h:List AV),H[i]? = some h→∃ b l,bs[i]? = some b∧look σ (.b b)=some (.bx l)∧gt l (h.map (ren2 bs0 ts id))
 | [],[],_=>⟨rfl,fun i h hi=>by simp at hi⟩
 | b :: bs, h :: H, hh => by
   obtain ⟨h1,h2⟩:=hh
   obtain ⟨g1,g2⟩:=jd h2
   refine ⟨by simp [g1],fun i h' hi=>?_⟩
   cases i with
   | zero =>
     simp at hi;subst hi
     split at h1
     ·rename_i l hl;exact ⟨b,l,rfl,hl,h1⟩
     ·exact h1.elim
   | succ i=>simpa using g2 i h' (by simpa using hi)
 | [],_::_,h=>h.elim
 | _::_,[],h=>h.elim
theorem fT {σ:Log}:∀ {ts:List Nat},dA σ ts→∀ k,k∈ts→look σ (.t k)=some (.tk true)
 | [],_,k,h=>by cases h
 | x :: r, h, k, hk => by
   obtain ⟨h1,h2⟩:=h
   rcases List.mem_cons.1 hk with rfl | hk
   ·split at h1
    ·assumption
    ·exact h1.elim
   ·exact fT h2 k hk
/- the look of the logs that calls lay -/
theorem mq:∀ (l:List AV) (n m:Nat),look (iG n l) (.s m)=if n≤m then (l[m - n]?).map .av else none
 | [],n,m=>by simp [iG,look]
 | v :: l, n, m => by
   rw [iG,af,mq l (n+1) m]
   by_cases h:n=m
   ·subst h;simp
   ·have e:(Loc.s n=Loc.s m)=False:=by simp [h]
    simp only [e,if_false]
    by_cases h2:n≤m
    ·rw [if_pos h2,if_pos (by omega),show m - n=(m - (n+1))+1 by omega];simp
    ·rw [if_neg h2,if_neg (by omega)]
theorem jC:∀ (l:List AV) (n m:Nat),look (iG n l) (.b m)=none
 | [],n,m=>rfl
 | v::l,n,m=>by rw [iG,af,jC l];simp
theorem jB:∀ (l:List AV) (n m:Nat),look (iG n l) (.t m)=none
 | [],n,m=>rfl
 | v::l,n,m=>by rw [iG,af,jB l];simp
theorem mt:∀ (l:List (List AV)) (n m:Nat),look (iH n l) (.b m)=if n≤m then (l[m - n]?).map .bx else none
 | [],n,m=>by simp [iH,look]
 | v :: l, n, m => by
   rw [iH,af,mt l (n+1) m]
   by_cases h:n=m
   ·subst h;simp
   ·have e:(Loc.b n=Loc.b m)=False:=by simp [h]
    simp only [e,if_false]
    by_cases h2:n≤m
    ·rw [if_pos h2,if_pos (by omega),show m - n=(m - (n+1))+1 by omega];simp
    ·rw [if_neg h2,if_neg (by omega)]
theorem jE:∀ (l:List (List AV)) (n m:Nat),look (iH n l) (.s m)=none
 | [],n,m=>rfl
 | v::l,n,m=>by rw [iH,af,jE l];simp
theorem jD:∀ (l:List (List AV)) (n m:Nat),look (iH n l) (.t m)=none
 | [],n,m=>rfl
 | v::l,n,m=>by rw [iH,af,jD l];simp
theorem mp:∀ (l:List Nat) (m:Nat),look (iF l) (.t m)=if m∈l then some (.tk true) else none
 | [],m=>by simp [iF,look]
 | k :: l, m => by
   rw [iF,af,mp l m]
   by_cases h:k=m
   ·subst h;simp
   ·have h':¬ m=k:=fun e=>h e.symm
    simp [h,h']
theorem jz:∀ (l:List Nat) (m:Nat),look (iF l) (.s m)=none
 | [],m=>rfl
 | k::l,m=>by rw [iF,af,jz l];simp
theorem jA:∀ (l:List Nat) (m:Nat),look (iF l) (.b m)=none
 | [],m=>rfl
 | k::l,m=>by rw [iF,af,jA l];simp
def aO (args:List AV) (H:List (List AV)):List Nat:=args.flatMap toks++H.flatMap fun h=>h.flatMap bt
theorem bJ (args:List AV) (H:List (List AV)) (n:Nat):look (aA args H) (.s n)=(args[n]?).map .av:=by
 unfold aA
 rw [aG,aG,mq,jE,jz]
 simp
 cases args[n]?<;>rfl
theorem aK (args:List AV) (H:List (List AV)) (n:Nat):look (aA args H) (.b n)=(H[n]?).map .bx:=by
 unfold aA
 rw [aG,aG,jC,mt,jA]
 simp
 cases H[n]?<;>rfl
theorem bo (args:List AV) (H:List (List AV)) (n:Nat):look (aA args H) (.t n)=if n∈aO args H then some (.tk true) else none:=by
 unfold aA
 rw [aG,aG,jB,jD,mp]
 rfl
end Go.Abs
namespace Go.Abs
open Go
theorem dD {nb nt:Nat} {v:AV} (h:in1 nb nt v=true):∀ k,k∈dW v→k<nt:=by
 intro k hk
 cases v<;>try (simp [dW] at hk;done)
 ·rename_i z e t
  cases t with
  | none=>simp [dW] at hk
  | full=>simp [dW] at hk
  | t j=>simp [dW] at hk;subst hk;simpa [in1,Nat.blt_eq] using h
 ·rename_i z e b n t
  cases t with
  | none=>simp [dW] at hk
  | full=>simp [dW] at hk
  | t j =>
    simp [dW] at hk;subst hk
    simp only [in1] at h
    split at h
    ·rename_i h1;simpa [Nat.blt_eq] using h1
    ·cases h
 ·rename_i z b o n c t
  cases t with
  | none=>simp [dW] at hk
  | full=>simp [dW] at hk
  | t j =>
    simp [dW] at hk;subst hk
    simp only [in1] at h
    split at h
    ·rename_i h1;simpa [Nat.blt_eq] using h1
    ·cases h
theorem cN {nb nt:Nat} {v:AV} (h:in2 nb nt v=true):∀ k,k∈bt v→k<nt:=by
 intro k hk
 cases v with
 | fn f c =>
   obtain ⟨u,hu,hk⟩:=List.mem_flatMap.1 hk
   exact dD (bZ h u hu) k hk
 | agg l =>
   obtain ⟨u,hu,hk⟩:=List.mem_flatMap.1 hk
   exact dD (bZ h u hu) k hk
 | sc c=>exact dD (show in1 nb nt (.sc c)=true from h) k hk
 | sl z e t=>exact dD (show in1 nb nt (.sl z e t)=true from h) k hk
 | ptr b o=>exact dD (show in1 nb nt (.ptr b o)=true from h) k hk
 | elp c o=>exact dD (show in1 nb nt (.elp c o)=true from h) k hk
 | mx z e b n t=>exact dD (show in1 nb nt (.mx z e b n t)=true from h) k hk
 | cs z b o n c t=>exact dD (show in1 nb nt (.cs z b o n c t)=true from h) k hk
 | mr b=>cases hk
 | fb f b o=>cases hk
 | mpv es=>cases hk
 | mm ks vs=>cases hk
 | tup=>cases h
 | bad=>cases h
theorem toks_in {nb nt:Nat} {v:AV} (h:inR nb nt v=true):∀ k,k∈toks v→k<nt:=by
 intro k hk
 cases v with
 | tup l =>
   obtain ⟨u,hu,hk⟩:=List.mem_flatMap.1 hk
   exact cN (bF h u hu) k hk
 | sc c=>exact cN (show in2 nb nt (.sc c)=true from h) k hk
 | sl z e t=>exact cN (show in2 nb nt (.sl z e t)=true from h) k hk
 | ptr b o=>exact cN (show in2 nb nt (.ptr b o)=true from h) k hk
 | elp c o=>exact cN (show in2 nb nt (.elp c o)=true from h) k hk
 | mx z e b n t=>exact cN (show in2 nb nt (.mx z e b n t)=true from h) k hk
 | cs z b o n c t=>exact cN (show in2 nb nt (.cs z b o n c t)=true from h) k hk
 | fn f c=>exact cN (show in2 nb nt (.fn f c)=true from h) k hk
 | agg l=>exact cN (show in2 nb nt (.agg l)=true from h) k hk
 | mr b=>cases hk
 | fb f b o=>cases hk
 | mpv es=>cases hk
 | mm ks vs=>cases hk
 | bad=>cases h
theorem mH {nb nt:Nat} {v:AV} (h:in2 nb nt v=true):inR nb nt v=true:=by
 cases v<;>first | exact h | cases h
theorem gg {nb nt nb':Nat} {args:List AV} {H:List (List AV)} (h:∀ v,v∈args→inR nb nt v=true) (hH:inH nb' nt H=true):∀ k,k∈aO args H→k<nt:=by
 intro k hk
 rcases List.mem_append.1 hk with hk | hk
 ·obtain ⟨u,hu,hk⟩:=List.mem_flatMap.1 hk
  exact toks_in (h u hu) k hk
 ·obtain ⟨l,hl,hk⟩:=List.mem_flatMap.1 hk
  obtain ⟨u,hu,hk⟩:=List.mem_flatMap.1 hk
  exact cN (bF (gO hH l hl) u hu) k hk
theorem iD {bs ts:List Nat} {id:Nat}:∀ {H:List (List AV)} {n:Nat} {b:Nat},
  (∀ c,look (aT bs ts id n H) (.b b)=some c→∃ i h,H[i]? = some h∧b=rb bs id (n+i)∧c=.bx (h.map (ren2 bs ts id))) ∧
  (look (aT bs ts id n H) (.b b)=none→∀ i,i<H.length→rb bs id (n+i)≠b)
 | [],n,b=>⟨fun c h=>by simp [aT,look] at h,fun _ i hi=>by simp at hi⟩
 | h :: H, n, b => by
   have ih:=iD (bs:=bs) (ts:=ts) (id:=id) (H:=H) (n:=n+1) (b:=b)
   rw [aT,af]
   by_cases hb:rb bs id n=b
   ·have e:(Loc.b (rb bs id n)=Loc.b b)=True:=by
     simp only [Loc.b.injEq,eq_iff_iff,iff_true];exact hb
    simp only [e,if_true]
    exact ⟨fun c hc=>by cases hc;exact ⟨0,h,rfl,hb.symm,rfl⟩,fun hc=>by cases hc⟩
   ·have e:(Loc.b (rb bs id n)=Loc.b b)=False:=by
     simp only [Loc.b.injEq,eq_iff_iff,iff_false];exact hb
    simp only [e,if_false]
    refine ⟨fun c hc=>?_,fun hc i hi=>?_⟩
    ·obtain ⟨i,h',h1,h2,h3⟩:=ih.1 c hc
     exact ⟨i+1,h',by simpa using h1,by rw [h2];congr 1;omega,h3⟩
    ·cases i with
     | zero=>exact hb
     | succ i =>
       have:=ih.2 hc i (by simpa using hi)
       rwa [show n+1+i=n+(i+1) by omega] at this
theorem gn {bs ts:List Nat} {id:Nat}:∀ {H:List (List AV)} {n m:Nat},look (aT bs ts id n H) (.s m)=none
 | [],_,_=>rfl
 | h::H,n,m=>by rw [aT,af,gn];simp
theorem gk {bs ts:List Nat} {id:Nat}:∀ {H:List (List AV)} {n m:Nat},look (aT bs ts id n H) (.t m)=none
 | [],_,_=>rfl
 | h::H,n,m=>by rw [aT,af,gk];simp
theorem kK {ts:List Nat} {id:Nat}:∀ {L:List Nat} {k:Nat},look (bK ts id L) (.t k)=none∨(look (bK ts id L) (.t k)=some (.tk true)∧∃ j,j∈L∧k=rb ts id j)
 | [],_=>.inl rfl
 | j :: L, k => by
   rw [bK,af]
   by_cases hb:rb ts id j=k
   ·rw [if_pos (by rw [hb])]
    exact .inr ⟨rfl,j,by simp,hb.symm⟩
   ·have e:(Loc.t (rb ts id j)=Loc.t k)=False:=by
     simp only [Loc.t.injEq,eq_iff_iff,iff_false];exact hb
    simp only [e,if_false]
    rcases kK (ts:=ts) (id:=id) (L:=L) (k:=k) with h | ⟨h,i,hi,he⟩
    ·exact .inl h
    ·exact .inr ⟨h,i,by simp [hi],he⟩
theorem iB {ts:List Nat} {id:Nat}:∀ {L:List Nat} {k:Nat},look (bK ts id L) (.s k)=none
 | [],_=>rfl
 | j::L,k=>by rw [bK,af,iB];simp
theorem iC {ts:List Nat} {id:Nat}:∀ {L:List Nat} {k:Nat},look (bK ts id L) (.b k)=none
 | [],_=>rfl
 | j::L,k=>by rw [bK,af,iC];simp
theorem jy:∀ {L:List Nat} {k:Nat},look (bC L) (.t k)=if k∈L then some (.tk false) else none
 | [],_=>rfl
 | j :: L, k => by
   rw [bC,af,jy]
   by_cases h:j=k
   ·subst h;simp
   ·have h':¬ k=j:=fun e=>h e.symm
    simp [h,h']
theorem gK:∀ {L:List Nat} {k:Nat},look (bC L) (.s k)=none
 | [],_=>rfl
 | j::L,k=>by rw [bC,af,gK];simp
theorem gL:∀ {L:List Nat} {k:Nat},look (bC L) (.b k)=none
 | [],_=>rfl
 | j::L,k=>by rw [bC,af,gL];simp
theorem Chg.mono {O O':Nat→Nat→Prop} {w w':World} (h:Chg O w w') (hO:∀ b o,O b o→O' b o):Chg O' w w':=
 ⟨h.os,h.tape,h.output,h.size,fun b hb hn=>h.same b hb fun o ho=>hn o (hO b o ho),fun b C ty fz hC=>by
  obtain ⟨C',h1,h2,h3⟩:=h.cells b C ty fz hC
  exact ⟨C',h1,h2,fun o hn=>h3 o fun ho=>hn (hO b o ho)⟩,h.maps⟩
section
variable {P:Program} {W0:World} {κ:Gh} {σ:Log} {a:Act} {w:World} {id:Nat} {F:Log→Prop} {call:aX} {d:Option Nat}
def cv (κ:Gh) (bs ts:List Nat):Gh:={ I:=κ.I,Db:=fun b=>b<bs.length,Dt:=fun k=>k<ts.length,ι:=fun i=>κ.ι (bs.getD i 0),τ:=fun j=>κ.τ (ts.getD j 0) }
def eo (κ κ':Gh) (nb nt id:Nat):Gh:={
 I:=κ'.I
 Db:=fun x=>κ.Db x∨∃ j,nb≤j∧j<nb+100∧κ'.Db j∧x=id+(j - nb)
 Dt:=fun x=>κ.Dt x∨∃ j,nt≤j∧j<nt+100∧κ'.Dt j∧x=id+(j - nt)
 ι:=fun x=>if id≤x∧x<id+100 then κ'.ι (nb+(x - id)) else κ.ι x
 τ:=fun x=>if id≤x∧x<id+100 then κ'.τ (nt+(x - id)) else κ.τ x }
theorem callG (hs:RepS W0 κ σ a w) (hf:Fresh κ id) {f:FuncId} {args:List AV} {vals:Array Value} (hsz:vals.size=args.length) (hv:∀ (j:Nat) (v:AV),args[j]? = some v→RepV κ w v (vals.getD j undef))
  (hN:∀ d',d=some d'→d'<a.tmps.size) {bs ts:List Nat} {args':List AV} {H H':List (List AV)} {res:AV} (hc:Ctr P W0 f args' H res H')
  (n1:bE bs=true) (n2:bE ts=true) (n3:bs.length≤H'.length) (n4:H'.length≤bs.length+50) (n5:bs.length+ts.length≤900) (n6:ts.length=dK args' H)
  (i1:dI bs.length ts.length args'=true) (i2:inH bs.length ts.length H=true) (i3:inR H'.length (ts.length+50) res=true) (i4:inH H'.length (ts.length+50) H'=true)
  (w1:gt args (args'.map (ren2 bs ts id))) (w2:iJ σ bs ts id bs H) (w3:dA σ ts)
  (hF:F (bp d (ren bs ts id res)++aT bs ts id 0 H'++bK ts id (toks res++(H'.flatMap fun h=>h.flatMap bt))++bC ts)) :
  cg P f=true∧Calls P f vals w fun e w'=>∃ v,e=.returned v∧After W0 κ σ a w id F (a.put d v) w':=by
 obtain ⟨hcl,hc⟩:=hc
 refine ⟨hcl,?_⟩
 obtain ⟨b1,b2⟩:=jd w2
 have l1:=fT w3
 obtain ⟨g1,g2⟩:=dj w1
 have hbs:∀ (i x:Nat),bs[i]? = some x→∃ h l,H[i]? = some h∧look σ (.b x)=some (.bx l)∧gt l (h.map (ren2 bs ts id)):=by
  intro i x hx
  have hi:i<H.length:=by rw [b1];exact (List.getElem?_eq_some_iff.1 hx).1
  obtain ⟨b,l,h1,h2,h3⟩:=b2 i _ (List.getElem?_eq_getElem hi)
  rw [hx] at h1;cases h1
  exact ⟨_,l,List.getElem?_eq_getElem hi,h2,h3⟩
 have gD:∀ (l:List Nat) (i x:Nat),l[i]? = some x→l.getD i 0=x:=fun l i x h=>by rw [List.getD_eq_getElem?_getD,h];rfl
 have un:Un κ (cv κ bs ts) bs ts:=⟨fun _ _ h=>h,fun b x hx _=>⟨(List.getElem?_eq_some_iff.1 hx).1,by simp only [cv,gD _ _ _ hx]⟩,fun k x hx _=>⟨(List.getElem?_eq_some_iff.1 hx).1,by simp only [cv,gD _ _ _ hx]⟩⟩
 have htin:∀ k,k∈aO args' H→k<ts.length:=gg (fun v hv=>mH (bF i1 v hv)) i2
 have hspb:∀ (i x:Nat) (h m:List AV),bs[i]? = some x→gt m (h.map (ren2 bs ts id))→spb (cv κ bs ts) i h=spb κ x m:=by
  intro i x h m hx hw
  have hl:=(dj hw).1
  rw [List.length_map] at hl
  simp only [spb,cv,gD _ _ _ hx,hl]
 have hownc:∀ b o,Own (cv κ bs ts) (aA args' H) b o→(∃ (i x:Nat) (m:List AV),bs[i]? = some x∧look σ (.b x)=some (.bx m)∧aZ (spb κ x m) b o)∨(∃ (k x:Nat),ts[k]? = some x∧aZ (κ.τ x) b o):=by
  rintro b o (⟨i,l,hl,hi⟩ | ⟨k,hk,hi⟩)
  ·rw [aK] at hl
   cases hh:H[i]? with
   | none=>simp [hh] at hl
   | some h =>
     obtain ⟨x,m,h1,hm,h3⟩:=b2 i h hh
     simp [hh] at hl
     subst hl
     exact .inl ⟨i,x,m,h1,hm,hspb i x _ m h1 h3 ▸ hi⟩
  ·rw [bo] at hk
   by_cases hm:k∈aO args' H
   ·have hlt:=htin k hm
    have hx:ts[k]? = some ts[k]:=List.getElem?_eq_getElem hlt
    refine .inr ⟨k,ts[k],hx,?_⟩
    simpa only [cv,gD _ _ _ hx] using hi
   ·simp [hm] at hk
 have hownκ:∀ b o,Own (cv κ bs ts) (aA args' H) b o→Own κ σ b o:=by
  intro b o h
  rcases hownc b o h with ⟨i,x,m,hx,hm,hi⟩ | ⟨k,x,hx,hi⟩
  ·exact .inl ⟨x,m,hm,hi⟩
  ·exact .inr ⟨x,l1 x (List.mem_of_getElem? hx),hi⟩
 have pre:RepS W0 (cv κ bs ts) (aA args' H) ⟨vals,[]⟩ w:=by
  refine ⟨?_,?_,?_,?_,?_,?_,fun b o ho=>hs.sepI b o (hownκ b o ho),hs.Icell,hs.old,hs.size0,hs.amb,rfl,hs.os,hs.tape,hs.output⟩
  ·intro n v h
   rw [bJ] at h
   cases hn:args'[n]? with
   | none=>simp [hn] at h
   | some u =>
     simp [hn] at h
     subst h
     obtain ⟨v,hv1,hv2⟩:=g2 n _ (by rw [List.getElem?_map,hn];rfl)
     exact ((hv n v hv1).wk2 hv2).1.un2 un (bF i1 u (List.mem_of_getElem? hn))
  ·intro b l h
   rw [aK] at h
   cases hn:H[b]? with
   | none=>simp [hn] at h
   | some u =>
     simp [hn] at h
     subst h
     obtain ⟨x,m,h1,h2,h3⟩:=b2 b u hn
     obtain ⟨k1,k2,k3⟩:=hs.boxes x m h2
     refine ⟨(List.getElem?_eq_some_iff.1 h1).1,?_,?_⟩
     ·simp only [cv,gD _ _ _ h1];exact k2
     ·have:=(k3.wk h3).un un (gO i2 u (List.mem_of_getElem? hn))
      simpa only [cv,gD _ _ _ h1] using this
  ·intro b b' l l' h h' hne y o hi
   rw [aK] at h h'
   cases hn:H[b]? with
   | none=>simp [hn] at h
   | some u =>
     cases hn':H[b']? with
     | none=>simp [hn'] at h'
     | some u' =>
       obtain ⟨x,m,h1,h2,h3⟩:=b2 b u hn
       obtain ⟨x',m',h1',h2',h3'⟩:=b2 b' u' hn'
       simp [hn] at h
       simp [hn'] at h'
       subst h;subst h'
       rw [hspb b x _ m h1 h3] at hi
       rw [hspb b' x' _ m' h1' h3']
       exact hs.binj x x' m m' h2 h2' (fun e=>hne (cV n1 b b' x h1 (e ▸ h1'))) y o hi
  ·intro k h
   rw [bo] at h
   by_cases hm:k∈aO args' H
   ·have hlt:=htin k hm
    have hx:ts[k]? = some ts[k]:=List.getElem?_eq_getElem hlt
    refine ⟨hlt,?_⟩
    simp only [cv,gD _ _ _ hx]
    exact (hs.toks _ (l1 _ (List.mem_of_getElem? hx))).2
   ·simp [hm] at h
  ·intro k k' h h' hne b o hi
   rw [bo] at h h'
   by_cases hm:k∈aO args' H
   ·by_cases hm':k'∈aO args' H
    ·have hk1:=htin k hm
     have hk2:=htin k' hm'
     have hx:ts[k]? = some ts[k]:=List.getElem?_eq_getElem hk1
     have hx':ts[k']? = some ts[k']:=List.getElem?_eq_getElem hk2
     simp only [cv,gD _ _ _ hx,gD _ _ _ hx'] at hi ⊢
     exact hs.tdis _ _ (l1 _ (List.mem_of_getElem? hx)) (l1 _ (List.mem_of_getElem? hx')) (fun e=>hne (cV n2 k k' _ hx (e ▸ hx'))) b o hi
    ·simp [hm'] at h'
   ·simp [hm] at h
  ·intro k i l h h' y o hi
   rw [bo] at h
   rw [aK] at h'
   by_cases hm:k∈aO args' H
   ·have hk1:=htin k hm
    have hx:ts[k]? = some ts[k]:=List.getElem?_eq_getElem hk1
    cases hn:H[i]? with
    | none=>simp [hn] at h'
    | some u =>
      obtain ⟨x,m,h1,h2,h3⟩:=b2 i u hn
      simp [hn] at h'
      subst h'
      rw [hspb i x _ m h1 h3]
      simp only [cv,gD _ _ _ hx] at hi
      exact hs.tbox _ x m (l1 _ (List.mem_of_getElem? hx)) h2 y o hi
   ·simp [hm] at h
 refine (hc (cv κ bs ts) w vals (by rw [hsz,← g1,List.length_map]) (fun b hb=>by rw [b1];exact hb) (fun k hk=>by rw [← n6];exact hk) pre).mono ?_
 rintro e w' ⟨v,κ',rfl,r,st⟩
 refine ⟨v,rfl,?_⟩
 have notin:∀ x,κ.Db x→¬ (id≤x∧x<id+100):=fun x hx h=>hf.db x h.1 h.2 hx
 have notint:∀ x,κ.Dt x→¬ (id≤x∧x<id+100):=fun x hx h=>hf.dt x h.1 h.2 hx
 have ext:Ext κ w (eo κ κ' bs.length ts.length id) w':=by
  refine ⟨st.I_,fun b o hI=>st.chg.cell pre hI,fun b hb=>⟨.inl hb,?_⟩,fun k hk=>⟨.inl hk,?_⟩⟩
  ·simp only [eo,if_neg (notin b hb)]
  ·simp only [eo,if_neg (notint k hk)]
 have hbox:∀ (i x:Nat),bs[i]? = some x→κ.Db x∧κ'.ι i=κ.ι x:=by
  intro i x hx
  obtain ⟨_,l,_,hl,_⟩:=hbs i x hx
  have hi:=(List.getElem?_eq_some_iff.1 hx).1
  refine ⟨(hs.boxes x l hl).1,?_⟩
  have:=(st.low i (by omega) hi).2
  simpa only [cv,gD _ _ _ hx] using this
 have htok:∀ (i x:Nat),ts[i]? = some x→κ.Dt x∧κ'.τ i=κ.τ x:=by
  intro i x hx
  have hi:=(List.getElem?_eq_some_iff.1 hx).1
  refine ⟨(hs.toks x (l1 x (List.mem_of_getElem? hx))).1,?_⟩
  have:=(st.lowt i (by omega) hi).2
  simpa only [cv,gD _ _ _ hx] using this
 have rn:Ren κ' (eo κ κ' bs.length ts.length id) (rb bs id) (rb ts id) H'.length (ts.length+50):=by
  refine ⟨fun _ _ h=>h,?_,?_⟩
  ·intro b hb hd
   cases hx:bs[b]? with
   | some x =>
     obtain ⟨h1,h2⟩:=hbox b x hx
     have e:rb bs id b=x:=by simp only [rb,hx]
     rw [e]
     exact ⟨.inl h1,by simp only [eo,if_neg (notin x h1)];exact h2.symm⟩
   | none =>
     have hge:bs.length≤b:=List.getElem?_eq_none_iff.1 hx
     have e:rb bs id b=id+(b - bs.length):=by simp only [rb,hx]
     rw [e]
     refine ⟨.inr ⟨b,hge,by omega,hd,rfl⟩,?_⟩
     simp only [eo]
     rw [if_pos ⟨by omega,by omega⟩]
     congr 1;omega
  ·intro b hb hd
   cases hx:ts[b]? with
   | some x =>
     obtain ⟨h1,h2⟩:=htok b x hx
     have e:rb ts id b=x:=by simp only [rb,hx]
     rw [e]
     exact ⟨.inl h1,by simp only [eo,if_neg (notint x h1)];exact h2.symm⟩
   | none =>
     have hge:ts.length≤b:=List.getElem?_eq_none_iff.1 hx
     have e:rb ts id b=id+(b - ts.length):=by simp only [rb,hx]
     rw [e]
     refine ⟨.inr ⟨b,hge,by omega,hd,rfl⟩,?_⟩
     simp only [eo]
     rw [if_pos ⟨by omega,by omega⟩]
     congr 1;omega
 have hLin:∀ k,k∈(toks res++(H'.flatMap fun h=>h.flatMap bt))→k<ts.length+50:=by
  have:=gg (args:=[res]) (H:=H') (nb:=H'.length) (nb':=H'.length) (nt:=ts.length+50) (by intro v hv;simp at hv;subst hv;exact i3) i4
  simpa [aO] using this
 have hfint:∀ k,look (aV res H') (.t k)=some (.tk true)↔k∈(toks res++(H'.flatMap fun h=>h.flatMap bt)):=by
  intro k
  unfold aV
  rw [bo]
  have e:aO [res] H'=toks res++(H'.flatMap fun h=>h.flatMap bt):=by simp [aO]
  rw [e]
  by_cases hm:k∈(toks res++(H'.flatMap fun h=>h.flatMap bt))
  ·rw [if_pos hm];exact ⟨fun _=>hm,fun _=>rfl⟩
  ·rw [if_neg hm];exact ⟨fun h=>(by cases h),fun h=>absurd h hm⟩
 have hfinb:∀ k,look (aV res H') (.b k)=(H'[k]?).map .bx:=fun k=>aK [res] H' k
 let δ':=aT bs ts id 0 H'++bK ts id (toks res++(H'.flatMap fun h=>h.flatMap bt))++bC ts
 have ls:∀ n,look (δ'++σ) (.s n)=look σ (.s n):=by
  intro n
  simp only [δ']
  rw [aG,aG,aG,gn,iB,gK]
 have lb:∀ b l,look (δ'++σ) (.b b)=some (.bx l)→(∃ i h,H'[i]? = some h∧b=rb bs id i∧l=h.map (ren2 bs ts id))∨(look σ (.b b)=some (.bx l)∧∀ i,i<H'.length→rb bs id i≠b):=by
  intro b l h
  simp only [δ'] at h
  rw [aG,aG,aG,iC,gL] at h
  obtain ⟨q1,q2⟩:=iD (bs:=bs) (ts:=ts) (id:=id) (H:=H') (n:=0) (b:=b)
  cases hx:look (aT bs ts id 0 H') (.b b) with
  | some c =>
    rw [hx] at h
    obtain ⟨i,h',h1,h2,h3⟩:=q1 c hx
    simp only [Option.some.injEq] at h
    rw [h3] at h
    simp only [Cell.bx.injEq] at h
    exact .inl ⟨i,h',h1,by simpa using h2,h.symm⟩
  | none =>
    rw [hx] at h
    exact .inr ⟨h,fun i hi=>by simpa using q2 hx i hi⟩
 have lt:∀ k,look (δ'++σ) (.t k)=some (.tk true)→(∃ j,j∈(toks res++(H'.flatMap fun h=>h.flatMap bt))∧k=rb ts id j)∨(look σ (.t k)=some (.tk true)∧k ∉ ts):=by
  intro k h
  simp only [δ'] at h
  rw [aG,aG,aG,gk,jy] at h
  rcases kK (ts:=ts) (id:=id) (L:=(toks res++(H'.flatMap fun h=>h.flatMap bt))) (k:=k) with h1 | ⟨h1,j,h2,h3⟩
  ·rw [h1] at h
   by_cases hm:k∈ts
   ·simp [hm] at h
   ·simp [hm] at h;exact .inr ⟨h,hm⟩
  ·exact .inl ⟨j,h2,h3⟩
 have oldb:∀ b l,look σ (.b b)=some (.bx l)→(∀ i,i<H'.length→rb bs id i≠b)→∀ y o,aZ (spb κ b l) y o→¬ Own (cv κ bs ts) (aA args' H) y o:=by
  intro b l hl hno y o hy ho
  rcases hownc _ o ho with ⟨i,x,m,hx,hm,hi⟩ | ⟨k,x,hx,hi⟩
  ·refine hs.binj x b m l hm hl (fun this=>?_) y o hi hy
   subst this
   have hi':=(List.getElem?_eq_some_iff.1 hx).1
   exact hno i (by omega) (by simp only [rb,hx])
  ·exact hs.tbox x b l (l1 x (List.mem_of_getElem? hx)) hl y o hi hy
 have oldt:∀ k,look σ (.t k)=some (.tk true)→k ∉ ts→∀ b o,aZ (κ.τ k) b o→¬ Own (cv κ bs ts) (aA args' H) b o:=by
  intro k hk hno b o hi ho
  rcases hownc _ o ho with ⟨i,x,m,hx,hm,hi'⟩ | ⟨j,x,hx,hi'⟩
  ·exact hs.tbox k x m hk hm b o hi hi'
  ·exact hs.tdis k x hk (l1 x (List.mem_of_getElem? hx)) (fun e=>hno (e ▸ List.mem_of_getElem? hx)) b o hi hi'
 have hbdb:∀ b l,look σ (.b b)=some (.bx l)→κ.Db b∧(κ.ι b).1<w.heap.size:=by
  intro b l hl
  obtain ⟨h1,_,h3⟩:=hs.boxes b l hl
  exact ⟨h1,h3.lt⟩
 have htlt:∀ k,look σ (.t k)=some (.tk true)→∀ b o,aZ (κ.τ k) b o→b<w.heap.size:=by
  rintro k hk b o ⟨h1,h2,h3⟩
  obtain ⟨_,C,ty,h4,_⟩:=(hs.toks k hk).2 (Nat.lt_of_le_of_lt h2 h3)
  exact h1 ▸ aC h4
 have ιn:∀ (i:Nat) (h:List AV),H'[i]? = some h→(eo κ κ' bs.length ts.length id).Db (rb bs id i)∧(eo κ κ' bs.length ts.length id).ι (rb bs id i)=κ'.ι i:=by
  intro i h hi
  have hlook:look (aV res H') (.b i)=some (.bx h):=by rw [hfinb,hi];rfl
  exact rn.db i (List.getElem?_eq_some_iff.1 hi).1 (r.boxes i h hlook).1
 have ιo:∀ b,κ.Db b→(eo κ κ' bs.length ts.length id).ι b=κ.ι b:=fun b hb=>by simp only [eo,if_neg (notin b hb)]
 have τn:∀ j,j∈(toks res++(H'.flatMap fun h=>h.flatMap bt))→(eo κ κ' bs.length ts.length id).Dt (rb ts id j)∧(eo κ κ' bs.length ts.length id).τ (rb ts id j)=κ'.τ j:=by
  intro j hj
  exact rn.dt j (hLin j hj) (r.toks j ((hfint j).2 hj)).1
 have τo:∀ k,κ.Dt k→(eo κ κ' bs.length ts.length id).τ k=κ.τ k:=fun k hk=>by simp only [eo,if_neg (notint k hk)]
 have spn:∀ (i:Nat) (h:List AV),H'[i]? = some h→spb (eo κ κ' bs.length ts.length id) (rb bs id i) (h.map (ren2 bs ts id))=spb κ' i h:=fun i h hi=>by
  simp only [spb,(ιn i h hi).2,List.length_map]
 have spo:∀ b l,κ.Db b→spb (eo κ κ' bs.length ts.length id) b l=spb κ b l:=fun b l hb=>by simp only [spb,ιo b hb]
 have ownB:∀ (i:Nat) (h:List AV),H'[i]? = some h→∀ b o,aZ (spb κ' i h) b o→Own κ' (aV res H') b o:=fun i h hi b o hh=>.inl ⟨i,h,by rw [hfinb,hi];rfl,hh⟩
 have ownT:∀ j,j∈(toks res++(H'.flatMap fun h=>h.flatMap bt))→∀ b o,aZ (κ'.τ j) b o→Own κ' (aV res H') b o:=fun j hj b o hi=>.inr ⟨j,(hfint j).2 hj,hi⟩
 have own'':∀ b o,Own (eo κ κ' bs.length ts.length id) (δ'++σ) b o→Own κ' (aV res H') b o∨(Own κ σ b o∧¬ Own (cv κ bs ts) (aA args' H) b o∧b<w.heap.size):=by
  rintro b o (⟨i,l,hl,hi⟩ | ⟨k,hk,hi⟩)
  ·rcases lb i l hl with ⟨j,h,h1,h2,h3⟩ | ⟨h1,h2⟩
   ·rw [h2,h3,spn j h h1] at hi
    exact .inl (ownB j h h1 b o hi)
   ·rw [spo i l (hbdb i l h1).1] at hi
    exact .inr ⟨.inl ⟨i,l,h1,hi⟩,oldb i l h1 h2 b o hi,hi.1 ▸ (hbdb i l h1).2⟩
  ·rcases lt k hk with ⟨j,h1,h2⟩ | ⟨h1,h2⟩
   ·rw [h2,(τn j h1).2] at hi
    exact .inl (ownT j h1 b o hi)
   ·rw [τo k (hs.toks k h1).1] at hi
    exact .inr ⟨.inr ⟨k,h1,hi⟩,oldt k h1 h2 b o hi,htlt k h1 b o hi⟩
 have R:RepS W0 (eo κ κ' bs.length ts.length id) (δ'++σ) a w':=by
  refine ⟨?_,?_,?_,?_,?_,?_,?_,r.Icell,r.old,r.size0,r.amb,hs.defers,r.os,r.tape,r.output⟩
  ·intro n u h
   rw [ls] at h
   exact (hs.slots n u h).mono ext
  ·intro b l h
   rcases lb b l h with ⟨j,h',h1,h2,h3⟩ | ⟨h1,h2⟩
   ·obtain ⟨k1,k2⟩:=ιn j h' h1
    obtain ⟨_,q2,q3⟩:=r.boxes j h' (by rw [hfinb,h1];rfl)
    subst h2;subst h3
    rw [k2]
    exact ⟨k1,q2,q3.ren2 rn (gO i4 h' (List.mem_of_getElem? h1))⟩
   ·obtain ⟨q1,q2,q3⟩:=hs.boxes b l h1
    rw [ιo b q1]
    rcases q3 with ⟨_,C,ty,q3,q4⟩ | ⟨es,ob,e1,e2,e3,e4⟩
    case inr=>
     refine ⟨.inl q1,q2,.inr ⟨es,ob,e1,e2,?_,e4.ext ext⟩⟩
     rw [st.chg.same _ (aC e3) (fun o ho=>oldb b l h1 h2 _ 0 ⟨rfl,by simp only [spb,e2];omega,by subst e1;simp only [spb,e2];simp⟩ (pre.ownMap ho e3 e4.noRow))]
     exact e3
    obtain ⟨C',p1,p2,p3⟩:=st.chg.cells _ C ty _ q3
    refine ⟨.inl q1,q2,.of (C:=C') (ty:=ty) p1 ⟨by rw [p2];exact q4.1,q4.2.1,fun j v hj=>?_⟩⟩
    have:=(q4.2.2 j v hj).mono ext
    have e:C'[(κ.ι b).2+j]? = C[(κ.ι b).2+j]?:=p3 _ (oldb b l h1 h2 _ _ ⟨rfl,Nat.le_add_right _ _,Nat.add_lt_add_left (List.getElem?_eq_some_iff.1 hj).1 _⟩)
    rwa [Array.getD_eq_getD_getElem?,e,← Array.getD_eq_getD_getElem?]
  ·intro b b' l l' h h' hne y o hi hi'
   rcases lb b l h with ⟨j,m,h1,h2,h3⟩ | ⟨h1,h2⟩<;>rcases lb b' l' h' with ⟨j',m',h1',h2',h3'⟩ | ⟨h1',h2'⟩
   ·rw [h2,h3,spn j m h1] at hi
    rw [h2',h3',spn j' m' h1'] at hi'
    exact r.binj j j' m m' (by rw [hfinb,h1];rfl) (by rw [hfinb,h1'];rfl) (fun e=>hne (by rw [h2,h2',e])) y o hi hi'
   ·rw [h2,h3,spn j m h1] at hi
    rw [spo b' l' (hbdb b' l' h1').1] at hi'
    rcases st.own _ _ (ownB j m h1 y o hi) with g | g
    ·exact oldb b' l' h1' h2' y o hi' g
    ·have:=(hbdb b' l' h1').2;have:=hi'.1;simp only [spb] at this;omega
   ·rw [h2',h3',spn j' m' h1'] at hi'
    rw [spo b l (hbdb b l h1).1] at hi
    rcases st.own _ _ (ownB j' m' h1' y o hi') with g | g
    ·exact oldb b l h1 h2 y o hi g
    ·have:=(hbdb b l h1).2;have:=hi.1;simp only [spb] at this;omega
   ·rw [spo b l (hbdb b l h1).1] at hi
    rw [spo b' l' (hbdb b' l' h1').1] at hi'
    exact hs.binj b b' l l' h1 h1' hne y o hi hi'
  ·intro k h
   rcases lt k h with ⟨j,h1,h2⟩ | ⟨h1,h2⟩
   ·obtain ⟨k1,k2⟩:=τn j h1
    rw [h2,k2]
    exact ⟨k1,(r.toks j ((hfint j).2 h1)).2⟩
   ·obtain ⟨q1,q2⟩:=hs.toks k h1
    rw [τo k q1]
    refine ⟨.inl q1,fun hh=>?_⟩
    obtain ⟨q3,C,ty,q4,q5⟩:=q2 hh
    obtain ⟨C',p1,p2,_⟩:=st.chg.cells _ C ty _ q4
    exact ⟨q3,C',ty,p1,by omega⟩
  ·intro k k' h h' hne b o hi hi'
   rcases lt k h with ⟨j,h1,h2⟩ | ⟨h1,h2⟩<;>rcases lt k' h' with ⟨j',h1',h2'⟩ | ⟨h1',h2'⟩
   ·rw [h2,(τn j h1).2] at hi
    rw [h2',(τn j' h1').2] at hi'
    exact r.tdis j j' ((hfint j).2 h1) ((hfint j').2 h1') (fun e=>hne (by rw [h2,h2',e])) b o hi hi'
   ·rw [h2,(τn j h1).2] at hi
    rw [τo k' (hs.toks k' h1').1] at hi'
    rcases st.own _ _ (ownT j h1 b o hi) with g | g
    ·exact oldt k' h1' h2' b o hi' g
    ·have:=htlt k' h1' b o hi';omega
   ·rw [h2',(τn j' h1').2] at hi'
    rw [τo k (hs.toks k h1).1] at hi
    rcases st.own _ _ (ownT j' h1' b o hi') with g | g
    ·exact oldt k h1 h2 b o hi g
    ·have:=htlt k h1 b o hi;omega
   ·rw [τo k (hs.toks k h1).1] at hi
    rw [τo k' (hs.toks k' h1').1] at hi'
    exact hs.tdis k k' h1 h1' hne b o hi hi'
  ·intro k i l h h' y o hi hi'
   rcases lt k h with ⟨j,h1,h2⟩ | ⟨h1,h2⟩<;>rcases lb i l h' with ⟨j',m',h1',h2',h3'⟩ | ⟨h1',h2'⟩
   ·rw [h2,(τn j h1).2] at hi
    rw [h2',h3',spn j' m' h1'] at hi'
    exact r.tbox j j' m' ((hfint j).2 h1) (by rw [hfinb,h1'];rfl) y o hi hi'
   ·rw [h2,(τn j h1).2] at hi
    rw [spo i l (hbdb i l h1').1] at hi'
    rcases st.own _ _ (ownT j h1 _ o hi) with g | g
    ·exact oldb i l h1' h2' y o hi' g
    ·have:=(hbdb i l h1').2;have:=hi'.1;simp only [spb] at this;omega
   ·rw [τo k (hs.toks k h1).1] at hi
    rw [h2',h3',spn j' m' h1'] at hi'
    rcases st.own _ _ (ownB j' m' h1' y o hi') with g | g
    ·exact oldt k h1 h2 _ o hi g
    ·have:=htlt k h1 _ o hi;omega
   ·rw [τo k (hs.toks k h1).1] at hi
    rw [spo i l (hbdb i l h1').1] at hi'
    exact hs.tbox k i l h1 h1' y o hi hi'
  ·intro b o ho hI
   rcases own'' b o ho with g | ⟨g1,g2,g3⟩
   ·exact r.sepI b o g hI
   ·rcases st.In b o hI with q | q | q
    ·exact hs.sepI b o g1 q
    ·exact g2 q
    ·omega
 have S:Step κ σ w (eo κ κ' bs.length ts.length id) (δ'++σ) w':=by
  refine ⟨st.chg.mono hownκ,?_,st.I_,?_,fun b _ hb=>⟨.inl hb,ιo b hb⟩,fun k _ hk=>⟨.inl hk,τo k hk⟩⟩
  ·intro b o ho
   rcases own'' b o ho with g | ⟨g1,_,_⟩
   ·rcases st.own b o g with q | q
    ·exact .inl (hownκ b o q)
    ·exact .inr q
   ·exact .inl g1
  ·intro b o hI
   rcases st.In b o hI with q | q | q
   ·exact .inl q
   ·exact .inr (.inl (hownκ b o q))
   ·exact .inr (.inr q)
 have G:Grow κ (eo κ κ' bs.length ts.length id) id:=by
  refine ⟨?_,?_⟩
  ·rintro b (hb | ⟨j,h1,h2,_,rfl⟩)
   ·exact .inl hb
   ·exact .inr ⟨by omega,by omega⟩
  ·rintro b (hb | ⟨j,h1,h2,_,rfl⟩)
   ·exact .inl hb
   ·exact .inr ⟨by omega,by omega⟩
 have hres:RepV (eo κ κ' bs.length ts.length id) w' (Abs.ren bs ts id res) v:=by
  have:=r.slots 0 res (by unfold aV;rw [bJ];rfl)
  exact RepV.ren rn (by simpa using this) i3
 cases d with
 | none =>
   refine ⟨δ',_,?_,R,S,rfl,G⟩
   simpa [bp,δ'] using hF
 | some d =>
   refine ⟨(.s d,.av (Abs.ren bs ts id res))::δ',_,?_,R.put (hN d rfl) hres,S.trans Step.put,put_size,G⟩
   simpa [bp,δ'] using hF
end
end Go.Abs
namespace Go.Abs
open Go
theorem wk1_refl {v:AV}:wk1 v v:=by
 cases v<;>simp [wk1]
theorem gE {v:AV} {id:Nat} (h:in1 0 0 v=true):ren1 [] [] id v=v:=by
 cases v<;>try rfl
 ·rename_i z e t
  cases t<;>first | rfl | (simp [in1,Nat.blt_eq] at h)
 ·simp [in1,Nat.blt_eq] at h
 ·rename_i z e b n t
  cases t<;>simp only [in1] at h<;>(try split at h)<;>simp_all [Nat.blt_eq]
 ·simp [in1,Nat.blt_eq] at h
 ·simp [in1,Nat.blt_eq] at h
 ·rename_i z b o n c t
  cases t<;>simp only [in1] at h<;>(try split at h)<;>simp_all [Nat.blt_eq]
theorem wk1_erase {v:AV} {id:Nat} (h:in1 0 0 (fA v)=true):wk1 v (ren1 [] [] id (fA v)):=by
 rw [gE h]
 cases v<;>simp [fA,wk1]
theorem lJ {f:AV→AV}:∀ {l:List AV},(∀ v,v∈l→wk1 v (f v))→wkL1 l (l.map f)
 | [],_=>trivial
 | x::l,h=>⟨h x (by simp),lJ fun v hv=>h v (by simp [hv])⟩
theorem wk2_erase {v:AV} {id:Nat} (h:in2 0 0 (bf v)=true):wk2 v (ren2 [] [] id (bf v)):=by
 cases v with
 | agg l =>
   have e:ren2 [] [] id (bf (.agg l))=.agg (l.map fun v=>ren1 [] [] id (fA v)):=by simp [bf,ren2]
   rw [e]
   refine lJ fun v hv=>wk1_erase (bZ (show km 0 0 (l.map fA)=true from h) _ (List.mem_map_of_mem (f:=fA) hv))
 | fn f c =>
   have e:ren2 [] [] id (bf (.fn f c))=.fn f (c.map (ren1 [] [] id)):=rfl
   rw [e]
   refine ⟨rfl,lJ fun v hv=>?_⟩
   rw [gE (bZ (show km 0 0 c=true from h) v hv)]
   exact wk1_refl
 | sc c=>exact rfl
 | sl z e t=>exact ⟨rfl,rfl,.inl rfl⟩
 | ptr b o=>simp [in2,bf,fA,in1,Nat.blt_eq] at h
 | elp c o=>exact rfl
 | mx z e b n t=>cases t<;>simp only [in2,bf,fA,in1] at h<;>(try split at h)<;>simp_all [Nat.blt_eq]
 | mr b=>simp [in2,bf,fA,in1,Nat.blt_eq] at h
 | fb f b o=>simp [in2,bf,fA,in1,Nat.blt_eq] at h
 | cs z b o n c t=>cases t<;>simp only [in2,bf,fA,in1] at h<;>(try split at h)<;>simp_all [Nat.blt_eq]
 | mpv es=>exact rfl
 | mm ks vs =>
   have e:ren2 [] [] id (bf (.mm ks vs))=.mm ks (vs.map (ren1 [] [] id)):=rfl
   rw [e]
   have e2:vs.map (ren1 [] [] id)=vs:=by
    conv=>rhs;rw [← List.map_id vs]
    exact List.map_congr_left fun v hv=>gE (bZ (show km 0 0 vs=true from h) v hv)
   rw [e2]
   exact rfl
 | tup=>cases h
 | bad=>cases h
theorem iK {id:Nat}:∀ {l:List AV},dI 0 0 (l.map bf)=true→gt l ((l.map bf).map (ren2 [] [] id))
 | [],_=>trivial
 | x :: l, h => by
   have h1:=bF h (bf x) (by simp)
   refine ⟨wk2_erase h1,iK ?_⟩
   simp only [List.map_cons,dI,h1] at h
   exact h
theorem tokN_zero {l:List AV} (h:dI 0 0 l=true):dK l []=0:=by
 have:aO l []=[]:=by
  cases hh:aO l [] with
  | nil=>rfl
  | cons k r =>
    have:=gg (args:=l) (H:=[]) (nb:=0) (nb':=0) (nt:=0) (fun v hv=>mH (bF h v hv)) rfl k (by rw [hh];simp)
    omega
 unfold dK
 unfold aO at this
 rw [this];rfl
section
variable {P:Program} {W0:World} {κ:Gh} {σ:Log} {a:Act} {w:World} {id:Nat} {F:Log→Prop} {call:aX} {o:Oper} {Q:Exit→Act→World→Prop}
theorem kX (hcall:∀ f args H res H',call f args H res H'→Ctr P W0 f args H res H') (hs:RepS W0 κ σ a w) (hf:Fresh κ id) {d:Option Nat} {f:FuncId} {args:List AV} {vals:Array Value} (hsz:vals.size=args.length)
  (hv:∀ (j:Nat) (v:AV),args[j]? = some v→RepV κ w v (vals.getD j undef)) (hN:∀ d',d=some d'→d'<a.tmps.size) (h:callP call σ id d f args F) :
  cg P f=true∧Calls P f vals w fun e w'=>∃ v,e=.returned v∧After W0 κ σ a w id F (a.put d v) w':=by
 rcases h with ⟨res,hc,⟨h1,h2⟩,hF⟩ | ⟨bs,ts,args',H,H',res,hc,⟨n1,n2,n3,n4,n5,n6,i1,i2,i3,i4,w1,w2,w3⟩,hF⟩
 ·refine callG (bs:=[]) (ts:=[]) (H:=[]) (H':=[]) hs hf hsz hv hN (hcall _ _ _ _ _ hc) rfl rfl (Nat.le_refl _) (by simp) (by simp) (tokN_zero h1).symm h1 rfl h2 rfl (iK h1) trivial trivial ?_
  simpa [aT,bC] using hF
 ·exact callG hs hf hsz hv hN (hcall _ _ _ _ _ hc) n1 n2 (Nat.le_of_ble_eq_true n3) (Nat.le_of_ble_eq_true n4) (Nat.le_of_ble_eq_true n5) (Nat.eq_of_beq_eq_true n6) i1 i2 i3 i4 w1 w2 w3 hF
theorem iA {f:FuncId} (h:cg P f=true) (args:Array Value):(callFunc f args).run P w=.ok (.enter f args) w:=by
 unfold cg at h
 split at h
 ·rename_i fn hfn
  simp only [Bool.and_eq_true,Bool.not_eq_true'] at h
  obtain ⟨h1,h2⟩:=h
  have e1:¬ fn.name= "runtime.NumGoroutine":=by simpa using h1
  have e2:¬ fn.body=none:=by
   cases hbb:fn.body<;>simp [hbb] at h2 ⊢
  simp only [callFunc,Sem.run_bind]
  have hp:(program:Go.Sem Program).run P w=.ok P w:=rfl
  rw [hp]
  simp [hfn,e1,e2]
 ·cases h
theorem s_call (hcall:∀ f args H res H',call f args H res H'→Ctr P W0 f args H res H') (hs:RepS W0 κ σ a w) (hf:Fresh κ id) {c:Call} {fo:Operand} {f':Opd} {ys:List Opd} {ts:List TypeId} {z:Option Nat}
  (ho:o.op=.call c) (hc:c.callee=.value fo) (hx:ax z fo=some f') (hy:kJ P c.args.toList ts=some ys) (hN:∀ d',o.dst=some d'→d'<a.tmps.size)
  (h:eff call σ id (.call o.dst f' ys) F):o.wp P a w (After W0 κ σ a w id F) Q:=by
 have hr:=am hs hx
 simp only [eff] at h
 split at h
 ·rename_i f caps he
  rw [he] at hr
  obtain ⟨vs,e,hvs,hcv⟩:=hr.fn_inv
  obtain ⟨g1,g2⟩:=fQ hy
  have hlen:(c.args.map a.eval).size=(evs σ ys).length:=by rw [Array.size_map,fY,← g1,Array.length_toList]
  obtain ⟨h1,h2⟩:=kX (P:=P) (vals:=c.args.map a.eval++vs) hcall hs hf (by rw [Array.size_append,List.length_append,hlen,hvs]) (by
   intro j v hj
   rw [Array.getD_eq_getD_getElem?]
   by_cases hjl:j<(evs σ ys).length
   ·rw [List.getElem?_append_left hjl] at hj
    have:=lF hs g2 g1 j v hj
    rw [Array.getElem?_append_left (by rw [hlen];exact hjl)]
    rw [Array.getD_eq_getD_getElem?] at this
    simpa using this
   ·rw [List.getElem?_append_right (by omega)] at hj
    have:=hcv _ v hj
    rw [Array.getElem?_append_right (by rw [hlen];omega),hlen]
    rwa [Array.getD_eq_getD_getElem?] at this) hN h
  unfold Oper.wp
  have hrun:(execOp a.eval o).run P w=.ok (.enter f (c.args.map a.eval++vs)) w:=by
   simp only [execOp,ho,resolve,hc,e,Deferred.ofValue,Sem.run_bind,Sem.run_pure,Result.andThen_ok,invoke,Array.empty_append]
   exact iA h1 _
  rw [hrun]
  refine h2.mono ?_
  rintro e' w' ⟨v,rfl,hA⟩
  exact hA
 ·rename_i f b q he
  rw [he] at hr
  obtain ⟨hDb,e⟩:=hr.fb_inv
  obtain ⟨g1,g2⟩:=fQ hy
  have hlen:(c.args.map a.eval).size=(evs σ ys).length:=by rw [Array.size_map,fY,← g1,Array.length_toList]
  obtain ⟨h1,h2⟩:=kX (P:=P) (vals:=#[.pointer (some ⟨(κ.ι b).1,(κ.ι b).2+q,none⟩)]++c.args.map a.eval) hcall hs hf (by rw [Array.size_append,List.length_cons,hlen];simp [Nat.add_comm]) (by
   intro j v hj
   cases j with
   | zero =>
     simp at hj;subst hj
     rw [Array.getD_eq_getD_getElem?,Array.getElem?_append_left (by simp)]
     exact RepV.ptr b q hDb
   | succ j =>
     simp only [List.getElem?_cons_succ] at hj
     have:=lF hs g2 g1 j v hj
     rw [Array.getD_eq_getD_getElem?,Array.getElem?_append_right (by simp)]
     rw [Array.getD_eq_getD_getElem?] at this
     simpa using this) hN h
  unfold Oper.wp
  have hrun:(execOp a.eval o).run P w=.ok (.enter f (#[.pointer (some ⟨(κ.ι b).1,(κ.ι b).2+q,none⟩)]++c.args.map a.eval)) w:=by
   simp only [execOp,ho,resolve,hc,e,Deferred.ofValue,Sem.run_bind,Sem.run_pure,Result.andThen_ok,invoke,Array.append_empty]
   exact iA h1 _
  rw [hrun]
  refine h2.mono ?_
  rintro e' w' ⟨v,rfl,hA⟩
  exact hA
 ·exact h.elim
def compO (P:Program) (o:Oper):Option AOp:=
 match o.op,o.dst with
 | .move x,some d=>match ax (cw P o.type) x with | some x=>some (.mv d x) | none=>none
 | .assign x,some d=>match ax (cw P o.type) x with | some x=>some (.mv d x) | none=>none
 | .pick c x y, some d => match ax none c, ax (cw P o.type) x, ax (cw P o.type) y with
   | some c,some x,some y=>some (.pick d c x y)
   | _,_,_=>none
 | .box t x,some d=>match ax (cw P t) x with | some x=>some (.box d x) | none=>none
 | .alloc t,some d=>match ct P t with | some l=>some (.alloc d l) | none=>none
 | .build t ps, some d => match P.underlying t with
   | some (.struct fs) => match pg P fs, ct P t, bldC P fs ps.toList with
     | true,some z,some l=>some (.build d z l)
     | _,_,_=>none
   | _=>none
 | .buildSlice t n ps, some d => match P.underlying t with
   | some (.slice e) => match P.info? e with
     | some ie => match ie.zero, decide (n * ie.size ≤ 2 ^ 24 ∧ 0 < n ∧ 0 < ie.size), iR (cw P e) 0 ps.toList with
       | some _,true,some xs=>if xs.length=n then some (.bsl d ie.size xs) else none
       | _,_,_=>none
     | none=>none
   | _=>none
 | .load t x, some d => match fF P t, (P.info? t).map (·.size), ax none x with
   | some ag,some n,some x=>some (.ld d n ag x)
   | _,_,_=>none
 | .store t x y, none => match (P.info? t).map (·.size), ax none x, ax (cw P t) y with
   | some n,some x,some y=>some (.st x n y)
   | _,_,_=>none
 | .nilCheck x,some d=>match ax none x with | some x=>some (.nc d x) | none=>none
 | .binOp b t1 x y _, some d => match ax none x, ax none y with
   | some x, some y => match P.underlying t1 with
     | some .bool=>match lm b with | some ng=>some (.binB d ng x y) | none=>none
     | _=>match compB b with | some b=>some (.bin d b x y) | none=>none
   | _,_=>none
 | .unOp .not _ x,some d=>match ax none x with | some x=>some (.no d x) | none=>none
 | .fieldAddr t x i, some d => match P.underlying t with
   | some (.struct fs) => match fs[i]? with
     | some f => match (P.info? f.type).map (·.size), ax none x with
       | some n,some x=>if n=0 then none else some (.fa d x f.offset)
       | _,_=>none
     | none=>none
   | _=>none
 | .field t x i, some d => match P.underlying t with
   | some (.struct fs) => match fs[i]? with
     | some f => match (P.info? f.type).map (·.size), fF P f.type, ax none x with
       | some n,some ag,some x=>some (.fld d x f.offset n ag)
       | _,_,_=>none
     | none=>none
   | _=>none
 | .indexAddr t x y, some d => match P.underlying t with
   | some (.slice e) => match (P.info? e).map (·.size), ax none x, ax none y with
     | some n,some x,some y=>some (.ia d n x y)
     | _,_,_=>none
   | _=>none
 | .index t x y, some d => match P.underlying t with
   | some .string => match ax none x, ax none y with
     | some x,some y=>some (.ix d x y)
     | _,_=>none
   | _=>none
 | .slice t x lo hi mx, some d => match P.underlying t with
   | some .string => match ax none x, fk lo, fk hi, mx with
     | some x,some lo,some hi,none=>some (.slS d x lo hi)
     | _,_,_,_=>none
   | some (.slice e) => match (P.info? e).map (·.size), ax none x, fk lo with
     | some n, some x, some lo' => match fk hi, fk mx with
       | some hi',some mx'=>if mx.isSome=true∧hi.isSome=false then none else some (.slL d n x lo' hi' mx')
       | _,_=>none
     | _,_,_=>none
   | _=>none
 | .convert t1 t2 x, some d => match P.underlying t1, P.underlying t2, ax none x with
   | some (.int _),some (.int k),some x=>some (.cvi d k x)
   | _,_,_=>none
 | .extract x i,some d=>match ax none x with | some x=>some (.ext d x i) | none=>none
 | .makeFunc (.func f) ⟨[]⟩ cs,some d=>match kJ P cs.toList [] with | some ys=>some (.mkf d f ys) | none=>none
 | .call c, dst => match c.callee with
   | .value f => match ax none f, kJ P c.args.toList c.argTypes.toList with
     | some f,some ys=>some (.call dst f ys)
     | _,_=>none
   | .builtin .len => match dst, c with
     | some d, { callee := _, args := ⟨[x]⟩, argTypes := ⟨[t]⟩ } => match P.underlying t, ax none x with
       | some .string,some x=>some (.lenS d x)
       | some (.slice _),some x=>some (.len d x)
       | _,_=>none
     | _,_=>none
   | .builtin .append => match dst, c with
     | some d, { callee := _, args := ⟨[x, y]⟩, argTypes := ⟨[t, t']⟩ } => if t = t' then match P.underlying t with
       | some (.slice e) => match P.info? e with
         | some ie => match ie.zero, ax (cw P t) x, ax (cw P t) y with
           | some z,some x,some y=>if z.cells.size=ie.size∧0<ie.size then some (.app d ie.size ie.bytes x y) else none
           | _,_,_=>none
         | none=>none
       | _=>none
       else none
     | _,_=>none
   | .builtin .max => match dst, c with
     | some d, { callee := _, args := ⟨[x, y]⟩, argTypes := _ } => match ax none x, ax none y with
       | some x,some y=>some (.mx d x y)
       | _,_=>none
     | _,_=>none
   | _=>none
 | _,_=>none
theorem eff_sound (hcall:∀ f args H res H',call f args H res H'→Ctr P W0 f args H res H') (hs:RepS W0 κ σ a w) (hf:Fresh κ id) {g:AOp} (hg:compO P o=some g) (hN:∀ d',o.dst=some d'→d'<a.tmps.size)
  (h:eff call σ id g F):o.wp P a w (After W0 κ σ a w id F) Q:=by
 unfold compO at hg
 split at hg
 ·rename_i x d ho hd
  split at hg<;>first | cases hg | skip
  exact s_mv hs (.inl ho) hd (by assumption) (hN d hd) h
 ·rename_i x d ho hd
  split at hg<;>first | cases hg | skip
  exact s_mv hs (.inr ho) hd (by assumption) (hN d hd) h
 ·rename_i c x y d ho hd
  split at hg<;>first | cases hg | skip
  exact s_pick hs ho hd (by assumption) (by assumption) (by assumption) (hN d hd) h
 ·rename_i t x d ho hd
  split at hg<;>first | cases hg | skip
  exact s_box hs hf ho hd (by assumption) (hN d hd) h
 ·rename_i t d ho hd
  split at hg<;>first | cases hg | skip
  exact s_alloc hs hf ho hd (by assumption) (hN d hd) h
 ·rename_i t ps d ho hd
  split at hg<;>first | cases hg | skip
  rename_i fs hu
  split at hg<;>first | cases hg | skip
  exact s_build hs ho hd hu (by assumption) (by assumption) (by assumption) (hN d hd) h
 ·rename_i t n ps d ho hd
  split at hg<;>first | cases hg | skip
  rename_i e hu
  split at hg<;>first | cases hg | skip
  rename_i ie hie
  split at hg<;>first | cases hg | skip
  rename_i zv xs hz hdec hps
  split at hg<;>first | cases hg | skip
  rename_i hlen
  obtain ⟨h1,h2,h3⟩:=of_decide_eq_true hdec
  exact s_bsl hs ho hd hu hie hz rfl h1 h2 h3 hps hlen (hN d hd) h
 ·rename_i t x d ho hd
  split at hg<;>first | cases hg | skip
  exact s_ld hs ho hd (by assumption) (by assumption) (by assumption) (hN d hd) h
 ·rename_i t x y ho hd
  split at hg<;>first | cases hg | skip
  exact s_st hs ho hd (by assumption) (by assumption) (by assumption) h
 ·rename_i x d ho hd
  split at hg<;>first | cases hg | skip
  exact s_nc hs ho hd (by assumption) (hN d hd) h
 ·rename_i b t1 x y t2 d ho hd
  split at hg<;>first | cases hg | skip
  split at hg
  ·split at hg<;>first | cases hg | skip
   exact s_binB hs ho hd (by assumption) (by assumption) (by assumption) (by assumption) (hN d hd) h
  ·split at hg<;>first | cases hg | skip
   exact s_bin hs ho hd (by assumption) (by assumption) (by assumption) (hN d hd) h
 ·rename_i t x d ho hd
  split at hg<;>first | cases hg | skip
  exact s_no hs ho hd (by assumption) (hN d hd) h
 ·rename_i t x i d ho hd
  split at hg<;>first | cases hg | skip
  rename_i fs hu
  split at hg<;>first | cases hg | skip
  rename_i f hfi
  split at hg<;>first | cases hg | skip
  split at hg<;>first | cases hg | skip
  exact s_fa hs ho hd (by assumption) hu hfi (by assumption) (by assumption) (hN d hd) h
 ·rename_i t x i d ho hd
  split at hg<;>first | cases hg | skip
  rename_i fs hu
  split at hg<;>first | cases hg | skip
  rename_i f hfi
  split at hg<;>first | cases hg | skip
  exact s_fld hs ho hd (by assumption) hu hfi (by assumption) (by assumption) (hN d hd) h
 ·rename_i t x y d ho hd
  split at hg<;>first | cases hg | skip
  rename_i e hu
  split at hg<;>first | cases hg | skip
  exact s_ia hs ho hd (by assumption) (by assumption) hu (by assumption) (hN d hd) h
 ·rename_i t x y d ho hd
  split at hg<;>first | cases hg | skip
  rename_i hu
  split at hg<;>first | cases hg | skip
  exact s_ix hs ho hd (by assumption) (by assumption) hu (hN d hd) h
 ·rename_i t x lo hi mx d ho hd
  split at hg<;>first | cases hg | skip
  ·rename_i hu
   split at hg<;>first | cases hg | skip
   exact s_slS hs ho hd (by assumption) (by assumption) (by assumption) hu (hN d hd) h
  ·rename_i e hu
   split at hg<;>first | cases hg | skip
   split at hg<;>first | cases hg | skip
   split at hg<;>first | cases hg | skip
   rename_i hm
   exact s_slL hs hf ho hd (by assumption) (by assumption) (by assumption) (by assumption) (fun hh=>by
    cases hi with
    | some _=>rfl
    | none=>exact absurd ⟨hh,rfl⟩ hm) hu (by assumption) (hN d hd) h
 ·rename_i t1 t2 x d ho hd
  split at hg<;>first | cases hg | skip
  exact s_cvi hs ho hd (by assumption) (by assumption) (by assumption) (hN d hd) h
 ·rename_i x i d ho hd
  split at hg<;>first | cases hg | skip
  exact s_ext hs ho hd (by assumption) (hN d hd) h
 ·rename_i f cs d ho hd
  split at hg<;>first | cases hg | skip
  exact s_mkf hs ho hd (by assumption) (hN d hd) h
 ·rename_i c ho
  split at hg
  ·rename_i fo hc
   split at hg<;>first | cases hg | skip
   exact s_call hcall hs hf ho hc (by assumption) (by assumption) hN h
  ·rename_i hc
   split at hg<;>first | cases hg | skip
   rename_i d cal x t hd
   simp only at hc
   subst hc
   split at hg<;>first | cases hg | skip
   ·exact s_lenS hs ho hd (by assumption) (by assumption) (hN d hd) h
   ·exact s_len hs ho hd (by assumption) (by assumption) (hN d hd) h
  ·rename_i hc
   split at hg<;>first | cases hg | skip
   rename_i d cal x y t t' hd
   simp only at hc
   subst hc
   split at hg<;>first | cases hg | skip
   rename_i htt
   subst htt
   split at hg<;>first | cases hg | skip
   rename_i e hu
   split at hg<;>first | cases hg | skip
   rename_i ie hie
   split at hg<;>first | cases hg | skip
   rename_i zv x' y' hz hx hy
   split at hg<;>first | cases hg | skip
   rename_i hh
   exact s_app hs hf ho hd hx hy hu hie rfl rfl hz hh.1 hh.2 (hN d hd) h
  ·rename_i hc
   split at hg<;>first | cases hg | skip
   rename_i d cal x y tss hd
   simp only at hc
   subst hc
   split at hg<;>first | cases hg | skip
   exact s_mx hs ho hd (by assumption) (by assumption) (hN d hd) h
  ·cases hg
 ·cases hg
end
end Go.Abs
namespace Go.Abs
open Go
theorem eI {σ σ':Log} {x:Opd} (h:∀ l,l∈ay x→look σ' l=look σ l):ev σ' x=ev σ x:=by
 cases x with
 | t n=>simp only [ev];rw [h (.s n) (by simp [ay])]
 | c v=>rfl
theorem io {σ σ':Log}:∀ {xs:List Opd},(∀ l,l∈cq xs→look σ' l=look σ l)→evs σ' xs=evs σ xs
 | [],_=>rfl
 | x :: r, h => by
   simp only [evs]
   rw [eI fun l hl=>h l (by simp [cq,hl]),io fun l hl=>h l (by simp [cq,hl])]
theorem mj {δ:Log} {l:Loc}:l∈ar δ↔look δ l≠none:=by
 induction δ with
 | nil=>simp [ar,look]
 | cons x r ih =>
   obtain ⟨k,c⟩:=x
   rw [ar,af,List.mem_cons,ih]
   by_cases h:k=l
   ·simp [h]
   ·have:¬ l=k:=fun e=>h e.symm
    simp [h,this]
theorem bv {σ σ':Log} {x:Option Opd} {z:Int} {K:Int→Prop} (h:∀ l,l∈lk x→look σ' l=look σ l):fP σ' x z K=fP σ x z K:=by
 cases x with
 | none=>rfl
 | some x=>simp only [fP];rw [eI h]
theorem cJ {σ:Log} {x:Option Opd} {z:Int} {K:Int→Prop} (h:fP σ x z K):∃ n,K n∧∀ G:Int→Prop,G n→fP σ x z G:=by
 cases x with
 | none=>exact ⟨z,h,fun G g=>g⟩
 | some x =>
   simp only [fP] at h ⊢
   split at h
   ·rename_i n he;exact ⟨n,h,fun G g=>g⟩
   ·exact h.elim
theorem bld_pick {σ:Log}:∀ {ps:List (Nat × Nat × Opd)} {z:List AV} {F:List AV→Prop},bld σ ps z F→∃ r,F r∧∀ σ',(∀ l,l∈cq (ps.map fun p=>p.2.2)→look σ' l=look σ l)→∀ G:List AV→Prop,G r→bld σ' ps z G
 | [],z,F,h=>⟨z,h,fun _ _ G g=>g⟩
 | (o, n, x) :: ps, z, F, h => by
   simp only [bld] at h
   obtain ⟨h1,h⟩:=aM.1 h
   split at h
   ·rename_i hb
    split at h
    ·rename_i z' hz
     obtain ⟨r,hr,hG⟩:=bld_pick h
     refine ⟨r,hr,fun σ' ha G g=>?_⟩
     simp only [bld]
     have e:ev σ' x=ev σ x:=eI fun l hl=>ha l (by simp [cq,hl])
     rw [e,aM]
     refine ⟨h1,?_⟩
     simp only [hb,hz]
     exact hG σ' (fun l hl=>ha l (by simp only [List.map_cons,cq];exact List.mem_append_right _ hl)) G g
    ·exact h.elim
   ·exact h.elim
theorem oV {σ:Log} {sz:Nat}:∀ {ps:List Opd} {F:List (List Data)→Prop},lv σ sz ps F→∃ r,F r∧∀ σ',(∀ l,l∈cq ps→look σ' l=look σ l)→∀ G:List (List Data)→Prop,G r→lv σ' sz ps G
 | [],F,h=>⟨[],h,fun _ _ G g=>g⟩
 | x :: ps, F, h => by
   simp only [lv] at h
   obtain ⟨h1,h⟩:=aM.1 h
   split at h
   ·exact h.elim
   ·rename_i ds hds
    split at h
    ·rename_i hb
     obtain ⟨r,hr,hG⟩:=oV h
     refine ⟨ds::r,hr,fun σ' ha G g=>?_⟩
     simp only [lv]
     have e:ev σ' x=ev σ x:=eI fun l hl=>ha l (by simp [cq,hl])
     rw [e,aM]
     refine ⟨h1,?_⟩
     simp only [hb,hds]
     exact hG σ' (fun l hl=>ha l (by simp only [cq];exact List.mem_append_right _ hl)) _ g
    ·exact h.elim
theorem oX {σ:Log} {sz:Nat}:∀ {ps:List Opd} {F:List AV→Prop},lw σ sz ps F→∃ r,F r∧∀ σ',(∀ l,l∈cq ps→look σ' l=look σ l)→∀ G:List AV→Prop,G r→lw σ' sz ps G
 | [],F,h=>⟨[],h,fun _ _ G g=>g⟩
 | x :: ps, F, h => by
   simp only [lw] at h
   obtain ⟨h1,h⟩:=aM.1 h
   split at h
   ·rename_i hb
    obtain ⟨r,hr,hG⟩:=oX h
    refine ⟨flat (ev σ x)++r,hr,fun σ' ha G g=>?_⟩
    simp only [lw]
    have e:ev σ' x=ev σ x:=eI fun l hl=>ha l (by simp [cq,hl])
    rw [e,aM]
    refine ⟨h1,?_⟩
    simp only [hb]
    exact hG σ' (fun l hl=>ha l (by simp only [cq];exact List.mem_append_right _ hl)) _ g
   ·exact h.elim
theorem jW {σ σ':Log} {sz:Nat} {v:AV} (h:∀ l,l∈bxR v→look σ' l=look σ l):ysl σ' sz v=ysl σ sz v:=by
 cases v with
 | cs z b o m c t=>simp only [ysl];rw [h (.b b) (by simp [bxR])]
 | mx z e b m t => cases e with
   | nil=>simp only [ysl];rw [h (.b b) (by simp [bxR])]
   | cons _ _=>rfl
 | _=>rfl
theorem mz {d:Nat} {ag:Bool} {l:Option (List AV)} {F:Log→Prop} (h:ldv d ag l F):∃ δ,F δ∧∀ G:Log→Prop,G δ→ldv d ag l G:=by
 cases l with
 | none=>exact h.elim
 | some l =>
   cases ag with
   | true =>
     obtain ⟨h1,h⟩:=aM.1 (show eF l fun l=>F [(.s d,.av (.agg l))] from h)
     exact ⟨_,h,fun G g=>aM.2 ⟨h1,g⟩⟩
   | false =>
     simp only [ldv] at h ⊢
     split at h
     ·obtain ⟨h1,h⟩:=gR.1 h
      exact ⟨_,h,fun G g=>gR.2 ⟨h1,g⟩⟩
     ·exact h.elim
theorem binI_pick {o:Bin} {k:IntKind} {a b:Int} {F:AV→Prop} (h:binI o k a b F):∃ v,F v∧∀ G:AV→Prop,G v→binI o k a b G:=by
 cases o<;>first | exact ⟨_,h,fun G g=>g⟩ | exact ⟨_,h.2,fun G g=>⟨h.1,g⟩⟩
theorem binS_pick {o:Bin} {a b:List UInt8} {F:AV→Prop} (h:binS o a b F):∃ v,F v∧∀ G:AV→Prop,G v→binS o a b G:=by
 cases o<;>first | exact (show False from h).elim | exact ⟨_,h,fun G g=>g⟩ | exact ⟨_,h.2,fun G g=>⟨h.1,g⟩⟩
theorem binP_pick {o:Bin} {x y:AV} {F:AV→Prop} (h:kz o x y F):∃ v,F v∧∀ G:AV→Prop,G v→kz o x y G:=by
 unfold kz at h
 split at h
 ·rename_i k a k' b
  split at h
  ·rename_i hk
   obtain ⟨v,h1,h2⟩:=binI_pick h
   refine ⟨v,h1,fun G g=>?_⟩
   simp only [kz,hk]
   exact h2 G g
  ·exact h.elim
 ·obtain ⟨v,h1,h2⟩:=binS_pick h
  exact ⟨v,h1,fun G g=>h2 G g⟩
 ·exact h.elim
theorem kY {σ σ':Log} {bs0 ts:List Nat} {id:Nat}:∀ {bs:List Nat} {H:List (List AV)},(∀ b,b∈bs→look σ' (.b b)=look σ (.b b))→iJ σ bs0 ts id bs H→iJ σ' bs0 ts id bs H
 | [],[],_,h=>h
 | b :: bs, h :: H, ha, hh => by
   obtain ⟨h1,h2⟩:=hh
   refine ⟨?_,kY (fun b hb=>ha b (by simp [hb])) h2⟩
   rw [ha b (by simp)];exact h1
 | [],_::_,_,h=>h.elim
 | _::_,[],_,h=>h.elim
theorem iE {σ σ':Log}:∀ {ts:List Nat},(∀ b,b∈ts→look σ' (.t b)=look σ (.t b))→dA σ ts→dA σ' ts
 | [],_,_=>trivial
 | b :: ts, ha, h => by
   obtain ⟨h1,h2⟩:=h
   refine ⟨?_,iE (fun b hb=>ha b (by simp [hb])) h2⟩
   rw [ha b (by simp)];exact h1
theorem rb_mem {bs ts:List Nat} {id:Nat}:∀ {H:List (List AV)} {n i:Nat},i<H.length→Loc.b (rb bs id (n+i))∈ar (aT bs ts id n H)
 | [],n,i,h=>by simp at h
 | h :: H, n, i, hi => by
   simp only [aT,ar]
   cases i with
   | zero=>simp
   | succ i =>
     have:=rb_mem (bs:=bs) (ts:=ts) (id:=id) (H:=H) (n:=n+1) (i:=i) (by simpa using hi)
     rw [show n+1+i=n+(i+1) by omega] at this
     exact List.mem_cons_of_mem _ this
theorem off_mem:∀ {ts:List Nat} {k:Nat},k∈ts→Loc.t k∈ar (bC ts)
 | [],k,h=>by cases h
 | x :: ts, k, h => by
   simp only [bC,ar]
   rcases List.mem_cons.1 h with rfl | h
   ·simp
   ·exact List.mem_cons_of_mem _ (off_mem h)
theorem dG {δ δ':Log} {l:Loc}:l∈ar (δ++δ')↔l∈ar δ∨l∈ar δ':=by
 induction δ with
 | nil=>simp [ar]
 | cons x r ih =>
   obtain ⟨k,c⟩:=x
   simp only [List.cons_append,ar,List.mem_cons,ih,or_assoc]
theorem nk {call:aX} {σ:Log} {id:Nat} {d:Option Nat} {f:FuncId} {args:List AV} {F:Log→Prop} (h:callP call σ id d f args F) :
  ∃ δ,F δ∧∀ σ',(∀ l,l∈ar δ→look σ' l=look σ l)→callP call σ' id d f args (·=δ):=by
 rcases h with ⟨res,hc,hh,hF⟩ | ⟨bs,ts,args',H,H',res,hc,⟨n1,n2,n3,n4,n5,n6,i1,i2,i3,i4,w1,w2,w3⟩,hF⟩
 ·exact ⟨_,hF,fun σ' _=>.pure res hc hh rfl⟩
 ·refine ⟨_,hF,fun σ' ha=>.full bs ts args' H H' res hc ⟨n1,n2,n3,n4,n5,n6,i1,i2,i3,i4,w1,kY ?_ w2,iE ?_ w3⟩ rfl⟩
  ·intro b hb
   refine ha _ (dG.2 (.inl (dG.2 (.inl (dG.2 (.inr ?_))))))
   obtain ⟨i,hi⟩:=List.mem_iff_getElem?.1 hb
   have hil:=(List.getElem?_eq_some_iff.1 hi).1
   have:=rb_mem (bs:=bs) (ts:=ts) (id:=id) (H:=H') (n:=0) (i:=i) (Nat.lt_of_lt_of_le hil (Nat.le_of_ble_eq_true n3))
   simpa [rb,hi] using this
  ·intro k hk
   exact ha _ (dG.2 (.inr (off_mem hk)))
theorem eff_pick {call:aX} {σ:Log} {id:Nat} {o:AOp} {F:Log→Prop} (h:eff call σ id o F) :
  ∃ δ,F δ∧∀ σ',(∀ l,l∈o.rd σ∨l∈ar δ→look σ' l=look σ l)→eff call σ' id o (·=δ):=by
 have E:∀ {σ':Log} {x:Opd} {R:List Loc} {δ:Log},(∀ l,l∈R∨l∈ar δ→look σ' l=look σ l)→(∀ l,l∈ay x→l∈R)→ev σ' x=ev σ x:=
  fun ha hx=>eI fun l hl=>ha l (.inl (hx l hl))
 cases o with
 | mv d x =>
   obtain ⟨h1,h⟩:=cl.1 (show frc (ev σ x) fun v=>F [(.s d,.av v)] from h)
   refine ⟨_,h,fun σ' ha=>?_⟩
   simp only [eff]
   rw [E ha (fun l hl=>hl),cl];exact ⟨h1,rfl⟩
 | pick d c a b =>
   simp only [eff] at h
   split at h
   ·rename_i t ht
    cases t with
    | true =>
      obtain ⟨h1,h⟩:=cl.1 h
      refine ⟨_,h,fun σ' ha=>?_⟩
      simp only [eff]
      rw [E ha (x:=c) (fun l hl=>by simp [AOp.rd,hl]),E ha (x:=a) (fun l hl=>by simp [AOp.rd,hl]),ht]
      exact cl.2 ⟨h1,rfl⟩
    | false =>
      obtain ⟨h1,h⟩:=cl.1 h
      refine ⟨_,h,fun σ' ha=>?_⟩
      simp only [eff]
      rw [E ha (x:=c) (fun l hl=>by simp [AOp.rd,hl]),E ha (x:=b) (fun l hl=>by simp [AOp.rd,hl]),ht]
      exact cl.2 ⟨h1,rfl⟩
   ·exact h.elim
 | box d x =>
   obtain ⟨h1,h⟩:=aM.1 (show eF (flat (ev σ x)) fun l=>F [(.s d,.av (.ptr id 0)),(.b id,.bx l)] from h)
   refine ⟨_,h,fun σ' ha=>?_⟩
   show eF (flat (ev σ' x)) _
   rw [E ha (fun l hl=>hl),aM];exact ⟨h1,rfl⟩
 | alloc d z=>exact ⟨_,h,fun σ' _=>rfl⟩
 | build d z ps =>
   obtain ⟨r,hr,hG⟩:=bld_pick (show bld σ ps z fun z=>eF z fun z=>F [(.s d,.av (.agg z))] from h)
   obtain ⟨h1,h⟩:=aM.1 hr
   exact ⟨_,h,fun σ' ha=>hG σ' (fun l hl=>ha l (.inl hl)) _ (aM.2 ⟨h1,rfl⟩)⟩
 | bsl d sz xs =>
   obtain ⟨r,hr,hG⟩:=oV (show lv σ sz xs fun els=>F [(.s d,.av (.sl sz els .full))] from h)
   exact ⟨_,hr,fun σ' ha=>hG σ' (fun l hl=>ha l (.inl hl)) _ rfl⟩
 | ld d n ag a =>
   simp only [eff] at h
   split at h
   ·rename_i b o' he
    split at h
    ·rename_i l hl
     cases hm:isM l with
     | true=>simp only [hm] at h
     | false=>
     simp only [hm] at h
     obtain ⟨δ,hF,hG⟩:=mz h
     refine ⟨δ,hF,fun σ' ha=>?_⟩
     simp only [eff]
     rw [E ha (x:=a) (fun l hl=>by simp [AOp.rd,hl]),he]
     simp only
     rw [ha (.b b) (.inl (by simp [AOp.rd,he])),hl]
     simp only [hm]
     exact hG _ rfl
    ·exact h.elim
   ·rename_i l o' he
    obtain ⟨δ,hF,hG⟩:=mz h
    refine ⟨δ,hF,fun σ' ha=>?_⟩
    simp only [eff]
    rw [E ha (x:=a) (fun l hl=>by simp [AOp.rd,hl]),he]
    exact hG _ rfl
   ·exact h.elim
 | st a n x =>
   simp only [eff] at h
   split at h
   ·rename_i b o' he
    split at h
    ·rename_i l hl
     cases hm:isM l with
     | true=>simp only [hm] at h
     | false=>
     simp only [hm] at h
     obtain ⟨h1,h⟩:=aM.1 h
     split at h
     ·rename_i hb
      split at h
      ·rename_i r hr
       obtain ⟨h2,h⟩:=aM.1 h
       refine ⟨_,h,fun σ' ha=>?_⟩
       simp only [eff]
       rw [E ha (x:=a) (fun l hl=>by simp [AOp.rd,hl]),E ha (x:=x) (fun l hl=>by simp [AOp.rd,hl]),he]
       simp only
       rw [ha (.b b) (.inr (by simp [ar])),hl]
       simp only [hm]
       rw [aM]
       refine ⟨h1,?_⟩
       simp only [hb,hr]
       exact aM.2 ⟨h2,rfl⟩
      ·exact h.elim
     ·exact h.elim
    ·exact h.elim
   ·exact h.elim
 | nc d x =>
   simp only [eff] at h
   split at h
   all_goals first | exact h.elim | skip
   all_goals
    rename_i he
    refine ⟨_,h,fun σ' ha=>?_⟩
    simp only [eff]
    rw [E ha (fun l hl=>hl),he]
 | bin d o x y =>
   obtain ⟨v,hv,hG⟩:=binP_pick (show kz o (ev σ x) (ev σ y) fun v=>F [(.s d,.av v)] from h)
   refine ⟨_,hv,fun σ' ha=>?_⟩
   show kz o (ev σ' x) (ev σ' y) _
   rw [E ha (x:=x) (fun l hl=>by simp [AOp.rd,hl]),E ha (x:=y) (fun l hl=>by simp [AOp.rd,hl])]
   exact hG _ rfl
 | binB d ng x y =>
   simp only [eff] at h
   split at h
   ·rename_i p q he1 he2
    cases ng<;>simp only at h
    all_goals
     refine ⟨_,h,fun σ' ha=>?_⟩
     simp only [eff]
     rw [E ha (x:=x) (fun l hl=>by simp [AOp.rd,hl]),E ha (x:=y) (fun l hl=>by simp [AOp.rd,hl]),he1,he2]
   ·exact h.elim
 | no d x =>
   simp only [eff] at h
   split at h
   ·rename_i t he
    refine ⟨_,h,fun σ' ha=>?_⟩
    simp only [eff]
    rw [E ha (fun l hl=>hl),he]
   ·exact h.elim
 | fa d x off =>
   simp only [eff] at h
   split at h
   all_goals first | exact h.elim | skip
   all_goals
    rename_i he
    refine ⟨_,h,fun σ' ha=>?_⟩
    simp only [eff]
    rw [E ha (fun l hl=>hl),he]
 | fld d x off n ag =>
   simp only [eff] at h
   split at h
   ·rename_i l he
    obtain ⟨δ,hF,hG⟩:=mz h
    refine ⟨δ,hF,fun σ' ha=>?_⟩
    simp only [eff]
    rw [E ha (fun l hl=>hl),he]
    exact hG _ rfl
   ·exact h.elim
 | ia d sz x i =>
   simp only [eff] at h
   split at h
   ·rename_i z els t k n he1 he2
    split at h
    ·rename_i hb
     obtain ⟨e,h1,h⟩:=h
     refine ⟨_,h,fun σ' ha=>?_⟩
     simp only [eff]
     rw [E ha (x:=x) (fun l hl=>by simp [AOp.rd,hl]),E ha (x:=i) (fun l hl=>by simp [AOp.rd,hl]),he1,he2]
     simp only [hb]
     exact ⟨e,h1,rfl⟩
    ·exact h.elim
   ·rename_i z els b m t k n he1 he2
    split at h
    ·rename_i hb
     obtain ⟨h1,h⟩:=h
     refine ⟨_,h,fun σ' ha=>?_⟩
     simp only [eff]
     rw [E ha (x:=x) (fun l hl=>by simp [AOp.rd,hl]),E ha (x:=i) (fun l hl=>by simp [AOp.rd,hl]),he1,he2]
     simp only [hb]
     exact ⟨h1,by first | rfl | trivial⟩
    ·exact h.elim
   ·rename_i z b o m c t k n he1 he2
    split at h
    ·rename_i hb
     obtain ⟨h1,h⟩:=h
     refine ⟨_,h,fun σ' ha=>?_⟩
     simp only [eff]
     rw [E ha (x:=x) (fun l hl=>by simp [AOp.rd,hl]),E ha (x:=i) (fun l hl=>by simp [AOp.rd,hl]),he1,he2]
     simp only [hb]
     exact ⟨h1,by first | rfl | trivial⟩
    ·exact h.elim
   ·exact h.elim
 | ix d x i =>
   simp only [eff] at h
   split at h
   ·rename_i l k n he1 he2
    obtain ⟨e,h1,h⟩:=h
    refine ⟨_,h,fun σ' ha=>?_⟩
    simp only [eff]
    rw [E ha (x:=x) (fun l hl=>by simp [AOp.rd,hl]),E ha (x:=i) (fun l hl=>by simp [AOp.rd,hl]),he1,he2]
    exact ⟨e,h1,rfl⟩
   ·exact h.elim
 | slS d x lo hi =>
   simp only [eff] at h
   split at h
   ·rename_i l he
    obtain ⟨p,h,g1⟩:=cJ h
    obtain ⟨q,h,g2⟩:=cJ h
    refine ⟨_,h.2,fun σ' ha=>?_⟩
    simp only [eff]
    rw [E ha (x:=x) (fun l hl=>by simp [AOp.rd,hl]),he]
    simp only
    rw [bv fun l hl=>ha l (.inl (by simp [AOp.rd,hl]))]
    refine g1 _ ?_
    rw [bv fun l hl=>ha l (.inl (by simp [AOp.rd,hl]))]
    exact g2 _ ⟨h.1,rfl⟩
   ·exact h.elim
 | slL d sz x lo hi mx =>
   simp only [eff] at h
   split at h
   ·rename_i z b n t he
    split at h
    ·rename_i hb
     split at h
     ·rename_i hi' l hl
      obtain ⟨q,⟨h1,h⟩,g2⟩:=cJ h
      cases t with
      | none=>exact h.elim
      | full =>
        refine ⟨_,h,fun σ' ha=>?_⟩
        simp only [eff]
        rw [E ha (x:=x) (fun l hl=>by simp [AOp.rd,hl]),he]
        simp only [hb]
        rw [ha (.b b) (.inr (by simp [ar])),hl]
        simp only
        rw [bv fun l hl=>ha l (.inl (by simp [AOp.rd,hl]))]
        exact g2 _ ⟨h1,by first | rfl | trivial⟩
      | t k =>
        simp only at h
        split at h
        ·rename_i hk
         refine ⟨_,h,fun σ' ha=>?_⟩
         simp only [eff]
         rw [E ha (x:=x) (fun l hl=>by simp [AOp.rd,hl]),he]
         simp only [hb]
         rw [ha (.b b) (.inr (by simp [ar])),hl]
         simp only
         rw [bv fun l hl=>ha l (.inl (by simp [AOp.rd,hl]))]
         refine g2 _ ⟨h1,?_⟩
         rw [ha (.t k) (.inr (by simp [ar])),hk]
         first | exact rfl | trivial
        ·exact h.elim
     ·exact h.elim
    ·exact h.elim
   ·rename_i z els t he
    split at h
    ·rename_i hb
     obtain ⟨p,h,g1⟩:=cJ h
     obtain ⟨q,h,g2⟩:=cJ h
     cases mx with
     | none =>
       simp only at h
       obtain ⟨t',h⟩:=h
       refine ⟨_,h.2,fun σ' ha=>?_⟩
       simp only [eff]
       rw [E ha (x:=x) (fun l hl=>by simp [AOp.rd,hl]),he]
       simp only [hb]
       rw [bv fun l hl=>ha l (.inl (by simp [AOp.rd,hl]))]
       refine g1 _ ?_
       rw [bv fun l hl=>ha l (.inl (by simp [AOp.rd,hl]))]
       exact g2 _ ⟨t',h.1,by first | rfl | trivial⟩
     | some mx =>
       simp only at h
       obtain ⟨r,h,g3⟩:=cJ h
       refine ⟨_,h.2,fun σ' ha=>?_⟩
       simp only [eff]
       rw [E ha (x:=x) (fun l hl=>by simp [AOp.rd,hl]),he]
       simp only [hb]
       rw [bv fun l hl=>ha l (.inl (by simp [AOp.rd,hl]))]
       refine g1 _ ?_
       rw [bv fun l hl=>ha l (.inl (by simp [AOp.rd,hl]))]
       refine g2 _ ?_
       simp only
       rw [bv fun l hl=>ha l (.inl (by simp [AOp.rd,hl]))]
       exact g3 _ ⟨h.1,by first | rfl | trivial⟩
    ·exact h.elim
   ·rename_i z b o n c t he
    split at h
    ·rename_i hb
     obtain ⟨p,h,g1⟩:=cJ h
     obtain ⟨q,h,g2⟩:=cJ h
     cases mx with
     | none =>
       simp only at h
       obtain ⟨v,h⟩:=h
       refine ⟨_,h.2,fun σ' ha=>?_⟩
       simp only [eff]
       rw [E ha (x:=x) (fun l hl=>by simp [AOp.rd,hl]),he]
       simp only [hb]
       rw [bv fun l hl=>ha l (.inl (by simp [AOp.rd,hl]))]
       refine g1 _ ?_
       rw [bv fun l hl=>ha l (.inl (by simp [AOp.rd,hl]))]
       exact g2 _ ⟨v,h.1,by first | rfl | trivial⟩
     | some mx =>
       simp only at h
       obtain ⟨r,h,g3⟩:=cJ h
       refine ⟨_,h.2,fun σ' ha=>?_⟩
       simp only [eff]
       rw [E ha (x:=x) (fun l hl=>by simp [AOp.rd,hl]),he]
       simp only [hb]
       rw [bv fun l hl=>ha l (.inl (by simp [AOp.rd,hl]))]
       refine g1 _ ?_
       rw [bv fun l hl=>ha l (.inl (by simp [AOp.rd,hl]))]
       refine g2 _ ?_
       try simp only
       rw [bv fun l hl=>ha l (.inl (by simp [AOp.rd,hl]))]
       exact g3 _ ⟨h.1,by first | rfl | trivial⟩
    ·exact h.elim
   ·exact h.elim
 | cvi d k x =>
   simp only [eff] at h
   split at h
   ·rename_i k' n he
    refine ⟨_,h.2,fun σ' ha=>?_⟩
    simp only [eff]
    rw [E ha (fun l hl=>hl),he]
    exact ⟨h.1,by first | rfl | trivial⟩
   ·exact h.elim
 | cvu d x =>
   simp only [eff] at h
   split at h
   ·rename_i n he
    refine ⟨_,h.2,fun σ' ha=>?_⟩
    simp only [eff]
    rw [E ha (fun l hl=>hl),he]
    exact ⟨h.1,by first | rfl | trivial⟩
   ·exact h.elim
 | ext d x i =>
   simp only [eff] at h
   split at h
   ·rename_i l he
    split at h
    ·rename_i v hv
     obtain ⟨h1,h⟩:=cl.1 h
     refine ⟨_,h,fun σ' ha=>?_⟩
     simp only [eff]
     rw [E ha (fun l hl=>hl),he]
     simp only [hv]
     exact cl.2 ⟨h1,rfl⟩
    ·exact h.elim
   ·exact h.elim
 | call d f as_ =>
   simp only [eff] at h
   split at h
   ·rename_i f' caps he
    obtain ⟨δ,hF,hG⟩:=nk h
    refine ⟨δ,hF,fun σ' ha=>?_⟩
    simp only [eff]
    rw [E ha (x:=f) (fun l hl=>by simp [AOp.rd,hl]),he]
    simp only
    rw [io fun l hl=>ha l (.inl (by simp [AOp.rd,hl]))]
    exact hG σ' fun l hl=>ha l (.inr hl)
   ·rename_i f' b o he
    obtain ⟨δ,hF,hG⟩:=nk h
    refine ⟨δ,hF,fun σ' ha=>?_⟩
    simp only [eff]
    rw [E ha (x:=f) (fun l hl=>by simp [AOp.rd,hl]),he]
    simp only
    rw [io fun l hl=>ha l (.inl (by simp [AOp.rd,hl]))]
    exact hG σ' fun l hl=>ha l (.inr hl)
   ·exact h.elim
 | app d sz by_ s x =>
   simp only [eff] at h
   split at h
   ·rename_i z e1 t1 z' e2 t2 he1 he2
    split at h
    ·rename_i hb1 hb2
     split at h
     ·exact h.elim
     ·refine ⟨_,h.2,fun σ' ha=>?_⟩
      simp only [eff]
      rw [E ha (x:=s) (fun l hl=>by simp [AOp.rd,hl]),E ha (x:=x) (fun l hl=>by simp [AOp.rd,hl]),he1,he2]
      simp only [hb1,hb2]
      exact ⟨h.1,by first | rfl | trivial⟩
     ·rename_i k
      split at h
      ·rename_i hk
       refine ⟨_,h.2,fun σ' ha=>?_⟩
       simp only [eff]
       rw [E ha (x:=s) (fun l hl=>by simp [AOp.rd,hl]),E ha (x:=x) (fun l hl=>by simp [AOp.rd,hl]),he1,he2]
       simp only [hb1,hb2]
       rw [ha (.t k) (.inr (by simp [ar])),hk]
       exact ⟨h.1,by first | rfl | trivial⟩
      ·exact h.elim
    ·exact h.elim
   ·exact h.elim
 | len d x =>
   simp only [eff] at h
   split at h
   ·rename_i he
    refine ⟨_,h,fun σ' ha=>?_⟩
    simp only [eff]
    rw [E ha (fun l hl=>hl),he]
   ·rename_i he
    refine ⟨_,h,fun σ' ha=>?_⟩
    simp only [eff]
    rw [E ha (fun l hl=>hl),he]
   ·rename_i he
    refine ⟨_,h,fun σ' ha=>?_⟩
    simp only [eff]
    rw [E ha (fun l hl=>hl),he]
   ·exact h.elim
 | lenS d x =>
   simp only [eff] at h
   split at h
   ·rename_i he
    refine ⟨_,h,fun σ' ha=>?_⟩
    simp only [eff]
    rw [E ha (fun l hl=>hl),he]
   ·exact h.elim
 | mx d x y =>
   simp only [eff] at h
   split at h
   ·rename_i p q he1 he2
    refine ⟨_,h,fun σ' ha=>?_⟩
    simp only [eff]
    rw [E ha (x:=x) (fun l hl=>by simp [AOp.rd,hl]),E ha (x:=y) (fun l hl=>by simp [AOp.rd,hl]),he1,he2]
   ·exact h.elim
 | rngE d x =>
   simp only [eff] at h
   split at h
   ·rename_i b he
    split at h
    ·rename_i hl
     refine ⟨_,h,fun σ' ha=>?_⟩
     have hb:look σ' (.b b)=some (.bx [.mm [] []]):=by rw [ha (.b b) (.inl (by simp [AOp.rd,he])),hl]
     simp only [eff]
     rw [E ha (x:=x) (fun l hl=>by simp [AOp.rd,hl]),he]
     simp only [hb]
    ·exact h.elim
   ·exact h.elim
 | nxtE d x =>
   simp only [eff] at h
   split at h
   ·rename_i i he
    split at h
    ·rename_i b hi
     split at h
     ·rename_i hl
      refine ⟨_,h,fun σ' ha=>?_⟩
      have h1:look σ' (.b i)=some (.bx [.mpv (.ie b)]):=by rw [ha (.b i) (.inl (by simp [AOp.rd,he])),hi]
      have h2:look σ' (.b b)=some (.bx [.mm [] []]):=by rw [ha (.b b) (.inl (by simp [AOp.rd,he,hi])),hl]
      simp only [eff]
      rw [E ha (x:=x) (fun l hl=>by simp [AOp.rd,hl]),he]
      simp only [h1,h2]
     ·exact h.elim
    ·exact h.elim
   ·exact h.elim
 | eqN d ng x =>
   simp only [eff] at h
   split at h
   all_goals first | exact h.elim | skip
   all_goals
    rename_i he
    refine ⟨_,h,fun σ' ha=>?_⟩
    simp only [eff]
    rw [E ha (fun l hl=>by simp [AOp.rd,hl]),he]
    trivial
 | bslZ d sz=>exact ⟨_,h,fun σ' _=>rfl⟩
 | mkC d sz by_ z x =>
   simp only [eff] at h
   split at h
   ·rename_i n he
    refine ⟨_,h.2,fun σ' ha=>?_⟩
    simp only [eff]
    rw [E ha (fun l hl=>by simp [AOp.rd,hl]),he]
    exact ⟨h.1,by first | rfl | trivial⟩
   ·exact h.elim
 | cpy d sz s x =>
   have Z:∀ {σ':Log} {δ:Log},(∀ l,l∈(AOp.cpy d sz s x).rd σ∨l∈ar δ→look σ' l=look σ l)→zq σ' sz (ev σ' x)=zq σ sz (ev σ x)∧ev σ' s=ev σ s∧ysl σ' sz (ev σ' x)=ysl σ sz (ev σ x):=by
    intro σ' δ ha
    have ex:ev σ' x=ev σ x:=E ha (fun l hl=>by simp [AOp.rd,hl])
    have ey:ysl σ' sz (ev σ' x)=ysl σ sz (ev σ x):=by rw [ex,jW fun l hl=>ha l (.inl (by simp [AOp.rd,hl]))]
    exact ⟨by unfold zq;rw [ey],E ha (fun l hl=>by simp [AOp.rd,hl]),ey⟩
   simp only [eff] at h
   split at h
   ·rename_i q b o n c t he
    split at h
    ·rename_i hb
     split at h
     ·rename_i hz
      refine ⟨_,h,fun σ' ha=>?_⟩
      obtain ⟨z1,z2,z3⟩:=Z ha
      simp only [eff,z1,z2,he,hb,hz]
     ·rename_i hz
      split at h
      ·rename_i m V l hy hl
       split at h
       ·exact h.elim
       ·rename_i hm
        split at h
        ·rename_i V' hV
         split at h
         ·rename_i l' hsp
          refine ⟨_,h.2,fun σ' ha=>?_⟩
          obtain ⟨z1,z2,z3⟩:=Z ha
          have B:look σ' (.b b)=some (.bx l):=by
           rw [ha (.b b) (.inr (dG.2 (.inr (by simp [ar])))),hl]
          simp only [eff,z1,z2,z3,he,hb,hz,hy,B,hm,hV,hsp]
          exact ⟨h.1,by first | rfl | trivial⟩
         ·exact h.elim
        ·exact h.elim
      ·exact h.elim
    ·exact h.elim
   ·exact h.elim
 | mn d x y =>
   simp only [eff] at h
   split at h
   ·rename_i p q he1 he2
    refine ⟨_,h,fun σ' ha=>?_⟩
    simp only [eff]
    rw [E ha (x:=x) (fun l hl=>by simp [AOp.rd,hl]),E ha (x:=y) (fun l hl=>by simp [AOp.rd,hl]),he1,he2]
   ·exact h.elim
 | mkfb d f x =>
   simp only [eff] at h
   split at h
   ·rename_i b o' he
    refine ⟨_,h,fun σ' ha=>?_⟩
    simp only [eff]
    rw [E ha (fun l hl=>by simp [AOp.rd,hl]),he]
   ·exact h.elim
 | mkf d f caps =>
   obtain ⟨h1,h⟩:=aM.1 (show eF (evs σ caps) fun caps=>F [(.s d,.av (.fn f caps))] from h)
   refine ⟨_,h,fun σ' ha=>?_⟩
   show eF (evs σ' caps) _
   rw [io fun l hl=>ha l (.inl hl),aM];exact ⟨h1,rfl⟩
 | mk d sz by_ z x =>
   simp only [eff] at h
   split at h
   ·rename_i n he
    refine ⟨_,h.2,fun σ' ha=>?_⟩
    simp only [eff]
    rw [E ha (fun l hl=>hl),he]
    exact ⟨h.1,by first | rfl | trivial⟩
   ·exact h.elim
 | mkF d sz by_ z x =>
   simp only [eff] at h
   split at h
   ·rename_i n he
    refine ⟨_,h.2,fun σ' ha=>?_⟩
    simp only [eff]
    rw [E ha (fun l hl=>hl),he]
    exact ⟨h.1,by first | rfl | trivial⟩
   ·exact h.elim
 | bslM d sz xs =>
   obtain ⟨r,hr,hG⟩:=oX (show lw σ sz xs fun vs=>F [(.s d,.av (.cs sz id 0 xs.length xs.length .full)),(.b id,.bx vs)] from h)
   exact ⟨_,hr,fun σ' ha=>hG σ' (fun l hl=>ha l (.inl hl)) _ rfl⟩
 | appM d sz by_ s x =>
   simp only [eff] at h
   split at h
   ·rename_i z e1 t1 z' e2 t2 he1 he2
    split at h
    ·rename_i hb1 hb2
     split at h
     ·exact h.elim
     ·refine ⟨_,h.2,fun σ' ha=>?_⟩
      simp only [eff]
      rw [E ha (x:=s) (fun l hl=>by simp [AOp.rd,hl]),E ha (x:=x) (fun l hl=>by simp [AOp.rd,hl]),he1,he2]
      simp only [hb1,hb2]
      exact ⟨h.1,by first | rfl | trivial⟩
     ·rename_i k
      split at h
      ·rename_i hk
       refine ⟨_,h.2,fun σ' ha=>?_⟩
       simp only [eff]
       rw [E ha (x:=s) (fun l hl=>by simp [AOp.rd,hl]),E ha (x:=x) (fun l hl=>by simp [AOp.rd,hl]),he1,he2]
       simp only [hb1,hb2]
       rw [ha (.t k) (.inr (by simp [ar])),hk]
       exact ⟨h.1,by first | rfl | trivial⟩
      ·exact h.elim
    ·exact h.elim
   ·exact h.elim
 | cap d x =>
   simp only [eff] at h
   split at h
   ·rename_i he
    refine ⟨_,h,fun σ' ha=>?_⟩
    simp only [eff]
    rw [E ha (fun l hl=>hl),he]
   ·rename_i he
    refine ⟨_,h,fun σ' ha=>?_⟩
    simp only [eff]
    rw [E ha (fun l hl=>hl),he]
   ·exact h.elim
 | iaG d cells sz x =>
   simp only [eff] at h
   split at h
   ·rename_i n he
    refine ⟨_,h.2,fun σ' ha=>?_⟩
    simp only [eff]
    rw [E ha (fun l hl=>hl),he]
    exact ⟨h.1,by first | rfl | trivial⟩
   ·exact h.elim
 | eqA d ng ks x y =>
   simp only [eff] at h
   split at h
   ·rename_i p q he1 he2
    split at h
    ·rename_i b hb
     cases ng<;>simp only at h
     all_goals
      refine ⟨_,h,fun σ' ha=>?_⟩
      simp only [eff]
      rw [E ha (x:=x) (fun l hl=>by simp [AOp.rd,hl]),E ha (x:=y) (fun l hl=>by simp [AOp.rd,hl]),he1,he2]
      simp only [hb]
    ·exact h.elim
   ·exact h.elim
 | appZ d sz by_ z s x =>
   simp only [eff] at h
   split at h
   ·rename_i q n he1 he2
    split at h
    ·rename_i hb1
     refine ⟨_,h.2,fun σ' ha=>?_⟩
     simp only [eff]
     rw [E ha (x:=s) (fun l hl=>by simp [AOp.rd,hl]),E ha (x:=x) (fun l hl=>by simp [AOp.rd,hl]),he1,he2]
     simp only [hb1]
     exact ⟨h.1,by first | rfl | trivial⟩
    ·exact h.elim
   ·exact h.elim
 | mkM d=>exact ⟨_,h,fun σ' _=>rfl⟩
 | lkM d z x k =>
   simp only [eff] at h
   split at h
   ·rename_i b n he1 he2
    split at h
    ·rename_i es hl
     cases hf:gU n es with
     | some ds =>
       simp only [hf] at h
       refine ⟨_,h,fun σ' ha=>?_⟩
       simp only [eff]
       rw [E ha (x:=x) (fun l hl=>by simp [AOp.rd,hl]),E ha (x:=k) (fun l hl=>by simp [AOp.rd,hl]),he1,he2]
       simp only
       rw [ha (.b b) (.inl (by simp [AOp.rd,he1])),hl]
       simp only [hf]
     | none =>
       simp only [hf] at h
       refine ⟨_,h,fun σ' ha=>?_⟩
       simp only [eff]
       rw [E ha (x:=x) (fun l hl=>by simp [AOp.rd,hl]),E ha (x:=k) (fun l hl=>by simp [AOp.rd,hl]),he1,he2]
       simp only
       rw [ha (.b b) (.inl (by simp [AOp.rd,he1])),hl]
       simp only [hf]
    ·exact h.elim
   ·exact h.elim
 | mkS d=>exact ⟨_,h,fun σ' _=>rfl⟩
 | lkS d ok st z x k =>
   simp only [eff] at h
   split at h
   ·rename_i r hr
    refine ⟨_,h,fun σ' ha=>?_⟩
    have hr':lkR σ' st x k=some r:=by
     unfold lkR at hr ⊢
     rw [E ha (x:=x) (fun l hl=>by simp [AOp.rd,hl]),E ha (x:=k) (fun l hl=>by simp [AOp.rd,hl])]
     split at hr
     ·rename_i b q he1 he2
      rw [ha (.b b) (.inl (by simp [AOp.rd,he1]))]
      exact hr
     ·cases hr
    simp only [eff,hr']
   ·exact h.elim
 | upS st x k v =>
   simp only [eff] at h
   split at h
   ·rename_i b m hr
    refine ⟨_,h,fun σ' ha=>?_⟩
    have hr':upR σ' st x k v=some (b,m):=by
     unfold upR at hr ⊢
     rw [E ha (x:=x) (fun l hl=>by simp [AOp.rd,hl]),E ha (x:=k) (fun l hl=>by simp [AOp.rd,hl]),E ha (x:=v) (fun l hl=>by simp [AOp.rd,hl])]
     split at hr
     ·rename_i b' q v' he1 he2 he3
      have hb':b'=b:=by
       split at hr
       ·split at hr
        ·simp only [Option.some.injEq,Prod.mk.injEq] at hr;exact hr.1
        ·cases hr
       ·cases hr
      subst hb'
      rw [ha (.b b') (.inr (by simp [ar]))]
      exact hr
     ·cases hr
    simp only [eff,hr']
   ·exact h.elim
 | upM x k v =>
   simp only [eff] at h
   split at h
   ·rename_i b n he1 he2
    split at h
    ·rename_i es hl
     split at h
     ·rename_i l hv
      obtain ⟨h1,h⟩:=aM.1 h
      split at h
      ·rename_i ds hc
       refine ⟨_,h,fun σ' ha=>?_⟩
       simp only [eff]
       rw [E ha (x:=x) (fun l hl=>by simp [AOp.rd,hl]),E ha (x:=k) (fun l hl=>by simp [AOp.rd,hl]),E ha (x:=v) (fun l hl=>by simp [AOp.rd,hl]),he1,he2]
       simp only
       rw [ha (.b b) (.inr (by simp [ar])),hl]
       simp only [hv]
       rw [aM]
       refine ⟨h1,?_⟩
       simp only [hc]
      ·exact h.elim
     ·exact h.elim
    ·exact h.elim
   ·exact h.elim
 | appC d sz by_ s x =>
   have Z:∀ {σ':Log} {δ:Log},(∀ l,l∈(AOp.appC d sz by_ s x).rd σ∨l∈ar δ→look σ' l=look σ l)→zq σ' sz (ev σ' x)=zq σ sz (ev σ x)∧ev σ' s=ev σ s:=by
    intro σ' δ ha
    have ex:ev σ' x=ev σ x:=E ha (fun l hl=>by simp [AOp.rd,hl])
    exact ⟨by unfold zq;rw [ex,jW fun l hl=>ha l (.inl (by simp [AOp.rd,hl]))],E ha (fun l hl=>by simp [AOp.rd,hl])⟩
   cases hz:zq σ sz (ev σ x) with
   | true=>
    simp only [eff,hz] at h
    split at h
    ·rename_i h0
     obtain ⟨h1,h⟩:=cl.1 h
     refine ⟨_,h,fun σ' ha=>?_⟩
     obtain ⟨z1,z2⟩:=Z ha
     simp only [eff,z1,z2,hz,h0]
     rw [cl]
     exact ⟨h1,by first | rfl | trivial⟩
    ·exact h.elim
   | false=>
   simp only [eff,hz] at h
   split at h
   ·exact h.elim
   ·rename_i m V hy
    have Y:∀ {σ':Log} {δ:Log},(∀ l,l∈(AOp.appC d sz by_ s x).rd σ∨l∈ar δ→look σ' l=look σ l)→ysl σ' sz (ev σ' x)=some (m,V)∧ev σ' s=ev σ s:=by
     intro σ' δ ha
     have ex:ev σ' x=ev σ x:=E ha (fun l hl=>by simp [AOp.rd,hl])
     exact ⟨by rw [ex,jW fun l hl=>ha l (.inl (by simp [AOp.rd,hl])),hy],E ha (fun l hl=>by simp [AOp.rd,hl])⟩
    split at h
    ·rename_i z e1 he
     split at h
     ·rename_i hb
      refine ⟨_,h.2,fun σ' ha=>?_⟩
      obtain ⟨y1,y2⟩:=Y ha
      have z1:=(Z ha).1.trans hz
      simp only [eff,z1,y1,y2,he,hb]
      exact ⟨h.1,by first | rfl | trivial⟩
     ·exact h.elim
    ·rename_i z b o n c t he
     split at h
     ·rename_i hb
      split at h
      ·rename_i l hl
       have B:∀ {σ':Log} {δ:Log},(∀ l,l∈(AOp.appC d sz by_ s x).rd σ∨l∈ar δ→look σ' l=look σ l)→look σ' (.b b)=some (.bx l):=fun ha=>by
        rw [ha (.b b) (.inl (by simp [AOp.rd,he,bxR])),hl]
       split at h
       ·exact h.elim
       ·rename_i hm
        split at h
        ·rename_i hle
         split at h
         ·rename_i l' hsp
          refine ⟨_,h.2,fun σ' ha=>?_⟩
          obtain ⟨y1,y2⟩:=Y ha
          have z1:=(Z ha).1.trans hz
          simp only [eff,z1,y1,y2,he,hb,B ha,hm,hle,hsp]
          exact ⟨h.1,by first | rfl | trivial⟩
         ·exact h.elim
        ·rename_i hle
         split at h
         ·exact h.elim
         ·rename_i l0 hsb
          cases t with
          | none=>exact h.elim
          | full =>
            refine ⟨_,h.2,fun σ' ha=>?_⟩
            obtain ⟨y1,y2⟩:=Y ha
            have z1:=(Z ha).1.trans hz
            simp only [eff,z1,y1,y2,he,hb,B ha,hm,hle,hsb]
            exact ⟨h.1,by first | rfl | trivial⟩
          | t k =>
            simp only at h
            split at h
            ·rename_i hk
             refine ⟨_,h.2,fun σ' ha=>?_⟩
             obtain ⟨y1,y2⟩:=Y ha
             have z1:=(Z ha).1.trans hz
             simp only [eff,z1,y1,y2,he,hb,B ha,hm,hle,hsb]
             rw [ha (.t k) (.inr (by simp [ar])),hk]
             exact ⟨h.1,by first | rfl | trivial⟩
            ·exact h.elim
      ·exact h.elim
     ·exact h.elim
    ·exact h.elim
 | clrC sz z x =>
   simp only [eff] at h
   split at h
   ·rename_i q b o n c t he
    split at h
    ·rename_i hb
     split at h
     ·rename_i l hl
      split at h
      ·exact h.elim
      ·rename_i hm
       split at h
       ·rename_i l' hsp
        refine ⟨_,h.2,fun σ' ha=>?_⟩
        simp only [eff]
        rw [E ha (fun l hl=>hl),he]
        simp only [hb]
        rw [ha (.b b) (.inr (by simp [ar])),hl]
        simp only [hm,hsp]
        exact ⟨h.1,by first | rfl | trivial⟩
       ·exact h.elim
     ·exact h.elim
    ·exact h.elim
   ·exact h.elim
 | eqP d fn neg x y =>
   simp only [eff] at h
   split at h
   ·rename_i b o b' o' he1 he2
    split at h
    ·rename_i hb
     refine ⟨_,h,fun σ' ha=>?_⟩
     simp only [eff]
     rw [E ha (x:=x) (fun l hl=>by simp [AOp.rd,hl]),E ha (x:=y) (fun l hl=>by simp [AOp.rd,hl]),he1,he2]
     simp only [hb]
    ·exact h.elim
   all_goals first
    | exact h.elim
    | (rename_i he1 he2
       refine ⟨_,h,fun σ' ha=>?_⟩
       simp only [eff]
       rw [E ha (x:=x) (fun l hl=>by simp [AOp.rd,hl]),E ha (x:=y) (fun l hl=>by simp [AOp.rd,hl]),he1,he2]
       first | done | trivial | rfl)
 | rngS d x =>
   simp only [eff] at h
   split at h
   ·rename_i l he
    refine ⟨_,h,fun σ' ha=>?_⟩
    simp only [eff]
    rw [E ha (fun l hl=>hl),he]
   ·exact h.elim
 | nxtS d x =>
   simp only [eff] at h
   split at h
   ·rename_i b he
    split at h
    ·rename_i l p hl
     split at h
     ·rename_i hp
      refine ⟨_,h.2,fun σ' ha=>?_⟩
      simp only [eff]
      rw [E ha (fun l hl=>hl),he]
      simp only
      rw [ha (.b b) (.inr (by simp [ar])),hl]
      simp only [hp]
      exact ⟨h.1,by first | rfl | trivial⟩
     ·rename_i c hp
      refine ⟨_,h.2,fun σ' ha=>?_⟩
      simp only [eff]
      rw [E ha (fun l hl=>hl),he]
      simp only
      rw [ha (.b b) (.inr (by simp [ar])),hl]
      simp only [hp]
      exact ⟨h.1,by first | rfl | trivial⟩
    ·exact h.elim
   ·exact h.elim
end Go.Abs
namespace Go.Abs
open Go Go.MapKept
def EntV (I:Nat→Nat→Prop) (w:World) (ds:List Data) (v:Value):Prop:=∃ cs,v=.agg cs∧cs.size=ds.length∧∀ (j:Nat) (d:Data),ds[j]? = some d→RepD I w d (cs.getD j undef)
theorem gT {I:Nat→Nat→Prop} {w:World} {n:Int}:∀ {es:List (Int × List Data)} {E:List MapEntry} (i:Nat),RepM I w es E →
  (∃ ds,gU n es=some ds∧∃ j e,Instr.findNow (.int .i64) (.int .i64 n) E i=some (some (i+j,e.val))∧E[j]? = some e∧e.key=.int .i64 n∧EntV I w ds e.val ∧
   ∀ x v,EntV I w x v→RepM I w (ln n x es) (E.modify j fun e=>{ e with key:=.int .i64 n,val:=v })) ∨
  (gU n es=none∧Instr.findNow (.int .i64) (.int .i64 n) E i=some none∧∀ x v b,EntV I w x v→RepM I w (ln n x es) (E++[{ key:=.int .i64 n,val:=v,born:=b }]))
 | [],[],i,_=>.inr ⟨rfl,rfl,fun x v b h=>⟨⟨rfl,h⟩,trivial⟩⟩
 | (m, ds) :: r, e :: s, i, ⟨⟨h1, h2⟩, h3⟩ => by
   by_cases hn:n=m
   ·subst hn
    refine .inl ⟨ds,by simp [gU],0,e,?_,rfl,h1,h2,fun x v h=>?_⟩
    ·simp [Instr.findNow,h1,Instr.sameNow]
    ·simp only [ln,decide_true]
     exact ⟨⟨rfl,h⟩,h3⟩
   ·have hb:(n == m)=false:=by simpa using hn
    rcases gT (n:=n) (i+1) h3 with ⟨ds',g1,j,e',g2,g3,g4,g5,g6⟩ | ⟨g1,g2,g3⟩
    ·refine .inl ⟨ds',by simp [gU,hn,g1],j+1,e',?_,by simpa using g3,g4,g5,fun x v h=>?_⟩
     ·simp only [Instr.findNow,h1,Instr.sameNow,if_true,hb]
      rw [g2,Nat.add_assoc,Nat.add_comm 1 j]
     ·simp only [ln,hn,decide_false]
      exact ⟨⟨h1,h2⟩,g6 x v h⟩
    ·refine .inr ⟨by simp [gU,hn,g1],?_,fun x v b h=>?_⟩
     ·simp only [Instr.findNow,h1,Instr.sameNow,if_true,hb]
      exact g2
     ·simp only [ln,hn,decide_false]
      exact ⟨⟨h1,h2⟩,g3 x v b h⟩
theorem chg_setMap {O:Nat→Nat→Prop} {w:World} {r:Nat} {ob ob':Obj} (hb:w.heap[r]? = some ob) (hn0:noRow ob) (hn':noRow ob') (ho:O r 0):Chg O w { w with heap:=w.heap.setIfInBounds r ob' }:={
 os:=rfl
 tape:=rfl
 output:=rfl
 size:=by simp
 same b hb' hn:=(heap_set hb).2 b fun e=>hn 0 (e ▸ ho)
 cells b C ty fz h:=by
  have hne:b≠r:=fun e=>by subst e;rw [hb] at h;cases h;exact hn0
  exact ⟨C,((heap_set hb).2 b hne).trans h,rfl,fun _ _=>rfl⟩
 maps b ob h hn:=by
  by_cases e:b=r
  ·subst e;exact ⟨_,(heap_set hb).1,hn'⟩
  ·exact ⟨ob,((heap_set hb).2 b e).trans h,hn⟩ }
theorem RepS.storeM {W0:World} {κ:Gh} {σ:Log} {a:Act} {w:World} (hs:RepS W0 κ σ a w) {b:Nat} {x0 x1:AV} (hb:look σ (.b b)=some (.bx [x0]))
  {ob ob':Obj} (hn0:noRow ob) (hp:(κ.ι b).2=0) (hg:w.heap[(κ.ι b).1]? = some ob) (hA0:isMA x0=true) (hm:RepMX κ w x1 ob') :
  RepS W0 κ ((.b b,.bx [x1])::σ) a { w with heap:=w.heap.setIfInBounds (κ.ι b).1 ob' }∧Step κ σ w κ ((.b b,.bx [x1])::σ) { w with heap:=w.heap.setIfInBounds (κ.ι b).1 ob' }:=by
 have hO:Own κ σ (κ.ι b).1 0:=.inl ⟨b,_,hb,rfl,by simp only [spb,hp];omega,by simp only [spb,hp];simp⟩
 have hchg:Chg (Own κ σ) w { w with heap:=w.heap.setIfInBounds (κ.ι b).1 ob' }:=chg_setMap hg hn0 hm.noRow hO
 have hsz:({ w with heap:=w.heap.setIfInBounds (κ.ι b).1 ob' }:World).heap.size=w.heap.size:=by simp
 have hheap:∀ k,k≠(κ.ι b).1→({ w with heap:=w.heap.setIfInBounds (κ.ι b).1 ob' }:World).heap[k]? = w.heap[k]?:=fun k h=>(heap_set hg).2 k h
 have hnew:({ w with heap:=w.heap.setIfInBounds (κ.ι b).1 ob' }:World).heap[(κ.ι b).1]? = some ob':=(heap_set hg).1
 have hout:({ w with heap:=w.heap.setIfInBounds (κ.ι b).1 ob' }:World).os=w.os∧({ w with heap:=w.heap.setIfInBounds (κ.ι b).1 ob' }:World).tape=w.tape∧({ w with heap:=w.heap.setIfInBounds (κ.ι b).1 ob' }:World).output=w.output:=⟨rfl,rfl,rfl⟩
 generalize ({ w with heap:=w.heap.setIfInBounds (κ.ι b).1 ob' }:World)=w' at hchg hsz hheap hnew hout ⊢
 have e:Ext κ w κ w':=⟨fun _ _ h=>h,fun b o h=>hchg.cell hs h,fun _ h=>⟨h,rfl⟩,fun _ h=>⟨h,rfl⟩⟩
 have hB:∀ {b' m},look ((.b b,.bx [x1])::σ) (.b b')=some (.bx m)→(b'=b∧m=[x1])∨(b'≠b∧look σ (.b b')=some (.bx m)):=by
  intro b' m h
  rw [af] at h
  by_cases hh:b=b'
  ·subst hh;simp at h;exact .inl ⟨rfl,h.symm⟩
  ·have:(Loc.b b=Loc.b b')=False:=by simp [hh]
   simp only [this,if_false] at h
   exact .inr ⟨fun x=>hh x.symm,h⟩
 have hB':∀ {b' m},look ((.b b,.bx [x1])::σ) (.b b')=some (.bx m)→∃ m',look σ (.b b')=some (.bx m')∧spb κ b' m=spb κ b' m':=by
  intro b' m h
  rcases hB h with ⟨rfl,rfl⟩ | ⟨_,h⟩
  ·exact ⟨_,hb,rfl⟩
  ·exact ⟨m,h,rfl⟩
 have ht:∀ k,look ((.b b,.bx [x1])::σ) (.t k)=look σ (.t k):=fun k=>by simp [af]
 have hss:∀ k,look ((.b b,.bx [x1])::σ) (.s k)=look σ (.s k):=fun k=>by simp [af]
 have hown':∀ b' o,Own κ ((.b b,.bx [x1])::σ) b' o→Own κ σ b' o:=by
  rintro b' o (⟨id,m,hm,hi⟩ | ⟨k,hk,hi⟩)
  ·obtain ⟨m',hm',hsp⟩:=hB' hm;exact .inl ⟨id,m',hm',hsp ▸ hi⟩
  ·rw [ht] at hk;exact .inr ⟨k,hk,hi⟩
 refine ⟨⟨fun n v h=>by rw [hss] at h;exact (hs.slots n v h).mono e,?_,?_,?_,?_,?_,fun b' o ho=>hs.sepI b' o (hown' b' o ho),fun b' o h=>by rw [hsz];exact hs.Icell b' o h,hs.old,by rw [hsz];exact hs.size0,hchg.amb hs,hs.defers,hout.1.trans hs.os,hout.2.1.trans hs.tape,hout.2.2.trans hs.output⟩,
  ⟨hchg,fun b' o h=>.inl (hown' b' o h),fun _ _ h=>h,fun _ _ h=>.inl h,fun _ _ h=>⟨h,rfl⟩,fun _ _ h=>⟨h,rfl⟩⟩⟩
 ·intro b' m h
  rcases hB h with ⟨rfl,rfl⟩ | ⟨hn,h⟩
  ·obtain ⟨h1,h2,_⟩:=hs.boxes b' _ hb
   exact ⟨h1,h2,.inr ⟨x1,ob',rfl,hp,hnew,hm.ext e⟩⟩
  ·obtain ⟨h1,h2,hbx⟩:=hs.boxes b' m h
   by_cases hx:(κ.ι b').1=(κ.ι b).1
   ·exfalso
    rcases hbx with ⟨_,C,ty',h3,h4⟩ | ⟨es1,ob1,e1,e2,e3,_⟩
    ·rw [hx,hg] at h3;cases h3;exact hn0
    ·subst e1
     refine hs.binj b' b _ _ h hb hn (κ.ι b).1 0 ⟨hx,by simp only [spb,e2];omega,by simp only [spb,e2];simp⟩ ⟨rfl,by simp only [spb,hp];omega,by simp only [spb,hp];simp⟩
   ·exact ⟨h1,h2,hbx.mono e (hheap _ hx)⟩
 ·intro b1 b2 m1 m2 h1 h2 hne x o hi hi'
  obtain ⟨m1',h1',e1⟩:=hB' h1
  obtain ⟨m2',h2',e2⟩:=hB' h2
  rw [e1] at hi
  rw [e2] at hi'
  exact hs.binj b1 b2 m1' m2' h1' h2' hne x o hi hi'
 ·intro k h
  rw [ht] at h
  obtain ⟨h1,h2⟩:=hs.toks k h
  refine ⟨h1,fun hh=>?_⟩
  obtain ⟨h3,C',ty',h4,h5⟩:=h2 hh
  have hx:(κ.τ k).1≠(κ.ι b).1:=fun hx=>by rw [hx,hg] at h4;cases h4;exact hn0
  exact ⟨h3,C',ty',by rw [hheap _ hx];exact h4,h5⟩
 ·intro k k' h h';rw [ht] at h h';exact hs.tdis k k' h h'
 ·intro k id m h h' x o hi hi'
  rw [ht] at h
  obtain ⟨m',hm',e1⟩:=hB' h'
  rw [e1] at hi'
  exact hs.tbox k id m' h hm' x o hi hi'
section ops
variable {P:Program} {W0:World} {κ:Gh} {σ:Log} {a:Act} {w:World} {id:Nat} {F:Log→Prop} {call:aX} {o:Oper} {Q:Exit→Act→World→Prop} {d:Nat}
theorem s_mkM (hs:RepS W0 κ σ a w) (hf:Fresh κ id) {t:TypeId} (ho:o.op=.makeMap t none) (hd:o.dst=some d) (hN:d<a.tmps.size) (h:eff call σ id (.mkM d) F):o.wp P a w (After W0 κ σ a w id F) Q:=by
 have hid:¬ κ.Db id:=hf.db id (Nat.le_refl _) (by omega)
 obtain ⟨r1,r2,_⟩:=hs.boxO (id:=id) (l:=[.mpv (.m [])]) (ob:=.map #[] 0) hid fun κ' e=>.inr ⟨.mpv (.m []),.map #[] 0,rfl,rfl,heap_alloc_new,trivial⟩
 refine ai (x:=.map (some w.heap.size)) (w':=w.alloc (.map #[] 0)) ?_ ?_
 ·simp [execOp,ho,Instr.makeMap,Result.andThen]
 ·rw [hd]
  refine ⟨_,{ κ with Db:=fun b=>κ.Db b∨b=id,ι:=fun b=>if b=id then (w.heap.size,0) else κ.ι b },h,?_,?_,put_size,⟨fun b hb=>?_,fun k hk=>.inl hk⟩⟩
  ·refine r1.put hN ?_
   have:=RepV.mr (κ:={ κ with Db:=fun b=>κ.Db b∨b=id,ι:=fun b=>if b=id then (w.heap.size,0) else κ.ι b }) (w:=w.alloc (.map #[] 0)) id (.inr rfl)
   simpa using this
  ·exact r2.trans Step.put
  ·rcases (show κ.Db b∨b=id from hb) with hb | rfl
   ·exact .inl hb
   ·exact .inr ⟨Nat.le_refl _,by omega⟩
theorem kV {ds:List Data} {cs:Array Value} (h1:cs.size=ds.length) (h2:∀ (j:Nat) (d:Data),ds[j]? = some d→RepD κ.I w d (cs.getD j undef)):RepV κ w (.agg (ds.map aQ)) (.agg cs):=by
 refine .agg _ cs (by simpa using h1) ?_ fun j v hj=>?_
 ·intro v hv
  obtain ⟨d,_,rfl⟩:=List.mem_map.1 hv
  cases d<;>rfl
 ·rw [List.getElem?_map] at hj
  cases hd:ds[j]? with
  | none=>rw [hd] at hj;cases hj
  | some dd =>
    rw [hd] at hj
    simp only [Option.map_some,Option.some.injEq] at hj
    subst hj
    exact (kv (h2 j dd hd)).1
theorem s_lkM (hs:RepS W0 κ σ a w) {x k:Operand} {x' k':Opd} {t kt e:TypeId} {i:TypeInfo} {z:List Data} {v0:Value} (ho:o.op=.lookup t x k true) (hd:o.dst=some d) (hx:ax none x=some x') (hk:ax none k=some k')
  (ht:P.underlying t=some (.map kt e)) (hkt:P.underlying kt=some (.int .i64)) (hi:P.info? e=some i) (hv0:i.zero=some v0) (hz:∀ (κ:Gh) (w:World),RepV κ w (.agg (z.map aQ)) v0) (hN:d<a.tmps.size)
  (h:eff call σ id (.lkM d z x' k') F):o.wp P a w (After W0 κ σ a w id F) Q:=by
 simp only [eff] at h
 split at h
 ·rename_i b n he1 he2
  have hrx:=am hs hx
  have hrk:=am hs hk
  rw [he1] at hrx
  rw [he2] at hrk
  obtain ⟨_,hpx⟩:=hrx.mr_inv
  have hpk:=hrk.sc_inv
  split at h
  ·rename_i es hl
   obtain ⟨_,_,hB⟩:=hs.boxes b _ hl
   rcases hB with ⟨h0,_⟩ | ⟨es',ob,e1,e2,e3,e4⟩
   ·cases h0
   cases e1
   obtain ⟨E,c,rfl⟩:∃ E c,ob=.map E c:=by cases ob<;>first | exact e4.elim | exact ⟨_,_,rfl⟩
   replace e4:RepM κ.I w es E.toList:=e4
   have hkey:IsKey (.int .i64) (.int .i64 n):=rfl
   have pair:∀ {u:AV} {y:Value} {bb:Bool},RepV κ w u y→RepV κ w (.tup [u,.sc (.b bb)]) (.tuple #[y,.bool bb]):=by
    intro u y bb hu
    refine .tup _ #[y,.bool bb] rfl fun j v hj=>?_
    match j,hj with
    | 0,hj=>simp at hj;subst hj;exact hu
    | 1,hj=>simp at hj;subst hj;exact .sc (.b bb)
   rcases gT (n:=n) 0 e4 with ⟨ds,g1,j,e',g2,g3,g4,⟨cs,g5,g6,g7⟩,_⟩ | ⟨g1,g2,_⟩
   ·simp only [g1] at h
    refine ai (x:=.tuple #[.agg cs,.bool true]) (w':=w) ?_ ?_
    ·simp [execOp,ho,hpx,hpk,Sc.val,Instr.lookup,run_underlying ht,MapKept.run_getObj_map e3,MapKept.run_checkKey hkt hkey,MapKept.run_findKey hkt g2,Result.andThen,g5]
    ·rw [hd]
     exact .put hs hN (pair (kV g6 g7)) h
   ·simp only [g1] at h
    refine ai (x:=.tuple #[v0,.bool false]) (w':=w) ?_ ?_
    ·simp [execOp,ho,hpx,hpk,Sc.val,Instr.lookup,run_underlying ht,MapKept.run_getObj_map e3,MapKept.run_checkKey hkt hkey,MapKept.run_findKey hkt g2,Result.andThen,zeroValue,run_typeInfo w hi,hv0]
    ·rw [hd]
     exact .put hs hN (pair (hz κ w)) h
  ·exact h.elim
 ·exact h.elim
theorem s_upM (hs:RepS W0 κ σ a w) {x k v:Operand} {x' k' v':Opd} {t kt e:TypeId} (ho:o.op=.mapUpdate t x k v) (hd:o.dst=none) (hx:ax none x=some x') (hk:ax none k=some k') (hv:ax none v=some v')
  (ht:P.underlying t=some (.map kt e)) (hkt:P.underlying kt=some (.int .i64))
  (h:eff call σ id (.upM x' k' v') F):o.wp P a w (After W0 κ σ a w id F) Q:=by
 simp only [eff] at h
 split at h
 ·rename_i b n he1 he2
  have hrx:=am hs hx
  have hrk:=am hs hk
  have hrv:=am hs hv
  rw [he1] at hrx
  rw [he2] at hrk
  obtain ⟨_,hpx⟩:=hrx.mr_inv
  have hpk:=hrk.sc_inv
  split at h
  ·rename_i es hl
   split at h
   ·rename_i l hvl
    rw [hvl] at hrv
    obtain ⟨vs,hpv,hL⟩:=hrv.agg_inv
    obtain ⟨_,h⟩:=aM.1 h
    split at h
    ·rename_i ds hds
     obtain ⟨c1,c2⟩:=b9 hds
     have hent:EntV κ.I w ds (.agg vs):=by
      refine ⟨vs,rfl,by rw [hL.1,c1],fun j dd hj=>?_⟩
      have hjl:j<l.length:=by rw [← c1];exact (List.getElem?_eq_some_iff.1 hj).1
      obtain ⟨dd',g1,g2⟩:=c2 j l[j] (List.getElem?_eq_getElem hjl)
      rw [hj] at g1
      cases g1
      exact dq (hL.2.2 j _ (List.getElem?_eq_getElem hjl)) g2
     obtain ⟨_,_,hB⟩:=hs.boxes b _ hl
     rcases hB with ⟨h0,_⟩ | ⟨es',ob,e1,e2,e3,e4⟩
     ·cases h0
     cases e1
     obtain ⟨E,c,rfl⟩:∃ E c,ob=.map E c:=by cases ob<;>first | exact e4.elim | exact ⟨_,_,rfl⟩
     replace e4:RepM κ.I w es E.toList:=e4
     have hkey:IsKey (.int .i64) (.int .i64 n):=rfl
     rcases gT (n:=n) 0 e4 with ⟨ds0,g1,j,e',g2,g3,g4,_,g6⟩ | ⟨g1,g2,g6⟩
     ·have hm:=g6 ds (.agg vs) hent
      obtain ⟨r1,r2⟩:=hs.storeM hl (ob:=.map E c) (x1:=.mpv (.m (ln n ds es))) (ob':=.map (E.modify j fun e=>{ e with key:=.int .i64 n,val:=.agg vs }) c) trivial e2 e3 rfl (show RepM _ _ _ _ by simpa using hm)
      refine gv (w':={ w with heap:=w.heap.setIfInBounds (κ.ι b).1 (.map (E.modify j fun e=>{ e with key:=.int .i64 n,val:=.agg vs }) c) }) ?_ ?_
      ·have g3':E[j]? = some e':=by simpa using g3
       simp [execOp,ho,hpx,hpk,hpv,Sc.val,Instr.mapUpdate,run_underlying ht,MapKept.run_getObj_map e3,MapKept.run_checkKey hkt hkey,MapKept.run_findKey hkt g2,Result.andThen,g3',g4,MapKept.run_keyThatStays hkey,MapKept.run_setObj_map _ e3]
      ·rw [hd]
       exact ⟨_,κ,h,r1,r2,rfl,Grow.refl _ _⟩
     ·have hm:=g6 ds (.agg vs) c hent
      obtain ⟨r1,r2⟩:=hs.storeM hl (ob:=.map E c) (x1:=.mpv (.m (ln n ds es))) (ob':=.map (E.push { key:=.int .i64 n,val:=.agg vs,born:=c }) (c+1)) trivial e2 e3 rfl (show RepM _ _ _ _ by simpa using hm)
      refine gv (w':={ w with heap:=w.heap.setIfInBounds (κ.ι b).1 (.map (E.push { key:=.int .i64 n,val:=.agg vs,born:=c }) (c+1)) }) ?_ ?_
      ·simp [execOp,ho,hpx,hpk,hpv,Sc.val,Instr.mapUpdate,run_underlying ht,MapKept.run_getObj_map e3,MapKept.run_checkKey hkt hkey,MapKept.run_findKey hkt g2,Result.andThen,MapKept.run_setObj_map _ e3]
      ·rw [hd]
       exact ⟨_,κ,h,r1,r2,rfl,Grow.refl _ _⟩
    ·exact h.elim
   ·exact h.elim
  ·exact h.elim
 ·exact h.elim
end ops
end Go.Abs
namespace Go.Abs
open Go
section ops
variable {P:Program} {W0:World} {κ:Gh} {σ:Log} {a:Act} {w:World} {id:Nat} {F:Log→Prop} {call:aX} {o:Oper} {Q:Exit→Act→World→Prop} {d:Nat} {z:Option Nat}
theorem Ext.drawn {dr:Nat}:Ext κ w κ { w with drawn:=dr }:=⟨fun _ _ h=>h,fun _ _ _=>rfl,fun _ h=>⟨h,rfl⟩,fun _ h=>⟨h,rfl⟩⟩
theorem RepS.husk (hs:RepS W0 κ σ a w) {b:Nat} (h1:κ.Db b) (h2:W0.heap.size≤(κ.ι b).1) {C:Array Value} {ty:TypeId} (h3:w.heap[(κ.ι b).1]? = some (.cells C ty (0,0))) (h4:(κ.ι b).2≤C.size) :
  RepS W0 κ ((.b b,.bx [])::σ) a w∧Step κ σ w κ ((.b b,.bx [])::σ) w:=by
 have hB:∀ {b' m},look ((.b b,.bx [])::σ) (.b b')=some (.bx m)→(b'=b∧m=[])∨(b'≠b∧look σ (.b b')=some (.bx m)):=by
  intro b' m h
  rw [af] at h
  by_cases hh:b=b'
  ·subst hh;simp at h;exact .inl ⟨rfl,by first | exact h | exact h.symm⟩
  ·have:(Loc.b b=Loc.b b')=False:=by simp [hh]
   simp only [this,if_false] at h
   exact .inr ⟨fun x=>hh x.symm,h⟩
 have hno:∀ x o,¬ aZ (spb κ b []) x o:=by rintro x o ⟨_,g2,g3⟩;simp only [spb,List.length_nil] at g2 g3;omega
 have ht:∀ k,look ((.b b,.bx [])::σ) (.t k)=look σ (.t k):=fun k=>by simp [af]
 have hss:∀ k,look ((.b b,.bx [])::σ) (.s k)=look σ (.s k):=fun k=>by simp [af]
 have hown':∀ b' o,Own κ ((.b b,.bx [])::σ) b' o→Own κ σ b' o:=by
  rintro b' o (⟨id,m,hm,hi⟩ | ⟨k,hk,hi⟩)
  ·rcases hB hm with ⟨rfl,rfl⟩ | ⟨_,hm⟩
   ·exact (hno _ _ hi).elim
   ·exact .inl ⟨id,m,hm,hi⟩
  ·rw [ht] at hk;exact .inr ⟨k,hk,hi⟩
 refine ⟨⟨fun n v h=>by rw [hss] at h;exact hs.slots n v h,?_,?_,fun k h=>by rw [ht] at h;exact hs.toks k h,fun k k' h h'=>by rw [ht] at h h';exact hs.tdis k k' h h',?_,fun b' o ho=>hs.sepI b' o (hown' b' o ho),hs.Icell,hs.old,hs.size0,hs.amb,hs.defers,hs.os,hs.tape,hs.output⟩,
  ⟨.refl _ _,fun b' o h=>.inl (hown' b' o h),fun _ _ h=>h,fun _ _ h=>.inl h,fun _ _ h=>⟨h,rfl⟩,fun _ _ h=>⟨h,rfl⟩⟩⟩
 ·intro b' m h
  rcases hB h with ⟨rfl,rfl⟩ | ⟨_,h⟩
  ·exact ⟨h1,h2,.inl ⟨rfl,C,ty,h3,by simpa using h4,by simp,by simp⟩⟩
  ·exact hs.boxes b' m h
 ·intro b1 b2 m1 m2 g1 g2 hne x o hi hi'
  rcases hB g1 with ⟨rfl,rfl⟩ | ⟨_,g1⟩
  ·exact (hno _ _ hi).elim
  ·rcases hB g2 with ⟨rfl,rfl⟩ | ⟨_,g2⟩
   ·exact (hno _ _ hi').elim
   ·exact hs.binj b1 b2 m1 m2 g1 g2 hne x o hi hi'
 ·intro k id m h h' x o hi hi'
  rw [ht] at h
  rcases hB h' with ⟨rfl,rfl⟩ | ⟨_,h'⟩
  ·exact (hno _ _ hi').elim
  ·exact hs.tbox k id m h h' x o hi hi'
theorem cs_step {κ1:Gh} {σ1:Log} {w1:World} (hs:RepS W0 κ1 σ1 a w1) {k id:Nat} (hk:look σ1 (.t k)=some (.tk true)) (hid:¬ κ1.Db id) (hidt:¬ κ1.Dt id) {g p sz cap n:Nat} {L:List AV}
  (hτ:κ1.τ k=(g,p,p+cap * sz)) (hL:L.length=n * sz) (hpos:0<n * sz) (hcap:n≤cap) {C:Array Value} {ty:TypeId} (hg:w1.heap[g]? = some (.cells C ty (0,0))) (hR:RepC κ1 w1 L C p) :
  ∃ κ2, RepS W0 κ2 ((.b id, .bx L) :: (.t id, .tk true) :: (.t k, .tk false) :: σ1) a w1 ∧ Step κ1 σ1 w1 κ2 ((.b id, .bx L) :: (.t id, .tk true) :: (.t k, .tk false) :: σ1) w1 ∧
    RepV κ2 w1 (.cs sz id 0 n n (.t id)) (.slice (some ⟨g,p,none⟩) n cap)∧(∀ b,κ2.Db b→κ1.Db b∨b=id)∧(∀ b,κ2.Dt b→κ1.Dt b∨b=id)∧(∀ b,κ1.Db b→κ2.Db b)∧(∀ b,κ1.Db b→κ2.ι b=κ1.ι b):=by
 have hfit:p+L.length≤p+cap * sz:=by
  rw [hL]
  exact Nat.add_le_add_left (Nat.mul_le_mul_right _ hcap) _
 obtain ⟨r,s,e⟩:=hs.split hk hid hidt hτ (by rw [hL];exact hpos) hfit hg hR
 refine ⟨_,r,s,?_,fun b hb=>hb,fun b hb=>hb,fun b hb=>.inl hb,fun b hb=>(e.db b hb).2⟩
 have:=RepV.cs (κ:={ κ1 with Db:=fun b=>κ1.Db b∨b=id,ι:=fun b=>if b=id then (g,p) else κ1.ι b,Dt:=fun j=>κ1.Dt j∨j=id,τ:=fun j=>if j=id then (g,p+L.length,p+cap * sz) else κ1.τ j })
  (w:=w1) sz id 0 n n (.t id) cap (.inr rfl) (Nat.le_refl _) hcap ⟨.inr rfl,by
   intro A m c ev _
   simp only [if_true,Value.slice.injEq,Option.some.injEq] at ev
   obtain ⟨rfl,rfl,rfl⟩:=ev
   simp only [if_true,hL,Nat.add_zero]⟩
 simpa using this
theorem cs_grown (hs:RepS W0 κ σ a w) (off:Option Nat) (hoff:∀ k,off=some k→look σ (.t k)=some (.tk true)) {i0 i1:Nat} (h0:¬ κ.Dt i0) (h1:¬ κ.Db i1) (h1t:¬ κ.Dt i1) (hne:i1≠i0) {sz n newCap:Nat} (hpos:0<n * sz)
  {l:List AV} {L:List Value} (hl:l.length=n * sz) (hL:L.length=n * sz) (hrep:∀ (j:Nat) (v:AV),l[j]? = some v→RepV κ w v (L.getD j undef)∧one v=true) (hcap:n≤newCap) {Z:Array Value} (hZ:Z.size=(newCap - n) * sz) (dr:Nat) (e:TypeId) :
  ∃ κ2, RepS W0 κ2 ((.b i1, .bx l) :: (.t i1, .tk true) :: (.t i0, .tk false) :: (((.t i0, .tk true) :: (match off with | some k => [(.t k, .tk false)] | none => [])) ++ σ)) a (({ w with drawn := dr } : World).alloc (.cells (L.toArray ++ Z) e)) ∧
    Step κ σ w κ2 ((.b i1,.bx l)::(.t i1,.tk true)::(.t i0,.tk false)::(((.t i0,.tk true)::(match off with | some k=>[(.t k,.tk false)] | none=>[]))++σ)) (({ w with drawn:=dr }:World).alloc (.cells (L.toArray++Z) e)) ∧
    RepV κ2 (({ w with drawn:=dr }:World).alloc (.cells (L.toArray++Z) e)) (.cs sz i1 0 n n (.t i1)) (.slice (some ⟨w.heap.size,0,none⟩) n newCap)∧(∀ b,κ2.Db b→κ.Db b∨b=i1)∧(∀ b,κ2.Dt b→κ.Dt b∨b=i0∨b=i1)∧(∀ b,κ.Db b→κ2.Db b)∧(∀ b,κ.Db b→κ2.ι b=κ.ι b):=by
 have hsize:(L.toArray++Z).size=newCap * sz:=by
  simp only [Array.size_append,List.size_toArray,hZ,hL,← Nat.add_mul]
  congr 1;omega
 obtain ⟨r1,r2,r3⟩:=(hs.drawn dr).rowTok off hoff h0 (L.toArray++Z) e 0 (newCap * sz) (by omega) _ rfl
 have hmul:n * sz≤newCap * sz:=Nat.mul_le_mul_right _ hcap
 obtain ⟨κ2,q1,q2,q3,q4,q5,qd,qi⟩:=cs_step (id:=i1) (sz:=sz) (cap:=newCap) (n:=n) (p:=0) (g:=w.heap.size) (L:=l) r1 (k:=i0) (by simp [af]) h1 (fun hh=>hh.elim h1t hne) (by simp) hl hpos hcap
  (heap_alloc_new (w:={ w with drawn:=dr })) ⟨by rw [hsize,hl];omega,fun v hv=>by
   obtain ⟨j,hj⟩:=List.mem_iff_getElem?.1 hv
   exact (hrep j v hj).2,fun j v hj=>by
   have hjl:j<n * sz:=by rw [← hl];exact (List.getElem?_eq_some_iff.1 hj).1
   have:=(((hrep j v hj).1).mono (Ext.drawn (dr:=dr))).mono r3
   rw [Nat.zero_add,Array.getD_eq_getD_getElem?,Array.getElem?_append_left (by simpa [hL] using hjl),List.getElem?_toArray,← List.getD_eq_getElem?_getD]
   exact this⟩
 exact ⟨κ2,q1,((Step.drawn dr).trans r2).trans q2,q3,fun b hb=>q4 b hb,fun b hb=>(q5 b hb).elim (fun h=>h.elim .inl fun h=>.inr (.inl h)) fun h=>.inr (.inr h),fun b hb=>qd b hb,fun b hb=>qi b hb⟩
theorem RepD.sliceV {I:Nat→Nat→Prop} {sz:Nat} {els:List (List Data)} {x:Value} (h:RepD I w (.lst sz els) x):∃ A cap,x=.slice A els.length cap∧els.length≤cap:=by
 cases h with
 | nil _ a=>exact ⟨a,0,rfl,Nat.le_refl _⟩
 | lst _ _ b o cap C hn=>exact ⟨_,cap,rfl,hn⟩
theorem oW {sz:Nat}:∀ {xs:List Opd} {F:List AV→Prop},lw σ sz xs F→∃ vs,F vs∧vs.length=xs.length * sz∧(∀ u,u∈vs→one u=true) ∧
  ∀ (i:Nat) (x:Opd),xs[i]? = some x→(flat (ev σ x)).length=sz∧(∀ u,u∈flat (ev σ x)→one u=true)∧∀ j,j<sz→vs[i * sz+j]? = (flat (ev σ x))[j]?
 | [],F,h=>⟨[],h,by simp,by simp,fun i x hi=>by simp at hi⟩
 | y :: r, F, h => by
   simp only [lw] at h
   obtain ⟨h1,h⟩:=aM.1 h
   split at h
   ·rename_i hb
    have hlen:=Nat.eq_of_beq_eq_true hb
    obtain ⟨vs,hF,g1,g2,g3⟩:=oW h
    refine ⟨_,hF,by rw [List.length_append,hlen,g1,List.length_cons,Nat.succ_mul,Nat.add_comm],fun u hu=>?_,fun i x hi=>?_⟩
    ·rcases List.mem_append.1 hu with hu | hu
     ·exact h1 u hu
     ·exact g2 u hu
    ·cases i with
     | zero =>
       simp at hi;subst hi
       refine ⟨hlen,h1,fun j hj=>?_⟩
       rw [Nat.zero_mul,Nat.zero_add,List.getElem?_append_left (by rw [hlen];exact hj)]
     | succ i =>
       obtain ⟨k1,k2,k3⟩:=g3 i x (by simpa using hi)
       refine ⟨k1,k2,fun j hj=>?_⟩
       rw [List.getElem?_append_right (by rw [hlen,Nat.succ_mul];omega),hlen,show (i+1) * sz+j - sz=i * sz+j by rw [Nat.succ_mul];omega]
       exact k3 j hj
   ·exact h.elim
theorem s_bslM (hs:RepS W0 κ σ a w) (hf:Fresh κ id) {t e:TypeId} {n sz:Nat} {ps:Array (Nat × Operand)} {xs:List Opd} {ie:TypeInfo} {zv:Value} (ho:o.op=.buildSlice t n ps) (hd:o.dst=some d)
  (hu:P.underlying t=some (.slice e)) (hie:P.info? e=some ie) (hz:ie.zero=some zv) (hsz:ie.size=sz) (hsmall:n * sz≤2 ^ 24) (hn0:0<n) (hsz0:0<sz)
  (hps:PartsOK κ σ a w ps.toList xs) (hlen:xs.length=n) (hN:d<a.tmps.size) (h:eff call σ id (.bslM d sz xs) F):o.wp P a w (After W0 κ σ a w id F) Q:=by
 obtain ⟨vs,hF,hvl',hv1,hvs⟩:=oW (show lw σ sz xs fun vs=>F [(.s d,.av (.cs sz id 0 xs.length xs.length .full)),(.b id,.bx vs)] from h)
 obtain ⟨p1,p2,p3⟩:=hps
 have hcellsz:∀ v,v∈(ps.toList.map fun p=>a.eval p.2)→v.cells.size=sz:=by
  intro v hv
  obtain ⟨i,hi⟩:=List.mem_iff_getElem?.1 hv
  obtain ⟨x,hx,hr⟩:=p3 i v hi
  obtain ⟨g2,g4,_⟩:=hvs i x hx
  rw [(eH hr g4).1,g2]
 have hvl:(ps.toList.map fun p=>a.eval p.2).length=n:=by rw [List.length_map,← p2,hlen]
 obtain ⟨r,f1,f2,_,f4⟩:=i8 (sz:=sz) (ps.toList.map fun p=>a.eval p.2) 0 ((Array.range (n * sz)).map (zv.cells[· % zv.cells.size]!)) hcellsz (by simp [hvl,← hlen,p2])
 have hmul:n * sz≠0:=Nat.mul_ne_zero (by omega) (by omega)
 have hrun:=run_buildSlice (P:=P) w t e n (ps.map fun x=>(x.1,a.eval x.2)) r ie zv hu hie hz (by rw [hsz];omega) (by rw [hsz];exact hmul) (by
  rw [hsz,Array.toList_map]
  rw [p1];exact f1)
 have hsize:r.size=n * sz:=by rw [f2];simp
 have hR:RepL κ w vs r:=by
  refine ⟨by rw [hsize,hvl',hlen],hv1,fun k v hk=>?_⟩
  have hkl:k<n * sz:=by rw [← hlen,← hvl'];exact (List.getElem?_eq_some_iff.1 hk).1
  have hi:k / sz<n:=(Nat.div_lt_iff_lt_mul hsz0).2 hkl
  have hj:k % sz<sz:=Nat.mod_lt _ hsz0
  have hix:k / sz<xs.length:=by omega
  obtain ⟨g2,g4,g5⟩:=hvs (k / sz) xs[k / sz] (List.getElem?_eq_getElem hix)
  have e1:=g5 (k % sz) hj
  rw [Nat.div_add_mod' k sz,hk] at e1
  have hil:k / sz<(ps.toList.map fun p=>a.eval p.2).length:=by rw [hvl];exact hi
  have q1:=f4 (k / sz) (k % sz) _ (List.getElem?_eq_getElem hil) hj
  obtain ⟨x,hx,hr⟩:=p3 (k / sz) _ (List.getElem?_eq_getElem hil)
  rw [List.getElem?_eq_getElem hix] at hx
  cases hx
  have:=(eH hr g4).2.2 (k % sz) v e1.symm
  rw [Array.getD_eq_getD_getElem?] at this ⊢
  have q2:=q1
  simp only [Nat.zero_add] at q2
  rw [Nat.div_add_mod' k sz] at q2
  rw [q2]
  exact this
 refine ai (x:=.slice (some ⟨w.heap.size,0,none⟩) n n) (w':=w.alloc (.cells r e)) ?_ ?_
 ·simp only [execOp,ho,Sem.run_bind]
  rw [hrun];simp
 ·obtain ⟨h1,h2,h3⟩:=hs.box (hf.db id (Nat.le_refl _) (by omega)) hR e
  rw [hd]
  refine ⟨_,_,hF,h1.put hN ?_,h2.trans Step.put,put_size,⟨?_,fun k hk=>.inl hk⟩⟩
  ·have:=RepV.cs (κ:={ κ with Db:=fun b=>κ.Db b∨b=id,ι:=fun b=>if b=id then (w.heap.size,0) else κ.ι b }) (w:=w.alloc (.cells r e)) sz id 0 xs.length xs.length .full xs.length (.inr rfl) (Nat.le_refl _) (Nat.le_refl _) (fun A m c ev=>by cases ev;rfl)
   simpa [hlen] using this
  ·rintro b (hb | rfl)
   ·exact .inl hb
   ·exact .inr ⟨Nat.le_refl _,by omega⟩
theorem ji (hs:RepS W0 κ σ a w) {v:AV} {x:Value} (hv:RepV κ w v x) {sz m:Nat} {V:List AV} (hsz:0<sz) (hm:0<m) (h:ysl σ sz v=some (m,V)) :
  ∃ b2 o2 cap2, ∃ L2 : List Value, x = .slice (some ⟨b2, o2, none⟩) m cap2 ∧ L2.length = m * sz ∧ V.length = m * sz ∧ (∀ j u, L2[j]? = some u → w.cell? ((⟨b2, o2, none⟩ : Addr).add j) = some u) ∧
    (∀ (j:Nat) (v:AV),V[j]? = some v→RepV κ w v (L2.getD j undef)∧one v=true):=by
 unfold ysl at h
 split at h
 ·rename_i z e t
  split at h
  ·rename_i hb
   cases h
   have:=Nat.eq_of_beq_eq_true hb
   subst this
   obtain ⟨hD,_⟩:=hv.sl_inv
   rcases hD.flat hsz with ⟨A2,hv2,hn2⟩ | ⟨b2,o2,cap2,L2,hv2,hcap2,f2,hI2,hc2⟩
   ·rw [hn2] at hm;simp at hm
   ·obtain ⟨c1,c2⟩:=i7 f2
    refine ⟨b2,o2,cap2,L2,hv2,f2.len,by rw [c1,f2.len],fun j u hj=>?_,c2⟩
    have hjl:j<e.length * sz:=by rw [← f2.len];exact (List.getElem?_eq_some_iff.1 hj).1
    rw [bg,hc2 j hjl,hj]
  ·cases h
 ·rename_i z b q n c t
  split at h
  ·rename_i hb
   have:=Nat.eq_of_beq_eq_true hb
   subst this
   split at h
   ·rename_i l hl
    split at h
    ·cases h
    ·rename_i hmm
     split at h
     ·rename_i V' hsub
      cases h
      obtain ⟨cap,_,h2,h3,_,hx⟩:=hv.cs_inv
      obtain ⟨_,_,hB⟩:=hs.boxes b l hl
      obtain ⟨C,ty,hg,hR⟩:=hB.row hmm
      obtain ⟨s1,s2,s3⟩:=ce hsub
      have hfit:(κ.ι b).2+q+m * sz≤C.size:=by have:=hR.1;omega
      refine ⟨_,_,cap,(List.range (m * sz)).map fun j=>C.getD ((κ.ι b).2+q+j) undef,hx,by simp,s1,fun j u hj=>?_,fun j v hj=>?_⟩
      ·have hjl:j<m * sz:=by simpa using (List.getElem?_eq_some_iff.1 hj).1
       rw [bg,au hg]
       rw [List.getElem?_map,List.getElem?_range hjl] at hj
       simp only [Option.map_some,Option.some.injEq] at hj
       rw [← hj,Array.getD_eq_getD_getElem?,Array.getElem?_eq_getElem (by omega)]
       rfl
      ·have hjl:j<m * sz:=by rw [← s1];exact (List.getElem?_eq_some_iff.1 hj).1
       rw [s3 j hjl] at hj
       refine ⟨?_,hR.2.1 v (List.mem_of_getElem? hj)⟩
       have:=hR.2.2 (q+j) v hj
       rw [List.getD_eq_getElem?_getD,List.getElem?_map,List.getElem?_range hjl]
       simp only [Option.map_some,Option.getD_some]
       rw [Nat.add_assoc]
       exact this
     ·cases h
   ·cases h
  ·cases h
 ·rename_i z b n t
  split at h
  ·rename_i hb
   have:=Nat.eq_of_beq_eq_true hb
   subst this
   split at h
   ·rename_i l hl
    split at h
    ·cases h
    ·rename_i hmm
     split at h
     ·rename_i V' hsub
      cases h
      obtain ⟨off,cap,_,hoff,h2,_,_,hx⟩:=hv.mx_inv
      simp only [List.length_nil,Nat.zero_mul,Nat.zero_add,Nat.add_zero] at hoff h2 hx
      rw [← hoff] at hx
      obtain ⟨_,_,hB⟩:=hs.boxes b l hl
      obtain ⟨C,ty,hg,hR⟩:=hB.row hmm
      obtain ⟨s1,s2,s3⟩:=ce hsub
      have hfit:(κ.ι b).2+m * sz≤C.size:=by have:=hR.1;omega
      refine ⟨_,_,cap,(List.range (m * sz)).map fun j=>C.getD ((κ.ι b).2+j) undef,hx,by simp,s1,fun j u hj=>?_,fun j v hj=>?_⟩
      ·have hjl:j<m * sz:=by simpa using (List.getElem?_eq_some_iff.1 hj).1
       rw [bg,au hg]
       rw [List.getElem?_map,List.getElem?_range hjl] at hj
       simp only [Option.map_some,Option.some.injEq] at hj
       rw [← hj,Array.getD_eq_getD_getElem?,Array.getElem?_eq_getElem (by omega)]
       rfl
      ·have hjl:j<m * sz:=by rw [← s1];exact (List.getElem?_eq_some_iff.1 hj).1
       rw [s3 j hjl] at hj
       refine ⟨?_,hR.2.1 v (List.mem_of_getElem? hj)⟩
       have:=hR.2.2 j v (by simpa using hj)
       rw [List.getD_eq_getElem?_getD,List.getElem?_map,List.getElem?_range hjl]
       simp only [Option.map_some,Option.getD_some]
       exact this
     ·cases h
   ·cases h
  ·cases h
 ·cases h
theorem mR {l1:List AV} {L1:List Value} {l2:List AV} {L2:List Value} {κ:Gh} {w:World} (hl:l1.length=L1.length) (h1:∀ (j:Nat) (v:AV),l1[j]? = some v→RepV κ w v (L1.getD j undef)∧one v=true)
  (h2:∀ (j:Nat) (v:AV),l2[j]? = some v→RepV κ w v (L2.getD j undef)∧one v=true):∀ (j:Nat) (v:AV),(l1++l2)[j]? = some v→RepV κ w v ((L1++L2).getD j undef)∧one v=true:=by
 intro j v hj
 by_cases hjl:j<l1.length
 ·rw [List.getElem?_append_left hjl] at hj
  rw [List.getD_eq_getElem?_getD,List.getElem?_append_left (by rw [← hl];exact hjl),← List.getD_eq_getElem?_getD]
  exact h1 j v hj
 ·rw [List.getElem?_append_right (by omega)] at hj
  rw [List.getD_eq_getElem?_getD,List.getElem?_append_right (by omega),← List.getD_eq_getElem?_getD,← hl]
  exact h2 _ v hj
theorem s_appC (hs:RepS W0 κ σ a w) (hf:Fresh κ id) {t e:TypeId} {sz by_:Nat} {x y:Operand} {x' y':Opd} {z1 z2:Option Nat} {ie:TypeInfo} {zv:Value}
  (ho:o.op=.call { callee:=.builtin .append,args:=#[x,y],argTypes:=#[t,t] }) (hd:o.dst=some d) (hx:ax z1 x=some x') (hy:ax z2 y=some y')
  (hu:P.underlying t=some (.slice e)) (hie:P.info? e=some ie) (hsz:ie.size=sz) (hby:ie.bytes=by_) (hz:ie.zero=some zv) (hzs:zv.cells.size=sz) (hsz0:0<sz)
  (hN:d<a.tmps.size) (h:eff call σ id (.appC d sz by_ x' y') F):o.wp P a w (After W0 κ σ a w id F) Q:=by
 have hrx:=am hs hx
 have hry:=am hs hy
 have hexec:∀ v1 v2,a.eval x=v1→a.eval y=v2→∀ r w',(Builtin.append_ #[t,t] o.type #[v1,v2]).run P w=.ok r w'→(execOp a.eval o).run P w=.ok (.value r) w':=by
  intro v1 v2 h1 h2 r w' hr
  simp [execOp,ho,resolve,invoke,builtin,h1,h2,hr]
 simp only [eff] at h
 subst hsz
 cases hzq:zq σ ie.size (ev σ y') with
 | true =>
   simp only [hzq] at h
   split at h
   ·rename_i h0
    obtain ⟨_,hF⟩:=cl.1 h
    have hx1:∃ base n cap,a.eval x=.slice base n cap∧n≤cap:=by
     generalize ev σ x'=vx at hrx h0
     unfold app0 at h0
     split at h0
     ·obtain ⟨hD,_⟩:=hrx.sl_inv
      obtain ⟨A,cap,h1,h2⟩:=hD.sliceV
      exact ⟨_,_,_,h1,h2⟩
     ·obtain ⟨cap,h1,h2,h3,h4,h5⟩:=hrx.cs_inv
      exact ⟨_,_,_,h5,by omega⟩
     ·cases h0
    have hy1:∃ A cap,a.eval y=.slice A 0 cap:=by
     unfold zq at hzq
     split at hzq
     ·rename_i m V hys
      have hm:m=0:=Nat.eq_of_beq_eq_true hzq
      subst hm
      generalize ev σ y'=vy at hry hys
      unfold ysl at hys
      split at hys
      ·split at hys
       ·simp only [Option.some.injEq,Prod.mk.injEq] at hys
        have hnil:=List.length_eq_zero_iff.1 hys.1
        subst hnil
        obtain ⟨hD,_⟩:=hry.sl_inv
        obtain ⟨A,cap,h1,_⟩:=hD.sliceV
        exact ⟨A,cap,h1⟩
       ·cases hys
      ·split at hys
       ·split at hys
        ·split at hys
         ·cases hys
         ·split at hys
          ·simp only [Option.some.injEq,Prod.mk.injEq] at hys
           obtain ⟨cap,h1,h2,h3,h4,h5⟩:=hry.cs_inv
           rw [hys.1] at h5
           exact ⟨_,_,h5⟩
          ·cases hys
        ·cases hys
       ·cases hys
      ·split at hys
       ·split at hys
        ·split at hys
         ·cases hys
         ·split at hys
          ·simp only [Option.some.injEq,Prod.mk.injEq] at hys
           obtain ⟨off,cap,_,_,_,_,_,h5⟩:=hry.mx_inv
           rw [hys.1] at h5
           exact ⟨_,_,h5⟩
          ·cases hys
        ·cases hys
       ·cases hys
      ·cases hys
     ·cases hzq
    obtain ⟨base,n,cap,hxe,hle⟩:=hx1
    obtain ⟨A,cap2,hye⟩:=hy1
    have hfc:∀ w0:World,(Builtin.firstCells ie.size 0 (.slice A 0 cap2)).run P w0=.ok #[] w0:=fun w0=>by
     cases A<;>simp [Builtin.firstCells,loadCells,loadCellsFrom]
    have hsrc:Src P ie.size t (.slice A 0 cap2) 0 [] w:=⟨.inl ⟨e,hu⟩,fun w'=>by simp [Builtin.lenOf],hfc w,hfc w.drew,by simp,by simp⟩
    have hr:=run_append_nothing w t t o.type e ie hu hie base n cap hle (.slice A 0 cap2) hsrc
    refine ai (hexec _ _ hxe hye _ _ hr) ?_
    rw [hd]
    rw [hxe] at hrx
    exact .put hs hN hrx hF
   ·exact h.elim
 | false=>
 simp only [hzq] at h
 split at h
 ·exact h.elim
 ·rename_i m V hys
  have grown:∀ (n:Nat) (l1:List AV) (L1:List Value) (Z:Array Value) (newCap:Nat),0<m→V.length=m * ie.size→l1.length=n * ie.size→L1.length=n * ie.size→(∀ (j:Nat) (v:AV),l1[j]? = some v→RepV κ w v (L1.getD j undef)∧one v=true) →
    ∀ L2:List Value,L2.length=m * ie.size→(∀ (j:Nat) (v:AV),V[j]? = some v→RepV κ w v (L2.getD j undef)∧one v=true)→n+m≤newCap→Z.size=(newCap - (n+m)) * ie.size→∀ dr:Nat,
    (execOp a.eval o).run P w=.ok (.value (.slice (some ⟨w.heap.size,0,none⟩) (n+m) newCap)) (({ w with drawn:=dr }:World).alloc (.cells (L1.toArray++L2.toArray++Z) e)) →
    F [(.s d,.av (.cs ie.size (id+1) 0 (n+m) (n+m) (.t (id+1)))),(.b (id+1),.bx (l1++V)),(.t (id+1),.tk true),(.t id,.tk false),(.t id,.tk true)]→o.wp P a w (After W0 κ σ a w id F) Q:=by
   intro n l1 L1 Z newCap hm hVl hl1 hL1 hr1 L2 hL2 hr2 hcap hZ dr hrun hF
   have hap:(L1.toArray++L2.toArray++Z)=((L1++L2).toArray++Z):=by simp
   obtain ⟨κ2,q1,q2,q3,q4,q5,_,_⟩:=cs_grown (sz:=ie.size) (n:=n+m) (newCap:=newCap) (l:=l1++V) (L:=L1++L2) (Z:=Z) hs none (by simp) (i0:=id) (i1:=id+1) (hf.dt id (Nat.le_refl _) (by omega)) (hf.db (id+1) (by omega) (by omega)) (hf.dt (id+1) (by omega) (by omega)) (by omega)
    (Nat.mul_pos (by omega) hsz0) (by rw [List.length_append,hl1,hVl,Nat.add_mul]) (by rw [List.length_append,hL1,hL2,Nat.add_mul]) (mR (by rw [hl1,hL1]) hr1 hr2) hcap hZ dr e
   rw [hap] at hrun
   refine ai hrun ?_
   rw [hd]
   refine ⟨_,κ2,hF,q1.put hN q3,q2.trans Step.put,put_size,⟨fun b hb=>?_,fun k hk=>?_⟩⟩
   ·rcases q4 b hb with h | h
    ·exact .inl h
    ·exact .inr ⟨by omega,by omega⟩
   ·rcases q5 k hk with h | h | h
    ·exact .inl h
    ·exact .inr ⟨by omega,by omega⟩
    ·exact .inr ⟨by omega,by omega⟩
  split at h
  ·
   rename_i zz e1 he1
   rw [he1] at hrx
   split at h
   ·rename_i hb
    have hq:=Nat.eq_of_beq_eq_true hb
    subst hq
    obtain ⟨⟨hm,hRoom⟩,hF⟩:=h
    obtain ⟨b2,o2,cap2,L2,hv2,hL2,hVl,hnews',hr2⟩:=ji hs hry hsz0 hm hys
    have hnews:∀ j u,L2[j]? = some u→w.cell? ((⟨b2,o2,none⟩:Addr).add j)=some u:=hnews'
    obtain ⟨hD1,hT1⟩:=hrx.sl_inv
    have h63:e1.length+m≤9223372036854775807:=hRoom.1
    have hbb:=hRoom.2
    rw [← hby] at hbb
    rcases hD1.flat hsz0 with ⟨A1,hv1,hn1⟩ | ⟨b1,o1,cap1,L1,hv1,hcap1,f1,hI1,hc1⟩
    ·have he1:e1.length=0:=by rw [hn1];rfl
     have hr:=dN (P:=P) w t o.type e ie zv A1 hu hie hz ⟨b2,o2,none⟩ m cap2 L2 hL2 hnews (by omega) (by omega) (by rw [he1,Nat.zero_add] at hbb;omega)
     refine grown e1.length _ [] (Builtin.zeroCells zv.cells (grownCap w m 0 e - m)) (grownCap w m 0 e) hm hVl (by rw [hn1];simp) (by rw [he1];simp) (by rw [hn1];simp) L2 hL2 hr2 (by rw [he1,Nat.zero_add];exact grownCap_ge _ _ _ _) (by rw [size_zeroCells,hzs,he1,Nat.zero_add]) (w.drawn+1) ?_ hF
     refine hexec _ _ hv1 hv2 _ _ ?_
     rw [hr]
     simp only [he1,Nat.zero_add]
     congr 2
     simp
    ·have hholds:∀ j u,L1[j]? = some u→w.cell? ((⟨b1,o1,none⟩:Addr).add j)=some u:=by
      intro j u hj
      have hjl:j<e1.length * ie.size:=by rw [← f1.len];exact (List.getElem?_eq_some_iff.1 hj).1
      rw [bg,hc1 j hjl,hj]
     have hcf:e1.length=cap1:=hT1 _ _ _ hv1
     obtain ⟨c1,c2⟩:=i7 f1
     have hr:=run_append_grow (P:=P) w t o.type e ie zv hu hie hz ⟨b1,o1,none⟩ e1.length cap1 L1 f1.len hholds ⟨b2,o2,none⟩ m cap2 L2 hL2 hnews (by omega) (by omega) (growslice_fits (by omega) hbb)
     refine grown e1.length _ L1 (Builtin.zeroCells zv.cells (grownCap w (e1.length+m) cap1 e - (e1.length+m))) (grownCap w (e1.length+m) cap1 e) hm hVl (by rw [c1,f1.len]) f1.len c2 L2 hL2 hr2 (grownCap_ge _ _ _ _) (by rw [size_zeroCells,hzs]) (w.drawn+1) ?_ hF
     exact hexec _ _ hv1 hv2 _ _ hr
   ·exact h.elim
  ·rename_i zz b q n c tk he1
   rw [he1] at hrx
   split at h
   ·rename_i hb
    have hq:=Nat.eq_of_beq_eq_true hb
    subst hq
    obtain ⟨cap,hDb,hnc,hcc,hT,hv1⟩:=hrx.cs_inv
    split at h
    ·rename_i l hl
     split at h
     ·exact h.elim
     ·rename_i hmm
      obtain ⟨_,hW,hB⟩:=hs.boxes b l hl
      obtain ⟨C,ty,hg,hR⟩:=hB.row hmm
      split at h
      ·
       rename_i hle
       have hle:=Nat.le_of_ble_eq_true hle
       split at h
       ·rename_i l' hsp
        obtain ⟨hm,hF⟩:=h
        obtain ⟨b2,o2,cap2,L2,hv2,hL2,hVl,hnews,hr2⟩:=ji hs hry hsz0 hm hys
        have hVL:RepL κ w V L2.toArray:=⟨by simp [hL2,hVl],fun v hv=>by
         obtain ⟨j,hj⟩:=List.mem_iff_getElem?.1 hv
         exact (hr2 j v hj).2,fun j v hj=>by simpa [List.getD_eq_getElem?_getD,Array.getD_eq_getD_getElem?] using (hr2 j v hj).1⟩
        obtain ⟨k1,k2,k3,k4⟩:=dE hR hVL hsp
        have hone:∀ u∈L2,u.oneCell'=true:=by simpa using hVL.one
        simp only [List.toList_toArray] at k1 k2 k4
        rw [← Nat.add_assoc] at k1 k2 k4
        have hr:=cH (P:=P) (w:=w) t o.type e ie hu hie (κ.ι b).1 ((κ.ι b).2+q) n cap C ty hg ⟨b2,o2,none⟩ m cap2 L2 hL2 hnews hone (by omega) k2
        obtain ⟨s1,s2,s3⟩:=hs.store hl hg (bA k2) k3 k1 (fun x hx=>k4 x fun hh=>hx ⟨rfl,hh⟩)
        refine ai (hexec _ _ hv1 hv2 _ _ hr) ?_
        rw [hd]
        refine ⟨_,κ,hF,s1.put hN ?_,s2.trans Step.put,put_size,Grow.refl _ _⟩
        exact .cs ie.size b q (n+m) c tk cap hDb hle hcc (hT.mono s3.dt)
       ·exact h.elim
      ·rename_i hle
       have hle:c<n+m:=by
        rcases Nat.lt_or_ge c (n+m) with h | h
        ·exact h
        ·have:=Nat.ble_eq_true_of_le h
         rw [this] at hle;cases hle
       split at h
       ·exact h.elim
       ·rename_i l0 hsub
        obtain ⟨u1,u2,u3⟩:=ce hsub
        have hfit:(κ.ι b).2+q+n * ie.size≤C.size:=by have:=hR.1;omega
        have hL1:((List.range (n * ie.size)).map fun j=>C.getD ((κ.ι b).2+q+j) undef).length=n * ie.size:=by simp
        have hget1:∀ j,j<n * ie.size→((List.range (n * ie.size)).map fun j=>C.getD ((κ.ι b).2+q+j) undef)[j]? = C[(κ.ι b).2+q+j]?:=by
         intro j hjl
         rw [List.getElem?_map,List.getElem?_range hjl,Array.getElem?_eq_getElem (by omega)]
         simp [Array.getD,show (κ.ι b).2+q+j<C.size by omega]
        have hr1:∀ (j:Nat) (v:AV),l0[j]? = some v→RepV κ w v (((List.range (n * ie.size)).map fun j=>C.getD ((κ.ι b).2+q+j) undef).getD j undef)∧one v=true:=by
         intro j v hj
         have hjl:j<n * ie.size:=by rw [← u1];exact (List.getElem?_eq_some_iff.1 hj).1
         rw [u3 j hjl] at hj
         refine ⟨?_,hR.2.1 v (List.mem_of_getElem? hj)⟩
         have:=hR.2.2 (q+j) v hj
         rw [Array.getD_eq_getD_getElem?,← Nat.add_assoc] at this
         rw [List.getD_eq_getElem?_getD,hget1 j hjl]
         exact this
        have hholds:∀ j u,((List.range (n * ie.size)).map fun j=>C.getD ((κ.ι b).2+q+j) undef)[j]? = some u→w.cell? ((⟨(κ.ι b).1,(κ.ι b).2+q,none⟩:Addr).add j)=some u:=by
         intro j u hj
         have hjl:j<n * ie.size:=by rw [← hL1];exact (List.getElem?_eq_some_iff.1 hj).1
         rw [bg,au hg,← hget1 j hjl,hj]
        generalize ((List.range (n * ie.size)).map fun j=>C.getD ((κ.ι b).2+q+j) undef)=L1 at hL1 hr1 hholds hget1
        cases tk with
        | none=>exact h.elim
        | full =>
          obtain ⟨⟨hm,hRoom⟩,hF⟩:=h
          obtain ⟨b2,o2,cap2,L2,hv2,hL2,hVl,hnews,hr2⟩:=ji hs hry hsz0 hm hys
          have hcf:c=cap:=hT _ _ _ rfl
          have h63:n+m≤9223372036854775807:=hRoom.1
          have hbb:=hRoom.2
          rw [← hby] at hbb
          have hr:=run_append_grow (P:=P) w t o.type e ie zv hu hie hz ⟨(κ.ι b).1,(κ.ι b).2+q,none⟩ n cap L1 hL1 hholds ⟨b2,o2,none⟩ m cap2 L2 hL2 hnews (by omega) (by omega) (growslice_fits (by omega) hbb)
          exact grown n _ L1 (Builtin.zeroCells zv.cells (grownCap w (n+m) cap e - (n+m))) (grownCap w (n+m) cap e) hm hVl u1 hL1 hr1 L2 hL2 hr2 (grownCap_ge _ _ _ _) (by rw [size_zeroCells,hzs]) (w.drawn+1) (hexec _ _ hv1 hv2 _ _ hr) hF
        | t k =>
          simp only at h
          split at h
          ·rename_i hk
           obtain ⟨⟨hlc,hm,hRoom⟩,hF⟩:=h
           obtain ⟨b2,o2,cap2,L2,hv2,hL2,hVl,hnews,hr2⟩:=ji hs hry hsz0 hm hys
           have h63:n+m≤9223372036854775807:=hRoom.1
           have hbb:=hRoom.2
           rw [← hby] at hbb
           have hdt0:=hf.dt id (Nat.le_refl _) (by omega)
           have hdt1:=hf.dt (id+1) (by omega) (by omega)
           have hdt2:=hf.dt (id+2) (by omega) (by omega)
           have hdb1:=hf.db (id+1) (by omega) (by omega)
           by_cases hroom:n+m≤cap
           ·have hτ:κ.τ k=((κ.ι b).1,(κ.ι b).2+q+c * ie.size,(κ.ι b).2+q+cap * ie.size):=hT.2 _ _ _ rfl (by omega)
            have hmul:n * ie.size+m * ie.size≤cap * ie.size:=by rw [← Nat.add_mul];exact Nat.mul_le_mul_right _ hroom
            have hmulc:c * ie.size+ie.size≤cap * ie.size:=by rw [← Nat.succ_mul];exact Nat.mul_le_mul_right _ (by omega)
            have hmuln:n * ie.size≤c * ie.size:=Nat.mul_le_mul_right _ hnc
            have hpos:0<m * ie.size:=Nat.mul_pos hm hsz0
            obtain ⟨hblk,cur,te,hg',hfit'⟩:=(hs.toks k hk).2 (by rw [hτ];simp only;omega)
            rw [hτ] at hblk hg' hfit'
            simp only at hblk hg' hfit'
            rw [hg] at hg'
            cases hg'
            have hone:∀ u∈L2,u.oneCell'=true:=by
             intro u hu
             obtain ⟨j,hj,rfl⟩:=List.mem_iff_getElem.1 hu
             have hjV:j<V.length:=by rw [hVl,← hL2];exact hj
             have:=hr2 j V[j] (List.getElem?_eq_getElem hjV)
             rw [List.getD_eq_getElem?_getD,List.getElem?_eq_getElem hj] at this
             exact (j9 this.1 this.2).2
            have hr:=cH (P:=P) (w:=w) t o.type e ie hu hie (κ.ι b).1 ((κ.ι b).2+q) n cap C ty hg ⟨b2,o2,none⟩ m cap2 L2 hL2 hnews hone hroom (by rw [hL2];omega)
            have hsplice:=fun j=>du (C:=C) (vs:=L2) (o:=(κ.ι b).2+q+n * ie.size) (by rw [hL2];omega) j
            have hsplsz:=bA (C:=C) (vs:=L2) (o:=(κ.ι b).2+q+n * ie.size) (by rw [hL2];omega)
            obtain ⟨m1',m2,m3⟩:=hs.merge hl (some k) (fun k' e=>by cases e;exact hk) hdt0 ((κ.ι b).1,(κ.ι b).2+q,(κ.ι b).2+q+cap * ie.size) (by
             rintro x o' ⟨g1,g2,g3⟩
             simp only at g1 g2 g3
             by_cases hlt:o'<(κ.ι b).2+q+c * ie.size
             ·exact .inl ⟨g1,by simp only [spb];omega,by simp only [spb];omega⟩
             ·exact .inr ⟨k,rfl,by rw [hτ];exact ⟨g1,by simp only;omega,g3⟩⟩) (fun _=>⟨hblk,C,ty,hg,hfit'⟩) _ rfl
            have hheap:=setRow_heap w (κ.ι b).1 C (C.toList.take ((κ.ι b).2+q+n * ie.size)++L2++C.toList.drop ((κ.ι b).2+q+n * ie.size+L2.length)).toArray ty (0,0) hg
            obtain ⟨m1,s2,s3⟩:=m1'.spare (k:=id) (by simp [af]) (g:=(κ.ι b).1) (arr:=(C.toList.take ((κ.ι b).2+q+n * ie.size)++L2++C.toList.drop ((κ.ι b).2+q+n * ie.size+L2.length)).toArray) hg hsplsz (by
             intro j hj
             rw [hsplice j,if_neg]
             intro hh
             apply hj
             simp only [if_true]
             exact ⟨rfl,by simp only;omega,by simp only;omega⟩)
            generalize (C.toList.take ((κ.ι b).2+q+n * ie.size)++L2++C.toList.drop ((κ.ι b).2+q+n * ie.size+L2.length)).toArray=arr at hr m1 s2 s3 hsplice hsplsz hheap
            have hsp0:((κ.ι b).2+q<(κ.ι b).2+q+cap * ie.size)→W0.heap.size≤(κ.ι b).1∧∃ C ty,(w.setRow (κ.ι b).1 arr).heap[(κ.ι b).1]? = some (.cells C ty (0,0))∧(κ.ι b).2+q+cap * ie.size≤C.size:=
             fun _=>⟨hblk,arr,ty,hheap,by rw [hsplsz];exact hfit'⟩
            obtain ⟨r1,r2,r3⟩:=m1.retok (some id) (fun k' e=>by cases e;simp [af]) (id:=id+2) (fun hh=>hh.elim hdt2 (by omega)) (fun k' e=>by cases e;omega) (fun _ _=>False) ((κ.ι b).1,(κ.ι b).2+q,(κ.ι b).2+q+cap * ie.size)
             (fun _ _ h=>h.elim) hsp0 (by
              intro x o' hh
              have hin:aZ ((fun j=>if j=id then ((κ.ι b).1,(κ.ι b).2+q,(κ.ι b).2+q+cap * ie.size) else κ.τ j) id) x o':=by simpa using hh
              exact ⟨m1.sepI x o' (.inr ⟨id,by simp [af],hin⟩),id,rfl,hin⟩) _ rfl
            have hext:∀ {v:AV} {x:Value},RepV κ w v x→RepV _ _ v x:=fun hv=>((hv.mono m3).mono s3).mono r3
            have hmulnm:(n+m) * ie.size=n * ie.size+m * ie.size:=Nat.add_mul _ _ _
            obtain ⟨κ2,q1,q2,q3,q4,q5,qd,qi⟩:=cs_step (id:=id+1) (sz:=ie.size) (cap:=cap) (n:=n+m) (p:=(κ.ι b).2+q) (g:=(κ.ι b).1) (L:=l0++V) r1 (k:=id+2) (by simp [af]) hdb1
             (fun hh=>hh.elim (fun hh=>hh.elim hdt1 (by omega)) (by omega)) (by simp) (by rw [List.length_append,u1,hVl,hmulnm]) (Nat.mul_pos (by omega) hsz0) hroom hheap
             ⟨by rw [List.length_append,u1,hVl,hsplsz];omega,fun v hv=>by
              rcases List.mem_append.1 hv with hv | hv
              ·obtain ⟨j,hj⟩:=List.mem_iff_getElem?.1 hv;exact (hr1 j v hj).2
              ·obtain ⟨j,hj⟩:=List.mem_iff_getElem?.1 hv;exact (hr2 j v hj).2,fun j v hj=>by
              have:=hext (mR (by rw [u1,hL1]) hr1 hr2 j v hj).1
              have hjl:j<n * ie.size+m * ie.size:=by
               have:=(List.getElem?_eq_some_iff.1 hj).1
               rw [List.length_append,u1,hVl] at this;exact this
              rw [Array.getD_eq_getD_getElem?,hsplice]
              rw [List.getD_eq_getElem?_getD] at this
              by_cases hj1:j<n * ie.size
              ·rw [if_neg (by omega),← hget1 j hj1]
               rw [List.getElem?_append_left (by rw [hL1];exact hj1)] at this
               exact this
              ·rw [if_pos (by rw [hL2];omega)]
               rw [List.getElem?_append_right (by rw [hL1];omega),hL1] at this
               rw [show (κ.ι b).2+q+j - ((κ.ι b).2+q+n * ie.size)=j - n * ie.size by omega]
               exact this⟩
            refine ai (hexec _ _ hv1 hv2 _ _ hr) ?_
            rw [hd]
            have qi':κ2.ι b=κ.ι b:=qi b hDb
            obtain ⟨v1,v2⟩:=q1.husk (b:=b) (qd b hDb) (by rw [qi'];exact hW) (C:=arr) (ty:=ty) (by rw [qi'];exact hheap) (by rw [qi',hsplsz];omega)
            refine ⟨_,κ2,hF,v1.put hN q3,((((m2.trans s2).trans r2).trans q2).trans v2).trans Step.put,put_size,⟨fun b' hb'=>?_,fun k' hk'=>?_⟩⟩
            ·rcases q4 b' hb' with h | h
             ·exact .inl h
             ·exact .inr ⟨by omega,by omega⟩
            ·rcases q5 k' hk' with h | h
             ·rcases h with h | h
              ·rcases h with h | h
               ·exact .inl h
               ·exact .inr ⟨by omega,by omega⟩
              ·exact .inr ⟨by omega,by omega⟩
             ·exact .inr ⟨by omega,by omega⟩
           ·have hr:=run_append_grow (P:=P) w t o.type e ie zv hu hie hz ⟨(κ.ι b).1,(κ.ι b).2+q,none⟩ n cap L1 hL1 hholds ⟨b2,o2,none⟩ m cap2 L2 hL2 hnews (by omega) (by omega) (growslice_fits (by omega) hbb)
            obtain ⟨m1,m2,m3⟩:=hs.merge hl (some k) (fun k' e=>by cases e;exact hk) hdt0 (0,0,0) (by rintro x o' ⟨_,g2,g3⟩;simp only at g2 g3;omega) (fun hh=>by simp at hh) _ rfl
            have hap:∀ Z:Array Value,(L1.toArray++L2.toArray++Z)=((L1++L2).toArray++Z):=fun Z=>by simp
            have qh:∀ k,k<w.heap.size→w.heap[k]? = some (.cells C ty (0,0))→(({ w with drawn:=w.drawn+1 }:World).alloc (.cells ((L1++L2).toArray++Builtin.zeroCells zv.cells (grownCap w (n+m) cap e - (n+m))) e)).heap[k]? = some (.cells C ty (0,0)):=fun k hk h=>(aY (w:={ w with drawn:=w.drawn+1 }) hk).trans h
            obtain ⟨κ2,q1,q2,q3,q4,q5,qd,qi⟩:=cs_grown (sz:=ie.size) (n:=n+m) (newCap:=grownCap w (n+m) cap e) (l:=l0++V) (L:=L1++L2) (Z:=Builtin.zeroCells zv.cells (grownCap w (n+m) cap e - (n+m))) m1 (some id) (fun k' e=>by cases e;simp [af]) (i0:=id+2) (i1:=id+1)
             (fun hh=>hh.elim hdt2 (by omega)) hdb1 (fun hh=>hh.elim hdt1 (by omega)) (by omega) (Nat.mul_pos (by omega) hsz0) (by rw [List.length_append,u1,hVl,Nat.add_mul]) (by rw [List.length_append,hL1,hL2,Nat.add_mul])
             (fun j v hj=>by
              have:=mR (by rw [u1,hL1]) hr1 hr2 j v hj
              exact ⟨this.1.mono m3,this.2⟩) (grownCap_ge _ _ _ _) (by rw [size_zeroCells,hzs]) (w.drawn+1) e
            rw [hap] at hr
            refine ai (hexec _ _ hv1 hv2 _ _ hr) ?_
            rw [hd]
            have qi':κ2.ι b=κ.ι b:=qi b hDb
            obtain ⟨v1,v2⟩:=q1.husk (b:=b) (qd b hDb) (by rw [qi'];exact hW) (C:=C) (ty:=ty) (by rw [qi'];exact qh _ (aC hg) hg) (by rw [qi'];omega)
            refine ⟨_,κ2,hF,v1.put hN q3,((m2.trans q2).trans v2).trans Step.put,put_size,⟨fun b' hb'=>?_,fun k' hk'=>?_⟩⟩
            ·rcases q4 b' hb' with h | h
             ·exact .inl h
             ·exact .inr ⟨by omega,by omega⟩
            ·rcases q5 k' hk' with h | h | h
             ·rcases h with h | h
              ·exact .inl h
              ·exact .inr ⟨by omega,by omega⟩
             ·exact .inr ⟨by omega,by omega⟩
             ·exact .inr ⟨by omega,by omega⟩
          ·exact h.elim
    ·exact h.elim
   ·exact h.elim
  ·exact h.elim
end ops
end Go.Abs
namespace Go.Abs
open Go
section ops
variable {P:Program} {W0:World} {κ:Gh} {σ:Log} {a:Act} {w:World} {id:Nat} {F:Log→Prop} {call:aX} {o:Oper} {Q:Exit→Act→World→Prop} {d:Nat} {z:Option Nat}
def okP (P:Program) (t:TypeId):Option Bool:=match P.underlying t with
 | some (.pointer e) => (match P.info? e with
   | some i=>(match decide (i.size≠0) with | true=>some false | false=>none)
   | none=>none)
 | some (.func _ _ _)=>some true
 | _=>none
theorem s_eqP (hs:RepS W0 κ σ a w) {b:BinOp} {fn ng:Bool} {t1 t2:TypeId} {x y:Operand} {x' y':Opd} {z1 z2:Option Nat} (ho:o.op=.binOp b t1 x y t2) (hd:o.dst=some d) (hx:ax z1 x=some x') (hy:ax z2 y=some y')
  (hb:lm b=some ng) (hu:okP P t1=some fn) (hN:d<a.tmps.size) (h:eff call σ id (.eqP d fn ng x' y') F):o.wp P a w (After W0 κ σ a w id F) Q:=by
 have hrx:=am hs hx
 have hry:=am hs hy
 have fin:∀ (vx vy:Value) (r:Bool),a.eval x=vx→a.eval y=vy→(∀ op,(eqGuard op t1 x y vx vy).run P w=.ok () w)→binOp .eql t1 vx vy=(do pure (.bool (← Op.equal t1 vx vy)))→binOp .neq t1 vx vy=(do pure (.bool (!(← Op.equal t1 vx vy)))) →
   (∀ d:Nat,(Op.equalIn (d+1) t1 vx vy).run P w=.ok r w)→F [(.s d,.av (.sc (.b (xor r ng))))]→o.wp P a w (After W0 κ σ a w id F) Q:=by
  intro vx vy r ex ey hgu h1 h2 h3 hF
  have h4:(Op.equal t1 vx vy).run P w=.ok r w:=h3 9999
  refine ai (x:=.bool (xor r ng)) (w':=w) ?_ (by rw [hd];exact .put hs hN (.sc (.b (xor r ng))) hF)
  cases b<;>simp only [lm] at hb<;>cases hb
  ·simp [execOp,ho,ex,ey,hgu,h1,h4]
  ·simp [execOp,ho,ex,ey,hgu,h2,h4]
 have hptr:fn=false→∃ e i,P.underlying t1=some (.pointer e)∧P.info? e=some i∧i.size≠0:=by
  intro hf
  unfold okP at hu
  split at hu
  ·rename_i e he
   split at hu
   ·rename_i i hi
    split at hu
    ·rename_i hdec;exact ⟨e,i,he,hi,of_decide_eq_true hdec⟩
    ·cases hu
   ·cases hu
  ·cases hu;cases hf
  ·cases hu
 have hfun:fn=true→∃ p q r,P.underlying t1=some (.func p q r):=by
  intro hf
  unfold okP at hu
  split at hu
  ·split at hu
   ·split at hu
    ·cases hu;cases hf
    ·cases hu
   ·cases hu
  ·rename_i p q r he;exact ⟨p,q,r,he⟩
  ·cases hu
 simp only [eff] at h
 split at h
 ·rename_i b1 o1 b2 o2 he1 he2
  rw [he1] at hrx
  rw [he2] at hry
  obtain ⟨_,ex⟩:=hrx.ptr_inv
  obtain ⟨_,ey⟩:=hry.ptr_inv
  obtain ⟨e,i,u1,u2,u3⟩:=hptr rfl
  split at h
  ·rename_i hbb
   have:=Nat.eq_of_beq_eq_true hbb
   subst this
   refine fin _ _ (Nat.beq o1 o2) ex ey (fun op=>by cases op<;>simp [eqGuard]) rfl rfl (fun d=>?_) h
   cases ho':Nat.beq o1 o2 with
   | true =>
     have:=Nat.eq_of_beq_eq_true ho'
     subst this
     simp [Op.equalIn,run_underlying u1,sizeOf,typeInfo,u2,u3,run_sameAddr_same]
   | false =>
     have hne:¬ o1=o2:=fun e=>by subst e;simp at ho'
     simp [Op.equalIn,run_underlying u1,sizeOf,typeInfo,u2,u3,sameAddr,hne]
  ·exact h.elim
 ·rename_i b1 o1 he1 he2
  rw [he1] at hrx
  rw [he2] at hry
  obtain ⟨_,ex⟩:=hrx.ptr_inv
  have ey:=hry.sc_inv
  obtain ⟨e,i,u1,u2,u3⟩:=hptr rfl
  refine fin _ _ false ex ey (fun op=>by cases op<;>simp [eqGuard,Sc.val]) rfl rfl (fun d=>?_) (by simpa using h)
  simp [Op.equalIn,run_underlying u1,Sc.val]
 ·rename_i b1 o1 he1 he2
  rw [he1] at hrx
  rw [he2] at hry
  obtain ⟨_,_,ex,_⟩:=hrx.elp_inv
  have ey:=hry.sc_inv
  obtain ⟨e,i,u1,u2,u3⟩:=hptr rfl
  refine fin _ _ false ex ey (fun op=>by cases op<;>simp [eqGuard,Sc.val]) rfl rfl (fun d=>?_) (by simpa using h)
  simp [Op.equalIn,run_underlying u1,Sc.val]
 ·rename_i b1 o1 he1 he2
  rw [he1] at hrx
  rw [he2] at hry
  have ex:=hrx.sc_inv
  obtain ⟨_,ey⟩:=hry.ptr_inv
  obtain ⟨e,i,u1,u2,u3⟩:=hptr rfl
  refine fin _ _ false ex ey (fun op=>by cases op<;>simp [eqGuard,Sc.val]) rfl rfl (fun d=>?_) (by simpa using h)
  simp [Op.equalIn,run_underlying u1,Sc.val]
 ·rename_i he1 he2
  rw [he1] at hrx
  rw [he2] at hry
  have ex:=hrx.sc_inv
  have ey:=hry.sc_inv
  obtain ⟨e,i,u1,u2,u3⟩:=hptr rfl
  refine fin _ _ true ex ey (fun op=>by cases op<;>simp [eqGuard,Sc.val]) rfl rfl (fun d=>?_) (by simpa using h)
  simp [Op.equalIn,run_underlying u1,Sc.val]
 ·rename_i f1 c1 he1 he2
  rw [he1] at hrx
  rw [he2] at hry
  obtain ⟨vs,ex,_⟩:=hrx.fn_inv
  have ey:=hry.sc_inv
  obtain ⟨p,q,r,u1⟩:=hfun rfl
  refine fin _ _ false ex ey (fun op=>by cases op<;>simp [eqGuard,Sc.val]) rfl rfl (fun d=>?_) (by simpa using h)
  simp [Op.equalIn,run_underlying u1,Sc.val]
 ·rename_i he1 he2
  rw [he1] at hrx
  rw [he2] at hry
  have ex:=hrx.sc_inv
  have ey:=hry.sc_inv
  obtain ⟨p,q,r,u1⟩:=hfun rfl
  refine fin _ _ true ex ey (fun op=>by cases op<;>simp [eqGuard,Sc.val]) rfl rfl (fun d=>?_) (by simpa using h)
  simp [Op.equalIn,run_underlying u1,Sc.val]
 ·exact h.elim
theorem iZ (z:Array Value) (n j:Nat):(Builtin.zeroCells z n)[j]? = if j<n * z.size then some (z[j % z.size]!) else none:=by
 simp only [Builtin.zeroCells,Array.getElem?_map]
 by_cases h:j<n * z.size
 ·rw [if_pos h,Array.getElem?_eq_getElem (by simpa using h)]
  simp
 ·rw [if_neg h,Array.getElem?_eq_none (by simpa using h)]
  rfl
theorem s_clrC (hs:RepS W0 κ σ a w) {t e:TypeId} {x:Operand} {x':Opd} {sz:Nat} {zl:List AV} {i:TypeInfo} {v:Value} (ho:o.op=.call { callee:=.builtin .clear,args:=#[x],argTypes:=#[t] }) (hd:o.dst=none) (hx:ax z x=some x')
  (hu:P.underlying t=some (.slice e)) (hi:P.info? e=some i) (hiv:i.zero=some v) (hsz:i.size=sz) (hz:∀ (κ:Gh) (w:World),RepL κ w zl v.cells) (hvs:v.cells.size=sz)
  (h:eff call σ id (.clrC sz zl x') F):o.wp P a w (After W0 κ σ a w id F) Q:=by
 have hr:=am hs hx
 simp only [eff] at h
 split at h
 ·rename_i q b off n c tk he
  rw [he] at hr
  split at h
  ·rename_i hb
   have:=Nat.eq_of_beq_eq_true hb
   subst this
   split at h
   ·rename_i l hl
    split at h
    ·exact h.elim
    ·rename_i hmm
     split at h
     ·rename_i l' hsp
      obtain ⟨hn,hF⟩:=h
      obtain ⟨cap,hDb,hnc,hcc,hT,hv1⟩:=hr.cs_inv
      obtain ⟨_,hW,hB⟩:=hs.boxes b l hl
      obtain ⟨C,ty,hg,hR⟩:=hB.row hmm
      have hzl:zl.length=sz:=by rw [← (hz κ w).1,hvs]
      have hL:RepL κ w (List.replicate n zl).flatten (Builtin.zeroCells v.cells n):=by
       refine ⟨by rw [size_zeroCells];simp [hvs,hzl],?_,fun j u hj=>?_⟩
       ·intro u hu'
        obtain ⟨l,hl,hul⟩:=List.mem_flatten.1 hu'
        rw [List.eq_of_mem_replicate hl] at hul
        exact (hz κ w).2.1 u hul
       ·rw [bT,hzl] at hj
        split at hj
        ·rename_i hlt
         have h1:=(hz κ w).2.2 _ u hj
         have hszp:0<sz:=by
          rcases Nat.eq_zero_or_pos sz with h | h
          ·subst h;simp at hlt
          ·exact h
         have hm:j % sz<v.cells.size:=by rw [hvs];exact Nat.mod_lt _ hszp
         rw [Array.getD_eq_getD_getElem?,iZ,hvs,if_pos hlt]
         simpa [Array.getD,hm] using h1
        ·cases hj
      obtain ⟨k1,k2,k3,k4⟩:=dE hR hL hsp
      obtain ⟨s1,s2,s3⟩:=hs.store hl hg (bA k2) k3 k1 (fun x hx=>k4 x fun hh=>hx ⟨rfl,hh⟩)
      have hrun:=run_storeCells_at P (κ.ι b).1 ((κ.ι b).2+off) ty (Builtin.zeroCells v.cells n).toList 0 C w hg (by simpa using k2) hL.one
      simp only [Nat.add_zero] at hrun
      refine ai (x:=.tuple #[]) (w':=w.setRow (κ.ι b).1 (C.toList.take ((κ.ι b).2+off)++(Builtin.zeroCells v.cells n).toList++C.toList.drop ((κ.ι b).2+off+(Builtin.zeroCells v.cells n).toList.length)).toArray) ?_ ?_
      ·generalize (w.setRow (κ.ι b).1 (C.toList.take ((κ.ι b).2+off)++(Builtin.zeroCells v.cells n).toList++C.toList.drop ((κ.ι b).2+off+(Builtin.zeroCells v.cells n).toList.length)).toArray)=w' at hrun ⊢
       obtain ⟨n',rfl⟩:∃ n',n=n'+1:=⟨n - 1,by omega⟩
       simp [execOp,ho,hv1,resolve,invoke,builtin,Builtin.clear_,run_underlying hu,zeroValue,typeInfo,hi,hiv,hrun]
      ·rw [hd]
       exact ⟨_,κ,hF,s1,s2,rfl,Grow.refl _ _⟩
     ·exact h.elim
   ·exact h.elim
  ·exact h.elim
 ·exact h.elim
theorem nO {r:Nat} {t:ByteArray} {pos:Nat} (ty:TypeId) (h:w.heap[r]? = some (.stringIter t pos)) (h':¬ pos<t.size) :
  (Instr.next (.pointer (some ⟨r,0,none⟩)) true ty).run P w=.ok (.tuple #[.bool false]) w:=by
 simp [Instr.next,getObj,Sem.run,h,h']
theorem lj {r:Nat} {t:ByteArray} {pos:Nat} (ty:TypeId) (h:w.heap[r]? = some (.stringIter t pos)) (hq:pos<t.size) (ha:(t[pos]'hq).toNat<128) :
  (Instr.next (.pointer (some ⟨r,0,none⟩)) true ty).run P w=.ok (.tuple #[.bool true,.int .i64 pos,.int .i32 (t[pos]'hq).toNat]) { w with heap:=w.heap.setIfInBounds r (.stringIter t (pos+1)) }:=by
 have hr:r<w.heap.size:=aC h
 simp only [Instr.next,getObj,setObj,Sem.run_bind,Sem.run,h,Result.andThen,hq,if_true,decode_ascii t pos hq ha]
 simp [goInt,Sem.run,h,hr]
theorem s_rngS (hs:RepS W0 κ σ a w) (hf:Fresh κ id) {t:TypeId} {x:Operand} {x':Opd} (ho:o.op=.range t x) (hd:o.dst=some d) (hx:ax z x=some x') (ht:P.underlying t=some .string) (hN:d<a.tmps.size)
  (h:eff call σ id (.rngS d x') F):o.wp P a w (After W0 κ σ a w id F) Q:=by
 have hr:=am hs hx
 simp only [eff] at h
 split at h
 ·rename_i l he
  rw [he] at hr
  have ex:=hr.sc_inv
  simp only [Sc.val] at ex
  have hid:¬ κ.Db id:=hf.db id (Nat.le_refl _) (by omega)
  obtain ⟨r1,r2,_⟩:=hs.boxO (id:=id) (l:=[.mpv (.it l 0)]) (ob:=.stringIter ⟨l.toArray⟩ 0) hid fun κ' e=>.inr ⟨.mpv (.it l 0),_,rfl,rfl,heap_alloc_new,rfl,rfl⟩
  refine ai (x:=.pointer (some ⟨w.heap.size,0,none⟩)) (w':=w.alloc (.stringIter ⟨l.toArray⟩ 0)) ?_ ?_
  ·simp [execOp,ho,ex,Instr.range,run_underlying ht,newObj,Sem.run,Result.andThen]
  ·rw [hd]
   refine ⟨_,{ κ with Db:=fun b=>κ.Db b∨b=id,ι:=fun b=>if b=id then (w.heap.size,0) else κ.ι b },h,?_,r2.trans Step.put,put_size,⟨fun b hb=>?_,fun k hk=>.inl hk⟩⟩
   ·refine r1.put hN ?_
    have:=RepV.ptr (κ:={ κ with Db:=fun b=>κ.Db b∨b=id,ι:=fun b=>if b=id then (w.heap.size,0) else κ.ι b }) (w:=w.alloc (.stringIter ⟨l.toArray⟩ 0)) id 0 (.inr rfl)
    simpa using this
   ·rcases (show κ.Db b∨b=id from hb) with hb | rfl
    ·exact .inl hb
    ·exact .inr ⟨Nat.le_refl _,by omega⟩
 ·exact h.elim
theorem s_nxtS (hs:RepS W0 κ σ a w) {x:Operand} {x':Opd} (ho:o.op=.next x true) (hd:o.dst=some d) (hx:ax z x=some x') (hN:d<a.tmps.size)
  (h:eff call σ id (.nxtS d x') F):o.wp P a w (After W0 κ σ a w id F) Q:=by
 have hr:=am hs hx
 simp only [eff] at h
 split at h
 ·rename_i b he
  rw [he] at hr
  obtain ⟨_,ex⟩:=hr.ptr_inv
  split at h
  ·rename_i l p hl
   obtain ⟨_,_,hB⟩:=hs.boxes b _ hl
   rcases hB with ⟨h0,_⟩ | ⟨es',ob,e1,e2,e3,e4⟩
   ·cases h0
   cases e1
   obtain ⟨rfl⟩:ob=.stringIter ⟨l.toArray⟩ p:=by cases ob<;>first | exact e4.elim | (obtain ⟨rfl,rfl⟩:=e4;rfl)
   rw [e2] at ex
   split at h
   ·rename_i hp
    obtain ⟨hle,hF⟩:=h
    obtain ⟨r1,r2⟩:=hs.storeM hl (ob:=.stringIter ⟨l.toArray⟩ p) (x1:=.mpv (.it l p)) (ob':=.stringIter ⟨l.toArray⟩ p) trivial e2 e3 rfl ⟨rfl,rfl⟩
    have hsame:({ w with heap:=w.heap.setIfInBounds (κ.ι b).1 (.stringIter ⟨l.toArray⟩ p) }:World)=w:=by
     have:w.heap.setIfInBounds (κ.ι b).1 (.stringIter ⟨l.toArray⟩ p)=w.heap:=by
      apply Array.ext_getElem?
      intro i
      rw [Array.getElem?_setIfInBounds]
      by_cases hi:(κ.ι b).1=i
      ·subst hi;rw [if_pos rfl,if_pos (aC e3)];exact e3.symm
      ·rw [if_neg hi]
     rw [this]
    rw [hsame] at r1 r2
    refine ai (x:=.tuple #[.bool false]) (w':=w) ?_ ?_
    ·have hn:=nO (P:=P) (w:=w) o.type e3 (by simpa [ByteArray.size] using hle)
     simp only [execOp,ho,ex]
     simp [hn,Result.andThen]
    ·rw [hd]
     refine ⟨_,κ,hF,r1.put hN ?_,r2.trans Step.put,put_size,Grow.refl _ _⟩
     exact .tup _ #[.bool false] rfl fun j v hj=>by
      match j,hj with
      | 0,hj=>simp at hj;subst hj;exact .sc (.b false)
   ·rename_i c hp
    obtain ⟨hc,hF⟩:=h
    have hpl:p<l.length:=(List.getElem?_eq_some_iff.1 hp).1
    obtain ⟨r1,r2⟩:=hs.storeM hl (ob:=.stringIter ⟨l.toArray⟩ p) (x1:=.mpv (.it l (p+1))) (ob':=.stringIter ⟨l.toArray⟩ (p+1)) trivial e2 e3 rfl ⟨rfl,rfl⟩
    have hpl':p<(⟨l.toArray⟩:ByteArray).size:=by simpa [ByteArray.size] using hpl
    have hcc:(⟨l.toArray⟩:ByteArray)[p]'hpl'=c:=by
     have:l[p]=c:=by rw [List.getElem?_eq_getElem hpl] at hp;exact Option.some.inj hp
     rw [← this];rfl
    have hn:=lj (P:=P) (w:=w) o.type e3 hpl' (by rw [hcc];exact hc)
    rw [hcc] at hn
    refine ai (x:=.tuple #[.bool true,.int .i64 p,.int .i32 c.toNat]) (w':={ w with heap:=w.heap.setIfInBounds (κ.ι b).1 (.stringIter ⟨l.toArray⟩ (p+1)) }) ?_ ?_
    ·generalize ({ w with heap:=w.heap.setIfInBounds (κ.ι b).1 (.stringIter ⟨l.toArray⟩ (p+1)) }:World)=w' at hn ⊢
     simp only [execOp,ho,ex]
     simp [hn,Result.andThen]
    ·rw [hd]
     refine ⟨_,κ,hF,r1.put hN ?_,r2.trans Step.put,put_size,Grow.refl _ _⟩
     exact .tup _ #[.bool true,.int .i64 p,.int .i32 c.toNat] rfl fun j v hj=>by
      match j,hj with
      | 0,hj=>simp at hj;subst hj;exact .sc (.b true)
      | 1,hj=>simp at hj;subst hj;exact .sc (.i .i64 p)
      | 2,hj=>simp at hj;subst hj;exact .sc (.i .i32 c.toNat)
  ·exact h.elim
 ·exact h.elim
end ops
end Go.Abs
namespace Go.Abs
open Go Go.RowKit
section ops
variable {P:Program} {W0:World} {κ:Gh} {σ:Log} {a:Act} {w:World} {id:Nat} {F:Log→Prop} {call:aX} {o:Oper} {Q:Exit→Act→World→Prop} {d:Nat} {z:Option Nat}
theorem RepS.below (hs:RepS W0 κ σ a w) {w':World} (hb:Below w.heap.size w w'):RepS W0 κ σ a w'∧Step κ σ w κ σ w'∧Ext κ w κ w':=by
 have hcell:∀ b o,b<w.heap.size→w'.cell? ⟨b,o,none⟩=w.cell? ⟨b,o,none⟩:=by
  intro b o hlt
  unfold World.cell?
  rw [hb.block b hlt]
 have e:Ext κ w κ w':=⟨fun _ _ h=>h,fun b o h=>hcell b o (hs.Icell b o h),fun _ h=>⟨h,rfl⟩,fun _ h=>⟨h,rfl⟩⟩
 refine ⟨⟨fun n v h=>(hs.slots n v h).mono e,fun b l h=>?_,hs.binj,fun k h=>?_,hs.tdis,hs.tbox,hs.sepI,fun b o h=>Nat.lt_of_lt_of_le (hs.Icell b o h) hb.size,hs.old,Nat.le_trans hs.size0 hb.size,
  fun b hlt=>(hb.block b (Nat.lt_of_lt_of_le hlt hs.size0)).trans (hs.amb b hlt),hs.defers,hb.os.trans hs.os,hb.tape.trans hs.tape,hb.output.trans hs.output⟩,
  ⟨⟨hb.os, hb.tape, hb.output, hb.size, fun b hlt _ => hb.block b hlt, fun b C ty fz hC => ⟨C, (hb.block b (aC hC)).trans hC, rfl, fun _ _ => rfl⟩, fun b ob hE hn => ⟨ob, (hb.block b (aC hE)).trans hE, hn⟩⟩,
    fun _ _ h=>.inl h,fun _ _ h=>h,fun _ _ h=>.inl h,fun _ _ h=>⟨h,rfl⟩,fun _ _ h=>⟨h,rfl⟩⟩,e⟩
 ·obtain ⟨h1,h2,h3⟩:=hs.boxes b l h
  exact ⟨h1,h2,h3.mono e (hb.block _ h3.lt)⟩
 ·obtain ⟨h1,h2⟩:=hs.toks k h
  refine ⟨h1,fun hlt=>?_⟩
  obtain ⟨g1,C,ty,g2,g3⟩:=h2 hlt
  exact ⟨g1,C,ty,(hb.block _ (aC g2)).trans g2,g3⟩
theorem s_mkC (hs:RepS W0 κ σ a w) (hf:Fresh κ id) {t e:TypeId} {sz by_:Nat} {x:Operand} {x':Opd} {zl:List AV} {i:TypeInfo} {v:Value}
  (ho:o.op=.makeSlice t x x) (hd:o.dst=some d) (hx:ax z x=some x') (hu:P.underlying t=some (.slice e)) (hi:P.info? e=some i) (hiv:i.zero=some v) (hsz:i.size=sz) (hby:i.bytes=by_)
  (hz:∀ (κ:Gh) (w:World),RepL κ w zl v.cells) (hvs:v.cells.size=sz) (hN:d<a.tmps.size) (h:eff call σ id (.mkC d sz by_ zl x') F):o.wp P a w (After W0 κ σ a w id F) Q:=by
 have hr:=am hs hx
 simp only [eff] at h
 split at h
 ·rename_i n he
  rw [he] at hr
  have ex:=hr.sc_inv
  simp only [Sc.val] at ex
  obtain ⟨⟨h0,hR1,hR2⟩,hF⟩:=h
  have hzl:zl.length=sz:=by rw [← (hz κ w).1,hvs]
  have hrun:=run_make (P:=P) w t e i v hu hi hiv .i64 .i64 n n h0 (Int.le_refl _) (by
   rw [hby]
   have h1:((n.toNat * by_:Nat):Int)≤140737488355328:=by omega
   have h2:((n.toNat * by_:Nat):Int)=n * by_:=by rw [Int.natCast_mul,Int.toNat_of_nonneg h0]
   rw [Int.mul_comm];omega) (by omega)
  have hexec:(execOp a.eval o).run P w=.ok (.value (.slice (some ⟨w.heap.size,0,none⟩) n.toNat n.toNat)) (w.alloc (.cells (madeCells v.cells (n.toNat * sz)) e)):=by
   simp only [execOp,ho,ex]
   rw [hsz] at hrun
   simp [hrun]
  have hL:RepL κ w (List.replicate n.toNat zl).flatten (madeCells v.cells (n.toNat * sz)):=by
   refine ⟨by rw [size_madeCells];simp [hzl],?_,fun j u hj=>?_⟩
   ·intro u hu'
    obtain ⟨l,hl,hul⟩:=List.mem_flatten.1 hu'
    rw [List.eq_of_mem_replicate hl] at hul
    exact (hz κ w).2.1 u hul
   ·rw [bT,hzl] at hj
    split at hj
    ·rename_i hlt
     have:=(hz κ w).2.2 _ u hj
     have e1:(madeCells v.cells (n.toNat * sz)).getD j undef=v.cells.getD (j % sz) undef:=by
      have hszp:0<sz:=by
       rcases Nat.eq_zero_or_pos sz with h | h
       ·subst h;simp at hlt
       ·exact h
      have hm:j % sz<v.cells.size:=by rw [hvs];exact Nat.mod_lt _ hszp
      simp [madeCells,Array.getD,hlt,hvs,Nat.mod_lt _ hszp]
     rw [e1];exact this
    ·cases hj
  obtain ⟨h1,h2,h3⟩:=hs.box (hf.db id (Nat.le_refl _) (by omega)) hL e
  refine ai hexec ?_
  rw [hd]
  refine ⟨_,_,hF,h1.put hN ?_,h2.trans Step.put,put_size,⟨?_,fun k hk=>.inl hk⟩⟩
  ·have hp:=RepV.cs (κ:={ κ with Db:=fun b=>κ.Db b∨b=id,ι:=fun b=>if b=id then (w.heap.size,0) else κ.ι b }) (w:=w.alloc (.cells (madeCells v.cells (n.toNat * sz)) e)) sz id 0 n.toNat n.toNat .full n.toNat (.inr rfl)
    (Nat.le_refl _) (Nat.le_refl _) (fun A m c ev=>by cases ev;rfl)
   simpa using hp
  ·rintro b (hb | rfl)
   ·exact .inl hb
   ·exact .inr ⟨Nat.le_refl _,by omega⟩
 ·exact h.elim
theorem s_rngE (hs:RepS W0 κ σ a w) (hf:Fresh κ id) {t kt e:TypeId} {x:Operand} {x':Opd} (ho:o.op=.range t x) (hd:o.dst=some d) (hx:ax z x=some x') (ht:P.underlying t=some (.map kt e)) (hN:d<a.tmps.size)
  (h:eff call σ id (.rngE d x') F):o.wp P a w (After W0 κ σ a w id F) Q:=by
 have hr:=am hs hx
 simp only [eff] at h
 split at h
 ·rename_i b he
  rw [he] at hr
  obtain ⟨hDb,ex⟩:=hr.mr_inv
  split at h
  ·rename_i hl
   obtain ⟨_,_,hB⟩:=hs.boxes b _ hl
   rcases hB with ⟨h0,_⟩ | ⟨m,ob,e1,e2,e3,e4⟩
   ·cases h0
   ·cases e1
    obtain ⟨E,c,rfl⟩:∃ E c,ob=.map E c:=by cases ob<;>first | exact e4.elim | exact ⟨_,_,rfl⟩
    have hid:¬ κ.Db id:=hf.db id (Nat.le_refl _) (by omega)
    have hbid:b≠id:=fun e=>hid (e ▸ hDb)
    obtain ⟨r1,r2,_⟩:=hs.boxO (id:=id) (l:=[.mpv (.ie b)]) (ob:=.mapIter (some (κ.ι b).1) c #[] c) hid fun κ' e=>.inr ⟨.mpv (.ie b),_,rfl,rfl,heap_alloc_new,(e.db b hDb).1,c,c,by rw [(e.db b hDb).2]⟩
    refine ai (x:=.pointer (some ⟨w.heap.size,0,none⟩)) (w':=w.alloc (.mapIter (some (κ.ι b).1) c #[] c)) ?_ ?_
    ·simp [execOp,ho,ex,Instr.range,run_underlying ht,newObj,getObj,e3,Sem.run,Result.andThen]
    ·rw [hd]
     refine ⟨_,{ κ with Db:=fun b=>κ.Db b∨b=id,ι:=fun b=>if b=id then (w.heap.size,0) else κ.ι b },h,?_,r2.trans Step.put,put_size,⟨fun b hb=>?_,fun k hk=>.inl hk⟩⟩
     ·refine r1.put hN ?_
      have:=RepV.ptr (κ:={ κ with Db:=fun b=>κ.Db b∨b=id,ι:=fun b=>if b=id then (w.heap.size,0) else κ.ι b }) (w:=w.alloc (.mapIter (some (κ.ι b).1) c #[] c)) id 0 (.inr rfl)
      simpa using this
     ·rcases (show κ.Db b∨b=id from hb) with hb | rfl
      ·exact .inl hb
      ·exact .inr ⟨Nat.le_refl _,by omega⟩
  ·exact h.elim
 ·exact h.elim
theorem s_nxtE (hs:RepS W0 κ σ a w) {x:Operand} {x':Opd} (ho:o.op=.next x false) (hd:o.dst=some d) (hx:ax z x=some x') (hN:d<a.tmps.size)
  (h:eff call σ id (.nxtE d x') F):o.wp P a w (After W0 κ σ a w id F) Q:=by
 have hr:=am hs hx
 simp only [eff] at h
 split at h
 ·rename_i i he
  rw [he] at hr
  obtain ⟨_,ex⟩:=hr.ptr_inv
  split at h
  ·rename_i b hi
   obtain ⟨_,_,hB⟩:=hs.boxes i _ hi
   rcases hB with ⟨h0,_⟩ | ⟨m,ob,e1,e2,e3,e4⟩
   ·cases h0
   cases e1
   obtain ⟨hDb,s,l0,rfl⟩:=e4
   split at h
   ·rename_i hl
    obtain ⟨_,_,hB⟩:=hs.boxes b _ hl
    rcases hB with ⟨h0,_⟩ | ⟨m,ob,f1,f2,f3,f4⟩
    ·cases h0
    cases f1
    obtain ⟨E,c,rfl⟩:∃ E c,ob=.map E c:=by cases ob<;>first | exact f4.elim | exact ⟨_,_,rfl⟩
    have hE:E=#[]:=by
     have h2:RepMM κ w [] [] E.toList:=f4
     cases hq:E.toList with
     | nil=>exact Array.toList_eq_nil_iff.1 hq
     | cons y ys=>rw [hq] at h2;exact h2.elim
    subst hE
    rw [e2] at ex
    refine ai (x:=.tuple #[.bool false]) (w':=w) ?_ (by
     rw [hd]
     refine .put hs hN (.tup [.sc (.b false)] #[.bool false] rfl fun j v hj=>?_) h
     cases j with
     | zero=>simp at hj;subst hj;exact .sc (.b false)
     | succ j=>simp at hj)
    simp [execOp,ho,ex,Instr.next,getObj,e3,f3,Sem.run,Result.andThen,choose,Question.forced]
   ·exact h.elim
  ·exact h.elim
 ·exact h.elim
theorem s_mkfb (hs:RepS W0 κ σ a w) {f:FuncId} {x:Operand} {x':Opd} {z1:Option Nat} (ho:o.op=.makeFunc (.func f) #[x] #[]) (hd:o.dst=some d) (hx:ax z1 x=some x')
  (hN:d<a.tmps.size) (h:eff call σ id (.mkfb d f x') F):o.wp P a w (After W0 κ σ a w id F) Q:=by
 have hr:=am hs hx
 simp only [eff] at h
 split at h
 ·rename_i b q he
  rw [he] at hr
  obtain ⟨hDb,e⟩:=hr.ptr_inv
  refine ai (x:=.func (.func f) #[.pointer (some ⟨(κ.ι b).1,(κ.ι b).2+q,none⟩)] #[]) (w':=w) ?_ ?_
  ·simp [execOp,ho,Instr.makeFunc,e]
  ·rw [hd]
   exact .put hs hN (.fb f b q hDb) h
 ·exact h.elim
theorem s_eqN (hs:RepS W0 κ σ a w) {b:BinOp} {ng:Bool} {t1 t2 e:TypeId} {x:Operand} {x':Opd} {z1:Option Nat} (ho:o.op=.binOp b t1 x (.const (.slice none 0 0)) t2) (hd:o.dst=some d) (hx:ax z1 x=some x')
  (hb:lm b=some ng) (hu:P.underlying t1=some (.slice e)) (hN:d<a.tmps.size) (h:eff call σ id (.eqN d ng x') F):o.wp P a w (After W0 κ σ a w id F) Q:=by
 have hrx:=am hs hx
 have fin:∀ (A:Addr) (n c:Nat),a.eval x=.slice (some A) n c→F [(.s d,.av (.sc (.b ng)))]→o.wp P a w (After W0 κ σ a w id F) Q:=by
  intro A n c ex hF
  have h3:∀ d:Nat,(Op.equalIn (d+1) t1 (.slice (some A) n c) (.slice none 0 0)).run P w=.ok false w:=fun d=>by simp [Op.equalIn,run_underlying hu]
  have h4:(Op.equal t1 (.slice (some A) n c) (.slice none 0 0)).run P w=.ok false w:=h3 9999
  have h1:binOp .eql t1 (.slice (some A) n c) (.slice none 0 0)=(do pure (.bool (← Op.equal t1 (.slice (some A) n c) (.slice none 0 0)))):=rfl
  have h2:binOp .neq t1 (.slice (some A) n c) (.slice none 0 0)=(do pure (.bool (!(← Op.equal t1 (.slice (some A) n c) (.slice none 0 0))))):=rfl
  have hgu:∀ op,(eqGuard op t1 x (.const (.slice none 0 0)) (.slice (some A) n c) (.slice none 0 0)).run P w=.ok () w:=by
   intro op
   simp [eqGuard,run_underlying hu]
  have ey:a.eval (.const (.slice none 0 0))=.slice none 0 0:=rfl
  refine ai (x:=.bool ng) (w':=w) ?_ (by rw [hd];exact .put hs hN (.sc (.b ng)) hF)
  cases b<;>simp only [lm] at hb<;>cases hb
  ·simp [execOp,ho,ex,ey,hgu,h1,h4]
  ·simp [execOp,ho,ex,ey,hgu,h2,h4]
 simp only [eff] at h
 split at h
 ·rename_i q e1 r t he
  rw [he] at hrx
  obtain ⟨hD,_⟩:=hrx.sl_inv
  generalize hv:a.eval x=vx at hD
  cases hD with
  | lst _ _ b o cap C hn=>exact fin _ _ _ hv h
 ·rename_i he
  rw [he] at hrx
  obtain ⟨cap,_,_,_,_,hv⟩:=hrx.cs_inv
  exact fin _ _ _ hv h
 ·rename_i he
  rw [he] at hrx
  obtain ⟨off,cap,_,_,_,_,_,hv⟩:=hrx.mx_inv
  exact fin _ _ _ hv h
 ·exact h.elim
theorem s_bslZ (hs:RepS W0 κ σ a w) {t e:TypeId} {sz:Nat} (ho:o.op=.buildSlice t 0 #[]) (hd:o.dst=some d) (hu:P.underlying t=some (.slice e)) {ie:TypeInfo} (hie:P.info? e=some ie)
  (hN:d<a.tmps.size) (h:eff call σ id (.bslZ d sz) F):o.wp P a w (After W0 κ σ a w id F) Q:=by
 have hrun:(Instr.buildSlice t 0 #[]).run P w=.ok (.slice (some ⟨w.heap.size,0,none⟩) 0 0) (w.alloc (.cells #[] e)):=by
  have h0:Array.range 0=#[]:=rfl
  simp [Instr.buildSlice,run_underlying hu,sizeOf,typeInfo,hie,Instr.fill,newRow,h0]
 obtain ⟨r,s,ee⟩:=hs.below (w':=w.alloc (.cells #[] e)) ((Below.refl _ w).alloc (Nat.le_refl _) _)
 refine ai (x:=.slice (some ⟨w.heap.size,0,none⟩) 0 0) (w':=w.alloc (.cells #[] e)) ?_ ?_
 ·simp only [execOp,ho,Sem.run_bind]
  have:(#[]:Array (Nat × Operand)).map (fun (x:Nat × Operand)=>(x.1,a.eval x.2))=#[]:=by simp
  simp [hrun]
 ·rw [hd]
  refine ⟨_,κ,h,r.put hN ?_,s.trans Step.put,put_size,Grow.refl _ _⟩
  exact .sl sz [] .full _ (.lst sz [] _ _ 0 (fun _ _=>undef) (Nat.le_refl _) (by simp) (by simp) (by simp) (by simp)) (fun A m k ev=>by cases ev;rfl)
theorem nQ (w:World) (dT sT ty elem:TypeId) (g o dLen dCap:Nat) (a:Addr) (sLen sCap sz:Nat) (cur:Array Value) (t:TypeId) (cs:List Value)
  (hu:P.underlying dT=some (.slice elem)) (hs:(P.info? elem).map (·.size)=some sz)
  (hg:w.heap[g]? = some (.cells cur t (0,0))) (hn:cs.length=Nat.min sLen dLen * sz)
  (hsrc:∀ j v,cs[j]? = some v→w.cell? (a.add j)=some v) (hfit:o+cs.length≤cur.size) (h1:∀ v∈cs,v.oneCell'=true) :
  (Builtin.copy_ #[dT,sT] ty #[.slice (some ⟨g,o,none⟩) dLen dCap,.slice (some a) sLen sCap]).run P w =
   .ok (goInt (Nat.min sLen dLen)) (w.setRow g (cur.toList.take o++cs++cur.toList.drop (o+cs.length)).toArray):=by
 have hl:=run_loadCells_list (P:=P) w a cs hsrc
 have hst:=run_storeCells_at P g o t cs 0 cur w hg (by simpa using hfit) h1
 cases hq:P.info? elem with
 | none=>simp [hq] at hs
 | some i =>
   have hi:i.size=sz:=by simpa [hq] using hs
   simp [Builtin.copy_,run_underlying hu,Builtin.lenOf,Builtin.firstCells,sizeOf,typeInfo,hq,hi,← hn,hl,hst]
theorem zq_rep {v:AV} {x:Value} (hry:RepV κ w v x) {sz:Nat} (hzq:zq σ sz v=true):∃ A cap,x=.slice A 0 cap:=by
 unfold zq at hzq
 split at hzq
 ·rename_i m V hys
  have hm:m=0:=Nat.eq_of_beq_eq_true hzq
  subst hm
  unfold ysl at hys
  split at hys
  ·split at hys
   ·simp only [Option.some.injEq,Prod.mk.injEq] at hys
    have hnil:=List.length_eq_zero_iff.1 hys.1
    subst hnil
    obtain ⟨hD,_⟩:=hry.sl_inv
    obtain ⟨A,cap,h1,_⟩:=hD.sliceV
    exact ⟨A,cap,h1⟩
   ·cases hys
  ·split at hys
   ·split at hys
    ·split at hys
     ·cases hys
     ·split at hys
      ·simp only [Option.some.injEq,Prod.mk.injEq] at hys
       obtain ⟨cap,h1,h2,h3,h4,h5⟩:=hry.cs_inv
       rw [hys.1] at h5
       exact ⟨_,_,h5⟩
      ·cases hys
    ·cases hys
   ·cases hys
  ·split at hys
   ·split at hys
    ·split at hys
     ·cases hys
     ·split at hys
      ·simp only [Option.some.injEq,Prod.mk.injEq] at hys
       obtain ⟨off,cap,_,_,_,_,_,h5⟩:=hry.mx_inv
       rw [hys.1] at h5
       exact ⟨_,_,h5⟩
      ·cases hys
    ·cases hys
   ·cases hys
  ·cases hys
 ·cases hzq
theorem nP (w:World) (dT sT ty elem:TypeId) (g:Addr) (A:Option Addr) (dLen dCap sCap:Nat) (hu:P.underlying dT=some (.slice elem)) {ie:TypeInfo} (hie:P.info? elem=some ie) :
  (Builtin.copy_ #[dT,sT] ty #[.slice (some g) dLen dCap,.slice A 0 sCap]).run P w=.ok (goInt 0) w:=by
 cases A<;>simp [Builtin.copy_,run_underlying hu,Builtin.lenOf,Builtin.firstCells,sizeOf,typeInfo,hie,storeCells,loadCells,loadCellsFrom]
theorem s_cpy (hs:RepS W0 κ σ a w) {t e:TypeId} {sz:Nat} {x y:Operand} {x' y':Opd} {z1 z2:Option Nat} {ie:TypeInfo} {dd:Option Nat}
  (ho:o.op=.call { callee:=.builtin .copy,args:=#[x,y],argTypes:=#[t,t] }) (hd:o.dst=dd) (hx:ax z1 x=some x') (hy:ax z2 y=some y')
  (hu:P.underlying t=some (.slice e)) (hie:P.info? e=some ie) (hsz:ie.size=sz) (hsz0:0<sz) (hN:∀ d,dd=some d→d<a.tmps.size)
  (h:eff call σ id (.cpy dd sz x' y') F):o.wp P a w (After W0 κ σ a w id F) Q:=by
 have hrx:=am hs hx
 have hry:=am hs hy
 subst hsz
 have hexec:∀ v1 v2,a.eval x=v1→a.eval y=v2→∀ r w',(Builtin.copy_ #[t,t] o.type #[v1,v2]).run P w=.ok r w'→(execOp a.eval o).run P w=.ok (.value r) w':=by
  intro v1 v2 h1 h2 r w' hr
  simp [execOp,ho,resolve,invoke,builtin,h1,h2,hr]
 have fin:∀ (n:Nat) (w':World) (σ':Log),RepS W0 κ (σ'++σ) a w'→Step κ σ w κ (σ'++σ) w'→(execOp a.eval o).run P w=.ok (.value (goInt n)) w'→F (bp dd (.sc (.i .i64 n))++σ')→o.wp P a w (After W0 κ σ a w id F) Q:=by
  intro n w' σ' r s hrun hF
  refine ai hrun ?_
  rw [hd]
  cases dd with
  | none=>exact ⟨_,κ,hF,r,s,rfl,Grow.refl _ _⟩
  | some d=>exact ⟨_,κ,hF,r.put (hN d rfl) (.sc (.i .i64 n)),s.trans Step.put,put_size,Grow.refl _ _⟩
 simp only [eff] at h
 split at h
 ·rename_i zz b q n c tk he1
  rw [he1] at hrx
  split at h
  ·rename_i hb
   have hq:=Nat.eq_of_beq_eq_true hb
   subst hq
   obtain ⟨cap,hDb,hnc,hcc,hT,hv1⟩:=hrx.cs_inv
   split at h
   ·rename_i hz
    obtain ⟨A,cap2,hv2⟩:=zq_rep hry hz
    exact fin 0 w [] hs (Step.refl _ _ _) (hexec _ _ hv1 hv2 _ _ (nP w t t o.type e _ A n cap cap2 hu hie)) (by simpa using h)
   ·rename_i hz
    split at h
    ·rename_i m V l hys hl
     split at h
     ·exact h.elim
     ·rename_i hmm
      obtain ⟨_,hW,hB⟩:=hs.boxes b l hl
      obtain ⟨C,ty,hg,hR⟩:=hB.row hmm
      split at h
      ·rename_i V' hV
       split at h
       ·rename_i l' hsp
        obtain ⟨hm,hF⟩:=h
        obtain ⟨b2,o2,cap2,L2,hv2,hL2,hVl,hnews,hr2⟩:=ji hs hry hsz0 hm hys
        obtain ⟨t1,t2,t3⟩:=iM hV
        have hLt:(L2.take (Nat.min m n * ie.size)).length=Nat.min m n * ie.size:=by rw [List.length_take,hL2,← hVl];omega
        have hget:∀ j,j<Nat.min m n * ie.size→(L2.take (Nat.min m n * ie.size))[j]? = L2[j]?:=fun j hj=>by rw [List.getElem?_take];simp [hj]
        have hVL:RepL κ w V' (L2.take (Nat.min m n * ie.size)).toArray:=by
         refine ⟨by rw [List.size_toArray,hLt,t1],fun v hv=>?_,fun j v hj=>?_⟩
         ·obtain ⟨j,hj⟩:=List.mem_iff_getElem?.1 hv
          have hjl:j<Nat.min m n * ie.size:=by rw [← t1];exact (List.getElem?_eq_some_iff.1 hj).1
          rw [t3 j hjl] at hj
          exact (hr2 j v hj).2
         ·have hjl:j<Nat.min m n * ie.size:=by rw [← t1];exact (List.getElem?_eq_some_iff.1 hj).1
          rw [t3 j hjl] at hj
          have:=(hr2 j v hj).1
          rw [List.getD_eq_getElem?_getD,← hget j hjl] at this
          rw [Array.getD_eq_getD_getElem?,List.getElem?_toArray]
          exact this
        obtain ⟨k1,k2,k3,k4⟩:=dE hR hVL hsp
        have hone:∀ u∈L2.take (Nat.min m n * ie.size),u.oneCell'=true:=by simpa using hVL.one
        simp only [List.toList_toArray] at k1 k2 k4
        have hr:=nQ (P:=P) w t t o.type e (κ.ι b).1 ((κ.ι b).2+q) n cap ⟨b2,o2,none⟩ m cap2 ie.size C ty (L2.take (Nat.min m n * ie.size)) hu (by simp [hie]) hg hLt (fun j v hj=>by
         have hjl:j<Nat.min m n * ie.size:=by rw [← hLt];exact (List.getElem?_eq_some_iff.1 hj).1
         rw [hget j hjl] at hj
         exact hnews j v hj) (by simpa using k2) hone
        obtain ⟨s1,s2,s3⟩:=hs.store hl hg (bA k2) k3 k1 (fun x hx=>k4 x fun hh=>hx ⟨rfl,hh⟩)
        exact fin _ _ [(.b b,.bx l')] s1 s2 (hexec _ _ hv1 hv2 _ _ hr) hF
       ·exact h.elim
      ·exact h.elim
    ·exact h.elim
  ·exact h.elim
 ·exact h.elim
end ops
end Go.Abs
namespace Go.Abs
open Go Go.MapKept
def kd:Sc→TypeDesc
 | .s _=>.string
 | _=>.int .i64
def kst:Bool→TypeDesc
 | true=>.string
 | false=>.int .i64
theorem isKey_of {st:Bool} {v:AV} {q:Sc} (h:kN st v=some q):v=.sc q∧IsKey (kd q) q.val∧kd q=kst st:=by
 unfold kN at h
 split at h<;>cases h
 ·exact ⟨rfl,trivial,rfl⟩
 ·exact ⟨rfl,rfl,rfl⟩
theorem keyB_now {q k:Sc} {r:Bool} (h:keyB q k=some r):Instr.sameNow (kd q) q.val k.val=some r∧(r=true→q=k):=by
 unfold keyB at h
 split at h
 ·rename_i a b
  cases h
  obtain ⟨r,h1,h2⟩:=sameNow_of_keys (d:=.string) (a:=.string ⟨a.toArray⟩) (b:=.string ⟨b.toArray⟩) trivial trivial
  have hr:r=aH a b:=by
   cases r with
   | false=>exact (decide_eq_false fun e=>by subst e;exact absurd (h2.2 rfl) (by simp)).symm
   | true=>exact (decide_eq_true (by simpa using h2.1 rfl)).symm
  refine ⟨?_,fun hh=>by rw [of_decide_eq_true hh]⟩
  show Instr.sameNow .string (.string ⟨a.toArray⟩) (.string ⟨b.toArray⟩)=_
  rw [h1,hr]
 ·rename_i a b
  cases h
  refine ⟨by simp [Sc.val,kd,Instr.sameNow];rfl,fun hh=>by rw [of_decide_eq_true hh]⟩
 ·cases h
section
variable {κ:Gh} {w:World} {q:Sc}
theorem mU:∀ {ks:List Sc} {vs:List AV} {E:List MapEntry} (i:Nat) {r:Option AV},RepMM κ w ks vs E→jL q ks vs=some r →
  (∃ v,r=some v∧∃ j e,Instr.findNow (kd q) q.val E i=some (some (i+j,e.val))∧E[j]? = some e∧e.key=q.val∧RepV κ w v e.val ∧
   ∀ x y,mval x=some x→RepV κ w x y→RepMM κ w (mG q ks) (mF q x ks vs) (E.modify j fun e=>{ e with key:=q.val,val:=y })) ∨
  (r=none∧Instr.findNow (kd q) q.val E i=some none∧∀ x y b,mval x=some x→RepV κ w x y→RepMM κ w (mG q ks) (mF q x ks vs) (E++[{ key:=q.val,val:=y,born:=b }]))
 | [], [], [], i, r, _, hf => by
   cases hf
   exact .inr ⟨rfl,rfl,fun x y b h1 h2=>⟨⟨rfl,h1,h2⟩,trivial⟩⟩
 | k :: ks, v :: vs, e :: s, i, r, ⟨⟨h1, h2, h3⟩, h4⟩, hf => by
   simp only [jL] at hf
   split at hf
   ·rename_i hk
    cases hf
    obtain ⟨g1,g2⟩:=keyB_now hk
    refine .inl ⟨v,rfl,0,e,?_,rfl,?_,h3,fun x y hx hy=>?_⟩
    ·simp [Instr.findNow,h1,g1]
    ·rw [h1,g2 rfl]
    ·simp only [mG,mF,hk]
     exact ⟨⟨by rw [g2 rfl],hx,hy⟩,h4⟩
   ·rename_i hk
    obtain ⟨g1,_⟩:=keyB_now hk
    rcases mU (i+1) h4 hf with ⟨u,f1,j,e',f2,f3,f4,f5,f6⟩ | ⟨f1,f2,f3⟩
    ·refine .inl ⟨u,f1,j+1,e',?_,by simpa using f3,f4,f5,fun x y hx hy=>?_⟩
     ·simp only [Instr.findNow,h1,g1]
      rw [f2,Nat.add_assoc,Nat.add_comm 1 j]
     ·simp only [mG,mF,hk]
      exact ⟨⟨h1,h2,h3⟩,f6 x y hx hy⟩
    ·refine .inr ⟨f1,?_,fun x y b hx hy=>?_⟩
     ·simp only [Instr.findNow,h1,g1]
      exact f2
     ·simp only [mG,mF,hk]
      exact ⟨⟨h1,h2,h3⟩,f3 x y b hx hy⟩
   ·cases hf
 | [],[],_::_,_,_,h,_=>h.elim
 | [],_::_,_,_,_,h,_=>h.elim
 | _::_,[],_,_,_,h,_=>h.elim
 | _::_,_::_,[],_,_,h,_=>h.elim
end
theorem mval_rep {κ:Gh} {w:World} {v u:AV} {x:Value} (h:mval v=some u) (hv:RepV κ w v x):mval u=some u∧RepV κ w u x:=by
 cases v<;>first | cases h | skip
 ·exact ⟨rfl,hv⟩
 ·obtain ⟨h1,_⟩:=hv.sl_inv
  exact ⟨rfl,.sl _ _ _ _ h1 trivial⟩
 ·exact ⟨rfl,hv⟩
section ops
variable {P:Program} {W0:World} {κ:Gh} {σ:Log} {a:Act} {w:World} {id:Nat} {F:Log→Prop} {call:aX} {o:Oper} {Q:Exit→Act→World→Prop} {d:Nat}
theorem s_mkS (hs:RepS W0 κ σ a w) (hf:Fresh κ id) {t:TypeId} (ho:o.op=.makeMap t none) (hd:o.dst=some d) (hN:d<a.tmps.size) (h:eff call σ id (.mkS d) F):o.wp P a w (After W0 κ σ a w id F) Q:=by
 have hid:¬ κ.Db id:=hf.db id (Nat.le_refl _) (by omega)
 obtain ⟨r1,r2,_⟩:=hs.boxO (id:=id) (l:=[.mm [] []]) (ob:=.map #[] 0) hid fun κ' e=>.inr ⟨.mm [] [],.map #[] 0,rfl,rfl,heap_alloc_new,trivial⟩
 refine ai (x:=.map (some w.heap.size)) (w':=w.alloc (.map #[] 0)) ?_ ?_
 ·simp [execOp,ho,Instr.makeMap,Result.andThen]
 ·rw [hd]
  refine ⟨_,{ κ with Db:=fun b=>κ.Db b∨b=id,ι:=fun b=>if b=id then (w.heap.size,0) else κ.ι b },h,?_,?_,put_size,⟨fun b hb=>?_,fun k hk=>.inl hk⟩⟩
  ·refine r1.put hN ?_
   have:=RepV.mr (κ:={ κ with Db:=fun b=>κ.Db b∨b=id,ι:=fun b=>if b=id then (w.heap.size,0) else κ.ι b }) (w:=w.alloc (.map #[] 0)) id (.inr rfl)
   simpa using this
  ·exact r2.trans Step.put
  ·rcases (show κ.Db b∨b=id from hb) with hb | rfl
   ·exact .inl hb
   ·exact .inr ⟨Nat.le_refl _,by omega⟩
theorem lkR_inv {st:Bool} {x k:Opd} {r:Option AV} (h:lkR σ st x k=some r):∃ b q ks vs,ev σ x=.mr b∧kN st (ev σ k)=some q∧look σ (.b b)=some (.bx [.mm ks vs])∧jL q ks vs=some r:=by
 unfold lkR at h
 split at h
 ·rename_i b q h1 h2
  split at h
  ·rename_i ks vs h3;exact ⟨b,q,ks,vs,h1,h2,h3,h⟩
  ·cases h
 ·cases h
theorem upR_inv {st:Bool} {x k v:Opd} {b:Nat} {m:AV} (h:upR σ st x k v=some (b,m)):∃ q u ks vs r,ev σ x=.mr b∧kN st (ev σ k)=some q∧mval (ev σ v)=some u∧look σ (.b b)=some (.bx [.mm ks vs])∧jL q ks vs=some r∧m=.mm (mG q ks) (mF q u ks vs):=by
 unfold upR at h
 split at h
 ·rename_i b' q u h1 h2 h3
  split at h
  ·rename_i ks vs h4
   split at h
   ·rename_i r h5
    simp only [Option.some.injEq,Prod.mk.injEq] at h
    obtain ⟨rfl,rfl⟩:=h
    exact ⟨q,u,ks,vs,r,h1,h2,h3,h4,h5,rfl⟩
   ·cases h
  ·cases h
 ·cases h
theorem s_lkS (hs:RepS W0 κ σ a w) {x k:Operand} {x' k':Opd} {t kt e:TypeId} {i:TypeInfo} {z:AV} {v0:Value} {ok st:Bool} (ho:o.op=.lookup t x k ok) (hd:o.dst=some d) (hx:ax none x=some x') (hk:ax none k=some k')
  (ht:P.underlying t=some (.map kt e)) (hkt:P.underlying kt=some (kst st)) (hi:P.info? e=some i) (hv0:i.zero=some v0) (hz:∀ (κ:Gh) (w:World),RepV κ w z v0) (hN:d<a.tmps.size)
  (h:eff call σ id (.lkS d ok st z x' k') F):o.wp P a w (After W0 κ σ a w id F) Q:=by
 simp only [eff] at h
 split at h
 ·rename_i r hr
  obtain ⟨b,q,ks,vs,he1,he2,hl,hf⟩:=lkR_inv hr
  have hrx:=am hs hx
  have hrk:=am hs hk
  rw [he1] at hrx
  obtain ⟨q1,hkey,q3⟩:=isKey_of he2
  rw [q1] at hrk
  rw [← q3] at hkt
  obtain ⟨_,hpx⟩:=hrx.mr_inv
  have hpk:=hrk.sc_inv
  obtain ⟨_,_,hB⟩:=hs.boxes b _ hl
  rcases hB with ⟨h0,_⟩ | ⟨m,ob,e1,e2,e3,e4⟩
  ·cases h0
  cases e1
  obtain ⟨E,c,rfl⟩:∃ E c,ob=.map E c:=by cases ob<;>first | exact e4.elim | exact ⟨_,_,rfl⟩
  replace e4:RepMM κ w ks vs E.toList:=e4
  have pair:∀ {u:AV} {y:Value} {bb:Bool},RepV κ w u y→RepV κ w (.tup [u,.sc (.b bb)]) (.tuple #[y,.bool bb]):=by
   intro u y bb hu
   refine .tup _ #[y,.bool bb] rfl fun j v hj=>?_
   match j,hj with
   | 0,hj=>simp at hj;subst hj;exact hu
   | 1,hj=>simp at hj;subst hj;exact .sc (.b bb)
  rcases mU 0 e4 hf with ⟨v,rfl,j,e',g2,g3,g4,g5,_⟩ | ⟨rfl,g2,_⟩
  ·cases ok with
   | true =>
     refine ai (x:=.tuple #[e'.val,.bool true]) (w':=w) ?_ ?_
     ·simp [execOp,ho,hpx,hpk,Instr.lookup,run_underlying ht,MapKept.run_getObj_map e3,MapKept.run_checkKey hkt hkey,MapKept.run_findKey hkt g2,Result.andThen]
     ·rw [hd]
      exact .put hs hN (pair g5) h
   | false =>
     refine ai (x:=e'.val) (w':=w) ?_ ?_
     ·simp [execOp,ho,hpx,hpk,Instr.lookup,run_underlying ht,MapKept.run_getObj_map e3,MapKept.run_checkKey hkt hkey,MapKept.run_findKey hkt g2,Result.andThen]
     ·rw [hd]
      exact .put hs hN g5 h
  ·cases ok with
   | true =>
     refine ai (x:=.tuple #[v0,.bool false]) (w':=w) ?_ ?_
     ·simp [execOp,ho,hpx,hpk,Instr.lookup,run_underlying ht,MapKept.run_getObj_map e3,MapKept.run_checkKey hkt hkey,MapKept.run_findKey hkt g2,Result.andThen,zeroValue,run_typeInfo w hi,hv0]
     ·rw [hd]
      exact .put hs hN (pair (hz κ w)) h
   | false =>
     refine ai (x:=v0) (w':=w) ?_ ?_
     ·simp [execOp,ho,hpx,hpk,Instr.lookup,run_underlying ht,MapKept.run_getObj_map e3,MapKept.run_checkKey hkt hkey,MapKept.run_findKey hkt g2,Result.andThen,zeroValue,run_typeInfo w hi,hv0]
     ·rw [hd]
      exact .put hs hN (hz κ w) h
 ·exact h.elim
theorem s_upS (hs:RepS W0 κ σ a w) {x k v:Operand} {x' k' v':Opd} {t kt e:TypeId} {st:Bool} (ho:o.op=.mapUpdate t x k v) (hd:o.dst=none) (hx:ax none x=some x') (hk:ax none k=some k') (hv:ax none v=some v')
  (ht:P.underlying t=some (.map kt e)) (hkt:P.underlying kt=some (kst st))
  (h:eff call σ id (.upS st x' k' v') F):o.wp P a w (After W0 κ σ a w id F) Q:=by
 simp only [eff] at h
 split at h
 ·rename_i b m hr
  obtain ⟨q,u,ks,vs,r,he1,he2,he3,hl,hf,rfl⟩:=upR_inv hr
  have hrx:=am hs hx
  have hrk:=am hs hk
  have hrv:=am hs hv
  rw [he1] at hrx
  obtain ⟨q1,hkey,q3⟩:=isKey_of he2
  rw [q1] at hrk
  rw [← q3] at hkt
  obtain ⟨_,hpx⟩:=hrx.mr_inv
  have hpk:=hrk.sc_inv
  obtain ⟨m1,m2⟩:=mval_rep he3 hrv
  obtain ⟨_,_,hB⟩:=hs.boxes b _ hl
  rcases hB with ⟨h0,_⟩ | ⟨m,ob,e1,e2,e3,e4⟩
  ·cases h0
  cases e1
  obtain ⟨E,c,rfl⟩:∃ E c,ob=.map E c:=by cases ob<;>first | exact e4.elim | exact ⟨_,_,rfl⟩
  replace e4:RepMM κ w ks vs E.toList:=e4
  generalize hy:a.eval v=y at hrv m2
  rcases mU 0 e4 hf with ⟨v0,_,j,e',g2,g3,g4,_,g6⟩ | ⟨_,g2,g6⟩
  ·have hm:=g6 u y m1 m2
   obtain ⟨r1,r2⟩:=hs.storeM hl (ob:=.map E c) (x1:=.mm (mG q ks) (mF q u ks vs)) (ob':=.map (E.modify j fun e=>{ e with key:=q.val,val:=y }) c) trivial e2 e3 rfl (show RepMM _ _ _ _ _ by simpa using hm)
   refine gv (w':={ w with heap:=w.heap.setIfInBounds (κ.ι b).1 (.map (E.modify j fun e=>{ e with key:=q.val,val:=y }) c) }) ?_ ?_
   ·have g3':E[j]? = some e':=by simpa using g3
    simp [execOp,ho,hpx,hpk,hy,Instr.mapUpdate,run_underlying ht,MapKept.run_getObj_map e3,MapKept.run_checkKey hkt hkey,MapKept.run_findKey hkt g2,Result.andThen,g3',g4,MapKept.run_keyThatStays hkey,MapKept.run_setObj_map _ e3]
   ·rw [hd]
    exact ⟨_,κ,h,r1,r2,rfl,Grow.refl _ _⟩
  ·have hm:=g6 u y c m1 m2
   obtain ⟨r1,r2⟩:=hs.storeM hl (ob:=.map E c) (x1:=.mm (mG q ks) (mF q u ks vs)) (ob':=.map (E.push { key:=q.val,val:=y,born:=c }) (c+1)) trivial e2 e3 rfl (show RepMM _ _ _ _ _ by simpa using hm)
   refine gv (w':={ w with heap:=w.heap.setIfInBounds (κ.ι b).1 (.map (E.push { key:=q.val,val:=y,born:=c }) (c+1)) }) ?_ ?_
   ·simp [execOp,ho,hpx,hpk,hy,Instr.mapUpdate,run_underlying ht,MapKept.run_getObj_map e3,MapKept.run_checkKey hkt hkey,MapKept.run_findKey hkt g2,Result.andThen,MapKept.run_setObj_map _ e3]
   ·rw [hd]
    exact ⟨_,κ,h,r1,r2,rfl,Grow.refl _ _⟩
 ·exact h.elim
end ops
end Go.Abs
namespace Go.Abs
open Go
structure Ann where
 opn:List Nat
 gl:Nat→Option (List Data)
 frz:Nat→List Nat
 cut:Nat→Bool:=fun _=>false
 cs:List Nat:=[]
 tk:List Nat:=[]
 slm:Nat→Bool:=fun _=>false
def dp:List AV→List Value→Option (List AV)
 | [],[]=>some []
 | p :: ps, v :: vs => match na (match p with | .sl z _ _ => some z | _ => none) v, dp ps vs with
   | some x,some xs=>some (x::xs)
   | _,_=>none
 | _,_=>none
theorem gW {κ:Gh} {w:World}:∀ {ps:List AV} {vs:List Value} {xs:List AV},dp ps vs=some xs→xs.length=vs.length∧(∀ x,x∈xs→one x=true)∧∀ (i:Nat) (x:AV),xs[i]? = some x→RepV κ w x (vs.getD i undef)
 | [],[],xs,h=>by simp only [dp] at h;cases h;exact ⟨rfl,by simp,by simp⟩
 | p :: ps, v :: vs, xs, h => by
   simp only [dp] at h
   split at h
   ·rename_i x xs' hx hxs
    cases h
    obtain ⟨h1,h2,h3⟩:=gW (κ:=κ) (w:=w) hxs
    obtain ⟨g1,g2⟩:=m9 (κ:=κ) (w:=w) hx
    refine ⟨by simp [h1],fun y hy=>?_,fun i y hy=>?_⟩
    ·rcases List.mem_cons.1 hy with rfl | hy
     ·exact g2
     ·exact h2 y hy
    ·cases i with
     | zero=>simp at hy;subst hy;simpa using g1
     | succ i=>simpa using h3 i y (by simpa using hy)
   ·cases h
 | [],_::_,xs,h=>by simp [dp] at h
 | _::_,[],xs,h=>by simp [dp] at h
def jx (P:Program) (kt e:TypeId):Option Bool:=match (P.info? e).bind (·.zero) with
 | some (.agg _)=>none
 | some _ => (match ct P e, P.underlying kt with
   | some [_],some .string=>some true
   | some [_],some (.int .i64)=>some false
   | _,_=>none)
 | none=>none
theorem jw {P:Program} {kt e:TypeId} {st:Bool} (h:jx P kt e=some st):P.underlying kt=some (kst st)∧∃ i v z,P.info? e=some i∧i.zero=some v∧ct P e=some [z]∧∀ (κ:Gh) (w:World),RepV κ w z v:=by
 unfold jx at h
 split at h
 ·cases h
 ·rename_i v hv hz
  have key:∀ z,ct P e=some [z]→∃ i v z,P.info? e=some i∧i.zero=some v∧ct P e=some [z]∧∀ (κ:Gh) (w:World),RepV κ w z v:=by
   intro z hzz
   obtain ⟨i',v',h1,h2,h3⟩:=cF hzz
   refine ⟨i',v',z,h1,h2,hzz,fun κ w=>?_⟩
   rw [h1] at hz
   simp only [Option.bind_some,h2,Option.some.injEq] at hz
   have hL:=h3 κ w
   have hc:v'.cells=#[v']:=by
    cases v'<;>first | rfl | exact absurd hz.symm (hv _)
   rw [hc] at hL
   exact hL.2.2 0 z rfl
  split at h
  ·rename_i z hzz hk;cases h;exact ⟨hk,key _ hzz⟩
  ·rename_i z hzz hk;cases h;exact ⟨hk,key _ hzz⟩
  ·cases h
 ·cases h
def special (P:Program) (an:Ann) (o:Oper):Option AOp:=
 match o.op,o.dst with
 | .makeSlice t (.tmp i) (.tmp j), some d => match Nat.beq i j, P.underlying t, an.opn.contains d with
   | true, some (.slice e), true => match P.info? e, ct P e with
     | some ie,some zl=>if zl.length=ie.size then some (.mk d ie.size ie.bytes zl (.t i)) else none
     | _,_=>none
   | true, some (.slice e), false => match an.cs.contains d with
     | true => (match P.info? e, ct P e with
       | some ie,some zl=>if zl.length=ie.size then some (.mkC d ie.size ie.bytes zl (.t i)) else none
       | _,_=>none)
     | false => match P.info? e, ct P e with
       | some ie, some zl => match bB zl with
         | some zd=>if zl.length=ie.size then some (.mkF d ie.size ie.bytes zd (.t i)) else none
         | none=>none
       | _,_=>none
   | _,_,_=>none
 | .buildSlice t 1 ⟨[(0, .const (.agg cs))]⟩, some d => match P.underlying t with
   | some (.slice e) => match P.info? e, ct P e with
     | some ie, some zl => match ie.zero, decide (1 * ie.size ≤ 2 ^ 24 ∧ 0 < ie.size), dp zl cs.toList with
       | some _,true,some xs=>some (.bsl d ie.size [.c (.agg xs)])
       | _,_,_=>none
     | _,_=>none
   | _=>none
 | .buildSlice t 0 ⟨[]⟩, some d => match P.underlying t with
   | some (.slice e) => match P.info? e with
     | some ie=>some (.bslZ d ie.size)
     | none=>none
   | _=>none
 | .call { callee := .builtin .copy, args := ⟨[x, y]⟩, argTypes := ⟨[t, t']⟩ }, d => if t = t' then match P.underlying t with
    | some (.slice e) => match P.info? e, ax none x, ax (cw P t) y with
      | some ie,some x,some y=>if 0<ie.size then some (.cpy d ie.size x y) else none
      | _,_,_=>none
    | _=>none
   else none
 | .buildSlice t n ps, some d => match an.cs.contains d, P.underlying t with
   | true, some (.slice e) => match P.info? e with
     | some ie => match ie.zero, decide (n * ie.size ≤ 2 ^ 24 ∧ 0 < n ∧ 0 < ie.size), iR (cw P e) 0 ps.toList with
       | some _,true,some xs=>if xs.length=n then some (.bslM d ie.size xs) else none
       | _,_,_=>none
     | none=>none
   | _,_=>none
 | .call { callee := .builtin .clear, args := ⟨[x]⟩, argTypes := ⟨[t]⟩ }, none => match P.underlying t with
   | some (.slice e) => match P.info? e, ct P e, ax none x with
     | some ie,some zl,some x=>if zl.length=ie.size then some (.clrC ie.size zl x) else none
     | _,_,_=>none
   | _=>none
 | .indexAddr t (.global g) y, some d => match P.underlying t, an.gl g, ax none y with
   | some (.array n e), some cells, some y => match (P.info? e).map (·.size) with
     | some sz=>if cells.length=n * sz∧0<sz then some (.iaG d cells sz y) else none
     | none=>none
   | _,_,_=>none
 | .unOp .xor _ x, some d => match ax none x with
   | some x=>some (.bin d .xor (.c (.sc (.i .i64 (-1)))) x)
   | none=>none
 | .unOp .neg t x, some d => match P.underlying t, ax none x with
   | some (.int .u64),some x=>some (.bin d .sub (.c (.sc (.i .u64 18446744073709551616))) x)
   | _,some x=>some (.bin d .sub (.c (.sc (.i .i64 0))) x)
   | _,none=>none
 | .convert t1 t2 x, some d => match an.cs.contains d with
   | true => (match P.underlying t1, P.underlying t2, ax none x with
     | some (.int .u64),some (.int .i64),some x=>some (.cvu d x)
     | _,_,_=>none)
   | false=>none
 | .call { callee := .builtin .min, args := ⟨[x, y]⟩, argTypes := _ }, some d => match ax none x, ax none y with
   | some x,some y=>some (.mn d x y)
   | _,_=>none
 | .call { callee := .builtin .cap, args := ⟨[x]⟩, argTypes := ⟨[t]⟩ }, some d => match P.underlying t, ax none x with
   | some (.slice _),some x=>some (.cap d x)
   | _,_=>none
 | .call { callee := .builtin .append, args := ⟨[x, y]⟩, argTypes := ⟨[t, t']⟩ }, some d => match P.underlying t, P.underlying t' with
   | some (.slice e), some (.int _) => match P.info? e, ct P e, ax (cw P t) x, ax none y with
     | some ie, some zl, some x, some y => match bB zl with
       | some zd=>if zl.length=ie.size∧0<ie.size then some (.appZ d ie.size ie.bytes zd x y) else none
       | none=>none
     | _,_,_,_=>none
   | some (.slice e),_=>match an.cs.contains d with
    | true => if t = t' then match P.info? e with
      | some ie => match ie.zero, ax (cw P t) x, ax (cw P t) y with
        | some z,some x,some y=>if z.cells.size=ie.size∧0<ie.size then some (.appC d ie.size ie.bytes x y) else none
        | _,_,_=>none
      | none=>none
     else none
    | false=>match an.opn.contains d with
     | true => if t = t' then match P.info? e with
        | some ie => match ie.zero, ax (cw P t) x, ax (cw P t) y with
          | some z,some x,some y=>if z.cells.size=ie.size∧0<ie.size then some (.appM d ie.size ie.bytes x y) else none
          | _,_,_=>none
        | none=>none
       else none
     | false=>none
   | _,_=>none
 | .binOp b t x y _, some d => match P.underlying t with
   | some (.struct fs) => match lm b, ax none x, ax none y, okEq P fs.toList 0, P.stoodInHeld t, P.eqGuardType P.depth t with
     | some ng,some x,some y,some ks,false,false=>some (.eqA d ng ks x y)
     | _,_,_,_,_,_=>none
   | some (.slice _) => match lm b, ax none x, y with
     | some ng,some x,.const (.slice none 0 0)=>some (.eqN d ng x)
     | _,_,_=>none
   | some _ => match okP P t, lm b, ax none x, ax none y with
     | some fn,some ng,some x,some y=>some (.eqP d fn ng x y)
     | _,_,_,_=>none
   | none=>none
 | .makeMap t none, some d => match P.underlying t with
   | some (.map kt e) => (match jx P kt e with
     | some _=>some (.mkS d)
     | none=>some (.mkM d))
   | _=>none
 | .makeFunc (.func f) ⟨[x]⟩ ⟨[]⟩, some d => match ax none x with
   | some x=>some (.mkfb d f x)
   | none=>none
 | .range t x, some d => match P.underlying t, ax none x with
   | some .string,some x=>some (.rngS d x)
   | some (.map _ _),some x=>some (.rngE d x)
   | _,_=>none
 | .next x false, some d => match ax none x with
   | some x=>some (.nxtE d x)
   | none=>none
 | .next x true, some d => match ax none x with
   | some x=>some (.nxtS d x)
   | none=>none
 | .lookup t x k ok, some d => match P.underlying t with
   | some (.map kt e) => (match jx P kt e with
     | some st => (match ct P e, ax none x, ax none k with
       | some [z],some x,some k=>some (.lkS d ok st z x k)
       | _,_,_=>none)
     | none => (match ok with
       | true => (match P.underlying kt, P.info? e, ct P e, ax none x, ax none k with
         | some (.int .i64), some ie, some zl, some x, some k => (match ie.zero, bB zl with
           | some (.agg _),some zd=>some (.lkM d zd x k)
           | _,_=>none)
         | _,_,_,_,_=>none)
       | false=>none))
   | _=>none
 | .mapUpdate t x k v, none => match P.underlying t with
   | some (.map kt e) => (match jx P kt e with
     | some st => (match ax none x, ax none k, ax none v with
       | some x,some k,some v=>some (.upS st x k v)
       | _,_,_=>none)
     | none => (match P.underlying kt, ax none x, ax none k, ax none v with
       | some (.int .i64),some x,some k,some v=>some (.upM x k v)
       | _,_,_,_=>none))
   | _=>none
 | _,_=>none
def pO (P:Program) (an:Ann) (o:Oper):Option AOp:=match special P an o with
 | some g=>some g
 | none=>compO P o
section
variable {P:Program} {W0:World} {κ:Gh} {σ:Log} {a:Act} {w:World} {id:Nat} {F:Log→Prop} {call:aX} {o:Oper} {Q:Exit→Act→World→Prop}
theorem mY {an:Ann} (hG:∀ g cells,an.gl g=some cells→dU W0 g cells) (hcall:∀ f args H res H',call f args H res H'→Ctr P W0 f args H res H') (hs:RepS W0 κ σ a w) (hf:Fresh κ id) {g:AOp} (hg:pO P an o=some g) (hN:∀ d',o.dst=some d'→d'<a.tmps.size)
  (h:eff call σ id g F):o.wp P a w (After W0 κ σ a w id F) Q:=by
 unfold pO at hg
 split at hg
 ·rename_i g' hsp
  cases hg
  unfold special at hsp
  split at hsp
  ·rename_i t i j d ho hd
   split at hsp<;>first | cases hsp | skip
   rename_i e hij hu hop
   split at hsp<;>first | cases hsp | skip
   rename_i ie zl hie hzl
   split at hsp<;>first | cases hsp | skip
   rename_i hlen
   have hij':=Nat.eq_of_beq_eq_true hij
   subst hij'
   obtain ⟨i',v,h1,h2,h3⟩:=cF hzl
   rw [hie] at h1
   cases h1
   exact s_mk (z:=none) hs hf ho hd rfl hu hie h2 rfl rfl h3 (by rw [← hlen];exact (h3 κ w).1) (hN d hd) h
   rename_i e hij hu hop
   split at hsp
   ·split at hsp<;>first | (cases hsp;done) | skip
    rename_i ie zl hie hzl
    split at hsp<;>first | (cases hsp;done) | skip
    rename_i hlen
    cases hsp
    have hij':=Nat.eq_of_beq_eq_true hij
    subst hij'
    obtain ⟨i',v,h1,h2,h3⟩:=cF hzl
    rw [hie] at h1
    cases h1
    exact s_mkC (z:=none) hs hf ho hd rfl hu hie h2 rfl rfl h3 (by rw [← hlen];exact (h3 κ w).1) (hN d hd) h
   split at hsp<;>first | cases hsp | skip
   rename_i ie zl hie hzl
   split at hsp<;>first | cases hsp | skip
   rename_i zd hzd
   split at hsp<;>first | cases hsp | skip
   rename_i hlen
   have hij':=Nat.eq_of_beq_eq_true hij
   subst hij'
   obtain ⟨i',v,h1,h2,h3⟩:=cF hzl
   rw [hie] at h1
   cases h1
   exact s_mkF (z:=none) hs ho hd rfl hu hie h2 rfl rfl h3 (by rw [← hlen];exact (h3 κ w).1) hzd (hN d hd) h
  ·rename_i t cs d ho hd
   split at hsp<;>first | (cases hsp;done) | skip
   rename_i e hu
   split at hsp<;>first | (cases hsp;done) | skip
   rename_i ie zl hie hzl
   split at hsp<;>first | (cases hsp;done) | skip
   rename_i zv xs hz hdec hxs
   cases hsp
   obtain ⟨q1,q2⟩:=of_decide_eq_true hdec
   refine s_bslG hs ho hd hu hie hz rfl q1 (by omega) q2 ⟨rfl,rfl,fun i v hi=>?_⟩ rfl (hN d hd) h
   cases i with
   | zero =>
     simp at hi
     subst hi
     refine ⟨_,rfl,?_⟩
     obtain ⟨h1,h2,h3⟩:=gW (κ:=κ) (w:=w) hxs
     exact RepV.agg xs cs (by simpa using h1.symm) h2 (fun i x hx=>by simpa using h3 i x hx)
   | succ i=>simp at hi
  ·rename_i t d ho hd
   split at hsp<;>first | (cases hsp;done) | skip
   rename_i e hu
   split at hsp<;>first | (cases hsp;done) | skip
   rename_i ie hie
   cases hsp
   exact s_bslZ hs ho hd hu hie (hN d hd) h
  ·rename_i x y t t' ho
   split at hsp<;>first | (cases hsp;done) | skip
   rename_i htt
   subst htt
   split at hsp<;>first | (cases hsp;done) | skip
   rename_i e hu
   split at hsp<;>first | (cases hsp;done) | skip
   rename_i ie x' y' hie hx hy
   split at hsp<;>first | (cases hsp;done) | skip
   rename_i hsz
   cases hsp
   exact s_cpy hs ho rfl hx hy hu hie rfl hsz (fun d h=>hN d h) h
  ·rename_i t n ps d _ _ ho hd
   split at hsp<;>first | (cases hsp;done) | skip
   rename_i e hcs hu
   split at hsp<;>first | (cases hsp;done) | skip
   rename_i ie hie
   split at hsp<;>first | (cases hsp;done) | skip
   rename_i zv xs hz hdec hps
   split at hsp<;>first | (cases hsp;done) | skip
   rename_i hlen
   cases hsp
   obtain ⟨h1,h2,h3⟩:=of_decide_eq_true hdec
   exact s_bslM hs hf ho hd hu hie hz rfl h1 h2 h3 (gG hs hps) hlen (hN d hd) h
  ·rename_i x t ho hd
   split at hsp<;>first | (cases hsp;done) | skip
   rename_i e hu
   split at hsp<;>first | (cases hsp;done) | skip
   rename_i ie zl x' hie hzl hx
   split at hsp<;>first | (cases hsp;done) | skip
   rename_i hlen
   cases hsp
   obtain ⟨i',v,h1,h2,h3⟩:=cF hzl
   rw [hie] at h1
   cases h1
   exact s_clrC hs ho hd hx hu hie h2 rfl h3 (by rw [← hlen];exact (h3 κ w).1) h
  ·rename_i t gl y d ho hd
   split at hsp<;>first | cases hsp | skip
   rename_i n e cells y' hu hgl hy
   split at hsp<;>first | cases hsp | skip
   rename_i sz hsz
   split at hsp<;>first | cases hsp | skip
   rename_i hh
   exact s_iaG hs ho hd hy hu hsz hh.1 hh.2 (hG _ _ hgl) (hN d hd) h
  ·rename_i t x d ho hd
   split at hsp<;>first | cases hsp | skip
   rename_i x' hx
   exact s_inv hs ho hd hx (hN d hd) h
  ·rename_i t x d ho hd
   split at hsp<;>first | (cases hsp;done) | skip
   ·rename_i x' hu hx
    cases hsp
    exact s_negu hs ho hd hx (hN d hd) h
   ·rename_i x' hx _
    cases hsp
    exact s_neg hs ho hd hx (hN d hd) h
  ·rename_i t1 t2 x d ho hd
   split at hsp<;>first | (cases hsp;done) | skip
   split at hsp<;>first | (cases hsp;done) | skip
   rename_i x' hu1 hu2 hx
   cases hsp
   exact s_cvu hs ho hd hx hu1 hu2 (hN d hd) h
  ·rename_i x y ts d ho hd
   split at hsp<;>first | cases hsp | skip
   rename_i x' y' hx hy
   exact s_mn hs ho hd hx hy (hN d hd) h
  ·rename_i x t d ho hd
   split at hsp<;>first | cases hsp | skip
   rename_i e x' hu hx
   exact s_cap hs ho hd hx hu (hN d hd) h
  ·rename_i x y t t' d ho hd
   split at hsp<;>first | (cases hsp;done) | skip
   ·rename_i e kn hu hun
    split at hsp<;>first | (cases hsp;done) | skip
    rename_i ie zl x' y' hie hzl hx hy
    split at hsp<;>first | (cases hsp;done) | skip
    rename_i zd hzd
    split at hsp<;>first | (cases hsp;done) | skip
    rename_i hh
    cases hsp
    obtain ⟨i',v,h1,h2,h3⟩:=cF hzl
    rw [hie] at h1
    cases h1
    exact s_appZ hs hf ho hd hx hy hu hun hie h2 rfl rfl h3 (by rw [← hh.1];exact (h3 κ w).1) hzd hh.2 (hN d hd) h
   ·rename_i e hu _
    split at hsp
    ·split at hsp<;>first | (cases hsp;done) | skip
     rename_i htt
     subst htt
     split at hsp<;>first | (cases hsp;done) | skip
     rename_i ie hie
     split at hsp<;>first | (cases hsp;done) | skip
     rename_i zv x' y' hz hx hy
     split at hsp<;>first | (cases hsp;done) | skip
     rename_i hh
     cases hsp
     exact s_appC hs hf ho hd hx hy hu hie rfl rfl hz hh.1 hh.2 (hN d hd) h
    ·split at hsp<;>first | (cases hsp;done) | skip
     split at hsp<;>first | (cases hsp;done) | skip
     rename_i htt
     subst htt
     split at hsp<;>first | (cases hsp;done) | skip
     rename_i ie hie
     split at hsp<;>first | (cases hsp;done) | skip
     rename_i zv x' y' hz hx hy
     split at hsp<;>first | (cases hsp;done) | skip
     rename_i hh
     cases hsp
     exact s_appM hs hf ho hd hx hy hu hie rfl rfl hz hh.1 hh.2 (hN d hd) h
  ·rename_i b t x y t2 d ho hd
   split at hsp<;>first | (cases hsp;done) | skip
   rename_i fs hu
   split at hsp<;>first | (cases hsp;done) | skip
   rename_i ng x' y' ks h1 h2 h3 h4 h5 h6
   cases hsp
   exact s_eqA hs ho hd h2 h3 h1 hu h4 h5 h6 (hN d hd) h
   rename_i e hu
   split at hsp<;>first | (cases hsp;done) | skip
   rename_i ng x' h1 h2
   cases hsp
   exact s_eqN hs ho hd h2 h1 hu (hN d hd) h
   split at hsp<;>first | (cases hsp;done) | skip
   rename_i fn ng x' y' h1 h2 h3 h4
   cases hsp
   exact s_eqP hs ho hd h3 h4 h2 h1 (hN d hd) h
  ·rename_i t d ho hd
   split at hsp<;>first | (cases hsp;done) | skip
   split at hsp
   ·cases hsp
    exact s_mkS hs hf ho hd (hN d hd) h
   ·cases hsp
    exact s_mkM hs hf ho hd (hN d hd) h
  ·rename_i f x d ho hd
   split at hsp<;>first | (cases hsp;done) | skip
   rename_i x' hx
   cases hsp
   exact s_mkfb hs ho hd hx (hN d hd) h
  ·rename_i t x d ho hd
   split at hsp<;>first | (cases hsp;done) | skip
   rename_i x' hu hx
   cases hsp
   exact s_rngS hs hf ho hd hx hu (hN d hd) h
   rename_i kt e x' hu hx
   cases hsp
   exact s_rngE hs hf ho hd hx hu (hN d hd) h
  ·rename_i x d ho hd
   split at hsp<;>first | (cases hsp;done) | skip
   rename_i x' hx
   cases hsp
   exact s_nxtE hs ho hd hx (hN d hd) h
  ·rename_i x d ho hd
   split at hsp<;>first | (cases hsp;done) | skip
   rename_i x' hx
   cases hsp
   exact s_nxtS hs ho hd hx (hN d hd) h
  ·rename_i t x k ok d ho hd
   split at hsp<;>first | (cases hsp;done) | skip
   rename_i kt e hu
   split at hsp
   ·rename_i st hst
    split at hsp<;>first | (cases hsp;done) | skip
    rename_i z x' k' hzl hx hk
    cases hsp
    obtain ⟨g1,i',v',z',g2,g3,g4,g5⟩:=jw hst
    rw [hzl] at g4
    cases g4
    exact s_lkS hs ho hd hx hk hu g1 g2 g3 g5 (hN d hd) h
   split at hsp<;>first | (cases hsp;done) | skip
   split at hsp<;>first | (cases hsp;done) | skip
   rename_i ie zl x' k' hkt hie hzl hx hk
   split at hsp<;>first | (cases hsp;done) | skip
   rename_i cs zd hz hzd
   cases hsp
   obtain ⟨i',v,h1,h2,h3⟩:=cF hzl
   rw [hie] at h1
   cases h1
   rw [hz] at h2
   cases h2
   obtain ⟨c1,c2⟩:=b9 hzd
   refine s_lkM hs ho hd hx hk hu hkt hie hz (fun κ w=>?_) (hN d hd) h
   have hL:=h3 κ w
   refine kV (by rw [c1];exact hL.1) fun j dd hj=>?_
   have hjl:j<zl.length:=by rw [← c1];exact (List.getElem?_eq_some_iff.1 hj).1
   obtain ⟨dd',g1,g2⟩:=c2 j zl[j] (List.getElem?_eq_getElem hjl)
   rw [hj] at g1
   cases g1
   exact dq (hL.2.2 j _ (List.getElem?_eq_getElem hjl)) g2
  ·rename_i t x k v ho hd
   split at hsp<;>first | (cases hsp;done) | skip
   rename_i kt e hu
   split at hsp
   ·rename_i st hst
    split at hsp<;>first | (cases hsp;done) | skip
    rename_i x' k' v' hx hk hv
    cases hsp
    obtain ⟨g1,_⟩:=jw hst
    exact s_upS hs ho hd hx hk hv hu g1 h
   split at hsp<;>first | (cases hsp;done) | skip
   rename_i x' k' v' hkt hx hk hv
   cases hsp
   exact s_upM hs ho hd hx hk hv hu hkt h
  ·cases hsp
 ·exact eff_sound hcall hs hf hg hN h
end
end Go.Abs
namespace Go.Abs
open Go
def dstOK (d:Option Nat) (N:Nat):Bool:=match d with | some d=>Nat.blt d N | none=>true
def guardC (ops:Array Oper):Option (Nat × Bool)→Option (Option (Nat × Bool))
 | none=>some none
 | some (j, wt) => match (ops[j]?).bind (·.dst) with
   | some s=>some (some (s,wt))
   | none=>none
def compG (P:Program) (an:Ann) (N:Nat) (ops:Array Oper) (o:Oper):Option GOp:=match pO P an o,guardC ops o.guard with
 | some g,some gd=>if dstOK o.dst N=true∧g.dst=o.dst then some ⟨gd,g⟩ else none
 | _,_=>none
theorem jc {P:Program} {an:Ann} {N:Nat} {ops:Array Oper} {o:Oper} {g:GOp} (h:compG P an N ops o=some g) :
  pO P an o=some g.o∧(∀ d,o.dst=some d→d<N)∧g.o.dst=o.dst ∧
   ((o.guard=none∧g.g=none)∨∃ j wt s,o.guard=some (j,wt)∧(ops[j]?).bind (·.dst)=some s∧g.g=some (s,wt)):=by
 unfold compG at h
 split at h
 ·rename_i g' gd hg hgd
  split at h
  ·rename_i hd
   cases h
   refine ⟨hg,fun d hd'=>?_,hd.2,?_⟩
   ·have:=hd.1
    rw [hd'] at this
    simpa [dstOK,Nat.blt_eq] using this
   ·cases hgu:o.guard with
    | none=>rw [hgu] at hgd;simp [guardC] at hgd;exact .inl ⟨rfl,hgd.symm⟩
    | some p =>
      obtain ⟨j,wt⟩:=p
      rw [hgu] at hgd
      simp only [guardC] at hgd
      split at hgd
      ·rename_i s hs
       cases hgd
       exact .inr ⟨j,wt,s,rfl,hs,rfl⟩
      ·cases hgd
  ·cases h
 ·cases h
def cT (σ:Log) (g:Option (Nat × Bool)):Option Bool:=match g with
 | none=>some true
 | some (n, w) => match ev σ (.t n) with
   | .sc (.b t)=>some (t == w)
   | .tup _=>some false
   | _=>none
theorem iX {σ:Log} {g:Option (Nat × Bool)} {A B:Log→Prop} (h:guard σ g A B) :
  ∃ σ',Same σ σ'∧((cT σ g=some true∧A σ')∨(cT σ g=some false∧B σ')):=by
 unfold guard at h
 split at h
 ·exact ⟨σ,fun _=>rfl,.inl ⟨rfl,h⟩⟩
 ·rename_i n wt
  split at h
  ·rename_i t ht
   have hl:∀ b,t=b→look σ (.s n)=some (.av (.sc (.b b))):=by
    intro b hb
    subst hb
    simp only [ev] at ht
    split at ht
    ·rename_i v hv;rw [hv,ht]
    ·cases ht
   cases t with
   | true =>
     refine ⟨(.s n,.av (.sc (.b true)))::σ,known (hl true rfl),?_⟩
     cases wt with
     | true=>exact .inl ⟨by simp only [cT,ht];rfl,h⟩
     | false=>exact .inr ⟨by simp only [cT,ht];rfl,h⟩
   | false =>
     refine ⟨(.s n,.av (.sc (.b false)))::σ,known (hl false rfl),?_⟩
     cases wt with
     | true=>exact .inr ⟨by simp only [cT,ht];rfl,h⟩
     | false=>exact .inl ⟨by simp only [cT,ht];rfl,h⟩
  ·rename_i l hl
   exact ⟨σ,fun _=>rfl,.inr ⟨by simp only [cT,hl],h⟩⟩
  ·exact h.elim
section
variable {P:Program} {W0:World} {κ:Gh} {σ:Log} {a:Act} {w:World} {id:Nat} {call:aX} {Q:Exit→Act→World→Prop} {N:Nat} {ops:Array Oper} {an:Ann}
theorem fW (hs:RepS W0 κ σ a w) {o:Oper} {g:GOp} (hg:compG P an N ops o=some g) {b:Bool} (hb:cT σ g.g=some b):Region.wanted o (yielded ops a.tmps)=b:=by
 obtain ⟨_,_,_,h⟩:=jc hg
 rcases h with ⟨h1,h2⟩ | ⟨j,wt,s,h1,h2,h3⟩
 ·rw [h2] at hb
  simp only [cT,Option.some.injEq] at hb
  simp [Region.wanted,h1,hb]
 ·rw [h3] at hb
  simp only [cT] at hb
  have hy:yielded ops a.tmps j=match a.tmps[s]? with | some (.bool b)=>some b | _=>none:=by
   unfold yielded
   rw [h2]
   rfl
  have hev:∀ v,ev σ (.t s)=v→v≠.bad→RepV κ w v (a.tmps.getD s undef):=by
   intro v hv hn
   simp only [ev] at hv
   split at hv
   ·rename_i u hu;rw [← hv];exact hs.slots s u hu
   ·exact absurd hv.symm hn
  split at hb
  ·rename_i t ht
   have:=(hev _ ht (by simp)).sc_inv
   simp only [Sc.val] at this
   have hs':a.tmps[s]? = some (.bool t):=by
    rw [Array.getD_eq_getD_getElem?] at this
    cases hh:a.tmps[s]? with
    | none=>rw [hh] at this;simp [undef] at this
    | some x=>rw [hh] at this;simp at this;rw [this]
   cases hb
   simp [Region.wanted,h1,hy,hs']
  ·rename_i l hl
   obtain ⟨vs,hv,_⟩:=(hev _ hl (by simp)).tup_inv
   cases hb
   have hs':(match a.tmps[s]? with | some (Value.bool b)=>some b | _=>none)=none:=by
    rw [Array.getD_eq_getD_getElem?] at hv
    cases hh:a.tmps[s]? with
    | none=>rfl
    | some x=>rw [hh] at hv;simp at hv;rw [hv]
   simp [Region.wanted,h1,hy,hs']
  ·cases hb
theorem undef_rep:RepV κ w (.tup []) undef:=.tup [] #[] rfl fun j v h=>by simp at h
theorem skip_rep (hs:RepS W0 κ σ a w) {d:Option Nat} (hd:∀ d',d=some d'→d'<a.tmps.size) :
  RepS W0 κ (bp d (.tup [])++σ) (a.put d undef) w∧Step κ σ w κ (bp d (.tup [])++σ) w:=by
 cases d with
 | none=>exact ⟨hs,Step.refl _ _ _⟩
 | some d=>exact ⟨hs.put (hd d rfl) undef_rep,Step.put⟩
structure Bel (κ:Gh) (n:Nat):Prop where
 ge:1000≤n
 db:∀ b,κ.Db b→b<n
 dt:∀ k,κ.Dt k→k<n
theorem Bel.fresh {n:Nat} (h:Bel κ n):Fresh κ n:=
 ⟨h.ge,fun b h1 _ hb=>by have:=h.db b hb;omega,fun b h1 _ hb=>by have:=h.dt b hb;omega⟩
theorem Bel.grow {κ':Gh} {n:Nat} (h:Bel κ n) (g:Grow κ κ' n):Bel κ' (n+100):=
 ⟨by have:=h.ge;omega,fun b hb=>by rcases g.db b hb with q | q;(have:=h.db b q;omega);omega,fun b hb=>by rcases g.dt b hb with q | q;(have:=h.dt b q;omega);omega⟩
theorem Bel.more {n m:Nat} (h:Bel κ n) (hm:n≤m):Bel κ m:=⟨Nat.le_trans h.ge hm,fun b hb=>Nat.lt_of_lt_of_le (h.db b hb) hm,fun b hb=>Nat.lt_of_lt_of_le (h.dt b hb) hm⟩
def jQ (P:Program) (an:Ann) (N:Nat) (ops:Array Oper):List Oper→Option (List GOp)
 | []=>some []
 | o :: r => match compG P an N ops o with
   | none=>none
   | some g => match jQ P an N ops r with
     | none=>none
     | some gs=>some (g::gs)
theorem jb:∀ {l:List Oper} {gs:List GOp},jQ P an N ops l=some gs→gs.length=l.length∧∀ (i:Nat) (o:Oper),l[i]? = some o→∃ g,gs[i]? = some g∧compG P an N ops o=some g
 | [],gs,h=>by simp [jQ] at h;subst h;simp
 | o :: l, gs, h => by
   simp only [jQ] at h
   split at h
   ·cases h
   ·rename_i g hg
    split at h
    ·cases h
    ·rename_i gs' hgs
     cases h
     obtain ⟨h1,h2⟩:=jb hgs
     refine ⟨by simp [h1],fun i o' hi=>?_⟩
     cases i with
     | zero=>simp at hi;subst hi;exact ⟨g,rfl,hg⟩
     | succ i=>simpa using h2 i o' (by simpa using hi)
theorem nq (hG:∀ g cells,an.gl g=some cells→dU W0 g cells) (hcall:∀ f args H res H',call f args H res H'→Ctr P W0 f args H res H'):∀ (gs:List GOp) (l:List Oper) (k:Nat) (σ:Log) (κ:Gh) (a:Act) (w:World) (id:Nat) (K:Log→Prop),
  jQ P an N ops l=some gs→(∀ j,l[j]? = ops[k+j]?)→RepS W0 κ σ a w→Bel κ id→a.tmps.size=N→p8 call gs id σ K →
  (∀ σ' κ' a' w',K σ'→RepS W0 κ' σ' a' w'→Step κ σ w κ' σ' w'→a'.tmps.size=N→Bel κ' (id+100 * gs.length)→Q .normal a' w') →
  wpOps P ops Q (List.range' k l.length) a w
 | [], l, k, σ, κ, a, w, id, K, hl, hk, hs, hb, hN, h, hQ => by
   have:=(jb hl).1
   have hl0:l=[]:=List.eq_nil_of_length_eq_zero (by simpa using this.symm)
   subst hl0
   exact hQ σ κ a w h hs (Step.refl _ _ _) hN (by simpa using hb)
 | g::gs,[],k,σ,κ,a,w,id,K,hl,hk,hs,hb,hN,h,hQ=>by simp [jQ] at hl
 | g :: gs, o :: l, k, σ, κ, a, w, id, K, hl, hk, hs, hb, hN, h, hQ => by
   have ho:ops[k]? = some o:=by have:=hk 0;simpa using this.symm
   simp only [jQ] at hl
   split at hl
   ·cases hl
   ·rename_i g' hg
    split at hl
    ·cases hl
    ·rename_i gs' hgs
     cases hl
     obtain ⟨c1,c2,c3,_⟩:=jc hg
     rw [List.length_cons,List.range'_succ,wpOps_cons]
     simp only [p8] at h
     obtain ⟨σ1,hsame,h⟩:=iX h
     have hs1:=hs.same hsame
     have hd:∀ d',o.dst=some d'→d'<a.tmps.size:=fun d' h'=>by rw [hN];exact c2 d' h'
     have next:∀ (σ':Log) (κ':Gh) (a':Act) (w':World),RepS W0 κ' σ' a' w'→Step κ σ1 w κ' σ' w'→a'.tmps.size=N→Bel κ' (id+100)→p8 call gs (id+100) σ' K→wpOps P ops Q (List.range' (k+1) l.length) a' w':=by
      intro σ' κ' a' w' r s n b hh
      refine nq hG hcall gs l (k+1) σ' κ' a' w' (id+100) K hgs (fun j=>by have:=hk (j+1);rw [show k+1+j=k+(j+1) by omega];simpa using this) r b n hh ?_
      intro σ'' κ'' a'' w'' hK r' s' n' b'
      refine hQ σ'' κ'' a'' w'' hK r' ?_ n' (b'.more (by simp;omega))
      exact Step.trans (Step.same (σ:=σ1) (σ':=σ') (τ:=σ) (τ':=σ') (fun l=>(hsame l).symm) (fun _=>rfl) s) s'
     unfold wpOp
     rw [ho]
     simp only
     rcases h with ⟨hv,h⟩ | ⟨hv,h⟩
     ·rw [fW hs hg hv,if_pos rfl]
      refine .inl ((Oper.wp_mono ?_ (mY (Q:=Q) hG hcall hs1 hb.fresh c1 hd h)))
      rintro a' w' ⟨δ,κ',hF,r,s,n,gr⟩
      exact next _ κ' a' w' r s (n.trans hN) (hb.grow gr) hF
     ·rw [fW hs hg hv]
      simp only [Bool.false_eq_true,if_false]
      rw [c3] at h
      obtain ⟨r,s⟩:=skip_rep hs1 hd
      exact next _ κ _ w r s (put_size.trans hN) (hb.more (by omega)) h
/- whatever order -/
def lay (δ:Nat→Log) (σ:Log) (l:List Nat):Log:=l.foldl (fun s i=>δ i++s) σ
theorem oB {δ:Nat→Log} {loc:Loc}:∀ {l:List Nat} {σ σ':Log},look σ loc=look σ' loc→look (lay δ σ l) loc=look (lay δ σ' l) loc
 | [],σ,σ',h=>h
 | i :: l, σ, σ', h => by
   simp only [lay,List.foldl_cons]
   refine oB (l:=l) ?_
   rw [aG,aG,h]
theorem mB {δ:Nat→Log} {loc:Loc} {p:Nat→Bool}:∀ {l:List Nat} {σ:Log},(∀ i,i∈l→p i=false→look (δ i) loc=none)→look (lay δ σ l) loc=look (lay δ σ (l.filter p)) loc
 | [],σ,_=>rfl
 | i :: l, σ, h => by
   have ih:∀ σ,look (lay δ σ l) loc=look (lay δ σ (l.filter p)) loc:=fun σ=>mB fun j hj=>h j (by simp [hj])
   by_cases hp:p i=true
   ·rw [List.filter_cons_of_pos hp]
    simp only [lay,List.foldl_cons]
    exact ih _
   ·have hp':p i=false:=by simpa using hp
    rw [List.filter_cons_of_neg hp]
    have:look (lay δ σ (i::l)) loc=look (lay δ (δ i++σ) l) loc:=rfl
    rw [this]
    have e:look (δ i++σ) loc=look σ loc:=by rw [aG,h i (by simp) hp']
    rw [oB e]
    exact ih σ
theorem lay_snoc {δ:Nat→Log} {σ:Log} {l:List Nat} {i:Nat}:lay δ σ (l++[i])=δ i++lay δ σ l:=by
 simp [lay,List.foldl_append]
def wr (δ:Nat→Log) (loc:Loc) (i:Nat):Bool:=(look (δ i) loc).isSome
theorem wr_none {δ:Nat→Log} {loc:Loc} {i:Nat} (h:wr δ loc i=false):look (δ i) loc=none:=by
 unfold wr at h
 cases hh:look (δ i) loc with
 | none=>rfl
 | some c=>rw [hh] at h;cases h
theorem lr (n i:Nat) (hi:i≤n):List.range i=(List.range n).filter (fun k=>decide (k<i)):=by
 induction n with
 | zero => have : i = 0 := by omega
           subst this;rfl
 | succ n ih =>
   rw [List.range_succ,List.filter_append]
   by_cases h:i≤n
   ·rw [← ih h]
    have:¬ n<i:=by omega
    simp [this]
   ·have:i=n+1:=by omega
    subst this
    have h1:(List.range n).filter (fun k=>decide (k<n+1))=List.range n:=List.filter_eq_self.2 fun k hk=>by
     have:=List.mem_range.1 hk;simp;omega
    rw [h1,List.range_succ];simp
def fj (δ:Nat→Log) (σ:Log) (n:Nat) (S:Nat→Bool):Log:=lay δ σ ((List.range n).filter S)
theorem kc (δ:Nat→Log) (σ:Log) (n:Nat) (S:Nat→Bool) (loc:Loc):look (fj δ σ n S) loc=look (lay δ σ ((List.range n).filter fun k=>S k&&wr δ loc k)) loc:=by
 unfold fj
 rw [mB (p:=wr δ loc) fun i _ h=>wr_none h,List.filter_filter]
 congr 2
 apply List.filter_congr
 intro k _
 exact Bool.and_comm _ _
theorem gj {δ:Nat→Log} {σ:Log} {n:Nat} {S T:Nat→Bool} {loc:Loc} (h:∀ k,k<n→wr δ loc k=true→S k=T k):look (fj δ σ n S) loc=look (fj δ σ n T) loc:=by
 rw [kc,kc]
 congr 2
 apply List.filter_congr
 intro k hk
 cases hw:wr δ loc k with
 | false=>simp
 | true=>rw [h k (List.mem_range.1 hk) hw]
theorem runS_lt {δ:Nat→Log} {σ:Log} {n i:Nat} (hi:i≤n):fj δ σ n (fun k=>decide (k<i))=lay δ σ (List.range i):=by
 unfold fj;rw [← lr n i hi]
theorem runS_add {δ:Nat→Log} {σ:Log} {n i:Nat} (hi:i<n) {S:Nat→Bool} (hlast:∀ loc k,k<n→S k=true→wr δ loc i=true→wr δ loc k=true→k<i) :
  Same (δ i++fj δ σ n S) (fj δ σ n fun k=>S k||decide (k=i)):=by
 intro loc
 rw [aG]
 cases hw:wr δ loc i with
 | false =>
   rw [wr_none hw]
   simp only
   refine gj fun k _ hk=>?_
   have:¬ k=i:=fun e=>by rw [e,hw] at hk;cases hk
   simp [this]
 | true =>
   obtain ⟨c,hc⟩:∃ c,look (δ i) loc=some c:=Option.isSome_iff_exists.1 hw
   rw [hc]
   simp only
   rw [kc]
   have e:((List.range n).filter fun k=>(S k||decide (k=i))&&wr δ loc k)=((List.range i).filter fun k=>(S k||decide (k=i))&&wr δ loc k)++[i]:=by
    obtain ⟨m,rfl⟩:∃ m,n=i+1+m:=⟨n - i - 1,by omega⟩
    have hr:List.range (i+1+m)=List.range i++[i]++(List.range m).map (i+1+·):=by rw [List.range_add,List.range_succ]
    rw [hr,List.filter_append,List.filter_append]
    have h1:([i].filter fun k=>(S k||decide (k=i))&&wr δ loc k)=[i]:=by simp [hw]
    have h2:(((List.range m).map (i+1+·)).filter fun k=>(S k||decide (k=i))&&wr δ loc k)=[]:=by
     rw [List.filter_eq_nil_iff]
     intro k hk
     obtain ⟨j,hj,rfl⟩:=List.mem_map.1 hk
     have hjm:=List.mem_range.1 hj
     have hne:¬ i+1+j=i:=by omega
     simp only [hne,decide_false,Bool.or_false,Bool.and_eq_true,not_and]
     intro hSk hwk
     have:=hlast loc _ (by omega) hSk hw hwk
     omega
    rw [h1,h2,List.append_nil]
   rw [e,lay_snoc,aG,hc]
end
end Go.Abs
