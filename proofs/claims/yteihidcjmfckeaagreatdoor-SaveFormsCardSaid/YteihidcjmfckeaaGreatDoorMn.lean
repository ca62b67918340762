/- Passes over boxes that do not stop at scalars. -/
import Derived.Test.YteihidcjmfckeaaGreatDoorMd
set_option linter.all false
namespace Go.Abs
open Go
def px:AV→Bool | .sc _=>true | _=>false
def bx2q (l:List Nat) (v:AV):List Nat:=match px v with | true=>l | false=>bx2 l v
theorem bx2q_eq:bx2q=bx2:=by funext l v;cases v<;>rfl
def tk2q (σ:Lk) (l:List Nat) (v:AV):List Nat:=match px v with | true=>l | false=>tk2F σ l v
theorem tk2q_eq {σ:Lk}:tk2q σ=tk2F σ:=by funext l v;cases v<;>rfl
def un2q (bs ts:List Nat) (v:AV):Option AV:=match px v with | true=>some v | false=>un2 bs ts v
theorem un2q_eq {bs ts:List Nat}:un2q bs ts=un2 bs ts:=by funext v;cases v<;>rfl
def in2q (nb nt:Nat) (v:AV):Bool:=match px v with | true=>true | false=>in2 nb nt v
theorem in2q_eq {nb nt:Nat}:in2q nb nt=in2 nb nt:=by funext v;cases v<;>rfl
def ren2q (bs ts:List Nat) (id:Nat) (v:AV):AV:=match px v with | true=>v | false=>ren2 bs ts id v
theorem ren2q_eq {bs ts:List Nat} {id:Nat}:ren2q bs ts id=ren2 bs ts id:=by funext v;cases v<;>rfl
noncomputable def kR (f:List Nat→AV→List Nat) (l:List Nat) (c:List AV):List Nat:=@List.rec AV (fun _=>List Nat→List Nat) (fun l=>l) (fun v _ ih l=>ih (f l v)) c l
theorem jJ {f:List Nat→AV→List Nat}:∀ {c:List AV} {l:List Nat},kR f l c=c.foldl f l
 | [],_=>rfl
 | v::c,l=>jJ (c:=c) (l:=f l v)
noncomputable def lP (bs ts:List Nat) (c:List AV):Option (List AV):=@List.rec AV (fun _=>Option (List AV)) (some []) (fun x _ ih=>match un2q bs ts x with | none=>none | some y=>match ih with | none=>none | some s=>some (y::s)) c
theorem lO {bs ts:List Nat}:∀ {c:List AV},lP bs ts c=pb bs ts c
 | []=>rfl
 | x :: c => by
   show (match un2q bs ts x with | none=>none | some y=>match lP bs ts c with | none=>none | some s=>some (y::s))=_
   rw [un2q_eq,lO];rfl
noncomputable def mI (nb nt:Nat) (c:List AV):Bool:=@List.rec AV (fun _=>Bool) true (fun x _ ih=>match in2q nb nt x with | true=>ih | false=>false) c
theorem jI {nb nt:Nat}:∀ {c:List AV},mI nb nt c=dI nb nt c
 | []=>rfl
 | x :: c => by
   show (match in2q nb nt x with | true=>mI nb nt c | false=>false)=_
   rw [in2q_eq,jI];rfl
noncomputable def fE (c:List AV):Bool:=@List.rec AV (fun _=>Bool) true (fun x _ ih=>match px x with | true=>ih | false=>false) c
theorem jT {x:AV} {c:List AV} (h:fE (x::c)=true):(∃ s,x=.sc s)∧fE c=true:=by
 have h:(match px x with | true=>fE c | false=>false)=true:=h
 cases x<;>first | exact ⟨⟨_,rfl⟩,h⟩ | cases h
noncomputable def pF (f:List Nat→AV→List Nat) (l:List Nat) (c:List AV):List Nat:=match fE c with | true=>l | false=>kR f l c
theorem fold1_sc {f:List Nat→AV→List Nat} (hf:∀ l s,f l (.sc s)=l):∀ {c:List AV} {l:List Nat},fE c=true→kR f l c=l
 | [],_,_=>rfl
 | x :: c, l, h => by
   obtain ⟨⟨s,rfl⟩,h⟩:=jT h
   show kR f (f l (.sc s)) c=l
   rw [hf];exact fold1_sc (c:=c) hf h
theorem oJ {f:List Nat→AV→List Nat} (hf:∀ l s,f l (.sc s)=l) {c:List AV} {l:List Nat}:pF f l c=kR f l c:=by
 unfold pF;split
 ·rename_i h;exact (fold1_sc hf h).symm
 ·rfl
noncomputable def unL2r (bs ts:List Nat) (c:List AV):Option (List AV):=match fE c with | true=>some c | false=>lP bs ts c
theorem unL2_sc {bs ts:List Nat}:∀ {c:List AV},fE c=true→lP bs ts c=some c
 | [],_=>rfl
 | x :: c, h => by
   obtain ⟨⟨s,rfl⟩,h⟩:=jT h
   show (match un2q bs ts (.sc s) with | none=>none | some y=>match lP bs ts c with | none=>none | some s=>some (y::s))=_
   rw [unL2_sc (c:=c) h];rfl
theorem unL2r_eq {bs ts:List Nat} {c:List AV}:unL2r bs ts c=lP bs ts c:=by
 unfold unL2r;split
 ·rename_i h;exact (unL2_sc h).symm
 ·rfl
noncomputable def inL2r (nb nt:Nat) (c:List AV):Bool:=match fE c with | true=>true | false=>mI nb nt c
theorem inL2_sc {nb nt:Nat}:∀ {c:List AV},fE c=true→mI nb nt c=true
 | [],_=>rfl
 | x :: c, h => by
   obtain ⟨⟨s,rfl⟩,h⟩:=jT h
   exact inL2_sc (c:=c) h
theorem inL2r_eq {nb nt:Nat} {c:List AV}:inL2r nb nt c=mI nb nt c:=by
 unfold inL2r;split
 ·rename_i h;exact (inL2_sc h).symm
 ·rfl
noncomputable def inHq (nb nt:Nat):List (List AV)→Bool
 | []=>true
 | x::r=>match inL2r nb nt x with | true=>inHq nb nt r | false=>false
theorem lD {nb nt:Nat}:∀ {H:List (List AV)},inHq nb nt H=inH nb nt H
 | []=>rfl
 | x::H=>by simp only [inHq,inH,inL2r_eq,jI,lD (H:=H)];rfl
noncomputable def n9 (c:List AV):List Nat:=@List.rec AV (fun _=>List Nat) [] (fun x _ ih=>match px x with | true=>ih | false=>bt x++ih) c
theorem toksL_eq:∀ {c:List AV},n9 c=c.flatMap bt
 | []=>rfl
 | x :: c => by
   show (match px x with | true=>n9 c | false=>bt x++n9 c)=_
   rw [List.flatMap_cons,toksL_eq]
   cases x<;>rfl
noncomputable def pd (c:List AV):List Nat:=match fE c with | true=>[] | false=>n9 c
theorem toksL_sc:∀ {c:List AV},fE c=true→n9 c=[]
 | [],_=>rfl
 | x :: c, h => by
   obtain ⟨⟨s,rfl⟩,h⟩:=jT h
   exact toksL_sc (c:=c) h
theorem toksLr_eq {c:List AV}:pd c=n9 c:=by
 unfold pd;split
 ·rename_i h;exact (toksL_sc h).symm
 ·rfl
noncomputable def lS (H:List (List AV)):List Nat:=@List.rec (List AV) (fun _=>List Nat) [] (fun x _ ih=>pd x++ih) H
theorem gx:∀ {H:List (List AV)},lS H=H.flatMap fun h=>h.flatMap bt
 | []=>rfl
 | x :: H => by
   show pd x++lS H=_
   rw [List.flatMap_cons,toksLr_eq,toksL_eq,gx]
noncomputable def allTk (args:List AV) (H:List (List AV)):List Nat:=args.flatMap toks++lS H
noncomputable def lT (args:List AV) (H:List (List AV)):Nat:=(allTk args H).foldr (fun k m=>Nat.max (k+1) m) 0
theorem jn {args:List AV} {H:List (List AV)}:lT args H=dK args H:=by unfold lT dK allTk;rw [gx]
noncomputable def kw (σ:Lk):Nat→List Nat→List Nat→List Nat
 | 0,_,l=>l
 | _+1,[],l=>l
 | n + 1, b :: todo, l => match σ (.b b) with
   | some (.bx c)=>(match pF bx2q l c with | l2=>kw σ n (todo++l2.drop l.length) l2)
   | _=>kw σ n todo l
theorem ir {σ:Lk}:∀ {n:Nat} {todo l:List Nat},kw σ n todo l=ky σ n todo l
 | 0,_,_=>rfl
 | n+1,[],_=>rfl
 | n + 1, b :: todo, l => by
   simp only [kw,ky,oJ (f:=bx2) (fun _ _=>rfl),jJ,bx2q_eq]
   cases hb:σ (.b b) with
   | none=>exact ir
   | some c=>cases c<;>exact ir
noncomputable def tkHq (σ:Lk):List Nat→List Nat→List Nat
 | [],l=>l
 | b :: r, l => match σ (.b b) with
   | some (.bx c)=>tkHq σ r (pF (tk2q σ) l c)
   | _=>tkHq σ r l
theorem lx {σ:Lk}:∀ {bs l:List Nat},tkHq σ bs l=tkHF σ bs l
 | [],_=>rfl
 | b :: r, l => by
   simp only [tkHq,tkHF,oJ (f:=tk2F σ) (fun _ _=>rfl),jJ,tk2q_eq]
   cases hb:σ (.b b) with
   | none=>exact lx
   | some c=>cases c<;>exact lx
noncomputable def unHq (σ:Lk) (bs ts:List Nat):List Nat→Option (List (List AV))
 | []=>some []
 | b :: r => match σ (.b b) with
   | some (.bx l) => (match unL2r bs ts l with
     | none=>none
     | some h=>match unHq σ bs ts r with | none=>none | some H=>some (h::H))
   | _=>none
theorem pc {σ:Lk} {bs ts:List Nat}:∀ {xs:List Nat},unHq σ bs ts xs=unHF σ bs ts xs
 | []=>rfl
 | b :: r => by
   simp only [unHq,unHF,unL2r_eq,lO,pc (xs:=r)]
   cases hb:σ (.b b) with
   | none=>rfl
   | some c=>cases c<;>rfl
noncomputable def pD (rc:Rec) (σ:Lk) (f:FuncId) (args:List AV):Option (AV × List (List AV) × List Nat × List Nat):=
 match kw σ 100 (kR bx2q [] args) (kR bx2q [] args) with
 | bs => match tkHq σ bs (kR (tk2q σ) [] args) with
   | ts => match lP bs ts args, unHq σ bs ts bs with
     | some args', some H => (match rc f args' H with
       | some (res, H') => (match bE bs && bE ts && Nat.ble bs.length H'.length && Nat.ble H'.length (bs.length + 50) && Nat.ble (bs.length + ts.length) 900 && Nat.beq ts.length (lT args' H) &&
          mI bs.length ts.length args'&&inHq bs.length ts.length H&&inR H'.length (ts.length+50) res&&inHq H'.length (ts.length+50) H'&&mu σ ts with
         | true=>some (res,H',bs,ts)
         | false=>none)
       | none=>none)
     | _,_=>none
theorem fullXQ_eq {rc:Rec} {σ:Log} {f:FuncId} {args:List AV}:pD rc (look σ) f args=oH rc σ f args:=by
 have e:oH rc σ f args=pE rc (look σ) f args:=by kernel_rfl
 rw [e]
 simp only [pD,pE,ir,lx,jJ,bx2q_eq,tk2q_eq,lO,pc,jn,jI,lD]
 rfl
noncomputable def om (bs ts:List Nat) (id:Nat):Nat→List (List AV)→Log
 | _,[]=>[]
 | n,h::H=>(.b (rb bs id n),.bx (match fE h with | true=>h | false=>h.map (ren2q bs ts id)))::om bs ts id (n+1) H
theorem ren2_sc {bs ts:List Nat} {id:Nat}:∀ {c:List AV},fE c=true→c.map (ren2 bs ts id)=c
 | [],_=>rfl
 | x :: c, h => by
   obtain ⟨⟨s,rfl⟩,h⟩:=jT h
   rw [List.map_cons,ren2_sc (c:=c) h];rfl
theorem newBq_eq {bs ts:List Nat} {id:Nat}:∀ {H:List (List AV)} {n:Nat},om bs ts id n H=aT bs ts id n H
 | [],_=>rfl
 | h :: H, n => by
   simp only [om,aT,newBq_eq (H:=H),ren2q_eq]
   split
   ·rename_i hs;rw [ren2_sc hs]
   ·rfl
noncomputable def oL (σ:Lk) (v:AV) (nb nt:Nat):Option (AV × List (List AV)):=
 match kw σ 100 (bx3 (upN nb) v) (bx3 (upN nb) v) with
 | bs => match tkHq σ bs (tk3F σ (upN nt) v) with
   | ts => match un3 bs ts v, unHq σ bs ts bs with
     | some res,some H'=>tst (bE bs&&bE ts&&(bs.take nb == upN nb)&&(ts.take nt == upN nt)&&inR bs.length ts.length res&&inHq bs.length ts.length H' &&
      mu σ ((toks res++lS H').map (rb ts 0))) (some (res,H'))
     | _,_=>none
theorem finXQ_eq {σ:Log} {v:AV} {nb nt:Nat}:oL (look σ) v nb nt=finX σ v nb nt:=by
 have e:finX σ v nb nt=finXF (look σ) v nb nt:=by kernel_rfl
 rw [e]
 simp only [oL,finXF,ir,lx,pc,lD,gx]
 rfl
noncomputable def jH (args:List AV) (H:List (List AV)):Log:=iG 0 args++iH 0 H++iF (allTk args H)
theorem initLogQ_eq {args:List AV} {H:List (List AV)}:jH args H=aA args H:=by unfold jH aA allTk;rw [gx]
noncomputable def pQ {R:Type} (rc:Rec) (σ:Lk) (id:Nat) (d:Option Nat) (f:FuncId) (args:List AV) (F:Log→Option R):Option R:=
 match (match mI 0 0 (args.map bf) with
  | true => (match rc f (args.map bf) [] with
    | some (res, H') => (match inR H'.length 50 res && inHq H'.length 50 H' && Nat.ble H'.length 50 && Nat.beq (lT (args.map bf) []) 0 with
      | true=>some (res,H')
      | false=>none)
    | none=>none)
  | false=>none) with
 | some (res,[])=>F (bp d (ren [] [] id res)++bK [] id (toks res))
 | some (res,h::H')=>F (bp d (ren [] [] id res)++om [] [] id 0 (h::H')++bK [] id (toks res++lS (h::H'))++bC [])
 | none => match pD rc σ f (args.map erS) with
   | some (res,H',bs,ts)=>F (bp d (ren bs ts id res)++om bs ts id 0 H'++bK ts id (toks res++lS H')++bC ts)
   | none => match pD rc σ f args with
     | some (res,H',bs,ts)=>F (bp d (ren bs ts id res)++om bs ts id 0 H'++bK ts id (toks res++lS H')++bC ts)
     | none=>none
theorem callXQ_eq {R:Type} {rc:Rec} {σ:Log} {id:Nat} {d:Option Nat} {f:FuncId} {args:List AV} {F:Log→Option R}:pQ rc (look σ) id d f args F=oT rc σ id d f args F:=by
 simp only [pQ,oT,fullXQ_eq,jI,lD,jn,gx,newBq_eq]
 rfl
end Go.Abs
