/- The run of SaveForms' Awake: the library. -/
import Derived.Test.YteihidcjmfckeaaGreatDoorMj
import Derived.Test.YteihidcjmfckeaaGreatDoorMf
import Derived.Test.YteihidcjmfckeaaGreatDoorS27j
set_option linter.all false
set_option maxRecDepth 1000000
namespace Go.Abs
open Go Go.Proofs Go.Shelf Go.RowKit Go.Lib
def okN (s:S):Bool:=Nat.ble s.length 140737488355328
def okI (n:Int):Bool:=decide (-9223372036854775808≤n)&&decide (n≤9223372036854775807)
mutual
def okEb:Exp→Bool | .mk o n k l=>(okN o&&okN n&&okI k)&&(Nat.ble l.length 140737488355328&&okLb l)
def okLb:List Exp→Bool | []=>true | x::r=>okEb x&&okLb r
end
def okFb (f:Fold):Bool:=okN f.op&&okN f.nm
mutual
def okSb:Stm→Bool | .mk o nm tx n ns es fs bs=>(okN o&&(okN nm&&(okN tx&&okI n)))&&((Nat.ble ns.length 140737488355328&&ns.all okN)&&((Nat.ble es.length 140737488355328&&okLb es)&&((Nat.ble fs.length 140737488355328&&fs.all okFb)&&(Nat.ble bs.length 140737488355328&&okBsb bs))))
def okBb:List Stm→Bool | []=>true | x::r=>okSb x&&okBb r
def okBsb:List (List Stm)→Bool | []=>true | x::r=>(Nat.ble x.length 140737488355328&&okBb x)&&okBsb r
end
def okPmb (p:Prm):Bool:=okN p.nm&&(okN p.ty&&okI p.rk)
def okPb (p:Prc):Bool:=(okN p.nm&&okN p.res)&&((Nat.ble p.ps.length 140737488355328&&p.ps.all okPmb)&&(Nat.ble p.body.length 140737488355328&&okBb p.body))
def okGb (p:Prg):Bool:=(Nat.ble p.procs.length 140737488355328&&p.procs.all okPb)&&(Nat.ble p.body.length 140737488355328&&okBb p.body)
theorem okI_s {n:Int} (h:okI n=true):eK .i64 n:=by
 simp only [okI,Bool.and_eq_true,decide_eq_true_eq] at h
 show _∧_
 constructor<;>omega
theorem gi {s:S} (h:okN s=true):s.length≤140737488355328:=Nat.le_of_ble_eq_true h
mutual
theorem okEb_s:∀ x:Exp,okEb x=true→x.ok
 | .mk o n k l, h => by
   simp only [okEb,Bool.and_eq_true] at h
   exact ⟨⟨gi h.1.1.1,gi h.1.1.2,okI_s h.1.2⟩,Nat.le_of_ble_eq_true h.2.1,okLb_s l h.2.2⟩
theorem okLb_s:∀ l:List Exp,okLb l=true→ll l
 | [],_=>trivial
 | x :: r, h => by
   simp only [okLb,Bool.and_eq_true] at h
   exact ⟨okEb_s x h.1,okLb_s r h.2⟩
end
theorem okFb_s {f:Fold} (h:okFb f=true):f.ok:=by
 simp only [okFb,Bool.and_eq_true] at h
 exact ⟨gi h.1,gi h.2⟩
mutual
theorem okSb_s:∀ x:Stm,okSb x=true→x.ok
 | .mk o nm tx n ns es fs bs, h => by
   simp only [okSb,Bool.and_eq_true] at h
   obtain ⟨⟨h1,h2,h3,h4⟩,⟨h5,h6⟩,⟨h7,h8⟩,⟨h9,h10⟩,h11,h12⟩:=h
   exact ⟨⟨gi h1,gi h2,gi h3,okI_s h4⟩,⟨Nat.le_of_ble_eq_true h5,fun s hs=>gi (List.all_eq_true.1 h6 s hs)⟩,⟨Nat.le_of_ble_eq_true h7,okLb_s es h8⟩,⟨Nat.le_of_ble_eq_true h9,fun f hf=>okFb_s (List.all_eq_true.1 h10 f hf)⟩,Nat.le_of_ble_eq_true h11,okBsb_s bs h12⟩
theorem pk:∀ l:List Stm,okBb l=true→iS l
 | [],_=>trivial
 | x :: r, h => by
   simp only [okBb,Bool.and_eq_true] at h
   exact ⟨okSb_s x h.1,pk r h.2⟩
theorem okBsb_s:∀ l:List (List Stm),okBsb l=true→oksBs l
 | [],_=>trivial
 | x :: r, h => by
   simp only [okBsb,Bool.and_eq_true] at h
   exact ⟨⟨Nat.le_of_ble_eq_true h.1.1,pk x h.1.2⟩,okBsb_s r h.2⟩
end
theorem okPmb_s {p:Prm} (h:okPmb p=true):p.ok:=by
 simp only [okPmb,Bool.and_eq_true] at h
 exact ⟨gi h.1,gi h.2.1,okI_s h.2.2⟩
theorem okPb_s {p:Prc} (h:okPb p=true):p.ok:=by
 simp only [okPb,Bool.and_eq_true] at h
 obtain ⟨⟨h1,h2⟩,⟨h3,h4⟩,h5,h6⟩:=h
 exact ⟨⟨gi h1,gi h2⟩,⟨Nat.le_of_ble_eq_true h3,fun x hx=>okPmb_s (List.all_eq_true.1 h4 x hx)⟩,Nat.le_of_ble_eq_true h5,pk _ h6⟩
theorem okGb_s {p:Prg} (h:okGb p=true):p.ok:=by
 simp only [okGb,Bool.and_eq_true] at h
 obtain ⟨⟨h3,h4⟩,h5,h6⟩:=h
 exact ⟨⟨Nat.le_of_ble_eq_true h3,fun x hx=>okPb_s (List.all_eq_true.1 h4 x hx)⟩,Nat.le_of_ble_eq_true h5,pk _ h6⟩
def saveP:Prg:=⟨[],[⟨[118,97,114],[120],[],0,[],[⟨[105,110,116],[],1,[]⟩],[],[]⟩,⟨[119,114,105,116,101],[],[],0,[],[⟨[118,97,114],[120],0,[]⟩],[],[]⟩]⟩
def m7:Nat→Nat→List UInt8
 | 0,_=>[]
 | k+1,u=>match Nat.blt u 10 with | true=>[UInt8.ofNat (48+u)] | false=>m7 k (u / 10)++[UInt8.ofNat (48+u % 10)]
theorem digsF_eq:∀ (k u:Nat),u<10 ^ (k+1)→m7 (k+1) u=decDigits u
 | 0, u, h => by
   rw [decDigits,dif_pos (by simpa using h)]
   have:Nat.blt u 10=true:=by simpa [Nat.blt_eq] using h
   simp only [m7,this]
 | k + 1, u, h => by
   rw [decDigits]
   by_cases hu:u<10
   ·have:Nat.blt u 10=true:=by simpa [Nat.blt_eq] using hu
    rw [dif_pos hu]
    simp only [m7,this]
   ·have:Nat.blt u 10=false:=by
     cases hb:Nat.blt u 10 with
     | false=>rfl
     | true=>exact absurd (by simpa [Nat.blt_eq] using hb) hu
    rw [dif_neg hu,← digsF_eq k (u / 10) (by rw [Nat.pow_succ] at h;omega)]
    show (match Nat.blt u 10 with | true=>[UInt8.ofNat (48+u)] | false=>m7 (k+1) (u / 10)++[UInt8.ofNat (48+u % 10)])=_
    rw [this]
def pv (args:List AV) (H:List (List AV)):Option (AV × List (List AV)):=match args,H with
 | [.sc (.i .i64 (.ofNat n))], [] => (match Nat.ble n 9223372036854775807 with
   | true=>some (.sc (.s (m7 20 n)),[])
   | false=>none)
 | _,_=>none
theorem libItoa_ok {W0:Go.World} (hk:Wk W0) {args:List AV} {H:List (List AV)} {res:AV} {H':List (List AV)} (h:pv args H=some (res,H')):Ctr Tryz.prog W0 98 args H res H':=by
 unfold pv at h
 split at h
 ·rename_i n
  split at h
  ·rename_i hn
   cases h
   have hn':=Nat.le_of_ble_eq_true hn
   have e:m7 20 n=Lib.itoa (Int.ofNat n):=by
    rw [digsF_eq 19 n (by omega)]
    unfold Lib.itoa
    rw [if_neg (by have:(0:Int)≤Int.ofNat n:=Int.natCast_nonneg n;omega)]
    rfl
   rw [e]
   exact itoa_ctr W0 hk.pow _ (by have:Int.ofNat n=(n:Int):=rfl;rw [this];constructor<;>omega)
  ·cases h
 ·cases h
def pr (args:List AV) (H:List (List AV)):Option (AV × List (List AV)):=match args,H with
 | [.sc (.s s)], [] => (match Nat.ble s.length 100000 with
   | true=>some (.sc (.b (aj s)),[])
   | false=>none)
 | _,_=>none
theorem libName_ok {W0:Go.World} (hk:Wk W0) {args:List AV} {H:List (List AV)} {res:AV} {H':List (List AV)} (h:pr args H=some (res,H')):Ctr Tryz.prog W0 99 args H res H':=by
 unfold pr at h
 split at h
 ·split at h
  ·rename_i hn
   cases h
   exact c168 W0 hk _ (Nat.le_trans (Nat.le_of_ble_eq_true hn) (by omega))
  ·cases h
 ·cases h
theorem save_valid:o8 saveP=true:=by kernel_rfl
theorem save_good:okGb saveP=true:=by kernel_rfl
theorem save_n:decide (nG saveP≤1152921504606846976)=true:=by kernel_rfl
def my (args:List AV) (H:List (List AV)):Option (AV × List (List AV)):=match args,H with
 | [x], [] => (match nY 3 x (eG saveP) with
   | true=>some (.sc (.b true),[])
   | false=>none)
 | _,_=>none
theorem libValid_ok {W0:Go.World} (hk:Wk W0) {args:List AV} {H:List (List AV)} {res:AV} {H':List (List AV)} (h:my args H=some (res,H')):Ctr Tryz.prog W0 186 args H res H':=by
 unfold my at h
 split at h
 ·rename_i x
  split at h
  ·rename_i hx
   cases h
   have:=eqAV_s _ _ _ hx
   subst this
   have:=c18 W0 hk saveP (okGb_s save_good) (of_decide_eq_true save_n)
   rwa [save_valid] at this
  ·cases h
 ·cases h
theorem one_int:aq [49]=true:=by decide
theorem one_val:bz [49]=1:=by decide
theorem one_P:intP [49]=true:=by rw [gN];exact one_int
theorem one_N:atoiN [49]=1:=by rw [oE one_P];exact one_val
def libNum (args:List AV) (H:List (List AV)):Option (AV × List (List AV)):=match args,H with
 | [.sc (.s s)], [] => (match aH s [49] with
   | true=>some (.tup [.sc (.i .i64 1),.sc (.b true)],[])
   | false=>none)
 | _,_=>none
theorem libNum_ok {W0:Go.World} (hw:Ws W0) {args:List AV} {H:List (List AV)} {res:AV} {H':List (List AV)} (h:libNum args H=some (res,H')):Ctr Tryz.prog W0 49 args H res H':=by
 unfold libNum at h
 split at h
 ·rename_i s
  split at h
  ·rename_i hx
   cases h
   have:s=[49]:=of_decide_eq_true hx
   subst this
   have:=cs49s W0 hw [49] (by decide)
   rwa [one_N,one_P] at this
  ·cases h
 ·cases h
def imgL0:S:=[105,109,97,103,101,32,49,32,50,32,48]
def imgL1:S:=[111,117,116,32,48]
def pB:S:=[105,110,116,32,120,32,49]
def imgB:S:=[105,109,97,103,101,32,49,32,50,32,48,10,111,117,116,32,48,10,105,110,116,32,120,32,49,10,101,110,100,10]
theorem img_spl:spl 10 imgB=imgL0::imgL1::([pB]++[cu,[]]):=by decide +kernel
theorem l0_spl:spl 32 imgL0=[ba,[49],[50],[48]]:=by decide +kernel
theorem int2:aq [50]=true∧bz [50]=2:=by decide
theorem int0:aq [48]=true∧bz [48]=0:=by decide
theorem ent_good:df intP aj pB=true:=by rw [jF];decide +kernel
theorem img_read (W0:Go.World) (hw:Ws W0):Ctr Tryz.prog W0 27 [.sc (.s imgB)] [] (.tup [bW 1 2 0 [] [pB],.sc (.b true)]) []:=by
 have k43a:=fK W0 hw.wk imgB 10 (by decide)
 rw [img_spl] at k43a
 have k43b:=fK W0 hw.wk imgL0 32 (by decide)
 rw [l0_spl] at k43b
 have p2:intP [50]=true:=by rw [gN];exact int2.1
 have p0:intP [48]=true:=by rw [gN];exact int0.1
 have hn:[[49],[50],[48]].all intP=true:=by simp [one_P,p2,p0]
 have k44:=cs44 W0 hw [[49],[50],[48]] (by decide) (by decide)
 rw [hn,show dH [[49],[50],[48]]=eA atoiN [[49],[50],[48]] by rw [dH,hn]] at k44
 have k45:=cs45 W0 imgL1 [111,117,116,32]
 have k46:=cs46 W0 hw [48] (by decide)
 have n0:atoiN [48]=0:=by rw [oE p0];exact int0.2
 have n2:atoiN [50]=2:=by rw [oE p2];exact int2.2
 rw [n0,p0] at k46
 have k47:=cs47 W0 (([pB]:List S).take 0) (fun x=>!ci intP x) 48 (by decide) (fun x hx=>by simp at hx)
 have hb:=oY W0 hw imgB imgL0 imgL1 cu [] [pB] (by decide) k43a rfl rfl [49] [50] [48] k43b k44 [48] k45 0 (by decide) k46 k47 [pB] rfl (df intP aj) (fun x hx=>by
  simp only [List.mem_singleton] at hx
  subst hx
  exact cs50 W0 hw pB (by decide))
 have ha:([pB]:List S).all (df intP aj)=true:=by simp [ent_good]
 rw [ha,fv ha,one_N,n2,n0] at hb
 exact ak follows qb rfl (fun _ _ h=>by cases h) rfl (by rfl) hb
def pq (args:List AV) (H:List (List AV)):Option (AV × List (List AV)):=match args,H with
 | [.sc (.s s)], [] => (match aH s imgB with
   | true=>some (.tup [bW 1 2 0 [] [pB],.sc (.b true)],[])
   | false=>none)
 | _,_=>none
theorem libRead_ok {W0:Go.World} (hw:Ws W0) {args:List AV} {H:List (List AV)} {res:AV} {H':List (List AV)} (h:pq args H=some (res,H')):Ctr Tryz.prog W0 27 args H res H':=by
 unfold pq at h
 split at h
 ·rename_i s
  split at h
  ·rename_i hx
   cases h
   have:s=imgB:=of_decide_eq_true hx
   subst this
   exact img_read W0 hw
  ·cases h
 ·cases h
def annS (f:FuncId):Ann:=match Nat.beq f 151 with
 | true=>{ annL 151 with cs:=List.range 300 }
 | false=>annL f
theorem annS_gl {W0:Go.World}:∀ f g cells,(annS f).gl g=some cells→dU W0 g cells:=by
 intro f g cells h
 unfold annS at h
 split at h
 ·exact annL_gl 151 g cells h
 ·exact annL_gl f g cells h
def libL (f:FuncId) (args:List AV) (H:List (List AV)):Option (AV × List (List AV)):=
 match Nat.beq f 476 with
 | true=>libCF0 args H
 | false=>match Nat.beq f 131 with
 | true=>libEF0 args H
 | false=>match Nat.beq f 373 with
 | true=>libTO args H
 | false=>match Nat.beq f 20 with
 | true=>pp args H
 | false=>match Nat.beq f 21 with
 | true=>iV args H
 | false=>match Nat.beq f 316 with
 | true=>fq 3 args H
 | false=>match Nat.beq f 368 with
 | true=>fq 6 args H
 | false=>match Nat.beq f 92 with
 | true=>fq 1 args H
 | false=>match Nat.beq f 329 with
 | true=>fq 1 args H
 | false=>match Nat.beq f 387 with
 | true=>libMul args H
 | false=>match Nat.beq f 29 with
 | true=>pu args H
 | false=>match Nat.beq f 98 with
 | true=>pv args H
 | false=>match Nat.beq f 99 with
 | true=>pr args H
 | false=>match Nat.beq f 186 with
 | true=>my args H
 | false=>match Nat.beq f 49 with
 | true=>libNum args H
 | false=>match Nat.beq f 27 with
 | true=>pq args H
 | false=>none
theorem libL_ok {W0:Go.World} (hw:Ws W0):∀ f args H res H',libL f args H=some (res,H')→Ctr Tryz.prog W0 f args H res H':=by
 intro f args H res H' h
 have hk:=hw.wk
 unfold libL at h
 split at h
 ·rename_i e;have:=Nat.eq_of_beq_eq_true e;subst this;exact libCF0_ok W0 h
 split at h
 ·rename_i e;have:=Nat.eq_of_beq_eq_true e;subst this;exact libEF0_ok W0 h
 split at h
 ·rename_i e;have:=Nat.eq_of_beq_eq_true e;subst this;exact libTO_ok W0 h
 split at h
 ·rename_i e;have:=Nat.eq_of_beq_eq_true e;subst this;exact libSort_ok W0 h
 split at h
 ·rename_i e;have:=Nat.eq_of_beq_eq_true e;subst this;exact nV W0 h
 split at h
 ·rename_i e;have:=Nat.eq_of_beq_eq_true e;subst this;exact eT (clone316 W0) h
 split at h
 ·rename_i e;have:=Nat.eq_of_beq_eq_true e;subst this;exact eT (clone368 W0) h
 split at h
 ·rename_i e;have:=Nat.eq_of_beq_eq_true e;subst this;exact eT (clone92 W0) h
 split at h
 ·rename_i e;have:=Nat.eq_of_beq_eq_true e;subst this;exact eT (clone329 W0) h
 split at h
 ·rename_i e;have:=Nat.eq_of_beq_eq_true e;subst this;exact libMul_ok W0 h
 split at h
 ·rename_i e;have:=Nat.eq_of_beq_eq_true e;subst this;exact libJoin_ok W0 h
 split at h
 ·rename_i e;have:=Nat.eq_of_beq_eq_true e;subst this;exact libItoa_ok hk h
 split at h
 ·rename_i e;have:=Nat.eq_of_beq_eq_true e;subst this;exact libName_ok hk h
 split at h
 ·rename_i e;have:=Nat.eq_of_beq_eq_true e;subst this;exact libValid_ok hk h
 split at h
 ·rename_i e;have:=Nat.eq_of_beq_eq_true e;subst this;exact libNum_ok hw h
 split at h
 ·rename_i e;have:=Nat.eq_of_beq_eq_true e;subst this;exact libRead_ok hw h
 ·cases h
end Go.Abs
