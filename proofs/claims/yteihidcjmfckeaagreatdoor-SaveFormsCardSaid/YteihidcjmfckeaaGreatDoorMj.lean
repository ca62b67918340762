/- The library for the run. -/
import Derived.Test.YteihidcjmfckeaaGreatDoorMe
import Derived.Test.YteihidcjmfckeaaGreatDoorMf
import Derived.Test.YteihidcjmfckeaaGreatDoorProg
import Derived.Test.YteihidcjmfckeaaGreatDoorMq
set_option linter.all false
set_option maxRecDepth 1000000
namespace Go.Abs
open Go Go.Proofs Go.Shelf Go.RowKit Go.Lib
def oa:List AV→Option (List (List UInt8))
 | []=>some []
 | .sc (.s s)::r=>(match oa r with | some l=>some (s::l) | none=>none)
 | _=>none
theorem iN:∀ {l:List AV} {ss:List (List UInt8)},oa l=some ss→l=iv ss
 | [],ss,h=>by simp only [oa,Option.some.injEq] at h;subst h;rfl
 | x :: r, ss, h => by
   unfold oa at h
   split at h
   ·rename_i e;cases e
   ·rename_i s r' e
    cases e
    split at h
    ·rename_i l hl
     cases h
     rw [iN hl];rfl
    ·cases h
   ·cases h
def strsE:List (List Abs.Data)→Option (List (List UInt8))
 | []=>some []
 | [.sc (.s s)]::r=>(match strsE r with | some l=>some (s::l) | none=>none)
 | _=>none
theorem lV:∀ {l:List (List Abs.Data)} {ss:List (List UInt8)},strsE l=some ss→l=ae ss
 | [],ss,h=>by simp only [strsE,Option.some.injEq] at h;subst h;rfl
 | x :: r, ss, h => by
   unfold strsE at h
   split at h
   ·rename_i e;cases e
   ·rename_i s r' e
    cases e
    split at h
    ·rename_i l hl
     cases h
     rw [lV hl];rfl
    ·cases h
   ·cases h
def noTok:List AV→Bool
 | []=>true
 | v::r=>match bt v with | []=>noTok r | _=>false
theorem pl:∀ {l:List AV},noTok l=true→l.flatMap bt=[]
 | [],_=>rfl
 | v :: r, h => by
   unfold noTok at h
   split at h
   ·rename_i hv;rw [List.flatMap_cons,hv,pl h];rfl
   ·cases h
/- sorting that the kernel can walk -/
def insS (x:List UInt8):List (List UInt8)→List (List UInt8)
 | []=>[x]
 | y::r=>match Op.bytesLess y x with | true=>y::insS x r | false=>x::y::r
def kh:List (List UInt8)→List (List UInt8)
 | []=>[]
 | x::r=>insS x (kh r)
theorem kl (x:List UInt8):∀ l:List (List UInt8),(insS x l).Perm (x::l)
 | []=>.refl _
 | y :: r => by
   simp only [insS]
   split
   ·exact ((kl x r).cons y).trans (.swap x y r)
   ·exact .refl _
theorem kP:∀ l:List (List UInt8),(kh l).Perm l
 | []=>.refl _
 | x::r=>(kl x (kh r)).trans ((kP r).cons x)
theorem oG (x:List UInt8):∀ {l:List (List UInt8)},l.Pairwise (fun a b=>a≤b)→(insS x l).Pairwise (fun a b=>a≤b)
 | [],_=>by simp [insS]
 | y :: r, h => by
   rw [List.pairwise_cons] at h
   simp only [insS]
   split
   ·rename_i hb
    rw [bytesLess_eq,decide_eq_true_eq] at hb
    rw [List.pairwise_cons]
    refine ⟨fun a ha=>?_,oG x h.2⟩
    rcases List.mem_cons.1 ((kl x r).mem_iff.1 ha) with rfl | ha
    ·exact List.le_of_lt hb
    ·exact h.1 a ha
   ·rename_i hb
    rw [bytesLess_eq,decide_eq_false_iff_not] at hb
    have hxy:x≤y:=List.not_lt.1 hb
    rw [List.pairwise_cons,List.pairwise_cons]
    refine ⟨fun a ha=>?_,h⟩
    rcases List.mem_cons.1 ha with rfl | ha
    ·exact hxy
    ·exact List.le_trans hxy (h.1 a ha)
theorem kQ:∀ l:List (List UInt8),(kh l).Pairwise (fun a b=>a≤b)
 | []=>.nil
 | x::r=>oG x (kQ r)
theorem isortS_eq (l:List (List UInt8)):kh l=l.mergeSort fun x y=>decide (x≤y):=by
 refine List.Perm.eq_of_pairwise (le:=fun a b=>a≤b) (fun a b _ _ h1 h2=>List.le_antisymm h1 h2) (kQ l) ?_ ((kP l).trans (List.mergeSort_perm l _).symm)
 have:=List.pairwise_mergeSort (le:=fun x y:List UInt8=>decide (x≤y)) (fun a b c h1 h2=>by
  simp only [decide_eq_true_eq] at h1 h2 ⊢;exact List.le_trans h1 h2) (fun a b=>by
  simp only [Bool.or_eq_true,decide_eq_true_eq];exact List.le_total a b) l
 exact this.imp fun h=>by simpa using h
def pp (args:List AV) (H:List (List AV)):Option (AV × List (List AV)):=match args,H with
 | [.sl 1 [] .none],[]=>some (.tup [],[])
 | [.cs 1 0 o n c t], [L] => (match isM L, Nat.ble n 100000, sub L o n with
   | false, true, some V => (match oa V with
     | some ss => (match be o (iv (kh ss)) L with
       | some L'=>(match noTok L' with | true=>some (.tup [],[L']) | false=>none)
       | none=>none)
     | none=>none)
   | _,_,_=>none)
 | _,_=>none
theorem libSort_ok (W0:Go.World) {args:List AV} {H:List (List AV)} {res:AV} {H':List (List AV)} (h:pp args H=some (res,H')):Ctr Tryz.prog W0 20 args H res H':=by
 unfold pp at h
 split at h
 ·cases h;exact sort0_ctr W0
 ·rename_i o n c t L
  split at h
  ·rename_i V hm hn hs
   split at h
   ·rename_i ss hv
    split at h
    ·rename_i L' hsp
     split at h
     ·rename_i ht
      cases h
      have:=iN hv
      subst this
      rw [isortS_eq] at hsp
      exact sort_ctr W0 (Nat.le_trans (Nat.le_of_ble_eq_true hn) (by omega)) hm hs hsp (pl ht)
     ·cases h
    ·cases h
   ·cases h
  ·cases h
 ·cases h
def iV (args:List AV) (H:List (List AV)):Option (AV × List (List AV)):=match args,H with
 | [.sl 1 [] .none],[]=>some (.sl 1 [] .none,[])
 | [.cs 1 0 o n c t], [L] => (match isM L, Nat.ble n 100000, sub L o n with
   | false, true, some V => (match oa V with
     | some ss => (match Lib.compact ss with
       | cc => (match Nat.ble cc.length ss.length, be o (iv (cc ++ List.replicate (ss.length - cc.length) [])) L with
         | true,some L'=>(match noTok L' with | true=>some (.cs 1 0 o cc.length c t,[L']) | false=>none)
         | _,_=>none))
     | none=>none)
   | _,_,_=>none)
 | _,_=>none
theorem nV (W0:Go.World) {args:List AV} {H:List (List AV)} {res:AV} {H':List (List AV)} (h:iV args H=some (res,H')):Ctr Tryz.prog W0 21 args H res H':=by
 unfold iV at h
 split at h
 ·cases h;exact pN W0
 ·rename_i o n c t L
  split at h
  ·rename_i V hm hn hs
   split at h
   ·rename_i ss hv
    dsimp only at h
    split at h
    ·rename_i L' hle hsp
     split at h
     ·rename_i ht
      cases h
      have:=iN hv
      subst this
      exact compact_ctr W0 (Nat.le_trans (Nat.le_of_ble_eq_true hn) (by omega)) hm hs hsp (Nat.le_of_ble_eq_true hle) (pl ht)
     ·cases h
    ·cases h
   ·cases h
  ·cases h
 ·cases h
def fq (sz:Nat) (args:List AV) (H:List (List AV)):Option (AV × List (List AV)):=match args,H with
 | [.sl z els .none], [] => (match Nat.beq z sz, Nat.ble els.length 100000 with
   | true,true=>some (.sl z els (.t 0),[])
   | _,_=>none)
 | _,_=>none
theorem eT {W0:Go.World} {f sz:Nat} (hc:∀ els:List (List Abs.Data),els.length≤100000→Ctr Tryz.prog W0 f [.sl sz els .none] [] (.sl sz els (.t 0)) []) {args:List AV} {H:List (List AV)} {res:AV} {H':List (List AV)} (h:fq sz args H=some (res,H')):Ctr Tryz.prog W0 f args H res H':=by
 unfold fq at h
 split at h
 ·rename_i z els
  split at h
  ·rename_i hz hn
   cases h
   have:=Nat.eq_of_beq_eq_true hz
   subst this
   exact hc els (Nat.le_of_ble_eq_true hn)
  ·cases h
 ·cases h
def libMul (args:List AV) (H:List (List AV)):Option (AV × List (List AV)):=match args,H with
 | [.sc (.i .u64 (.ofNat a)), .sc (.i .u64 (.ofNat b))], [] => (match Nat.blt a 18446744073709551616, Nat.blt b 18446744073709551616 with
   | true,true=>some (.tup [.sc (.i .u64 (a * b / 18446744073709551616:Nat)),.sc (.i .u64 (a * b % 18446744073709551616:Nat))],[])
   | _,_=>none)
 | _,_=>none
theorem libMul_ok (W0:Go.World) {args:List AV} {H:List (List AV)} {res:AV} {H':List (List AV)} (h:libMul args H=some (res,H')):Ctr Tryz.prog W0 387 args H res H':=by
 unfold libMul at h
 split at h
 ·rename_i a b
  split at h
  ·rename_i h1 h2
   cases h
   exact mul64_ctr W0 a b (by simpa [Nat.blt_eq] using h1) (by simpa [Nat.blt_eq] using h2)
  ·cases h
 ·cases h
def pu (args:List AV) (H:List (List AV)):Option (AV × List (List AV)):=match args,H with
 | [.sl 1 els .none, .sc (.s sep)], [] => (match strsE els with
   | some l => (match Nat.ble l.length 100000, Nat.ble (Lib.join l sep).length 140737488355328 with
     | true,true=>some (.sc (.s (Lib.join l sep)),[])
     | _,_=>none)
   | none=>none)
 | _,_=>none
theorem libJoin_ok (W0:Go.World) {args:List AV} {H:List (List AV)} {res:AV} {H':List (List AV)} (h:pu args H=some (res,H')):Ctr Tryz.prog W0 29 args H res H':=by
 unfold pu at h
 split at h
 ·rename_i els sep
  split at h
  ·rename_i l hl
   split at h
   ·rename_i h1 h2
    cases h
    have:=lV hl
    subst this
    exact join_ctr W0 l sep (Nat.le_trans (Nat.le_of_ble_eq_true h1) (by omega)) (Nat.le_of_ble_eq_true h2)
   ·cases h
  ·cases h
 ·cases h
def libCF0 (args:List AV) (H:List (List AV)):Option (AV × List (List AV)):=match args,H with
 | [.ptr 0 0,.sc (.s _)],(x0::x1::x2::x3::.sl 6 [] t::xr)::Ht=>some (.tup [.agg e0E.c,.sc (.b false)],(x0::x1::x2::x3::.sl 6 [] t::xr)::Ht)
 | a,H=>libCF a H
theorem libCF0_ok (W0:Go.World) {args:List AV} {H:List (List AV)} {res:AV} {H':List (List AV)} (h:libCF0 args H=some (res,H')):Ctr Tryz.prog W0 476 args H res H':=by
 unfold libCF0 at h
 split at h
 ·cases h;exact find476_nil W0 _ _ _ _ _ _ _ _
 ·exact libCF_ok W0 h
def libEF0 (args:List AV) (H:List (List AV)):Option (AV × List (List AV)):=match args,H with
 | [.ptr 0 0,.sc (.s s)],(x0::x1::.sl 3 [] t::xr)::Ht=>some (.agg [.sc (.s s),.sc (.i .i64 (-1)),.sc (.b false)],(x0::x1::.sl 3 [] t::xr)::Ht)
 | a,H=>libEF a H
theorem libEF0_ok (W0:Go.World) {args:List AV} {H:List (List AV)} {res:AV} {H':List (List AV)} (h:libEF0 args H=some (res,H')):Ctr Tryz.prog W0 131 args H res H':=by
 unfold libEF0 at h
 split at h
 ·cases h;exact find131_nil W0 _ _ _ _ _ _
 ·exact libEF_ok W0 h
end Go.Abs
namespace Go.Abs
open Go Go.Proofs
def slmL:List Nat:=[190,273,280,349,370,415]
def annL0:FuncId→Ann
 | 36=>{ an0 with cs:=[48],opn:=List.range 100 }
 | 81=>{ an0 with cs:=List.range 100 }
 | 83=>{ an0 with cs:=List.range 100 }
 | 138=>{ an0 with cs:=[95,96] }
 | 190=>{ an0 with cs:=[53,54] }
 | 191=>{ an0 with cs:=[12] }
 | 195=>{ an0 with cs:=List.range 400 }
 | 200=>{ an0 with cs:=List.range 400 }
 | 203=>{ an0 with cs:=List.range 400 }
 | 236=>{ an0 with opn:=[7],frz:=fun _=>[7] }
 | 237=>{ an0 with opn:=[15],frz:=fun r=>match r with | 3=>[15] | _=>[] }
 | 246=>{ an0 with cs:=List.range 200 }
 | 255=>{ an0 with cs:=List.range 400 }
 | 256=>{ an0 with cs:=List.range 400 }
 | 264=>{ an0 with cs:=List.range 400 }
 | 269=>{ an0 with cs:=List.range 100,frz:=fun r=>match r with | 10=>[4] | _=>[] }
 | 273=>{ an0 with cs:=List.range 200,opn:=List.range 200 }
 | 276=>{ an0 with cs:=List.range 400 }
 | 277=>{ an0 with cs:=List.range 400 }
 | 278=>{ an0 with cs:=List.range 400 }
 | 279=>{ an0 with cs:=List.range 400 }
 | 280=>{ an0 with cs:=List.range 400 }
 | 315=>{ an0 with tk:=[1],cs:=List.range 200 }
 | 316=>{ an0 with cs:=List.range 100,frz:=fun r=>match r with | 3=>[2] | _=>[] }
 | 327=>{ an0 with cs:=List.range 100,frz:=fun r=>match r with | 7=>[6] | _=>[] }
 | 329=>{ an0 with cs:=List.range 100,frz:=fun r=>match r with | 3=>[2] | _=>[] }
 | 341=>{ an0 with cs:=List.range 100 }
 | 348=>{ an0 with cs:=List.range 100,frz:=fun r=>match r with | 8=>[2] | _=>[] }
 | 349=>{ an0 with cs:=List.range 400 }
 | 351=>{ an0 with cs:=List.range 400 }
 | 354=>{ an0 with cs:=List.range 400 }
 | 367=>{ an0 with cs:=[31,32] }
 | 368=>{ an0 with cs:=List.range 100,frz:=fun r=>match r with | 3=>[2] | _=>[] }
 | 369=>{ an0 with tk:=[1],cs:=List.range 200 }
 | 370=>{ an0 with cs:=[70,71] }
 | 393=>{ an0 with cs:=List.range 100 }
 | 400=>{ an0 with cs:=List.range 400 }
 | 403=>{ an0 with cs:=List.range 400 }
 | 406=>{ an0 with cs:=List.range 400 }
 | 408=>{ an0 with cs:=List.range 400 }
 | 415=>{ an0 with cs:=[56,70,71] }
 | 447=>{ an0 with cs:=[31,32] }
 | 511=>{ an0 with cs:=[125,126] }
 | _=>an0
def annL (f:FuncId):Ann:={ annL0 f with slm:=fun _=>slmL.contains f }
theorem annL_gl {W0:Go.World}:∀ f g cells,(annL f).gl g=some cells→dU W0 g cells:=by
 intro f g cells h
 have:(annL f).gl g=none:=by
  show (annL0 f).gl g=none
  unfold annL0
  split<;>rfl
 rw [this] at h;cases h
end Go.Abs
