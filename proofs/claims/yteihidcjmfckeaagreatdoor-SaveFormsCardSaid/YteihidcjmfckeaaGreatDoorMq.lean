/- Recorded calls as a library. -/
import Derived.Test.YteihidcjmfckeaaGreatDoorMp
set_option linter.all false
namespace Go.Abs
open Go
structure RecC where
 f:FuncId
 a:List AV
 H:List (List AV)
 r:AV × List (List AV)
def jV (P:Program) (W0:World) (c:RecC):Prop:=Ctr P W0 c.f c.a c.H c.r.1 c.r.2
def RunOK (T:FuncId→Option Fn) (lib:FuncId→List AV→List (List AV)→Option (AV × List (List AV))) (c:RecC):Prop:=runT T lib 60 c.f c.a c.H=some c.r
theorem RunOK.ok {P:Program} {W0:World} {T:FuncId→Option Fn} {lib:FuncId→List AV→List (List AV)→Option (AV × List (List AV))} {c:RecC} (h:RunOK T lib c) (hm:P.follows .mixedOrders=true) (hT:TabOK P W0 T) (hlib:∀ f args H res H',lib f args H=some (res,H')→Ctr P W0 f args H res H'):jV P W0 c:=runT_s hm hT hlib 60 c.f c.a c.H c.r.1 c.r.2 h
end Go.Abs
namespace Go.Abs
open Go
def eqX (a b:AV):Bool:=match a,b with
 | .mpv (.m []),.mpv (.m [])=>true
 | a,b=>nY 4 a b
theorem eqX_s (a b:AV) (h:eqX a b=true):a=b:=by
 unfold eqX at h
 split at h
 ·rfl
 ·exact eqAV_s 4 _ _ h
def ke (f:FuncId) (args:List AV) (H:List (List AV)) (cs:List RecC):Option (AV × List (List AV)):=match cs with
 | []=>none
 | c :: r => match Nat.beq f c.f with
   | false=>ke f args H r
   | true => match fZ eqX args c.a with
     | false=>ke f args H r
     | true => match fZ (fZ eqX) H c.H with
       | false=>ke f args H r
       | true=>some c.r
def ou (cs:List RecC) (lib:FuncId→List AV→List (List AV)→Option (AV × List (List AV))) (f:FuncId) (args:List AV) (H:List (List AV)):Option (AV × List (List AV)):=
 match ke f args H cs with
 | some r=>some r
 | none=>lib f args H
theorem ot {P:Program} {W0:World} {f:FuncId} {args:List AV} {H:List (List AV)} {res:AV} {H':List (List AV)}:∀ {cs:List RecC},(∀ c∈cs,jV P W0 c)→ke f args H cs=some (res,H')→Ctr P W0 f args H res H'
 | [],_,h=>by cases h
 | c :: r, hc, h => by
   have ih:=ot (f:=f) (args:=args) (H:=H) (res:=res) (H':=H') (cs:=r) fun c h=>hc c (List.mem_cons_of_mem _ h)
   unfold ke at h
   split at h
   ·exact ih h
   ·rename_i e1
    split at h
    ·exact ih h
    ·rename_i e2
     split at h
     ·exact ih h
     ·rename_i e3
      have h0:=hc c List.mem_cons_self
      unfold jV at h0
      rw [Option.some.inj h] at h0
      rw [Nat.eq_of_beq_eq_true e1,cb eqX_s e2,cb (fun a b h=>cb eqX_s h) e3]
      exact h0
theorem libSX_ok {P:Program} {W0:World} {cs:List RecC} {lib:FuncId→List AV→List (List AV)→Option (AV × List (List AV))} (hc:∀ c∈cs,jV P W0 c) (hl:∀ f args H res H',lib f args H=some (res,H')→Ctr P W0 f args H res H'):∀ f args H res H',ou cs lib f args H=some (res,H')→Ctr P W0 f args H res H':=by
 intro f args H res H' h
 unfold ou at h
 split at h
 ·rename_i r hr;rw [Option.some.inj h] at hr;exact ot hc hr
 ·exact hl _ _ _ _ _ h
end Go.Abs
namespace Go.Abs.R
def i (n:Int):AV:=.sc (.i .i64 n)
def t:AV:=.sc (.b true)
def F:AV:=.sc (.b false)
def N:AV:=.sc .np
def Q:AV:=.sc .nf
def s (l:List UInt8):AV:=.sc (.s l)
def v (c:Sc):AV:=.sc c
def z:AV:=.sc (.i .i64 0)
def u:AV:=.sc (.s [])
def p (b o:Nat):AV:=.ptr b o
def e (k:Nat):AV:=.sl k [] .full
def y (k:Nat) (l:List (List Data)):AV:=.sl k l .full
def l (k:Nat) (l:List (List Data)):AV:=.sl k l .none
def x (k:Nat) (l:List (List Data)) (t:Nat):AV:=.sl k l (.t t)
def c (a b o n m:Nat):AV:=.cs a b o n m .full
def k (a b o n m t:Nat):AV:=.cs a b o n m (.t t)
def I (n:Int):Data:=.sc (.i .i64 n)
def d (l:List UInt8):Data:=.sc (.s l)
def V (c:Sc):Data:=.sc c
def L (k:Nat) (l:List (List Data)):Data:=.lst k l
def E (k:Nat):Data:=.lst k []
def Z:Data:=.sc (.i .i64 0)
def U:Data:=.sc (.s [])
def w (l:List UInt8):Sc:=.s l
end Go.Abs.R
