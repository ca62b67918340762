/- The recorded call of text. -/
import Derived.Test.YteihidcjmfckeaaGreatDoorMq
import Derived.Test.YteihidcjmfckeaaGreatDoorMe
import Derived.Test.YteihidcjmfckeaaGreatDoorT87
set_option linter.all false
set_option maxRecDepth 1000000
namespace Go.Abs.RS
open Go.Abs Go.Abs.R
def a0:AV:=(i 1)
def a1:AV:=(e 1)
def a2:List AV:=[(.mm [] [])]
def a3:AV:=(v (w [109,97,114,107]))
def a4:AV:=(e 5)
def a5:AV:=(v (w [115,116,101,112]))
def a6:AV:=(v (w [105,109,97,103,101,32,49,32,50,32,48,10,111,117,116,32,48,10,105,110,116,32,120,32,49,10,101,110,100,10]))
end Go.Abs.RS
namespace Go.Abs
open Go.Abs.R Go.Abs.RS
def rcSA87_0:List AV:=[(p 0 0),a0]
def da:List (List AV):=([([(p 1 0),a0,F,(i 100),(i 2),a1,(c 1 2 0 1 1),(y 1 [[(E 1)]]),(.mr 3),(.mr 4),(.mr 5),(.mr 6)]++[(.mr 7),(x 1 [[(d [120])]] 0),a1,(.mr 8),(.mx 1 [] 9 0 .full),z,z,(.mx 1 [] 10 1 .full),(p 11 0),F,(e 4),F]++[a0,z,a0,t]),[(p 12 0),(.mr 13),(l 4 []),(l 8 [[(d [118,97,114]),(d [120]),U,Z,(E 1),(L 4 [[(d [105,110,116]),U,(I 1),(E 4)]]),(E 2),(E 1)],[(V (w [119,114,105,116,101])),U,U,Z,(E 1),(L 4 [[(d [118,97,114]),(d [120]),Z,(E 4)]]),(E 2),(E 1)]]),z],[(p 11 0)],a2,a2,a2,a2,[(.mm [(w [120])] [(p 14 0)])],[(.mpv (.m []))],[],[(i 2)],([a1,z,z,(p 12 0),(i 5),(.mx 4 [] 15 1 .full),(k 1 16 0 0 1 1),(e 4),(e 9),N,Q,F]++[F,z,z,F,u,z,z,N,N,N])]++[[u,(k 9 17 0 12 12 2),a0,u,u,(e 3),(e 8),(x 1 [[Z],[(I 5)],[(I 10)]] 3)],a2,[a0,z,(s [120,35,48]),F],[(p 14 0),N,N,F],[a0],([a3,u,z,z,a1,F,a4,a1,N,a5,u,z]++[z,a1,F,a4,a1,N,a5,u,z,z,a1,F]++[a4,a1,N,(s [105,110,116]),u,a0,z,a1,F,a4,a1,N]++[(v (w [100,101,99,108,97,114,101])),(s [120]),a0,z,a1,F,a4,a1,N,a3,u,a0]++[z,a1,F,a4,a1,N,a5,u,z,z,a1,F]++[a4,a1,N,a5,u,z,z,a1,F,a4,a1,N]++[(v (w [108,111,97,100])),(s [120]),z,z,a1,F,a4,a1,N,(v (w [119,114,105,116,101])),u,z]++[z,a1,F,a4,a1,N,a3,u,(i 2),z,a1,F]++[a4,a1,N,(s [101,110,100]),u,z,z,a1,F,a4,a1,N])])
def rcSR87_0:AV × List (List AV):=(a6,([([(p 1 0),a0,F,(i 100),(i 2),a1,(c 1 2 0 1 1),(y 1 [[(E 1)]]),(.mr 3),(.mr 4),(.mr 5),(.mr 6)]++[(.mr 7),(x 1 [[(d [120])]] 0),a1,(.mr 8),(.mx 1 [] 9 0 .full),z,z,(.mx 1 [] 10 1 .full),(p 11 0),F,(e 4),F]++[a0,z,a0,t]),[(p 12 0),(.mr 13),(l 4 []),(l 8 [[(d [118,97,114]),(d [120]),U,Z,(E 1),(L 4 [[(d [105,110,116]),U,(I 1),(E 4)]]),(E 2),(E 1)],[(V (w [119,114,105,116,101])),U,U,Z,(E 1),(L 4 [[(d [118,97,114]),(d [120]),Z,(E 4)]]),(E 2),(E 1)]]),z],[(p 11 0)],a2,a2,a2,a2,[(.mm [(w [120])] [(p 14 0)])],[(.mpv (.m []))],[],[(i 2)],([a1,z,z,(p 12 0),(i 5),(.mx 4 [] 15 1 .full),(k 1 16 0 0 1 1),(e 4),(e 9),N,Q,F]++[F,z,z,F,u,z,z,N,N,N])]++[[u,(k 9 17 0 12 12 2),a0,u,u,(e 3),(e 8),(x 1 [[Z],[(I 5)],[(I 10)]] 3)],a2,[a0,z,(s [120,35,48]),F],[(p 14 0),N,N,F],[a0],([a3,u,z,z,a1,F,a4,a1,N,a5,u,z]++[z,a1,F,a4,a1,N,a5,u,z,z,a1,F]++[a4,a1,N,(s [105,110,116]),u,a0,z,a1,F,a4,a1,N]++[(v (w [100,101,99,108,97,114,101])),(s [120]),a0,z,a1,F,a4,a1,N,a3,u,a0]++[z,a1,F,a4,a1,N,a5,u,z,z,a1,F]++[a4,a1,N,a5,u,z,z,a1,F,a4,a1,N]++[(v (w [108,111,97,100])),(s [120]),z,z,a1,F,a4,a1,N,(v (w [119,114,105,116,101])),u,z]++[z,a1,F,a4,a1,N,a3,u,(i 2),z,a1,F]++[a4,a1,N,(s [101,110,100]),u,z,z,a1,F,a4,a1,N])]))
def rcSA25_0:List AV:=[(.agg [(l 4 []),(l 8 [[(d [118,97,114]),(d [120]),U,Z,(E 1),(L 4 [[(d [105,110,116]),U,(I 1),(E 4)]]),(E 2),(E 1)],[(V (w [119,114,105,116,101])),U,U,Z,(E 1),(L 4 [[(d [118,97,114]),(d [120]),Z,(E 4)]]),(E 2),(E 1)]])]),(i 100),a0]
def rcSH25_0:List (List AV):=[]
def rcSR25_0:AV × List (List AV):=((.tup [a6,z]),[])
def rcSA26_0:List AV:=[(.agg [(l 4 []),(l 8 [[(d [118,97,114]),(d [120]),U,Z,(E 1),(L 4 [[(d [105,110,116]),U,(I 1),(E 4)]]),(E 2),(E 1)],[(V (w [119,114,105,116,101])),U,U,Z,(E 1),(L 4 [[(d [118,97,114]),(d [120]),Z,(E 4)]]),(E 2),(E 1)]])]),a6,(i 2),(l 1 []),(i 100)]
def rcSH26_0:List (List AV):=[]
def rcSR26_0:AV × List (List AV):=((.tup [(.agg [(x 1 [[(d [49])]] 0),(s [101,110,100]),u,(i 4)]),z]),[])
end Go.Abs
namespace Go.Abs
open Go Go.Proofs Go.RowKit
theorem dC {W0:World} {κ:Gh} {args:List AV} {H:List (List AV)} {a:Act} {w:World} (hs:RepS W0 κ (aA args H) a w) {i j:Nat} {L:List AV} {v:AV} (hb:H[i]? = some L) (hm:isM L=false) (hj:L[j]? = some v) :
  ∃ x,w.cell? ⟨(κ.ι i).1,(κ.ι i).2+j,none⟩=some x∧RepV κ w v x:=by
 obtain ⟨_,_,hB⟩:=hs.boxes i L (by rw [aK,hb];rfl)
 obtain ⟨C,ty,hg,hR⟩:=hB.row hm
 have hlt:(κ.ι i).2+j<C.size:=by have:=hR.1;have:=(List.getElem?_eq_some_iff.1 hj).1;omega
 refine ⟨C[(κ.ι i).2+j],?_,?_⟩
 ·rw [au hg,Array.getElem?_eq_getElem hlt]
 ·have:=hR.2.2 j v hj
  rwa [Array.getD_eq_getD_getElem?,Array.getElem?_eq_getElem hlt] at this
theorem boxMap {W0:World} {κ:Gh} {args:List AV} {H:List (List AV)} {a:Act} {w:World} (hs:RepS W0 κ (aA args H) a w) {i:Nat} {ks:List Sc} {vs:List AV} (hb:H[i]? = some [.mm ks vs]) :
  ∃ E c,w.heap[(κ.ι i).1]? = some (.map E c)∧RepMM κ w ks vs E.toList:=by
 obtain ⟨_,_,hB⟩:=hs.boxes i _ (by rw [aK,hb];rfl)
 rcases hB with ⟨h0,_⟩ | ⟨m,ob,e1,e2,e3,e4⟩
 ·cases h0
 cases e1
 obtain ⟨E,c,rfl⟩:∃ E c,ob=.map E c:=by cases ob<;>first | exact e4.elim | exact ⟨_,_,rfl⟩
 exact ⟨E,c,e3,e4⟩
theorem arr_of {α:Type} {E:Array α} {l:List α} (h:E.toList=l):E=l.toArray:=by subst h;simp
def rcSC87:RecC:=⟨87,rcSA87_0,da,rcSR87_0⟩
theorem d0_:Lib.decDigits 0=[48]:=by rw [Lib.decDigits];rfl
theorem d1_:Lib.decDigits 1=[49]:=by rw [Lib.decDigits];rfl
theorem d2_:Lib.decDigits 2=[50]:=by rw [Lib.decDigits];rfl
theorem img_bytes:imgT 1 2 0 1 ⟨[120].toArray⟩=[105,109,97,103,101,32,49,32,50,32,48,10,111,117,116,32,48,10,105,110,116,32,120,32,49,10,101,110,100,10]:=by
 unfold imgT
 rw [d0_,d1_,d2_]
 rfl
theorem rcS_boxes:∃ L0 L11 L14,da[0]? = some L0∧isM L0=false∧L0[4]? = some (.sc (.i .i64 2))∧L0[5]? = some (.sl 1 [] .full)∧L0[8]? = some (.mr 3)∧L0[9]? = some (.mr 4)∧L0[12]? = some (.mr 7)∧L0[13]? = some (.sl 1 [[.sc (.s [120])]] (.t 0))∧L0[20]? = some (.ptr 11 0) ∧
  da[11]? = some L11∧isM L11=false∧L11[2]? = some (.sc (.i .i64 0))∧da[14]? = some L14∧isM L14=false∧L14[0]? = some (.sc (.i .i64 1))∧L14[3]? = some (.sc (.b false)) ∧
  da[3]? = some [.mm [] []]∧da[4]? = some [.mm [] []]∧da[7]? = some [.mm [.s [120]] [.ptr 14 0]]:=
 ⟨_,_,_,rfl,rfl,rfl,rfl,rfl,rfl,rfl,rfl,rfl,rfl,rfl,rfl,rfl,rfl,rfl,rfl,rfl,rfl,rfl⟩
theorem rcSC87_ok (W0:World):jV Tryz.prog W0 rcSC87:=by
 show Ctr Tryz.prog W0 87 [.ptr 0 0,.sc (.i .i64 1)] da (.sc (.s [105,109,97,103,101,32,49,32,50,32,48,10,111,117,116,32,48,10,105,110,116,32,120,32,49,10,101,110,100,10])) da
 refine gV (by kernel_rfl) rfl fun κ w vals hsz hs=>?_
 obtain ⟨_,q0⟩:=(hs.arg (n:=0) rfl).ptr_inv
 have q1:=(hs.arg (n:=1) rfl).sc_inv
 rw [jm hsz,q0,q1]
 obtain ⟨L0,L11,L14,g0,m0,g4,g5,g8,g9,g12,g13,g20,g11,m11,g112,g14,m14,g140,g143,r3,r4,r7⟩:=rcS_boxes
 obtain ⟨x4,c4,v4⟩:=dC hs g0 m0 g4
 obtain ⟨x5,c5,v5⟩:=dC hs g0 m0 g5
 obtain ⟨x8,c8,v8⟩:=dC hs g0 m0 g8
 obtain ⟨x9,c9,v9⟩:=dC hs g0 m0 g9
 obtain ⟨x12,c12,v12⟩:=dC hs g0 m0 g12
 obtain ⟨x13,c13,v13⟩:=dC hs g0 m0 g13
 obtain ⟨x20,c20,v20⟩:=dC hs g0 m0 g20
 obtain ⟨y2,k2,u2⟩:=dC hs g11 m11 g112
 obtain ⟨y0,k0,u0⟩:=dC hs g14 m14 g140
 obtain ⟨y3,k3,u3⟩:=dC hs g14 m14 g143
 obtain ⟨E3,n3,f3,p3⟩:=boxMap hs r3
 obtain ⟨E4,n4,f4,p4⟩:=boxMap hs r4
 obtain ⟨E7,n7,f7,p7⟩:=boxMap hs r7
 rw [v4.sc_inv] at c4
 rw [v8.mr_inv.2] at c8
 rw [v9.mr_inv.2] at c9
 rw [v12.mr_inv.2] at c12
 rw [v20.ptr_inv.2] at c20
 rw [u2.sc_inv] at k2
 rw [u0.sc_inv] at k0
 rw [u3.sc_inv] at k3
 have e3:E3=#[]:=by
  refine arr_of (l:=[]) ?_
  cases h:E3.toList with
  | nil=>rfl
  | cons a r=>rw [h] at p3;exact p3.elim
 have e4:E4=#[]:=by
  refine arr_of (l:=[]) ?_
  cases h:E4.toList with
  | nil=>rfl
  | cons a r=>rw [h] at p4;exact p4.elim
 obtain ⟨en,e7,ek,ev⟩:∃ en,E7=#[en]∧en.key=.string ⟨[120].toArray⟩∧en.val=.pointer (some ⟨(κ.ι 14).1,(κ.ι 14).2+0,none⟩):=by
  cases h:E7.toList with
  | nil=>rw [h] at p7;exact p7.elim
  | cons a r =>
    rw [h] at p7
    obtain ⟨⟨a1,_,a3⟩,a4⟩:=p7
    cases r with
    | cons b r=>exact a4.elim
    | nil=>exact ⟨a,arr_of h,a1,a3.ptr_inv.2⟩
 have hT:TextAt w (κ.ι 0).1 ((κ.ι 0).2+0) 2 0 ⟨[120].toArray⟩ 1:=by
  refine ⟨cell_lt c4,c4,?_,⟨_,_,c20,k2⟩,?_,⟨_,_,c8,by rw [f3,e3]⟩,⟨_,_,c9,by rw [f4,e4]⟩,⟨_,_,en,_,_,c12,by rw [f7,e7],ek,ev,k0,k3⟩⟩
  ·have:=v5.sl_inv.1
   cases this with
   | nil sz a=>exact ⟨_,_,c5⟩
   | lst sz els b o cap C hn hlen hI hc hr=>exact ⟨_,_,c5⟩
  ·have:=v13.sl_inv.1
   cases this with
   | lst sz els b o cap C hn hlen hI hc hr =>
     have h1:=hc 0 0 (by decide) (by decide)
     have h2:=hr 0 0 _ _ rfl rfl
     generalize C 0 0=y at h1 h2
     cases h2
     exact ⟨_,_,_,c13,hn,h1⟩
 refine (Tryz.text87 _ _ 2 0 1 1 _ w hT (by decide) (by decide) (by decide) (by decide) (by decide)).mono ?_
 rintro e w' ⟨rfl,hb⟩
 rw [img_bytes]
 exact ⟨_,rfl,hb,.sc (.s _)⟩
end Go.Abs
