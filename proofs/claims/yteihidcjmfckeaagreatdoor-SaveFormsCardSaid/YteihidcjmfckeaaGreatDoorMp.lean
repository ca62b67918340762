/- The run over trees is a walk. -/
import Derived.Test.YteihidcjmfckeaaGreatDoorMo
set_option linter.all false
namespace Go.Abs
open Go
section
variable {R:Type}
noncomputable def dc (z:St) (g:Option (Nat × Bool)) (A B:Option R):Option R:=
 match g with
 | none=>A
 | some (n, w) => match evF (lkT z) (.t n) with
   | .sc (.b t)=>(match t with
    | false=>(match w with | false=>A | true=>B)
    | true=>(match w with | true=>A | false=>B))
   | .tup _=>B
   | _=>none
noncomputable def aopsT (rc:Rec) (ops:List GOp):Nat→St→(St→Option R)→Option R:=@List.rec GOp (fun _=>Nat→St→(St→Option R)→Option R) (fun _ z K=>K z)
 (fun o _ ih id z K=>dc z o.g (fB rc (lkT z) id o.o fun δ=>ih (Nat.add id 100) (apT δ z) K) (ih (Nat.add id 100) (apT (bp o.o.dst (.tup [])) z) K)) ops
def srd (o:AOp):List Loc:=rdF (fun _=>none) o
def cU (o:AOp):List Loc:=match o.dst with | some d=>[.s d] | none=>[]
def aS:List Loc→List Loc
 | []=>[]
 | .s _::r=>aS r
 | l::r=>l::aS r
def jo (d:Option Nat):List Loc→Bool
 | []=>true
 | .s n :: r => match d with
   | some m=>(match Nat.beq n m with | true=>jo d r | false=>false)
   | none=>false
 | _::r=>jo d r
def jh (j:Nat) (R W:List Loc) (fs:List (Nat × List Loc × List Loc)):List (Nat × List Loc × List Loc):=match R,W with
 | [],[]=>fs
 | R,W=>(j,R,W)::fs
abbrev Fs:=List (Nat × List Loc × List Loc)
noncomputable def kC (rc:Rec) (ops:List GOp):List Nat→Nat→Nat→St→Fs→Fs→(St→Option R)→Option R:=@List.rec GOp (fun _=>List Nat→Nat→Nat→St→Fs→Fs→(St→Option R)→Option R) (fun _ _ _ z _ _ K=>K z)
 (fun o _ ih ps j id z fss fsd K=>match ps with
  | []=>none
  | p :: ps => match bh p (bw o.g ++ srd o.o) (cU o.o) fss with
    | true=>none
    | false => dc z o.g
      (fB rc (lkT z) id o.o fun δ=>match jo o.o.dst (ar δ) with
       | false=>none
       | true => match bh p (aS (rdF (lkT z) o.o)) (aS (ar δ)) fsd with
         | true=>none
         | false=>ih ps (Nat.add j 1) (Nat.add id 100) (apT δ z) ((j,bw o.g++srd o.o,cU o.o)::fss) (jh j (aS (rdF (lkT z) o.o)) (aS (ar δ)) fsd) K)
      (ih ps (Nat.add j 1) (Nat.add id 100) (apT (bp o.o.dst (.tup [])) z) ((j,bw o.g++srd o.o,cU o.o)::fss) fsd K)) ops
noncomputable def kB (rc:Rec) (ops:List GOp):List Nat→Nat→Nat→St→Fs→Fs→(St→Option R)→Option R:=@List.rec GOp (fun _=>List Nat→Nat→Nat→St→Fs→Fs→(St→Option R)→Option R) (fun _ _ _ z _ _ K=>K z)
 (fun o _ ih ps j id z fss fsd K=>match ps with
  | []=>none
  | p :: ps => match bh p (bw o.g ++ srd o.o) (cU o.o) fss with
    | true=>none
    | false => dc z o.g
      (fB rc (lkT z) id o.o fun δ=>match jo o.o.dst (ar δ) with
       | false=>none
       | true => match (match eD o.o with | true => cC (lkT (apT δ z)) (lkT z) (ar δ) | false => []) with
         | ks => match bh p (aS (rdF (lkT z) o.o ++ ks)) (aS (ar (bR ks δ))) fsd with
           | true=>none
           | false=>ih ps (Nat.add j 1) (Nat.add id 100) (apT (bR ks δ) z) ((j,bw o.g++srd o.o,cU o.o)::fss) (jh j (aS (rdF (lkT z) o.o++ks)) (aS (ar (bR ks δ))) fsd) K)
      (ih ps (Nat.add j 1) (Nat.add id 100) (apT (bp o.o.dst (.tup [])) z) ((j,bw o.g++srd o.o,cU o.o)::fss) fsd K)) ops
noncomputable def rdD (o:AOp):Lk→List Loc:=@AOp.rec (fun _=>Lk→List Loc)
 (fun x0 x1 σ=>[])
 (fun x0 x1 x2 x3 σ=>[])
 (fun x0 x1 σ=>[])
 (fun x0 x1 σ=>[])
 (fun x0 x1 x2 σ=>[])
 (fun x0 x1 x2 σ=>[])
 (fun x0 x1 x2 x3 σ=>(match evF σ x3 with | .ptr b _=>[.b b] | _=>[]))
 (fun x0 x1 x2 σ=>[])
 (fun x0 x1 σ=>[])
 (fun x0 x1 x2 x3 σ=>[])
 (fun x0 x1 x2 x3 σ=>[])
 (fun x0 x1 σ=>[])
 (fun x0 x1 x2 σ=>[])
 (fun x0 x1 x2 x3 x4 σ=>[])
 (fun x0 x1 x2 x3 σ=>[])
 (fun x0 x1 x2 σ=>[])
 (fun x0 x1 x2 x3 σ=>[])
 (fun x0 x1 x2 x3 x4 x5 σ=>[])
 (fun x0 x1 x2 σ=>[])
 (fun x0 x1 σ=>[])
 (fun x0 x1 x2 σ=>[])
 (fun x0 x1 x2 σ=>[])
 (fun x0 x1 x2 x3 x4 σ=>[])
 (fun x0 x1 σ=>[])
 (fun x0 x1 σ=>[])
 (fun x0 x1 x2 σ=>[])
 (fun x0 x1 x2 σ=>[])
 (fun x0 x1 x2 σ=>[])
 (fun x0 x1 σ=>[])
 (fun x0 x1 x2 x3 x4 σ=>[])
 (fun x0 x1 x2 x3 σ=>bxR (evF σ x3))
 (fun x0 x1 x2 σ=>[])
 (fun x0 x1 x2 σ=>[])
 (fun x0 x1 x2 x3 x4 σ=>[])
 (fun x0 x1 x2 x3 x4 σ=>[])
 (fun x0 x1 x2 σ=>[])
 (fun x0 x1 x2 x3 x4 σ=>[])
 (fun x0 x1 σ=>[])
 (fun x0 x1 x2 x3 σ=>[])
 (fun x0 x1 x2 x3 x4 σ=>[])
 (fun x0 x1 x2 x3 x4 x5 σ=>[])
 (fun x0 σ=>[])
 (fun x0 x1 x2 x3 σ=>(match evF σ x2 with | .mr b=>[.b b] | _=>[]))
 (fun x0 x1 x2 σ=>[])
 (fun x0 x1 x2 x3 x4 σ=>bxR (evF σ x3)++bxR (evF σ x4))
 (fun x0 x1 x2 σ=>[])
 (fun x0 x1 x2 x3 x4 σ=>[])
 (fun x0 x1 σ=>[])
 (fun x0 x1 σ=>[])
 (fun x0 x1 σ=>(match evF σ x1 with | .mr b=>[.b b] | _=>[]))
 (fun x0 x1 σ=>(match evF σ x1 with | .ptr i _=>.b i::(match σ (.b i) with | some (.bx [.mpv (.ie b)])=>[.b b] | _=>[]) | _=>[]))
 (fun x0 σ=>[])
 (fun x0 x1 x2 x3 x4 x5 σ=>(match evF σ x4 with | .mr b=>[.b b] | _=>[]))
 (fun x0 x1 x2 x3 σ=>[])
 o
noncomputable def okS (ops:List GOp):List Nat→Nat→Fs→Bool:=@List.rec GOp (fun _=>List Nat→Nat→Fs→Bool) (fun _ _ _=>true)
 (fun o _ ih ps j fss=>match ps with
  | []=>false
  | p :: ps => match bh p (bw o.g ++ srd o.o) (cU o.o) fss with
    | true=>false
    | false=>ih ps (Nat.add j 1) ((j,bw o.g++srd o.o,cU o.o)::fss)) ops
noncomputable def nF (rc:Rec) (ops:List GOp):List Nat→Nat→Nat→St→Fs→(St→Option R)→Option R:=@List.rec GOp (fun _=>List Nat→Nat→Nat→St→Fs→(St→Option R)→Option R) (fun _ _ _ z _ K=>K z)
 (fun o _ ih ps j id z fsd K=>match ps with
  | []=>none
  | p :: ps => dc z o.g
      (fB rc (lkT z) id o.o fun δ=>match jo o.o.dst (ar δ) with
       | false=>none
       | true => match bh p (rdD o.o (lkT z)) (aS (ar δ)) fsd with
         | true=>none
         | false=>ih ps (Nat.add j 1) (Nat.add id 100) (apT δ z) (jh j (rdD o.o (lkT z)) (aS (ar δ)) fsd) K)
      (ih ps (Nat.add j 1) (Nat.add id 100) (apT (bp o.o.dst (.tup [])) z) fsd K)) ops
noncomputable def nw (rc:Rec) (ops:List GOp):List Nat→Nat→Nat→St→Fs→(St→Option R)→Option R:=@List.rec GOp (fun _=>List Nat→Nat→Nat→St→Fs→(St→Option R)→Option R) (fun _ _ _ z _ K=>K z)
 (fun o _ ih ps j id z fsd K=>match ps with
  | []=>none
  | p :: ps => dc z o.g
      (fB rc (lkT z) id o.o fun δ=>match jo o.o.dst (ar δ) with
       | false=>none
       | true => match (match eD o.o with | true => cC (lkT (apT δ z)) (lkT z) (ar δ) | false => []) with
         | ks => match bh p (rdD o.o (lkT z) ++ aS ks) (aS (ar (bR ks δ))) fsd with
           | true=>none
           | false=>ih ps (Nat.add j 1) (Nat.add id 100) (apT (bR ks δ) z) (jh j (rdD o.o (lkT z)++aS ks) (aS (ar (bR ks δ))) fsd) K)
      (ih ps (Nat.add j 1) (Nat.add id 100) (apT (bp o.o.dst (.tup [])) z) fsd K)) ops
noncomputable def iterT (f:Nat→St→(Ex→Nat→St→Option R)→Option R) (Q:Ex→Nat→St→Option R) (k:Nat):Nat→St→Option R:=@Nat.rec (fun _=>Nat→St→Option R) (fun _ _=>none)
 (fun _ ih n z=>f n z fun e n' z'=>match e with
  | .n=>ih n' z'
  | .e i=>Q (.e i) n' z'
  | .r=>Q .r n' z') k
noncomputable def frzT (x nx:Nat) (z:St) (Q:Ex→Nat→St→Option R):Option R:=match evF (lkT z) (.t x) with
 | .mx sz _ b n _ => (match lkT z (.b b) with
   | some (.bx l) => (match bB l with
     | some ds => (match jS sz n ds with
       | some ch=>Q .n nx (put1 (thawT b sz n ch z) (.b b) (.tk false))
       | none=>none)
     | none=>none)
   | _=>none)
 | .sl _ _ _=>Q .n nx z
 | .cs sz b o n c t => (match lkT z (.b b) with
   | some (.bx l) => (match bB l with
     | some ds => (match sub ds o (n * sz) with
       | some p => (match jS sz n p with
         | some ch=>Q .n nx (put1 (put1 z (.b b) (.tk false)) (.s x) (.av (.sl sz ch (tokF t n c))))
         | none=>none)
       | none=>none)
     | none=>none)
   | _=>none)
 | _=>none
noncomputable def condT (z:St) (x:Opd) (A B:Option R):Option R:=match evF (lkT z) x with
 | .sc (.b v)=>(match v with | false=>B | true=>A)
 | _=>none
noncomputable def awpT (rc:Rec) (c:AC):Nat→St→(Ex→Nat→St→Option R)→Option R:=@AC.rec (fun _=>Nat→St→(Ex→Nat→St→Option R)→Option R)
 (fun ops nx z Q=>aopsT rc ops nx z fun z=>Q .n (Nat.add nx (Nat.mul 100 ops.length)) z)
 (fun x nx z Q=>frzT x nx z Q)
 (fun ops pre nx z Q=>match okS ops pre 0 [] with | true=>nF rc ops pre 0 nx z [] fun z=>Q .n (Nat.add nx (Nat.mul 100 ops.length)) z | false=>none)
 (fun ops pre nx z Q=>match okS ops pre 0 [] with | true=>nw rc ops pre 0 nx z [] fun z=>Q .n (Nat.add nx (Nat.mul 100 ops.length)) z | false=>none)
 (fun nx z Q=>Q .n nx z)
 (fun _ _ ix iy nx z Q=>ix nx z fun e nx z=>match e with
  | .n=>iy nx z Q
  | .e i=>Q (.e i) nx z
  | .r=>Q .r nx z)
 (fun x _ _ it ie nx z Q=>condT z x (it nx z Q) (ie nx z Q))
 (fun n _ ic nx z Q=>ic nx z fun e nx z=>match e with
  | .n=>Q .n nx z
  | .e i=>(match Nat.beq i n with | true=>Q .n nx z | false=>Q (.e i) nx z)
  | .r=>Q .r nx z)
 (fun _ ic nx z Q=>iterT (fun n z Q=>ic n z Q) Q 1000 nx z)
 (fun n nx z Q=>Q (.e n) nx z)
 (fun nx z Q=>Q .r nx z)
 (fun nx z Q=>Q .n nx z)
 (fun _ _ _=>none) c
noncomputable def bodyT (rc:Rec) (c:AC) (rs:List (Nat × Nat)) (args:List AV) (H:List (List AV)):Option (AV × List (List AV)):=
 awpT rc c 1000 (apT (jH args H) St0) fun e _ z=>match e with
  | .e _=>none
  | _=>lZ (lkT z) rs fun v=>oL (lkT z) v H.length (lT args H)
noncomputable def runT (T:FuncId→Option Fn) (lib:FuncId→List AV→List (List AV)→Option (AV × List (List AV))):Nat→Rec
 | 0=>fun _ _ _=>none
 | k + 1 => fun f args H => match lib f args H with
   | some res=>some res
   | none => match T f with
     | none=>none
     | some F=>tst (Nat.ble args.length F.nt&&Nat.ble (H.length+lT args H) 900&&!(F.tk.any (noRoom args))) (bodyT (runT T lib k) F.ac F.rs args H)
variable {r:R} {call:aX} {rc:Rec}
theorem mN {z:St} {σ:Log} (hz:lkT z=look σ) {g:Option (Nat × Bool)} {A B:Option R} {A' B':Log→Prop} (h:dc z g A B=some r) (hA:∀ σ,lkT z=look σ→A=some r→A' σ) (hB:∀ σ,lkT z=look σ→B=some r→B' σ):guard σ g A' B':=by
 unfold dc at h
 unfold guard
 split at h
 ·exact hA _ hz h
 ·rename_i n w
  rw [hz,evF_eq] at h
  dsimp only
  split at h
  ·rename_i t ht
   rw [ht]
   have hl:look σ (.s n)=some (.av (.sc (.b t))):=by
    simp only [ev] at ht
    split at ht
    ·rename_i v hv;rw [hv,ht]
    ·cases ht
   have hz':lkT z=look ((.s n,.av (.sc (.b t)))::σ):=by rw [hz];funext l;exact (known hl l).symm
   cases t<;>cases w<;>first | exact hA _ hz' h | exact hB _ hz' h
  ·rename_i l ht;rw [ht];exact hB _ hz h
  ·cases h
theorem pY (hrc:∀ f args H res H',rc f args H=some (res,H')→call f args H res H'):∀ {ops:List GOp} {id:Nat} {z:St} {σ:Log} {F:St→Option R} {G:Log→Prop},lkT z=look σ→aopsT rc ops id z F=some r→(∀ z σ,lkT z=look σ→F z=some r→G σ)→p8 call ops id σ G
 | [],_,_,_,_,_,hz,h,k=>k _ _ hz h
 | o :: ops, id, z, σ, F, G, hz, h, k => by
   have h:dc z o.g (fB rc (lkT z) id o.o fun δ=>aopsT rc ops (id+100) (apT δ z) F) (aopsT rc ops (id+100) (apT (bp o.o.dst (.tup [])) z) F)=some r:=h
   refine mN hz h (fun σ hz h=>?_) (fun σ hz h=>pY hrc (gc hz _) h k)
   rw [hz,mZ] at h
   exact kq hrc h fun δ h=>pY hrc (gc hz _) h k
theorem nonS_mem {l:List Loc} {x:Loc}:x∈aS l↔x∈l∧∀ n,x≠.s n:=by
 induction l with
 | nil=>simp [aS]
 | cons y r ih =>
   cases y with
   | s n => simp only [aS, ih, List.mem_cons]; constructor
            ·rintro ⟨h1,h2⟩;exact ⟨.inr h1,h2⟩
            ·rintro ⟨h1 | h1,h2⟩
             ·exact absurd h1 (h2 n)
             ·exact ⟨h1,h2⟩
   | b n => simp only [aS, List.mem_cons, ih]; constructor
            ·rintro (h | ⟨h1,h2⟩)
             ·subst h;exact ⟨.inl rfl,fun n e=>by cases e⟩
             ·exact ⟨.inr h1,h2⟩
            ·rintro ⟨h1 | h1,h2⟩
             ·exact .inl h1
             ·exact .inr ⟨h1,h2⟩
   | t n => simp only [aS, List.mem_cons, ih]; constructor
            ·rintro (h | ⟨h1,h2⟩)
             ·subst h;exact ⟨.inl rfl,fun n e=>by cases e⟩
             ·exact ⟨.inr h1,h2⟩
            ·rintro ⟨h1 | h1,h2⟩
             ·exact .inl h1
             ·exact .inr ⟨h1,h2⟩
theorem lU {o:AOp}:∀ {l:List Loc},jo o.dst l=true→∀ n,Loc.s n∈l→Loc.s n∈cU o
 | [],_,n,h=>by cases h
 | .s m :: r, h, n, hn => by
   unfold jo at h
   split at h
   ·rename_i d hd
    split at h
    ·rename_i hb
     have hm:=Nat.eq_of_beq_eq_true hb
     rcases List.mem_cons.1 hn with e | hn
     ·cases e;unfold cU;rw [hd,hm];exact List.mem_singleton.2 rfl
     ·exact lU h n hn
    ·cases h
   ·cases h
 | .b m :: r, h, n, hn => by
   rcases List.mem_cons.1 hn with e | hn
   ·cases e
   ·exact lU (l:=r) h n hn
 | .t m :: r, h, n, hn => by
   rcases List.mem_cons.1 hn with e | hn
   ·cases e
   ·exact lU (l:=r) h n hn
theorem eO:∀ {l m:List Loc},(∀ x,x∈l→x ∉ m)→eQ l m=false
 | [],_,_=>rfl
 | x :: r, m, h => by
   have hx:pn x m=false:=by
    cases hb:pn x m with
    | false=>rfl
    | true=>exact absurd (gH.1 hb) (h x (by simp))
   simp only [eQ,hx]
   exact eO fun y hy=>h y (by simp [hy])
theorem gX {p:Nat} {R W:List Loc}:∀ {fs:Fs},(∀ i Ri Wi,(i,Ri,Wi)∈fs→dJ p i=true∨((∀ x,x∈Wi→x ∉ R)∧(∀ x,x∈Wi→x ∉ W)∧∀ x,x∈Ri→x ∉ W))→bh p R W fs=false
 | [],_=>rfl
 | (i, Ri, Wi) :: fs, h => by
   have ih:=gX fun i Ri Wi hm=>h i Ri Wi (List.mem_cons_of_mem _ hm)
   simp only [bh]
   rcases h i Ri Wi (by simp) with hb | ⟨h1,h2,h3⟩
   ·simp only [hb];exact ih
   ·simp only [eO h1,eO h2,eO h3]
    cases dJ p i<;>exact ih
theorem oQ {p:Nat} {fs:Fs}:bh p [] [] fs=false:=by
 refine gX fun i Ri Wi _=>.inr ⟨?_,?_,?_⟩
 ·intro x _ h;cases h
 ·intro x _ h;cases h
 ·intro x _ h;cases h
theorem srd_s {σ:Lk} {o:AOp} {n:Nat} (h:Loc.s n∈rdF σ o):Loc.s n∈srd o:=by
 unfold srd
 cases o<;>try exact h
 all_goals
  simp only [rdF,List.mem_append] at h ⊢
  first
   | (rcases h with h | h
      ·exact .inl h
      ·(repeat' split at h)<;>simp at h)
   | (rcases h with ((h | h) | h) | h
      ·exact .inl (.inl (.inl h))
      ·exact .inl (.inl (.inr h))
      ·unfold bxR at h;split at h<;>simp at h
      ·unfold bxR at h;split at h<;>simp at h)
   | (rcases h with (h | h) | h
      ·exact .inl (.inl h)
      ·exact .inl (.inr h)
      ·first
        | (unfold bxR at h;split at h<;>simp at h)
        | ((repeat' split at h)<;>simp at h))
def InvF (fs fss fsd:Fs):Prop:=∀ i Ri Wi,(i,Ri,Wi)∈fs→∃ Si Di,(i,Si,Di)∈fss∧(∀ n,Loc.s n∈Ri→Loc.s n∈Si)∧(∀ n,Loc.s n∈Wi→Loc.s n∈Di)∧((aS Ri=[]∧aS Wi=[])∨(i,aS Ri,aS Wi)∈fsd)
theorem isS (x:Loc):(∃ n,x=.s n)∨∀ n,x≠.s n:=by cases x with
 | s n=>exact .inl ⟨n,rfl⟩
 | b n=>exact .inr fun m e=>by cases e
 | t n=>exact .inr fun m e=>by cases e
theorem ig {p:Nat} {R W S D:List Loc} {fs fss fsd:Fs} (hi:InvF fs fss fsd) (hR:∀ n,Loc.s n∈R→Loc.s n∈S) (hW:∀ n,Loc.s n∈W→Loc.s n∈D) (h1:bh p S D fss=false) (h2:bh p (aS R) (aS W) fsd=false):bh p R W fs=false:=by
 refine gX fun i Ri Wi hm=>?_
 obtain ⟨Si,Di,g1,g2,g3,g4⟩:=hi i Ri Wi hm
 rcases eW h1 i Si Di g1 with hb | ⟨a1,a2,a3⟩
 ·exact .inl hb
 rcases (show dJ p i=true∨((∀ x,x∈aS Wi→x ∉ aS R)∧(∀ x,x∈aS Wi→x ∉ aS W)∧∀ x,x∈aS Ri→x ∉ aS W) by
  rcases g4 with ⟨e1,e2⟩ | g4
  ·rw [e1,e2];exact .inr ⟨fun x hx=>(by cases hx),fun x hx=>(by cases hx),fun x hx=>(by cases hx)⟩
  ·rcases eW h2 i _ _ g4 with hb | ⟨b1,b2,b3⟩
   ·exact .inl hb
   ·exact .inr ⟨bO b1,bO b2,bO b3⟩) with hb | ⟨b1,b2,b3⟩
 ·exact .inl hb
 have key:∀ {A B A' B':List Loc},(∀ n,Loc.s n∈A→Loc.s n∈A')→(∀ n,Loc.s n∈B→Loc.s n∈B')→(∀ x,x∈A'→x ∉ B')→(∀ x,x∈aS A→x ∉ aS B)→∀ x,x∈A→x ∉ B:=by
  intro A B A' B' hA hB hs hn x hx hx'
  rcases isS x with ⟨n,rfl⟩ | hne
  ·exact hs _ (hA n hx) (hB n hx')
  ·exact hn x (nonS_mem.2 ⟨hx,hne⟩) (nonS_mem.2 ⟨hx',hne⟩)
 exact .inr ⟨key g3 hR (bO a1) b1,key g3 hW (bO a2) b2,key g2 hW (bO a3) b3⟩
theorem addF_mem {j:Nat} {R W:List Loc} {fs:Fs}:(R=[]∧W=[])∨(j,R,W)∈jh j R W fs:=by
 unfold jh
 split
 ·exact .inl ⟨rfl,rfl⟩
 ·exact .inr (by simp)
theorem addF_old {j:Nat} {R W:List Loc} {fs:Fs} {x:Nat × List Loc × List Loc} (h:x∈fs):x∈jh j R W fs:=by
 unfold jh
 split
 ·exact h
 ·exact List.mem_cons_of_mem _ h
theorem InvF.add {fs fss fsd:Fs} (hi:InvF fs fss fsd) {j:Nat} {R W S D:List Loc} (hR:∀ n,Loc.s n∈R→Loc.s n∈S) (hW:∀ n,Loc.s n∈W→Loc.s n∈D):InvF ((j,R,W)::fs) ((j,S,D)::fss) (jh j (aS R) (aS W) fsd):=by
 intro i Ri Wi hm
 rcases List.mem_cons.1 hm with e | hm
 ·cases e
  refine ⟨S,D,by simp,hR,hW,?_⟩
  exact addF_mem
 ·obtain ⟨Si,Di,g1,g2,g3,g4⟩:=hi i Ri Wi hm
  exact ⟨Si,Di,List.mem_cons_of_mem _ g1,g2,g3,g4.imp id addF_old⟩
theorem mf {g:Option (Nat × Bool)} {l:List Loc}:aS (bw g++l)=aS l:=by
 cases g with
 | none=>rfl
 | some p=>rfl
theorem grd_sub {σ:Lk} {g:Option (Nat × Bool)} {o:AOp}:∀ n,Loc.s n∈bw g++rdF σ o→Loc.s n∈bw g++srd o:=by
 intro n h
 rcases List.mem_append.1 h with h | h
 ·exact List.mem_append_left _ h
 ·exact List.mem_append_right _ (srd_s h)
theorem js {d:Option Nat} {v:AV}:aS (ar (bp d v))=[]:=by cases d<;>rfl
theorem lG {o:AOp} {v:AV}:∀ n,Loc.s n∈ar (bp o.dst v)→Loc.s n∈cU o:=by
 intro n h
 unfold cU
 cases hd:o.dst with
 | none=>rw [hd] at h;cases h
 | some d=>rw [hd] at h;simpa [bp,ar] using h
theorem il {g:Option (Nat × Bool)}:aS (bw g)=[]:=by cases g<;>rfl
theorem kg {a b:Lk}:∀ {l:List Loc} {k:Loc},k∈cC a b l→∀ n,k≠.s n
 | [],_,h=>by cases h
 | .s _::r,_,h=>kg (l:=r) h
 | .b m :: r, k, h => by
   simp only [cC] at h
   split at h
   ·rcases List.mem_cons.1 h with rfl | h
    ·intro n e;cases e
    ·exact kg h
   ·exact kg h
 | .t m :: r, k, h => by
   simp only [cC] at h
   split at h
   ·rcases List.mem_cons.1 h with rfl | h
    ·intro n e;cases e
    ·exact kg h
   ·exact kg h
theorem m5 {ks:List Loc}:∀ {δ:Log} {l:Loc},l∈ar (bR ks δ)→l∈ar δ
 | [],_,h=>h
 | (k, c) :: r, l, h => by
   simp only [bR] at h
   split at h
   ·exact List.mem_cons_of_mem _ (m5 h)
   ·simp only [ar,List.mem_cons] at h ⊢
    exact h.imp id m5
theorem nD (hrc:∀ f args H res H',rc f args H=some (res,H')→call f args H res H'):∀ {ops:List GOp} {ps:List Nat} {j id:Nat} {z:St} {σ:Log} {fs fss fsd:Fs} {F:St→Option R} {G:Log→Prop},InvF fs fss fsd→lkT z=look σ→kC rc ops ps j id z fss fsd F=some r→(∀ z σ,lkT z=look σ→F z=some r→G σ)→lc call ops ps j id σ fs G
 | [],_,_,_,_,_,_,_,_,_,_,_,hz,h,k=>by cases ‹List Nat›<;>exact k _ _ hz h
 | _::_,[],_,_,_,_,_,_,_,_,_,_,_,h,_=>by cases (show (none:Option R)=some r from h)
 | o :: ops, p :: ps, j, id, z, σ, fs, fss, fsd, F, G, hi, hz, h, k => by
   have h:(match bh p (bw o.g++srd o.o) (cU o.o) fss with
    | true=>none
    | false => dc z o.g
      (fB rc (lkT z) id o.o fun δ=>match jo o.o.dst (ar δ) with
       | false=>none
       | true => match bh p (aS (rdF (lkT z) o.o)) (aS (ar δ)) fsd with
         | true=>none
         | false=>kC rc ops ps (j+1) (id+100) (apT δ z) ((j,bw o.g++srd o.o,cU o.o)::fss) (jh j (aS (rdF (lkT z) o.o)) (aS (ar δ)) fsd) F)
      (kC rc ops ps (j+1) (id+100) (apT (bp o.o.dst (.tup [])) z) ((j,bw o.g++srd o.o,cU o.o)::fss) fsd F))=some r:=h
   split at h
   ·cases h
   rename_i hst
   refine mN hz h (fun σ hz h=>?_) (fun σ hz h=>?_)
   ·rw [hz,mZ,pj] at h
    refine kq hrc h fun δ h=>?_
    rw [cm,cm]
    split at h
    ·cases h
    rename_i hsub
    split at h
    ·cases h
    ·rename_i hc
     have hg:∀ n,Loc.s n∈bw o.g++o.o.rd σ→Loc.s n∈bw o.g++srd o.o:=by rw [← pj];exact grd_sub
     have hw:=lU hsub
     have hc':=ig hi hg hw hst (by rw [mf];exact hc)
     rw [hc']
     have hi':=hi.add (j:=j) hg hw
     rw [mf] at hi'
     exact nD hrc hi' (gc hz _) h k
   ·rw [cm,cm]
    have hg:∀ n,Loc.s n∈bw o.g→Loc.s n∈bw o.g++srd o.o:=fun n h=>List.mem_append_left _ h
    have hc':=ig (W:=ar (bp o.o.dst (.tup []))) hi hg lG hst (by
     rw [il,js]
     exact oQ)
    rw [hc']
    have hi':=hi.add (j:=j) hg (lG (o:=o.o) (v:=.tup []))
    rw [il,js] at hi'
    exact nD hrc hi' (gc hz _) h k
theorem nv (hrc:∀ f args H res H',rc f args H=some (res,H')→call f args H res H'):∀ {ops:List GOp} {ps:List Nat} {j id:Nat} {z:St} {σ:Log} {fs fss fsd:Fs} {F:St→Option R} {G:Log→Prop},InvF fs fss fsd→lkT z=look σ→kB rc ops ps j id z fss fsd F=some r→(∀ z σ,lkT z=look σ→F z=some r→G σ)→nz call ops ps j id σ fs G
 | [],_,_,_,_,_,_,_,_,_,_,_,hz,h,k=>by cases ‹List Nat›<;>exact k _ _ hz h
 | _::_,[],_,_,_,_,_,_,_,_,_,_,_,h,_=>by cases (show (none:Option R)=some r from h)
 | o :: ops, p :: ps, j, id, z, σ, fs, fss, fsd, F, G, hi, hz, h, k => by
   have h:(match bh p (bw o.g++srd o.o) (cU o.o) fss with
    | true=>none
    | false => dc z o.g
      (fB rc (lkT z) id o.o fun δ=>match jo o.o.dst (ar δ) with
       | false=>none
       | true=>match bh p (aS (rdF (lkT z) o.o++(match eD o.o with | true=>cC (lkT (apT δ z)) (lkT z) (ar δ) | false=>[]))) (aS (ar (bR (match eD o.o with | true=>cC (lkT (apT δ z)) (lkT z) (ar δ) | false=>[]) δ))) fsd with
        | true=>none
        | false=>kB rc ops ps (j+1) (id+100) (apT (bR (match eD o.o with | true=>cC (lkT (apT δ z)) (lkT z) (ar δ) | false=>[]) δ) z) ((j,bw o.g++srd o.o,cU o.o)::fss) (jh j (aS (rdF (lkT z) o.o++(match eD o.o with | true=>cC (lkT (apT δ z)) (lkT z) (ar δ) | false=>[]))) (aS (ar (bR (match eD o.o with | true=>cC (lkT (apT δ z)) (lkT z) (ar δ) | false=>[]) δ))) fsd) F)
      (kB rc ops ps (j+1) (id+100) (apT (bp o.o.dst (.tup [])) z) ((j,bw o.g++srd o.o,cU o.o)::fss) fsd F))=some r:=h
   split at h
   ·cases h
   rename_i hst
   refine mN hz h (fun σ hz h=>?_) (fun σ hz h=>?_)
   ·rw [hz,mZ,pj] at h
    refine kq hrc h fun δ h=>?_
    split at h
    ·cases h
    rename_i hsub
    rw [gc hz] at h
    generalize hks:(match eD o.o with | true=>cC (look (δ++σ)) (look σ) (ar δ) | false=>[])=ks at h
    have hkb:∀ x,x∈ks→∀ n,x≠.s n:=by
     intro x hx
     rw [← hks] at hx
     split at hx
     ·exact kg hx
     ·cases hx
    have hkk:∀ q,q∈ks→look (δ++σ) q=look σ q:=by
     intro q hq
     rw [← hks] at hq
     split at hq
     ·rw [keepKF_eq] at hq;exact fU hq
     ·cases hq
    split at h
    ·cases h
    ·rename_i hc
     have hg:∀ n,Loc.s n∈(bw o.g++o.o.rd σ)++ks→Loc.s n∈bw o.g++srd o.o:=by
      intro n hn
      rcases List.mem_append.1 hn with hn | hn
      ·revert n;rw [← pj];intro n hn _;exact grd_sub n ‹_›
      ·exact absurd rfl (hkb _ hn n)
     have hw:∀ n,Loc.s n∈ar (bR ks δ)→Loc.s n∈cU o.o:=fun n hn=>lU hsub n (m5 hn)
     have e:aS ((bw o.g++o.o.rd σ)++ks)=aS (o.o.rd σ++ks):=by rw [List.append_assoc,mf]
     have hc':=ig hi hg hw hst (by rw [e];exact hc)
     refine ⟨ks,⟨hkk,hc'⟩,?_⟩
     have hi':=hi.add (j:=j) hg hw
     rw [e] at hi'
     exact nv hrc hi' (gc hz _) h k
   ·have hg:∀ n,Loc.s n∈bw o.g→Loc.s n∈bw o.g++srd o.o:=fun n h=>List.mem_append_left _ h
    have hc':=ig (W:=ar (bp o.o.dst (.tup []))) hi hg lG hst (by
     rw [il,js]
     exact oQ)
    refine ⟨hc',?_⟩
    have hi':=hi.add (j:=j) hg (lG (o:=o.o) (v:=.tup []))
    rw [il,js] at hi'
    exact nv hrc hi' (gc hz _) h k
theorem iterT_s {f:Nat→St→(Ex→Nat→St→Option R)→Option R} {g:Nat→Log→(Ex→Nat→Log→Prop)→Prop} (hfg:∀ n z σ F G,lkT z=look σ→f n z F=some r→(∀ e n z σ,lkT z=look σ→F e n z=some r→G e n σ)→g n σ G)
  {F:Ex→Nat→St→Option R} {G:Ex→Nat→Log→Prop} (k:∀ e n z σ,lkT z=look σ→F e n z=some r→G e n σ):∀ {m n:Nat} {z:St} {σ:Log},lkT z=look σ→iterT f F m n z=some r→iter g G m n σ
 | 0,_,_,_,_,h=>by cases h
 | m + 1, n, z, σ, hz, h => by
   refine hfg _ _ _ _ _ hz h fun e n z σ hz h=>?_
   cases e with
   | n=>exact iterT_s hfg k hz h
   | e i=>exact k _ _ _ _ hz h
   | r=>exact k _ _ _ _ hz h
theorem setB_lk {z:St} {σ:Log} (hz:lkT z=look σ) {x:Opd} {v:Bool} (h:ev σ x=.sc (.b v)):lkT z=look (nM x v σ):=by
 cases x with
 | c _=>exact hz
 | t n =>
   have hl:look σ (.s n)=some (.av (.sc (.b v))):=by
    simp only [ev] at h
    split at h
    ·rename_i u hu;rw [hu,h]
    ·cases h
   rw [hz];funext l;exact (known hl l).symm
theorem fm:∀ {a b:List Loc},aS (a++b)=aS a++aS b
 | [],_=>rfl
 | .s _::r,b=>fm (a:=r)
 | .b _::r,b=>congrArg _ (fm (a:=r))
 | .t _::r,b=>congrArg _ (fm (a:=r))
theorem me:∀ {x:Opd},aS (ay x)=[]
 | .t _=>rfl
 | .c _=>rfl
theorem oj:∀ {x:List Opd},aS (cq x)=[]
 | []=>rfl
 | x::r=>by rw [cq,fm,me,oj];rfl
theorem nonS_opt:∀ {x:Option Opd},aS (lk x)=[]
 | none=>rfl
 | some _=>me
theorem nonS_bx {v:AV}:aS (bxR v)=bxR v:=by cases v<;>rfl
def NS (l:List Loc):Prop:=aS l=l
theorem rdD_eq {σ:Lk} {o:AOp}:rdD o σ=aS (rdF σ o):=by
 cases o
 all_goals simp only [rdF,rdD,fm,me,oj,nonS_opt,nonS_bx,List.nil_append,List.append_nil]
 all_goals first | rfl | skip
 case ld=>exact Eq.symm (show NS _ by split<;>exact rfl)
 case lkM=>exact Eq.symm (show NS _ by split<;>exact rfl)
 case lkS=>exact Eq.symm (show NS _ by split<;>exact rfl)
 case rngE=>exact Eq.symm (show NS _ by split<;>exact rfl)
 case nxtE=>
  refine Eq.symm (show NS _ from ?_)
  split
  ·split<;>exact rfl
  ·exact rfl
theorem o3:∀ {ops:List GOp} {ps:List Nat} {j id:Nat} {z:St} {fss fsd:Fs} {F:St→Option R},okS ops ps j fss=true→kC rc ops ps j id z fss fsd F=nF rc ops ps j id z fsd F
 | [],_,_,_,_,_,_,_,_=>rfl
 | o::ops,[],j,id,z,fss,fsd,F,_=>rfl
 | o :: ops, p :: ps, j, id, z, fss, fsd, F, h => by
   have h:(match bh p (bw o.g++srd o.o) (cU o.o) fss with | true=>false | false=>okS ops ps (j+1) ((j,bw o.g++srd o.o,cU o.o)::fss))=true:=h
   show (match bh p (bw o.g++srd o.o) (cU o.o) fss with
    | true=>none
    | false => dc z o.g
      (fB rc (lkT z) id o.o fun δ=>match jo o.o.dst (ar δ) with
       | false=>none
       | true => match bh p (aS (rdF (lkT z) o.o)) (aS (ar δ)) fsd with
         | true=>none
         | false=>kC rc ops ps (j+1) (id+100) (apT δ z) ((j,bw o.g++srd o.o,cU o.o)::fss) (jh j (aS (rdF (lkT z) o.o)) (aS (ar δ)) fsd) F)
      (kC rc ops ps (j+1) (id+100) (apT (bp o.o.dst (.tup [])) z) ((j,bw o.g++srd o.o,cU o.o)::fss) fsd F))=dc z o.g
      (fB rc (lkT z) id o.o fun δ=>match jo o.o.dst (ar δ) with
       | false=>none
       | true => match bh p (rdD o.o (lkT z)) (aS (ar δ)) fsd with
         | true=>none
         | false=>nF rc ops ps (j+1) (id+100) (apT δ z) (jh j (rdD o.o (lkT z)) (aS (ar δ)) fsd) F)
      (nF rc ops ps (j+1) (id+100) (apT (bp o.o.dst (.tup [])) z) fsd F)
   cases hc:bh p (bw o.g++srd o.o) (cU o.o) fss with
   | true=>rw [hc] at h;cases h
   | false =>
     rw [hc] at h
     simp only [o3 h,rdD_eq]
theorem o0:∀ {ops:List GOp} {ps:List Nat} {j id:Nat} {z:St} {fss fsd:Fs} {F:St→Option R},okS ops ps j fss=true→kB rc ops ps j id z fss fsd F=nw rc ops ps j id z fsd F
 | [],_,_,_,_,_,_,_,_=>rfl
 | o::ops,[],j,id,z,fss,fsd,F,_=>rfl
 | o :: ops, p :: ps, j, id, z, fss, fsd, F, h => by
   have h:(match bh p (bw o.g++srd o.o) (cU o.o) fss with | true=>false | false=>okS ops ps (j+1) ((j,bw o.g++srd o.o,cU o.o)::fss))=true:=h
   show (match bh p (bw o.g++srd o.o) (cU o.o) fss with
    | true=>none
    | false => dc z o.g
      (fB rc (lkT z) id o.o fun δ=>match jo o.o.dst (ar δ) with
       | false=>none
       | true => match (match eD o.o with | true => cC (lkT (apT δ z)) (lkT z) (ar δ) | false => []) with
         | ks => match bh p (aS (rdF (lkT z) o.o ++ ks)) (aS (ar (bR ks δ))) fsd with
           | true=>none
           | false=>kB rc ops ps (j+1) (id+100) (apT (bR ks δ) z) ((j,bw o.g++srd o.o,cU o.o)::fss) (jh j (aS (rdF (lkT z) o.o++ks)) (aS (ar (bR ks δ))) fsd) F)
      (kB rc ops ps (j+1) (id+100) (apT (bp o.o.dst (.tup [])) z) ((j,bw o.g++srd o.o,cU o.o)::fss) fsd F))=dc z o.g
      (fB rc (lkT z) id o.o fun δ=>match jo o.o.dst (ar δ) with
       | false=>none
       | true => match (match eD o.o with | true => cC (lkT (apT δ z)) (lkT z) (ar δ) | false => []) with
         | ks => match bh p (rdD o.o (lkT z) ++ aS ks) (aS (ar (bR ks δ))) fsd with
           | true=>none
           | false=>nw rc ops ps (j+1) (id+100) (apT (bR ks δ) z) (jh j (rdD o.o (lkT z)++aS ks) (aS (ar (bR ks δ))) fsd) F)
      (nw rc ops ps (j+1) (id+100) (apT (bp o.o.dst (.tup [])) z) fsd F)
   cases hc:bh p (bw o.g++srd o.o) (cU o.o) fss with
   | true=>rw [hc] at h;cases h
   | false =>
     rw [hc] at h
     simp only [o0 h,rdD_eq,fm]
theorem jf (hrc:∀ f args H res H',rc f args H=some (res,H')→call f args H res H'):∀ (c:AC) {nx:Nat} {z:St} {σ:Log} {F:Ex→Nat→St→Option R} {G:Ex→Nat→Log→Prop},lkT z=look σ→awpT rc c nx z F=some r→(∀ e n z σ,lkT z=look σ→F e n z=some r→G e n σ)→awp call c nx σ G
 | .reg ops,_,_,_,_,_,hz,h,k=>pY hrc hz h fun _ _ hz h=>k _ _ _ _ hz h
 | .regD ops pre, nx, z, _, F, _, hz, h, k => by
   have h:(match okS ops pre 0 [] with | true=>nF rc ops pre 0 nx z [] (fun z=>F .n (nx+100 * ops.length) z) | false=>none)=some r:=h
   split at h
   ·rename_i ho
    exact nD hrc (fun _ _ _ h=>by cases h) hz ((o3 ho).trans h) fun _ _ hz h=>k _ _ _ _ hz h
   ·cases h
 | .regE ops pre, nx, z, _, F, _, hz, h, k => by
   have h:(match okS ops pre 0 [] with | true=>nw rc ops pre 0 nx z [] (fun z=>F .n (nx+100 * ops.length) z) | false=>none)=some r:=h
   split at h
   ·rename_i ho
    exact nv hrc (fun _ _ _ h=>by cases h) hz ((o0 ho).trans h) fun _ _ hz h=>k _ _ _ _ hz h
   ·cases h
 | .frz x, nx, z, σ, F, G, hz, h, k => by
   have h:frzT x nx z F=some r:=h
   simp only [frzT] at h
   simp only [awp]
   rw [hz,evF_eq] at h
   split at h
   ·rename_i sz els b n t hx
    rw [hx]
    dsimp only
    split at h
    ·rename_i l hl
     rw [hl]
     split at h
     ·rename_i ds hds
      split at h
      ·rename_i ch hch
       obtain ⟨h1,h2,h3⟩:=jR hch
       exact ⟨ch,⟨by rw [h1];exact hds,h2,h3⟩,k _ _ _ _ (ly (thawT_lk hz) _ _) h⟩
      ·cases h
     ·cases h
    ·cases h
   ·rename_i hx;rw [hx];exact k _ _ _ _ hz h
   ·rename_i sz b o n c t hx
    rw [hx]
    dsimp only
    split at h
    ·rename_i l hl
     rw [hl]
     split at h
     ·rename_i ds hds
      split at h
      ·rename_i p hp
       split at h
       ·rename_i ch hch
        obtain ⟨h1,h2,h3⟩:=jR hch
        exact ⟨ds,ch,⟨hds,by rw [h1];exact hp,h2,h3⟩,k _ _ _ _ (ly (ly hz _ _) _ _) h⟩
       ·cases h
      ·cases h
     ·cases h
    ·cases h
   ·cases h
 | .seq x y, nx, z, σ, F, G, hz, h, k => by
   refine jf hrc x hz h fun e n z σ hz h=>?_
   cases e with
   | n=>exact jf hrc y hz h k
   | e i=>exact k _ _ _ _ hz h
   | r=>exact k _ _ _ _ hz h
 | .cond x t e, nx, z, σ, F, G, hz, h, k => by
   have h:condT z x (awpT rc t nx z F) (awpT rc e nx z F)=some r:=h
   simp only [condT] at h
   simp only [awp]
   rw [hz,evF_eq] at h
   split at h
   ·rename_i v hv
    rw [hv]
    cases v with
    | false=>exact jf hrc e (setB_lk hz hv) h k
    | true=>exact jf hrc t (setB_lk hz hv) h k
   ·cases h
 | .block n c, nx, z, σ, F, G, hz, h, k => by
   refine jf hrc c hz h fun e n z σ hz h=>?_
   cases e with
   | n=>exact k _ _ _ _ hz h
   | e i =>
     dsimp only at h ⊢
     split at h
     ·rename_i hb;rw [hb];exact k _ _ _ _ hz h
     ·rename_i hb;rw [hb];exact k _ _ _ _ hz h
   | r=>exact k _ _ _ _ hz h
 | .loop c, nx, z, σ, F, G, hz, h, k => by
   have h:iterT (fun n z Q=>awpT rc c n z Q) F 1000 nx z=some r:=h
   exact .runs 1000 (iterT_s (g:=fun n σ Q=>awp call c n σ Q) (fun n z σ F G hz h k=>jf hrc c hz h k) k hz h)
 | .exit n,_,_,_,_,_,hz,h,k=>k _ _ _ _ hz h
 | .ret,_,_,_,_,_,hz,h,k=>k _ _ _ _ hz h
 | .skip,_,_,_,_,_,hz,h,k=>k _ _ _ _ hz h
 | .cut,_,_,_,_,_,hz,h,k=>.go (k _ _ _ _ hz h)
 | .stuck,_,_,_,_,_,_,h,_=>by cases h
end
theorem bodyT_s {call:aX} {rc:Rec} (hrc:∀ f args H res H',rc f args H=some (res,H')→call f args H res H') {c:AC} {rs:List (Nat × Nat)} {args:List AV} {H:List (List AV)} {res:AV} {H':List (List AV)}
  (h:bodyT rc c rs args H=some (res,H')):aD call c rs args H res H':=by
 have h0:lkT (apT (aA args H) St0)=look (aA args H):=by
  have:=gc St0_lk (aA args H)
  rwa [List.append_nil] at this
 have h:awpT rc c 1000 (apT (jH args H) St0) (fun e _ z=>match e with
  | .e _=>none
  | _=>lZ (lkT z) rs fun v=>oL (lkT z) v H.length (lT args H))=some (res,H'):=h
 rw [initLogQ_eq,jn] at h
 refine jf hrc c h0 h fun e n z σ hz h=>?_
 cases e with
 | e i=>cases h
 | n =>
   have h:lZ (lkT z) rs (fun v=>oL (lkT z) v H.length (dK args H))=some (res,H'):=h
   rw [hz,oe] at h;simp only [finXQ_eq] at h;exact ii h fun l h=>by match l,h with | [v],h=>exact dQ h | [],h=>exact dQ h | _::_::_,h=>exact dQ h
 | r =>
   have h:lZ (lkT z) rs (fun v=>oL (lkT z) v H.length (dK args H))=some (res,H'):=h
   rw [hz,oe] at h;simp only [finXQ_eq] at h;exact ii h fun l h=>by match l,h with | [v],h=>exact dQ h | [],h=>exact dQ h | _::_::_,h=>exact dQ h
theorem runT_s {P:Program} {W0:World} {T:FuncId→Option Fn} {lib:FuncId→List AV→List (List AV)→Option (AV × List (List AV))} (hm:P.follows .mixedOrders=true) (hT:TabOK P W0 T) (hlib:∀ f args H res H',lib f args H=some (res,H')→Ctr P W0 f args H res H') :
  ∀ (k:Nat) (f:FuncId) (args:List AV) (H:List (List AV)) (res:AV) (H':List (List AV)),runT T lib k f args H=some (res,H')→Ctr P W0 f args H res H'
 | 0,_,_,_,_,_,h=>by cases h
 | k + 1, f, args, H, res, H', h => by
   simp only [runT] at h
   split at h
   ·rename_i res' hr
    cases h
    exact hlib _ _ _ _ _ hr
   ·split at h
    ·cases h
    ·rename_i F hF
     obtain ⟨h1,h2⟩:=bH h
     rw [Bool.and_eq_true] at h1
     have h1:=h1.1
     simp only [Bool.and_eq_true] at h1
     obtain ⟨fn,c,an,a0,a1,a2,a3,a4,a5,a6⟩:=hT f F hF
     exact ctr_of hm a0 (fun f args H res H' h=>runT_s hm hT hlib k f args H res H' h) a1 a2 a3 a4 a5 (by rw [a6];exact h1.1) (by rw [← jn];exact h1.2) (bodyT_s (fun _ _ _ _ _ h=>h) h2)
end Go.Abs
