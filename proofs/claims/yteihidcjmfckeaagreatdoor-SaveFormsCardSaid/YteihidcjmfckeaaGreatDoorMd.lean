/- The run over a tree of cells: quick in the kernel. -/
import Derived.Test.YteihidcjmfckeaaGreatDoorMc
import Derived.KernelRfl
set_option linter.all false
namespace Go.Abs
open Go
abbrev Lk:=Loc→Option Cell
section runF
variable {R:Type}
def evF (σ:Lk):Opd→AV
 | .t n=>match σ (.s n) with | some (.av v)=>v | _=>.bad
 | .c v=>v
def evsF (σ:Lk):List Opd→List AV
 | []=>[]
 | o::r=>evF σ o::evsF σ r
def lkRF (σ:Lk) (st:Bool) (x k:Opd):Option (Option AV):=match evF σ x,kN st (evF σ k) with
 | .mr b, some q => (match σ (.b b) with
   | some (.bx [.mm ks vs])=>jL q ks vs
   | _=>none)
 | _,_=>none
def upRF (σ:Lk) (st:Bool) (x k v:Opd):Option (Nat × AV):=match evF σ x,kN st (evF σ k),mval (evF σ v) with
 | .mr b, some q, some v => (match σ (.b b) with
   | some (.bx [.mm ks vs]) => (match jL q ks vs with
     | some _=>some (b,.mm (mG q ks) (mF q v ks vs))
     | none=>none)
   | _=>none)
 | _,_,_=>none
def yslF (σ:Lk) (sz:Nat):AV→Option (Nat × List AV)
 | .sl z e _ => match Nat.beq sz z with
   | true=>some (e.length,e.flatten.map aQ)
   | false=>none
 | .cs z b o m _ _ => match Nat.beq sz z with
   | true => (match σ (.b b) with
     | some (.bx l) => (match isM l with
       | true=>none
       | false => (match sub l o (m * sz) with
         | some V=>some (m,V)
         | none=>none))
     | _=>none)
   | false=>none
 | .mx z [] b m _ => match Nat.beq sz z with
   | true => (match σ (.b b) with
     | some (.bx l) => (match isM l with
       | true=>none
       | false => (match sub l 0 (m * sz) with
         | some V=>some (m,V)
         | none=>none))
     | _=>none)
   | false=>none
 | _=>none
def zqF (σ:Lk) (sz:Nat) (v:AV):Bool:=match yslF σ sz v with
 | some (m,_)=>Nat.beq m 0
 | none=>false
def bldXF (σ:Lk):List (Nat × Nat × Opd)→List AV→(List AV→Option R)→Option R
 | [],z,F=>F z
 | (o, n, x) :: r, z, F => bc (flat (evF σ x)) fun v => match Nat.beq v.length n with
   | true=>(match be o v z with | some z=>bldXF σ r z F | none=>none)
   | false=>none
def bslXF (σ:Lk) (sz:Nat):List Opd→(List (List Data)→Option R)→Option R
 | [],F=>F []
 | x :: r, F => bc (flat (evF σ x)) fun v => match bB v with
   | none=>none
   | some ds => match Nat.beq ds.length sz with
     | true=>bslXF σ sz r fun els=>F (ds::els)
     | false=>none
def bslAXF (σ:Lk) (sz:Nat):List Opd→(List AV→Option R)→Option R
 | [],F=>F []
 | x :: r, F => bc (flat (evF σ x)) fun v => match Nat.beq v.length sz with
   | true=>bslAXF σ sz r fun vs=>F (v++vs)
   | false=>none
def dh (σ:Lk) (x:Option Opd) (z:Int) (K:Int→Option R):Option R:=match x with
 | none=>K z
 | some x=>match evF σ x with | .sc (.i _ n)=>K n | _=>none
def unHF (σ:Lk) (bs ts:List Nat):List Nat→Option (List (List AV))
 | []=>some []
 | b :: r => match σ (.b b) with
   | some (.bx l) => (match pb bs ts l with
     | none=>none
     | some h=>match unHF σ bs ts r with | none=>none | some H=>some (h::H))
   | _=>none
def mu (σ:Lk):List Nat→Bool
 | []=>true
 | k::r=>match σ (.t k) with | some (.tk true)=>mu σ r | _=>false
def ky (σ:Lk):Nat→List Nat→List Nat→List Nat
 | 0,_,l=>l
 | _+1,[],l=>l
 | n + 1, b :: todo, l => match σ (.b b) with
   | some (.bx c)=>ky σ n (todo++(c.foldl bx2 l).drop l.length) (c.foldl bx2 l)
   | _=>ky σ n todo l
def tk1F (σ:Lk) (l:List Nat):AV→List Nat
 | .sl _ _ (.t k)=>match σ (.t k) with | some (.tk true)=>nI k l | _=>l
 | .mx _ _ _ _ (.t k)=>match σ (.t k) with | some (.tk true)=>nI k l | _=>l
 | .cs _ _ _ _ _ (.t k)=>match σ (.t k) with | some (.tk true)=>nI k l | _=>l
 | _=>l
def tk2F (σ:Lk) (l:List Nat):AV→List Nat
 | .fn _ c=>c.foldl (tk1F σ) l
 | .agg c=>c.foldl (tk1F σ) l
 | v=>tk1F σ l v
def tk3F (σ:Lk) (l:List Nat):AV→List Nat
 | .tup c=>c.foldl (tk2F σ) l
 | v=>tk2F σ l v
def tkHF (σ:Lk):List Nat→List Nat→List Nat
 | [],l=>l
 | b :: r, l => match σ (.b b) with
   | some (.bx c)=>tkHF σ r (c.foldl (tk2F σ) l)
   | _=>tkHF σ r l
def pE (rc:Rec) (σ:Lk) (f:FuncId) (args:List AV):Option (AV × List (List AV) × List Nat × List Nat):=
 match ky σ 100 (args.foldl bx2 []) (args.foldl bx2 []) with
 | bs => match tkHF σ bs (args.foldl (tk2F σ) []) with
   | ts => match pb bs ts args, unHF σ bs ts bs with
     | some args', some H => (match rc f args' H with
       | some (res, H') => (match bE bs && bE ts && Nat.ble bs.length H'.length && Nat.ble H'.length (bs.length + 50) && Nat.ble (bs.length + ts.length) 900 && Nat.beq ts.length (dK args' H) &&
          dI bs.length ts.length args'&&inH bs.length ts.length H&&inR H'.length (ts.length+50) res&&inH H'.length (ts.length+50) H'&&mu σ ts with
         | true=>some (res,H',bs,ts)
         | false=>none)
       | none=>none)
     | _,_=>none
def callXF (rc:Rec) (σ:Lk) (id:Nat) (d:Option Nat) (f:FuncId) (args:List AV) (F:Log→Option R):Option R:=
 match (match dI 0 0 (args.map bf) with
  | true => (match rc f (args.map bf) [] with
    | some (res, H') => (match inR H'.length 50 res && inH H'.length 50 H' && Nat.ble H'.length 50 && Nat.beq (dK (args.map bf) []) 0 with
      | true=>some (res,H')
      | false=>none)
    | none=>none)
  | false=>none) with
 | some (res,[])=>F (bp d (ren [] [] id res)++bK [] id (toks res))
 | some (res,h::H')=>F (bp d (ren [] [] id res)++aT [] [] id 0 (h::H')++bK [] id (toks res++((h::H').flatMap fun h=>h.flatMap bt))++bC [])
 | none => match pE rc σ f (args.map erS) with
   | some (res,H',bs,ts)=>F (bp d (ren bs ts id res)++aT bs ts id 0 H'++bK ts id (toks res++(H'.flatMap fun h=>h.flatMap bt))++bC ts)
   | none => match pE rc σ f args with
     | some (res,H',bs,ts)=>F (bp d (ren bs ts id res)++aT bs ts id 0 H'++bK ts id (toks res++(H'.flatMap fun h=>h.flatMap bt))++bC ts)
     | none=>none
def effXF (rc:Rec) (σ:Lk) (id:Nat):AOp→(Log→Option R)→Option R
 | .mv d x,F=>gQ (evF σ x) fun v=>F [(.s d,.av v)]
 | .pick d c a b, F => match evF σ c with
   | .sc (.b t) => (match t with
     | false=>gQ (evF σ b) fun v=>F [(.s d,.av v)]
     | true=>gQ (evF σ a) fun v=>F [(.s d,.av v)])
   | _=>none
 | .box d x,F=>bc (flat (evF σ x)) fun l=>F [(.s d,.av (.ptr id 0)),(.b id,.bx l)]
 | .alloc d z,F=>F [(.s d,.av (.ptr id 0)),(.b id,.bx z)]
 | .build d z ps,F=>bldXF σ ps z fun z=>bc z fun z=>F [(.s d,.av (.agg z))]
 | .bsl d sz xs,F=>bslXF σ sz xs fun els=>F [(.s d,.av (.sl sz els .full))]
 | .ld d n ag a,F=>match evF σ a with
  | .ptr b o => (match σ (.b b) with
    | some (.bx l) => (match isM l with
      | true=>none
      | false=>mA d ag (sub l o n) F)
    | _=>none)
  | .elp l o=>mA d ag (sub (l.map aQ) o n) F
  | _=>none
 | .st a n x,F=>match evF σ a with
  | .ptr b o => (match σ (.b b) with
    | some (.bx l) => (match isM l with
      | true=>none
      | false => bc (flat (evF σ x)) fun v => (match Nat.beq v.length n with
        | true=>(match be o v l with | some l=>bc l fun l=>F [(.b b,.bx l)] | none=>none)
        | false=>none))
    | _=>none)
  | _=>none
 | .nc d x,F=>match evF σ x with
  | .ptr b o=>F [(.s d,.av (.ptr b o))]
  | .elp b o=>F [(.s d,.av (.elp b o))]
  | .fn b o=>F [(.s d,.av (.fn b o))]
  | .fb f b o=>F [(.s d,.av (.fb f b o))]
  | _=>none
 | .bin d o x y,F=>binX o (evF σ x) (evF σ y) fun v=>F [(.s d,.av v)]
 | .binB d neg x y,F=>match evF σ x,evF σ y with
  | .sc (.b a), .sc (.b b) => (match neg with
    | true=>F [(.s d,.av (.sc (.b (a != b))))]
    | false=>F [(.s d,.av (.sc (.b (a == b))))])
  | _,_=>none
 | .no d x,F=>match evF σ x with | .sc (.b t)=>F [(.s d,.av (.sc (.b (!t))))] | _=>none
 | .fa d x off,F=>match evF σ x with
  | .ptr b o=>F [(.s d,.av (.ptr b (o+off)))]
  | .elp l o=>F [(.s d,.av (.elp l (o+off)))]
  | _=>none
 | .fld d x off n ag,F=>match evF σ x with
  | .agg l=>mA d ag (sub l off n) F
  | _=>none
 | .ia d sz x i,F=>match evF σ x,evF σ i with
  | .sl z els _, .sc (.i _ n) => (match Nat.beq sz z with
    | true => (match els[n.toNat]? with
      | some e=>tst (leI 0 n) (F [(.s d,.av (.elp e 0))])
      | none=>none)
    | false=>none)
  | .mx z els b m _, .sc (.i _ n) => (match Nat.beq sz z with
    | true=>tst (leI 0 n&&Nat.ble els.length n.toNat&&Nat.blt n.toNat (els.length+m)) (F [(.s d,.av (.ptr b ((n.toNat - els.length) * sz)))])
    | false=>none)
  | .cs z b o m _ _, .sc (.i _ n) => (match Nat.beq sz z with
    | true=>tst (leI 0 n&&Nat.blt n.toNat m) (F [(.s d,.av (.ptr b (o+n.toNat * sz)))])
    | false=>none)
  | _,_=>none
 | .ix d x i,F=>match evF σ x,evF σ i with
  | .sc (.s l), .sc (.i _ n) => (match l[n.toNat]? with
    | some e=>tst (leI 0 n) (F [(.s d,.av (.sc (.i .u8 e.toNat)))])
    | none=>none)
  | _,_=>none
 | .slS d x lo hi,F=>match evF σ x with
  | .sc (.s l)=>dh σ lo 0 fun a=>dh σ hi l.length fun b=>
   tst (leI 0 a&&leI a b&&leI b l.length) (F [(.s d,.av (.sc (.s ((l.drop a.toNat).take (b.toNat - a.toNat)))))])
  | _=>none
 | .slL d sz x lo hi mx,F=>match evF σ x with
  | .mx z [] b n t => (match Nat.beq sz z with
    | true => (match lo, hi, mx, σ (.b b) with
      | none, some hi, none, some (.bx l) => dh σ (some hi) 0 fun c => tst (decide (c = 0) && Nat.beq l.length (n * sz) && !isM l) (match t with
        | .none=>none
        | .full=>F [(.s d,.av (.sl z [] (.t id))),(.t id,.tk true),(.b b,.tk false)]
        | .t k => (match σ (.t k) with
          | some (.tk true)=>F [(.s d,.av (.sl z [] (.t id))),(.t id,.tk true),(.b b,.tk false),(.t k,.tk false)]
          | _=>none))
      | _,_,_,_=>none)
    | false=>none)
  | .sl z els t => (match Nat.beq sz z with
    | true => dh σ lo 0 fun a => dh σ hi els.length fun b => match mx with
      | none => tst (leI 0 a && leI a b && leI b els.length) (match decide (b = els.length) with
        | true=>F [(.s d,.av (.sl z ((els.drop a.toNat).take (b.toNat - a.toNat)) t))]
        | false=>F [(.s d,.av (.sl z ((els.drop a.toNat).take (b.toNat - a.toNat)) .none))])
      | some _=>dh σ mx 0 fun c=>tst (leI 0 a&&leI a b&&decide (b=c)&&leI b els.length) (F [(.s d,.av (.sl z ((els.drop a.toNat).take (b.toNat - a.toNat)) .full))])
    | false=>none)
  | .cs z b o n c t => (match Nat.beq sz z with
    | true => dh σ lo 0 fun p => dh σ hi n fun q => (match mx with
      | none => tst (leI 0 p && leI p q && leI q c) (match decide (p < c) with
        | true=>F [(.s d,.av (.cs z b (o+p.toNat * sz) (q.toNat - p.toNat) (c - p.toNat) t))]
        | false=>F [(.s d,.av (.sl z [] (tokE t)))])
      | some _=>dh σ mx 0 fun r=>tst (decide (p=0)&&decide (q=0)&&decide (r=0)) (F [(.s d,.av (.sl z [] .full))]))
    | false=>none)
  | _=>none
 | .cvi d k x,F=>match evF σ x with | .sc (.i _ n)=>tst (jK k n) (F [(.s d,.av (.sc (.i k n)))]) | _=>none
 | .cvu d x,F=>match evF σ x with | .sc (.i .u64 n)=>tst (leI 9223372036854775808 n&&leI n 18446744073709551615) (F [(.s d,.av (.sc (.i .i64 (n - 18446744073709551616))))]) | _=>none
 | .ext d x i,F=>match evF σ x with
  | .tup l=>(match l[i]? with | some v=>gQ v fun v=>F [(.s d,.av v)] | none=>none)
  | _=>none
 | .call d f as_,F=>match evF σ f with
  | .fn f caps=>callXF rc σ id d f (evsF σ as_++caps) F
  | .fb f b o=>callXF rc σ id d f (.ptr b o::evsF σ as_) F
  | _=>none
 | .app d sz by_ a x,F=>match evF σ a,evF σ x with
  | .sl z e1 t1, .sl z' e2 _ => (match Nat.beq sz z, Nat.beq sz z' with
    | true, true => (match t1 with
      | .none=>none
      | .full=>tst (bI (e1.length+e2.length) by_) (F [(.s d,.av (.sl sz (e1++e2) (.t id))),(.t id,.tk true)])
      | .t k => (match σ (.t k) with
        | some (.tk true)=>tst (bI (e1.length+e2.length) by_) (F [(.s d,.av (.sl sz (e1++e2) (.t id))),(.t id,.tk true),(.t k,.tk false)])
        | _=>none))
    | _,_=>none)
  | _,_=>none
 | .len d x,F=>match evF σ x with
  | .sl _ els _=>F [(.s d,.av (.sc (.i .i64 els.length)))]
  | .mx _ els _ n _=>F [(.s d,.av (.sc (.i .i64 (els.length+n:Nat))))]
  | .cs _ _ _ n _ _=>F [(.s d,.av (.sc (.i .i64 n)))]
  | _=>none
 | .lenS d x,F=>match evF σ x with
  | .sc (.s l)=>F [(.s d,.av (.sc (.i .i64 l.length)))]
  | _=>none
 | .mx d x y,F=>match evF σ x,evF σ y with
  | .sc (.i .i64 a),.sc (.i .i64 b)=>F [(.s d,.av (.sc (.i .i64 (max a b))))]
  | _,_=>none
 | .rngE d x,F=>match evF σ x with
  | .mr b => (match σ (.b b) with
    | some (.bx [.mm [] []])=>F [(.s d,.av (.ptr id 0)),(.b id,.bx [.mpv (.ie b)])]
    | _=>none)
  | _=>none
 | .nxtE d x,F=>match evF σ x with
  | .ptr i 0 => (match σ (.b i) with
    | some (.bx [.mpv (.ie b)]) => (match σ (.b b) with
      | some (.bx [.mm [] []])=>F [(.s d,.av (.tup [.sc (.b false)]))]
      | _=>none)
    | _=>none)
  | _=>none
 | .eqN d ng x,F=>match evF σ x with
  | .sl _ (_::_) _=>F [(.s d,.av (.sc (.b ng)))]
  | .cs _ _ _ _ _ _=>F [(.s d,.av (.sc (.b ng)))]
  | .mx _ _ _ _ _=>F [(.s d,.av (.sc (.b ng)))]
  | _=>none
 | .bslZ d sz,F=>F [(.s d,.av (.sl sz [] .full))]
 | .mkC d sz by_ z x,F=>match evF σ x with
  | .sc (.i .i64 n)=>tst (leI 0 n&&bI n.toNat by_) (bc (List.replicate n.toNat z).flatten fun L=>F [(.s d,.av (.cs sz id 0 n.toNat n.toNat .full)),(.b id,.bx L)])
  | _=>none
 | .cpy d sz x y,F=>match evF σ x with
  | .cs q b o n _ _ => (match Nat.beq sz q with
    | true => (match zqF σ sz (evF σ y) with
      | true=>F (bp d (.sc (.i .i64 0)))
      | false => (match yslF σ sz (evF σ y), σ (.b b) with
        | some (m, V), some (.bx l) => (match isM l with
          | true=>none
          | false => (match dX (Nat.min m n * sz) V with
            | some V' => (match be o V' l with
              | some l'=>tst (Nat.blt 0 m) (bc l' fun L=>F (bp d (.sc (.i .i64 (Nat.min m n:Nat)))++[(.b b,.bx L)]))
              | none=>none)
            | none=>none))
        | _,_=>none))
    | false=>none)
  | _=>none
 | .mn d x y,F=>match evF σ x,evF σ y with
  | .sc (.i .i64 a),.sc (.i .i64 b)=>F [(.s d,.av (.sc (.i .i64 (min a b))))]
  | _,_=>none
 | .mkf d f caps,F=>bc (evsF σ caps) fun caps=>F [(.s d,.av (.fn f caps))]
 | .mkfb d f x,F=>match evF σ x with
  | .ptr b o=>F [(.s d,.av (.fb f b o))]
  | _=>none
 | .mk d sz by_ z x,F=>match evF σ x with
  | .sc (.i .i64 n)=>tst (leI 0 n&&bI n.toNat by_) (F [(.s d,.av (.mx sz [] id n.toNat .full)),(.b id,.bx (List.replicate n.toNat z).flatten)])
  | _=>none
 | .mkF d sz by_ z x,F=>match evF σ x with
  | .sc (.i .i64 n)=>tst (leI 0 n&&bI n.toNat by_) (F [(.s d,.av (.sl sz (List.replicate n.toNat z) .full))])
  | _=>none
 | .bslM d sz xs,F=>bslAXF σ sz xs fun vs=>F [(.s d,.av (.cs sz id 0 xs.length xs.length .full)),(.b id,.bx vs)]
 | .appM d sz by_ a x,F=>match evF σ a,evF σ x with
  | .sl z e1 t1, .sl z' e2 _ => (match Nat.beq sz z, Nat.beq sz z' with
    | true, true => (match t1 with
      | .none=>none
      | .full=>tst (Nat.blt 0 e2.length&&bI (e1.length+e2.length) by_) (F [(.s d,.av (.mx sz e1 (id+1) e2.length (.t (id+1)))),(.b (id+1),.bx (e2.flatten.map aQ)),(.t (id+1),.tk true),(.t id,.tk false),(.t id,.tk true)])
      | .t k => (match σ (.t k) with
        | some (.tk true)=>tst (Nat.blt 0 e2.length&&bI (e1.length+e2.length) by_) (F [(.s d,.av (.mx sz e1 (id+1) e2.length (.t (id+1)))),(.b (id+1),.bx (e2.flatten.map aQ)),(.t (id+1),.tk true),(.t id,.tk false),(.t id,.tk true),(.t k,.tk false)])
        | _=>none))
    | _,_=>none)
  | _,_=>none
 | .cap d x,F=>match evF σ x with
  | .sl _ els .full=>F [(.s d,.av (.sc (.i .i64 els.length)))]
  | .mx _ els _ n .full=>F [(.s d,.av (.sc (.i .i64 (els.length+n:Nat))))]
  | _=>none
 | .iaG d cells sz x,F=>match evF σ x with
  | .sc (.i _ n)=>tst (leI 0 n&&Nat.ble (n.toNat * sz+sz) cells.length) (F [(.s d,.av (.elp cells (n.toNat * sz)))])
  | _=>none
 | .eqA d ng ks x y,F=>match evF σ x,evF σ y with
  | .agg l, .agg m => (match eqL ks l m with
    | some b => (match ng with
      | true=>F [(.s d,.av (.sc (.b (!b))))]
      | false=>F [(.s d,.av (.sc (.b b)))])
    | none=>none)
  | _,_=>none
 | .appZ d sz by_ z a x,F=>match evF σ a,evF σ x with
  | .sl q [] .full, .sc (.i .i64 n) => (match Nat.beq sz q with
    | true=>tst (leI 1 n&&bI n.toNat by_) (F [(.s d,.av (.mx sz [] (id+1) n.toNat (.t (id+1)))),(.b (id+1),.bx ((List.replicate n.toNat z).flatten.map aQ)),(.t (id+1),.tk true),(.t id,.tk false),(.t id,.tk true)])
    | false=>none)
  | _,_=>none
 | .mkM d,F=>F [(.s d,.av (.mr id)),(.b id,.bx [.mpv (.m [])])]
 | .lkM d z x k,F=>match evF σ x,evF σ k with
  | .mr b, .sc (.i .i64 n) => (match σ (.b b) with
    | some (.bx [.mpv (.m es)]) => (match gU n es with
      | some ds=>F [(.s d,.av (.tup [.agg (ds.map aQ),.sc (.b true)]))]
      | none=>F [(.s d,.av (.tup [.agg (z.map aQ),.sc (.b false)]))])
    | _=>none)
  | _,_=>none
 | .upM x k v,F=>match evF σ x,evF σ k with
  | .mr b, .sc (.i .i64 n) => (match σ (.b b) with
    | some (.bx [.mpv (.m es)]) => (match evF σ v with
      | .agg l => bc l fun l => (match bB l with
        | some ds=>F [(.b b,.bx [.mpv (.m (ln n ds es))])]
        | none=>none)
      | _=>none)
    | _=>none)
  | _,_=>none
 | .appC d sz by_ a x, F => match zqF σ sz (evF σ x) with
   | true => (match app0 sz (evF σ a) with
     | true=>gQ (evF σ a) fun v=>F [(.s d,.av v)]
     | false=>none)
   | false => match yslF σ sz (evF σ x) with
     | none=>none
     | some (m, V) => (match evF σ a with
       | .sl z e1 .full => (match Nat.beq sz z with
         | true=>tst (Nat.blt 0 m&&bI (e1.length+m) by_) (bc (e1.flatten.map aQ++V) fun L=>F [(.s d,.av (.cs sz (id+1) 0 (e1.length+m) (e1.length+m) (.t (id+1)))),(.b (id+1),.bx L),(.t (id+1),.tk true),(.t id,.tk false),(.t id,.tk true)])
         | false=>none)
       | .cs z b o n c t => (match Nat.beq sz z with
         | true => (match σ (.b b) with
           | some (.bx l) => (match isM l with
             | true=>none
             | false => (match Nat.ble (n + m) c with
               | true => (match be (o + n * sz) V l with
                 | some l'=>tst (Nat.blt 0 m) (F [(.s d,.av (.cs sz b o (n+m) c t)),(.b b,.bx l')])
                 | none=>none)
               | false => (match sub l o (n * sz) with
                 | none=>none
                 | some l0 => (match t with
                   | .none=>none
                   | .full=>tst (Nat.blt 0 m&&bI (n+m) by_) (bc (l0++V) fun L=>F [(.s d,.av (.cs sz (id+1) 0 (n+m) (n+m) (.t (id+1)))),(.b (id+1),.bx L),(.t (id+1),.tk true),(.t id,.tk false),(.t id,.tk true)])
                   | .t k => (match σ (.t k) with
                     | some (.tk true)=>tst (Nat.ble (o+c * sz) l.length&&Nat.blt 0 m&&bI (n+m) by_) (bc (l0++V) fun L=>F [(.s d,.av (.cs sz (id+1) 0 (n+m) (n+m) (.t (id+1)))),(.b b,.bx []),(.b (id+1),.bx L),(.t (id+1),.tk true),(.t (id+2),.tk false),(.t (id+2),.tk true),(.t id,.tk false),(.t id,.tk true),(.b b,.tk false),(.t k,.tk false)])
                     | _=>none)))))
           | _=>none)
         | false=>none)
       | _=>none)
 | .clrC sz z x,F=>match evF σ x with
  | .cs q b o n _ _ => (match Nat.beq sz q with
    | true => (match σ (.b b) with
      | some (.bx l) => (match isM l with
        | true=>none
        | false => (match be o (List.replicate n z).flatten l with
          | some l'=>tst (Nat.blt 0 n) (F [(.b b,.bx l')])
          | none=>none))
      | _=>none)
    | false=>none)
  | _=>none
 | .eqP d fn neg x y,F=>match fn,evF σ x,evF σ y with
  | false, .ptr b o, .ptr b' o' => (match Nat.beq b b' with
    | true=>F [(.s d,.av (.sc (.b (xor (Nat.beq o o') neg))))]
    | false=>none)
  | false,.ptr _ _,.sc .np=>F [(.s d,.av (.sc (.b neg)))]
  | false,.elp _ _,.sc .np=>F [(.s d,.av (.sc (.b neg)))]
  | false,.sc .np,.ptr _ _=>F [(.s d,.av (.sc (.b neg)))]
  | false,.sc .np,.sc .np=>F [(.s d,.av (.sc (.b (!neg))))]
  | true,.fn _ _,.sc .nf=>F [(.s d,.av (.sc (.b neg)))]
  | true,.sc .nf,.sc .nf=>F [(.s d,.av (.sc (.b (!neg))))]
  | _,_,_=>none
 | .rngS d x,F=>match evF σ x with
  | .sc (.s l)=>F [(.s d,.av (.ptr id 0)),(.b id,.bx [.mpv (.it l 0)])]
  | _=>none
 | .mkS d,F=>F [(.s d,.av (.mr id)),(.b id,.bx [.mm [] []])]
 | .lkS d ok st z x k,F=>(match lkRF σ st x k with
  | some r=>F [(.s d,.av (lkV ok z r))]
  | none=>none)
 | .upS st x k v,F=>(match upRF σ st x k v with
  | some (b,m)=>F [(.b b,.bx [m])]
  | none=>none)
 | .nxtS d x,F=>match evF σ x with
  | .ptr b 0 => (match σ (.b b) with
    | some (.bx [.mpv (.it l p)]) => (match l[p]? with
      | none=>tst (Nat.ble l.length p) (F [(.s d,.av (.tup [.sc (.b false)])),(.b b,.bx [.mpv (.it l p)])])
      | some c=>tst (Nat.blt c.toNat 128) (F [(.s d,.av (.tup [.sc (.b true),.sc (.i .i64 p),.sc (.i .i32 c.toNat)])),(.b b,.bx [.mpv (.it l (p+1))])]))
    | _=>none)
  | _=>none
def rdF (σ:Lk):AOp→List Loc
 | .mv _ x=>ay x
 | .pick _ c a b=>ay c++ay a++ay b
 | .box _ x=>ay x
 | .alloc _ _=>[]
 | .build _ _ ps=>cq (ps.map fun p=>p.2.2)
 | .bsl _ _ xs=>cq xs
 | .ld _ _ _ a=>ay a++(match evF σ a with | .ptr b _=>[.b b] | _=>[])
 | .st a _ x=>ay a++ay x
 | .nc _ x=>ay x
 | .bin _ _ x y=>ay x++ay y
 | .binB _ _ x y=>ay x++ay y
 | .no _ x=>ay x
 | .fa _ x _=>ay x
 | .fld _ x _ _ _=>ay x
 | .ia _ _ x i=>ay x++ay i
 | .ix _ x i=>ay x++ay i
 | .slS _ x lo hi=>ay x++lk lo++lk hi
 | .slL _ _ x lo hi m=>ay x++lk lo++lk hi++lk m
 | .cvi _ _ x=>ay x
 | .cvu _ x=>ay x
 | .ext _ x _=>ay x
 | .call _ f as_=>ay f++cq as_
 | .app _ _ _ s x=>ay s++ay x
 | .len _ x=>ay x
 | .lenS _ x=>ay x
 | .mx _ x y=>ay x++ay y
 | .mn _ x y=>ay x++ay y
 | .eqN _ _ x=>ay x
 | .bslZ _ _=>[]
 | .mkC _ _ _ _ x=>ay x
 | .cpy _ _ x y=>ay x++ay y++bxR (evF σ y)
 | .mkf _ _ c=>cq c
 | .mkfb _ _ x=>ay x
 | .mk _ _ _ _ x=>ay x
 | .mkF _ _ _ _ x=>ay x
 | .bslM _ _ xs=>cq xs
 | .appM _ _ _ s x=>ay s++ay x
 | .cap _ x=>ay x
 | .iaG _ _ _ x=>ay x
 | .eqA _ _ _ x y=>ay x++ay y
 | .appZ _ _ _ _ s x=>ay s++ay x
 | .mkM _=>[]
 | .lkM _ _ x k=>ay x++ay k++(match evF σ x with | .mr b=>[.b b] | _=>[])
 | .upM x k v=>ay x++ay k++ay v
 | .appC _ _ _ s x=>ay s++ay x++bxR (evF σ s)++bxR (evF σ x)
 | .clrC _ _ x=>ay x
 | .eqP _ _ _ x y=>ay x++ay y
 | .rngS _ x=>ay x
 | .nxtS _ x=>ay x
 | .rngE _ x=>ay x++(match evF σ x with | .mr b=>[.b b] | _=>[])
 | .nxtE _ x=>ay x++(match evF σ x with | .ptr i _=>.b i::(match σ (.b i) with | some (.bx [.mpv (.ie b)])=>[.b b] | _=>[]) | _=>[])
 | .mkS _=>[]
 | .lkS _ _ _ _ x k=>ay x++ay k++(match evF σ x with | .mr b=>[.b b] | _=>[])
 | .upS _ x k v=>ay x++ay k++ay v
def sameKF (σ' σ:Lk) (k:Loc):Bool:=match σ' k,σ k with
 | some (.bx l),some (.bx m)=>fZ (nY 4) l m
 | some (.tk true),some (.tk true)=>true
 | some (.tk false),some (.tk false)=>true
 | _,_=>false
def cC (σ' σ:Lk):List Loc→List Loc
 | []=>[]
 | .s _::r=>cC σ' σ r
 | k::r=>match sameKF σ' σ k with | true=>k::cC σ' σ r | false=>cC σ' σ r
def resLXF (σ:Lk):List (Nat × Nat)→(List AV→Option R)→Option R
 | [],K=>K []
 | (r,0)::t,K=>resLXF σ t fun l=>K (evF σ (.t r)::l)
 | (r, n + 1) :: t, K => match evF σ (.t r) with
   | .ptr b 0 => (match σ (.b b) with
     | some (.bx l) => (match isM l with
       | true=>none
       | false => (match Nat.beq l.length (n + 1) with
         | true=>resLXF σ t fun r=>K (.agg l::r)
         | false=>none))
     | _=>none)
   | _=>none
def lZ (σ:Lk) (rs:List (Nat × Nat)) (K:AV→Option R):Option R:=resLXF σ rs fun l=>match l with
 | [v]=>K v
 | l=>K (.tup l)
def finXF (σ:Lk) (v:AV) (nb nt:Nat):Option (AV × List (List AV)):=
 match ky σ 100 (bx3 (upN nb) v) (bx3 (upN nb) v) with
 | bs => match tkHF σ bs (tk3F σ (upN nt) v) with
   | ts => match un3 bs ts v, unHF σ bs ts bs with
     | some res,some H'=>tst (bE bs&&bE ts&&(bs.take nb == upN nb)&&(ts.take nt == upN nt)&&inR bs.length ts.length res&&inH bs.length ts.length H' &&
      mu σ ((toks res++H'.flatMap fun h=>h.flatMap bt).map (rb ts 0))) (some (res,H'))
     | _,_=>none
end runF
end Go.Abs
namespace Go.Abs
open Go
section
variable {R:Type} {σ:Log} {rc:Rec}
theorem evF_eq:evF (look σ)=ev σ:=by kernel_rfl
theorem pj:rdF (look σ)=AOp.rd σ:=by kernel_rfl
theorem keepKF_eq {σ':Log}:cC (look σ') (look σ)=kO σ' σ:=by kernel_rfl
theorem oe:@lZ R (look σ)=@resPX R σ:=by kernel_rfl
end
end Go.Abs
