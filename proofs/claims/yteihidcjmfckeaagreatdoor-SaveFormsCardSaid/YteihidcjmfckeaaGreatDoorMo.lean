/- The operations, one by one: small terms for the kernel. -/
import Derived.Test.YteihidcjmfckeaaGreatDoorMn
set_option linter.all false
set_option linter.unusedVariables false
namespace Go.Abs
open Go
section
variable {R:Type}
noncomputable def eX_mv (rc:Rec) (σ:Lk) (id:Nat) (d:Nat) (x:Opd) (F:Log→Option R):Option R:=gQ (evF σ x) fun v=>F [(.s d,.av v)]
noncomputable def eX_pick (rc:Rec) (σ:Lk) (id:Nat) (d:Nat) (c:Opd) (a:Opd) (b:Opd) (F:Log→Option R):Option R:=match evF σ c with
 | .sc (.b t) => (match t with
   | false=>gQ (evF σ b) fun v=>F [(.s d,.av v)]
   | true=>gQ (evF σ a) fun v=>F [(.s d,.av v)])
 | _=>none
noncomputable def eX_box (rc:Rec) (σ:Lk) (id:Nat) (d:Nat) (x:Opd) (F:Log→Option R):Option R:=bc (flat (evF σ x)) fun l=>F [(.s d,.av (.ptr id 0)),(.b id,.bx l)]
noncomputable def eX_alloc (rc:Rec) (σ:Lk) (id:Nat) (d:Nat) (z:List AV) (F:Log→Option R):Option R:=F [(.s d,.av (.ptr id 0)),(.b id,.bx z)]
noncomputable def eX_build (rc:Rec) (σ:Lk) (id:Nat) (d:Nat) (z:List AV) (ps:List (Nat × Nat × Opd)) (F:Log→Option R):Option R:=bldXF σ ps z fun z=>bc z fun z=>F [(.s d,.av (.agg z))]
noncomputable def eX_bsl (rc:Rec) (σ:Lk) (id:Nat) (d:Nat) (sz:Nat) (xs:List Opd) (F:Log→Option R):Option R:=bslXF σ sz xs fun els=>F [(.s d,.av (.sl sz els .full))]
noncomputable def eX_ld (rc:Rec) (σ:Lk) (id:Nat) (d:Nat) (n:Nat) (ag:Bool) (a:Opd) (F:Log→Option R):Option R:=match evF σ a with
 | .ptr b o => (match σ (.b b) with
   | some (.bx l) => (match isM l with
     | true=>none
     | false=>mA d ag (sub l o n) F)
   | _=>none)
 | .elp l o=>mA d ag (sub (l.map aQ) o n) F
 | _=>none
noncomputable def eX_st (rc:Rec) (σ:Lk) (id:Nat) (a:Opd) (n:Nat) (x:Opd) (F:Log→Option R):Option R:=match evF σ a with
 | .ptr b o => (match σ (.b b) with
   | some (.bx l) => (match isM l with
     | true=>none
     | false => bc (flat (evF σ x)) fun v => (match Nat.beq v.length n with
       | true=>(match be o v l with | some l=>bc l fun l=>F [(.b b,.bx l)] | none=>none)
       | false=>none))
   | _=>none)
 | _=>none
noncomputable def eX_nc (rc:Rec) (σ:Lk) (id:Nat) (d:Nat) (x:Opd) (F:Log→Option R):Option R:=match evF σ x with
 | .ptr b o=>F [(.s d,.av (.ptr b o))]
 | .elp b o=>F [(.s d,.av (.elp b o))]
 | .fn b o=>F [(.s d,.av (.fn b o))]
 | .fb f b o=>F [(.s d,.av (.fb f b o))]
 | _=>none
noncomputable def eX_bin (rc:Rec) (σ:Lk) (id:Nat) (d:Nat) (o:Bin) (x:Opd) (y:Opd) (F:Log→Option R):Option R:=binX o (evF σ x) (evF σ y) fun v=>F [(.s d,.av v)]
noncomputable def eX_binB (rc:Rec) (σ:Lk) (id:Nat) (d:Nat) (neg:Bool) (x:Opd) (y:Opd) (F:Log→Option R):Option R:=match evF σ x,evF σ y with
 | .sc (.b a), .sc (.b b) => (match neg with
   | true=>F [(.s d,.av (.sc (.b (a != b))))]
   | false=>F [(.s d,.av (.sc (.b (a == b))))])
 | _,_=>none
noncomputable def eX_no (rc:Rec) (σ:Lk) (id:Nat) (d:Nat) (x:Opd) (F:Log→Option R):Option R:=match evF σ x with | .sc (.b t)=>F [(.s d,.av (.sc (.b (!t))))] | _=>none
noncomputable def eX_fa (rc:Rec) (σ:Lk) (id:Nat) (d:Nat) (x:Opd) (off:Nat) (F:Log→Option R):Option R:=match evF σ x with
 | .ptr b o=>F [(.s d,.av (.ptr b (o+off)))]
 | .elp l o=>F [(.s d,.av (.elp l (o+off)))]
 | _=>none
noncomputable def eX_fld (rc:Rec) (σ:Lk) (id:Nat) (d:Nat) (x:Opd) (off:Nat) (n:Nat) (ag:Bool) (F:Log→Option R):Option R:=match evF σ x with
 | .agg l=>mA d ag (sub l off n) F
 | _=>none
noncomputable def eX_ia (rc:Rec) (σ:Lk) (id:Nat) (d:Nat) (sz:Nat) (x:Opd) (i:Opd) (F:Log→Option R):Option R:=match evF σ x,evF σ i with
 | .sl z els _, .sc (.i _ n) => (match Nat.beq sz z with
   | true => (match els[n.toNat]? with
     | some e=>tst (leI 0 n) (F [(.s d,.av (.elp e 0))])
     | none=>none)
   | false=>none)
 | .mx z els b m _, .sc (.i _ n) => (match Nat.beq sz z with
   | true=>tst (leI 0 n&&Nat.ble els.length n.toNat&&Nat.blt n.toNat (els.length+m)) (F [(.s d,.av (.ptr b ((n.toNat - els.length) * sz)))])
   | false=>none)
 | .cs z b o m _ _, .sc (.i _ n) => (match Nat.beq sz z with
   | true=>tst (leI 0 n&&Nat.blt n.toNat m) (F [(.s d,.av (.ptr b (o+n.toNat * sz)))])
   | false=>none)
 | _,_=>none
noncomputable def eX_ix (rc:Rec) (σ:Lk) (id:Nat) (d:Nat) (x:Opd) (i:Opd) (F:Log→Option R):Option R:=match evF σ x,evF σ i with
 | .sc (.s l), .sc (.i _ n) => (match l[n.toNat]? with
   | some e=>tst (leI 0 n) (F [(.s d,.av (.sc (.i .u8 e.toNat)))])
   | none=>none)
 | _,_=>none
noncomputable def eX_slS (rc:Rec) (σ:Lk) (id:Nat) (d:Nat) (x:Opd) (lo:Option Opd) (hi:Option Opd) (F:Log→Option R):Option R:=match evF σ x with
 | .sc (.s l)=>dh σ lo 0 fun a=>dh σ hi l.length fun b=>
  tst (leI 0 a&&leI a b&&leI b l.length) (F [(.s d,.av (.sc (.s ((l.drop a.toNat).take (b.toNat - a.toNat)))))])
 | _=>none
noncomputable def eX_slL (rc:Rec) (σ:Lk) (id:Nat) (d:Nat) (sz:Nat) (x:Opd) (lo:Option Opd) (hi:Option Opd) (mx:Option Opd) (F:Log→Option R):Option R:=match evF σ x with
 | .mx z [] b n t => (match Nat.beq sz z with
   | true => (match lo, hi, mx, σ (.b b) with
     | none, some hi, none, some (.bx l) => dh σ (some hi) 0 fun c => tst (decide (c = 0) && Nat.beq l.length (n * sz) && !isM l) (match t with
       | .none=>none
       | .full=>F [(.s d,.av (.sl z [] (.t id))),(.t id,.tk true),(.b b,.tk false)]
       | .t k => (match σ (.t k) with
         | some (.tk true)=>F [(.s d,.av (.sl z [] (.t id))),(.t id,.tk true),(.b b,.tk false),(.t k,.tk false)]
         | _=>none))
     | _,_,_,_=>none)
   | false=>none)
 | .sl z els t => (match Nat.beq sz z with
   | true => dh σ lo 0 fun a => dh σ hi els.length fun b => match mx with
     | none => tst (leI 0 a && leI a b && leI b els.length) (match decide (b = els.length) with
       | true=>F [(.s d,.av (.sl z ((els.drop a.toNat).take (b.toNat - a.toNat)) t))]
       | false=>F [(.s d,.av (.sl z ((els.drop a.toNat).take (b.toNat - a.toNat)) .none))])
     | some _=>dh σ mx 0 fun c=>tst (leI 0 a&&leI a b&&decide (b=c)&&leI b els.length) (F [(.s d,.av (.sl z ((els.drop a.toNat).take (b.toNat - a.toNat)) .full))])
   | false=>none)
 | .cs z b o n c t => (match Nat.beq sz z with
   | true => dh σ lo 0 fun p => dh σ hi n fun q => (match mx with
     | none => tst (leI 0 p && leI p q && leI q c) (match decide (p < c) with
       | true=>F [(.s d,.av (.cs z b (o+p.toNat * sz) (q.toNat - p.toNat) (c - p.toNat) t))]
       | false=>F [(.s d,.av (.sl z [] (tokE t)))])
     | some _=>dh σ mx 0 fun r=>tst (decide (p=0)&&decide (q=0)&&decide (r=0)) (F [(.s d,.av (.sl z [] .full))]))
   | false=>none)
 | _=>none
noncomputable def eX_cvi (rc:Rec) (σ:Lk) (id:Nat) (d:Nat) (k:IntKind) (x:Opd) (F:Log→Option R):Option R:=match evF σ x with | .sc (.i _ n)=>tst (jK k n) (F [(.s d,.av (.sc (.i k n)))]) | _=>none
noncomputable def eX_cvu (rc:Rec) (σ:Lk) (id:Nat) (d:Nat) (x:Opd) (F:Log→Option R):Option R:=match evF σ x with | .sc (.i .u64 n)=>tst (leI 9223372036854775808 n&&leI n 18446744073709551615) (F [(.s d,.av (.sc (.i .i64 (n - 18446744073709551616))))]) | _=>none
noncomputable def eX_ext (rc:Rec) (σ:Lk) (id:Nat) (d:Nat) (x:Opd) (i:Nat) (F:Log→Option R):Option R:=match evF σ x with
 | .tup l=>(match l[i]? with | some v=>gQ v fun v=>F [(.s d,.av v)] | none=>none)
 | _=>none
noncomputable def pK (rc:Rec) (σ:Lk) (id:Nat) (d:Option Nat) (f:Opd) (as_:List Opd) (F:Log→Option R):Option R:=match evF σ f with
 | .fn f caps=>pQ rc σ id d f (evsF σ as_++caps) F
 | .fb f b o=>pQ rc σ id d f (.ptr b o::evsF σ as_) F
 | _=>none
noncomputable def eX_app (rc:Rec) (σ:Lk) (id:Nat) (d:Nat) (sz:Nat) (by_:Nat) (a:Opd) (x:Opd) (F:Log→Option R):Option R:=match evF σ a,evF σ x with
 | .sl z e1 t1, .sl z' e2 _ => (match Nat.beq sz z, Nat.beq sz z' with
   | true, true => (match t1 with
     | .none=>none
     | .full=>tst (bI (e1.length+e2.length) by_) (F [(.s d,.av (.sl sz (e1++e2) (.t id))),(.t id,.tk true)])
     | .t k => (match σ (.t k) with
       | some (.tk true)=>tst (bI (e1.length+e2.length) by_) (F [(.s d,.av (.sl sz (e1++e2) (.t id))),(.t id,.tk true),(.t k,.tk false)])
       | _=>none))
   | _,_=>none)
 | _,_=>none
noncomputable def eX_len (rc:Rec) (σ:Lk) (id:Nat) (d:Nat) (x:Opd) (F:Log→Option R):Option R:=match evF σ x with
 | .sl _ els _=>F [(.s d,.av (.sc (.i .i64 els.length)))]
 | .mx _ els _ n _=>F [(.s d,.av (.sc (.i .i64 (els.length+n:Nat))))]
 | .cs _ _ _ n _ _=>F [(.s d,.av (.sc (.i .i64 n)))]
 | _=>none
noncomputable def eX_lenS (rc:Rec) (σ:Lk) (id:Nat) (d:Nat) (x:Opd) (F:Log→Option R):Option R:=match evF σ x with
 | .sc (.s l)=>F [(.s d,.av (.sc (.i .i64 l.length)))]
 | _=>none
noncomputable def eX_mx (rc:Rec) (σ:Lk) (id:Nat) (d:Nat) (x:Opd) (y:Opd) (F:Log→Option R):Option R:=match evF σ x,evF σ y with
 | .sc (.i .i64 a),.sc (.i .i64 b)=>F [(.s d,.av (.sc (.i .i64 (max a b))))]
 | _,_=>none
noncomputable def eX_rngE (rc:Rec) (σ:Lk) (id:Nat) (d:Nat) (x:Opd) (F:Log→Option R):Option R:=match evF σ x with
 | .mr b => (match σ (.b b) with
   | some (.bx [.mm [] []])=>F [(.s d,.av (.ptr id 0)),(.b id,.bx [.mpv (.ie b)])]
   | _=>none)
 | _=>none
noncomputable def eX_nxtE (rc:Rec) (σ:Lk) (id:Nat) (d:Nat) (x:Opd) (F:Log→Option R):Option R:=match evF σ x with
 | .ptr i 0 => (match σ (.b i) with
   | some (.bx [.mpv (.ie b)]) => (match σ (.b b) with
     | some (.bx [.mm [] []])=>F [(.s d,.av (.tup [.sc (.b false)]))]
     | _=>none)
   | _=>none)
 | _=>none
noncomputable def eX_eqN (rc:Rec) (σ:Lk) (id:Nat) (d:Nat) (ng:Bool) (x:Opd) (F:Log→Option R):Option R:=match evF σ x with
 | .sl _ (_::_) _=>F [(.s d,.av (.sc (.b ng)))]
 | .cs _ _ _ _ _ _=>F [(.s d,.av (.sc (.b ng)))]
 | .mx _ _ _ _ _=>F [(.s d,.av (.sc (.b ng)))]
 | _=>none
noncomputable def eX_bslZ (rc:Rec) (σ:Lk) (id:Nat) (d:Nat) (sz:Nat) (F:Log→Option R):Option R:=F [(.s d,.av (.sl sz [] .full))]
noncomputable def eX_mkC (rc:Rec) (σ:Lk) (id:Nat) (d:Nat) (sz:Nat) (by_:Nat) (z:List AV) (x:Opd) (F:Log→Option R):Option R:=match evF σ x with
 | .sc (.i .i64 n)=>tst (leI 0 n&&bI n.toNat by_) (bc (List.replicate n.toNat z).flatten fun L=>F [(.s d,.av (.cs sz id 0 n.toNat n.toNat .full)),(.b id,.bx L)])
 | _=>none
noncomputable def eX_cpy (rc:Rec) (σ:Lk) (id:Nat) (d:Option Nat) (sz:Nat) (x:Opd) (y:Opd) (F:Log→Option R):Option R:=match evF σ x with
 | .cs q b o n _ _ => (match Nat.beq sz q with
   | true => (match zqF σ sz (evF σ y) with
     | true=>F (bp d (.sc (.i .i64 0)))
     | false => (match yslF σ sz (evF σ y), σ (.b b) with
       | some (m, V), some (.bx l) => (match isM l with
         | true=>none
         | false => (match dX (Nat.min m n * sz) V with
           | some V' => (match be o V' l with
             | some l'=>tst (Nat.blt 0 m) (bc l' fun L=>F (bp d (.sc (.i .i64 (Nat.min m n:Nat)))++[(.b b,.bx L)]))
             | none=>none)
           | none=>none))
       | _,_=>none))
   | false=>none)
 | _=>none
noncomputable def eX_mn (rc:Rec) (σ:Lk) (id:Nat) (d:Nat) (x:Opd) (y:Opd) (F:Log→Option R):Option R:=match evF σ x,evF σ y with
 | .sc (.i .i64 a),.sc (.i .i64 b)=>F [(.s d,.av (.sc (.i .i64 (min a b))))]
 | _,_=>none
noncomputable def eX_mkf (rc:Rec) (σ:Lk) (id:Nat) (d:Nat) (f:FuncId) (caps:List Opd) (F:Log→Option R):Option R:=bc (evsF σ caps) fun caps=>F [(.s d,.av (.fn f caps))]
noncomputable def eX_mkfb (rc:Rec) (σ:Lk) (id:Nat) (d:Nat) (f:FuncId) (x:Opd) (F:Log→Option R):Option R:=match evF σ x with
 | .ptr b o=>F [(.s d,.av (.fb f b o))]
 | _=>none
noncomputable def eX_mk (rc:Rec) (σ:Lk) (id:Nat) (d:Nat) (sz:Nat) (by_:Nat) (z:List AV) (x:Opd) (F:Log→Option R):Option R:=match evF σ x with
 | .sc (.i .i64 n)=>tst (leI 0 n&&bI n.toNat by_) (F [(.s d,.av (.mx sz [] id n.toNat .full)),(.b id,.bx (List.replicate n.toNat z).flatten)])
 | _=>none
noncomputable def eX_mkF (rc:Rec) (σ:Lk) (id:Nat) (d:Nat) (sz:Nat) (by_:Nat) (z:List Data) (x:Opd) (F:Log→Option R):Option R:=match evF σ x with
 | .sc (.i .i64 n)=>tst (leI 0 n&&bI n.toNat by_) (F [(.s d,.av (.sl sz (List.replicate n.toNat z) .full))])
 | _=>none
noncomputable def eX_bslM (rc:Rec) (σ:Lk) (id:Nat) (d:Nat) (sz:Nat) (xs:List Opd) (F:Log→Option R):Option R:=bslAXF σ sz xs fun vs=>F [(.s d,.av (.cs sz id 0 xs.length xs.length .full)),(.b id,.bx vs)]
noncomputable def eX_appM (rc:Rec) (σ:Lk) (id:Nat) (d:Nat) (sz:Nat) (by_:Nat) (a:Opd) (x:Opd) (F:Log→Option R):Option R:=match evF σ a,evF σ x with
 | .sl z e1 t1, .sl z' e2 _ => (match Nat.beq sz z, Nat.beq sz z' with
   | true, true => (match t1 with
     | .none=>none
     | .full=>tst (Nat.blt 0 e2.length&&bI (e1.length+e2.length) by_) (F [(.s d,.av (.mx sz e1 (id+1) e2.length (.t (id+1)))),(.b (id+1),.bx (e2.flatten.map aQ)),(.t (id+1),.tk true),(.t id,.tk false),(.t id,.tk true)])
     | .t k => (match σ (.t k) with
       | some (.tk true)=>tst (Nat.blt 0 e2.length&&bI (e1.length+e2.length) by_) (F [(.s d,.av (.mx sz e1 (id+1) e2.length (.t (id+1)))),(.b (id+1),.bx (e2.flatten.map aQ)),(.t (id+1),.tk true),(.t id,.tk false),(.t id,.tk true),(.t k,.tk false)])
       | _=>none))
   | _,_=>none)
 | _,_=>none
noncomputable def eX_cap (rc:Rec) (σ:Lk) (id:Nat) (d:Nat) (x:Opd) (F:Log→Option R):Option R:=match evF σ x with
 | .sl _ els .full=>F [(.s d,.av (.sc (.i .i64 els.length)))]
 | .mx _ els _ n .full=>F [(.s d,.av (.sc (.i .i64 (els.length+n:Nat))))]
 | _=>none
noncomputable def eX_iaG (rc:Rec) (σ:Lk) (id:Nat) (d:Nat) (cells:List Data) (sz:Nat) (x:Opd) (F:Log→Option R):Option R:=match evF σ x with
 | .sc (.i _ n)=>tst (leI 0 n&&Nat.ble (n.toNat * sz+sz) cells.length) (F [(.s d,.av (.elp cells (n.toNat * sz)))])
 | _=>none
noncomputable def eX_eqA (rc:Rec) (σ:Lk) (id:Nat) (d:Nat) (ng:Bool) (ks:List Nat) (x:Opd) (y:Opd) (F:Log→Option R):Option R:=match evF σ x,evF σ y with
 | .agg l, .agg m => (match eqL ks l m with
   | some b => (match ng with
     | true=>F [(.s d,.av (.sc (.b (!b))))]
     | false=>F [(.s d,.av (.sc (.b b)))])
   | none=>none)
 | _,_=>none
noncomputable def eX_appZ (rc:Rec) (σ:Lk) (id:Nat) (d:Nat) (sz:Nat) (by_:Nat) (z:List Data) (a:Opd) (x:Opd) (F:Log→Option R):Option R:=match evF σ a,evF σ x with
 | .sl q [] .full, .sc (.i .i64 n) => (match Nat.beq sz q with
   | true=>tst (leI 1 n&&bI n.toNat by_) (F [(.s d,.av (.mx sz [] (id+1) n.toNat (.t (id+1)))),(.b (id+1),.bx ((List.replicate n.toNat z).flatten.map aQ)),(.t (id+1),.tk true),(.t id,.tk false),(.t id,.tk true)])
   | false=>none)
 | _,_=>none
noncomputable def eX_mkM (rc:Rec) (σ:Lk) (id:Nat) (d:Nat) (F:Log→Option R):Option R:=F [(.s d,.av (.mr id)),(.b id,.bx [.mpv (.m [])])]
noncomputable def eX_lkM (rc:Rec) (σ:Lk) (id:Nat) (d:Nat) (z:List Data) (x:Opd) (k:Opd) (F:Log→Option R):Option R:=match evF σ x,evF σ k with
 | .mr b, .sc (.i .i64 n) => (match σ (.b b) with
   | some (.bx [.mpv (.m es)]) => (match gU n es with
     | some ds=>F [(.s d,.av (.tup [.agg (ds.map aQ),.sc (.b true)]))]
     | none=>F [(.s d,.av (.tup [.agg (z.map aQ),.sc (.b false)]))])
   | _=>none)
 | _,_=>none
noncomputable def eX_upM (rc:Rec) (σ:Lk) (id:Nat) (x:Opd) (k:Opd) (v:Opd) (F:Log→Option R):Option R:=match evF σ x,evF σ k with
 | .mr b, .sc (.i .i64 n) => (match σ (.b b) with
   | some (.bx [.mpv (.m es)]) => (match evF σ v with
     | .agg l => bc l fun l => (match bB l with
       | some ds=>F [(.b b,.bx [.mpv (.m (ln n ds es))])]
       | none=>none)
     | _=>none)
   | _=>none)
 | _,_=>none
noncomputable def eX_appC (rc:Rec) (σ:Lk) (id:Nat) (d:Nat) (sz:Nat) (by_:Nat) (a:Opd) (x:Opd) (F:Log→Option R):Option R:=match zqF σ sz (evF σ x) with
 | true => (match app0 sz (evF σ a) with
   | true=>gQ (evF σ a) fun v=>F [(.s d,.av v)]
   | false=>none)
 | false => match yslF σ sz (evF σ x) with
   | none=>none
   | some (m, V) => (match evF σ a with
     | .sl z e1 .full => (match Nat.beq sz z with
       | true=>tst (Nat.blt 0 m&&bI (e1.length+m) by_) (bc (e1.flatten.map aQ++V) fun L=>F [(.s d,.av (.cs sz (id+1) 0 (e1.length+m) (e1.length+m) (.t (id+1)))),(.b (id+1),.bx L),(.t (id+1),.tk true),(.t id,.tk false),(.t id,.tk true)])
       | false=>none)
     | .cs z b o n c t => (match Nat.beq sz z with
       | true => (match σ (.b b) with
         | some (.bx l) => (match isM l with
           | true=>none
           | false => (match Nat.ble (n + m) c with
             | true => (match be (o + n * sz) V l with
               | some l'=>tst (Nat.blt 0 m) (F [(.s d,.av (.cs sz b o (n+m) c t)),(.b b,.bx l')])
               | none=>none)
             | false => (match sub l o (n * sz) with
               | none=>none
               | some l0 => (match t with
                 | .none=>none
                 | .full=>tst (Nat.blt 0 m&&bI (n+m) by_) (bc (l0++V) fun L=>F [(.s d,.av (.cs sz (id+1) 0 (n+m) (n+m) (.t (id+1)))),(.b (id+1),.bx L),(.t (id+1),.tk true),(.t id,.tk false),(.t id,.tk true)])
                 | .t k => (match σ (.t k) with
                   | some (.tk true)=>tst (Nat.ble (o+c * sz) l.length&&Nat.blt 0 m&&bI (n+m) by_) (bc (l0++V) fun L=>F [(.s d,.av (.cs sz (id+1) 0 (n+m) (n+m) (.t (id+1)))),(.b b,.bx []),(.b (id+1),.bx L),(.t (id+1),.tk true),(.t (id+2),.tk false),(.t (id+2),.tk true),(.t id,.tk false),(.t id,.tk true),(.b b,.tk false),(.t k,.tk false)])
                   | _=>none)))))
         | _=>none)
       | false=>none)
     | _=>none)
noncomputable def eX_clrC (rc:Rec) (σ:Lk) (id:Nat) (sz:Nat) (z:List AV) (x:Opd) (F:Log→Option R):Option R:=match evF σ x with
 | .cs q b o n _ _ => (match Nat.beq sz q with
   | true => (match σ (.b b) with
     | some (.bx l) => (match isM l with
       | true=>none
       | false => (match be o (List.replicate n z).flatten l with
         | some l'=>tst (Nat.blt 0 n) (F [(.b b,.bx l')])
         | none=>none))
     | _=>none)
   | false=>none)
 | _=>none
noncomputable def eX_eqP (rc:Rec) (σ:Lk) (id:Nat) (d:Nat) (fn:Bool) (neg:Bool) (x:Opd) (y:Opd) (F:Log→Option R):Option R:=match fn,evF σ x,evF σ y with
 | false, .ptr b o, .ptr b' o' => (match Nat.beq b b' with
   | true=>F [(.s d,.av (.sc (.b (xor (Nat.beq o o') neg))))]
   | false=>none)
 | false,.ptr _ _,.sc .np=>F [(.s d,.av (.sc (.b neg)))]
 | false,.elp _ _,.sc .np=>F [(.s d,.av (.sc (.b neg)))]
 | false,.sc .np,.ptr _ _=>F [(.s d,.av (.sc (.b neg)))]
 | false,.sc .np,.sc .np=>F [(.s d,.av (.sc (.b (!neg))))]
 | true,.fn _ _,.sc .nf=>F [(.s d,.av (.sc (.b neg)))]
 | true,.sc .nf,.sc .nf=>F [(.s d,.av (.sc (.b (!neg))))]
 | _,_,_=>none
noncomputable def eX_rngS (rc:Rec) (σ:Lk) (id:Nat) (d:Nat) (x:Opd) (F:Log→Option R):Option R:=match evF σ x with
 | .sc (.s l)=>F [(.s d,.av (.ptr id 0)),(.b id,.bx [.mpv (.it l 0)])]
 | _=>none
noncomputable def eX_mkS (rc:Rec) (σ:Lk) (id:Nat) (d:Nat) (F:Log→Option R):Option R:=F [(.s d,.av (.mr id)),(.b id,.bx [.mm [] []])]
noncomputable def eX_lkS (rc:Rec) (σ:Lk) (id:Nat) (d:Nat) (ok:Bool) (st:Bool) (z:AV) (x:Opd) (k:Opd) (F:Log→Option R):Option R:=(match lkRF σ st x k with
 | some r=>F [(.s d,.av (lkV ok z r))]
 | none=>none)
noncomputable def eX_upS (rc:Rec) (σ:Lk) (id:Nat) (st:Bool) (x:Opd) (k:Opd) (v:Opd) (F:Log→Option R):Option R:=(match upRF σ st x k v with
 | some (b,m)=>F [(.b b,.bx [m])]
 | none=>none)
noncomputable def eX_nxtS (rc:Rec) (σ:Lk) (id:Nat) (d:Nat) (x:Opd) (F:Log→Option R):Option R:=match evF σ x with
 | .ptr b 0 => (match σ (.b b) with
   | some (.bx [.mpv (.it l p)]) => (match l[p]? with
     | none=>tst (Nat.ble l.length p) (F [(.s d,.av (.tup [.sc (.b false)])),(.b b,.bx [.mpv (.it l p)])])
     | some c=>tst (Nat.blt c.toNat 128) (F [(.s d,.av (.tup [.sc (.b true),.sc (.i .i64 p),.sc (.i .i32 c.toNat)])),(.b b,.bx [.mpv (.it l (p+1))])]))
   | _=>none)
 | _=>none
noncomputable def effXH (o:AOp):Rec→Lk→Nat→(Log→Option R)→Option R:=@AOp.rec (fun _=>Rec→Lk→Nat→(Log→Option R)→Option R)
 (fun x0 x1 rc σ id F=>eX_mv rc σ id x0 x1 F)
 (fun x0 x1 x2 x3 rc σ id F=>eX_pick rc σ id x0 x1 x2 x3 F)
 (fun x0 x1 rc σ id F=>eX_box rc σ id x0 x1 F)
 (fun x0 x1 rc σ id F=>eX_alloc rc σ id x0 x1 F)
 (fun x0 x1 x2 rc σ id F=>eX_build rc σ id x0 x1 x2 F)
 (fun x0 x1 x2 rc σ id F=>eX_bsl rc σ id x0 x1 x2 F)
 (fun x0 x1 x2 x3 rc σ id F=>eX_ld rc σ id x0 x1 x2 x3 F)
 (fun x0 x1 x2 rc σ id F=>eX_st rc σ id x0 x1 x2 F)
 (fun x0 x1 rc σ id F=>eX_nc rc σ id x0 x1 F)
 (fun x0 x1 x2 x3 rc σ id F=>eX_bin rc σ id x0 x1 x2 x3 F)
 (fun x0 x1 x2 x3 rc σ id F=>eX_binB rc σ id x0 x1 x2 x3 F)
 (fun x0 x1 rc σ id F=>eX_no rc σ id x0 x1 F)
 (fun x0 x1 x2 rc σ id F=>eX_fa rc σ id x0 x1 x2 F)
 (fun x0 x1 x2 x3 x4 rc σ id F=>eX_fld rc σ id x0 x1 x2 x3 x4 F)
 (fun x0 x1 x2 x3 rc σ id F=>eX_ia rc σ id x0 x1 x2 x3 F)
 (fun x0 x1 x2 rc σ id F=>eX_ix rc σ id x0 x1 x2 F)
 (fun x0 x1 x2 x3 rc σ id F=>eX_slS rc σ id x0 x1 x2 x3 F)
 (fun x0 x1 x2 x3 x4 x5 rc σ id F=>eX_slL rc σ id x0 x1 x2 x3 x4 x5 F)
 (fun x0 x1 x2 rc σ id F=>eX_cvi rc σ id x0 x1 x2 F)
 (fun x0 x1 rc σ id F=>eX_cvu rc σ id x0 x1 F)
 (fun x0 x1 x2 rc σ id F=>eX_ext rc σ id x0 x1 x2 F)
 (fun x0 x1 x2 rc σ id F=>pK rc σ id x0 x1 x2 F)
 (fun x0 x1 x2 x3 x4 rc σ id F=>eX_app rc σ id x0 x1 x2 x3 x4 F)
 (fun x0 x1 rc σ id F=>eX_len rc σ id x0 x1 F)
 (fun x0 x1 rc σ id F=>eX_lenS rc σ id x0 x1 F)
 (fun x0 x1 x2 rc σ id F=>eX_mx rc σ id x0 x1 x2 F)
 (fun x0 x1 x2 rc σ id F=>eX_mn rc σ id x0 x1 x2 F)
 (fun x0 x1 x2 rc σ id F=>eX_eqN rc σ id x0 x1 x2 F)
 (fun x0 x1 rc σ id F=>eX_bslZ rc σ id x0 x1 F)
 (fun x0 x1 x2 x3 x4 rc σ id F=>eX_mkC rc σ id x0 x1 x2 x3 x4 F)
 (fun x0 x1 x2 x3 rc σ id F=>eX_cpy rc σ id x0 x1 x2 x3 F)
 (fun x0 x1 x2 rc σ id F=>eX_mkf rc σ id x0 x1 x2 F)
 (fun x0 x1 x2 rc σ id F=>eX_mkfb rc σ id x0 x1 x2 F)
 (fun x0 x1 x2 x3 x4 rc σ id F=>eX_mk rc σ id x0 x1 x2 x3 x4 F)
 (fun x0 x1 x2 x3 x4 rc σ id F=>eX_mkF rc σ id x0 x1 x2 x3 x4 F)
 (fun x0 x1 x2 rc σ id F=>eX_bslM rc σ id x0 x1 x2 F)
 (fun x0 x1 x2 x3 x4 rc σ id F=>eX_appM rc σ id x0 x1 x2 x3 x4 F)
 (fun x0 x1 rc σ id F=>eX_cap rc σ id x0 x1 F)
 (fun x0 x1 x2 x3 rc σ id F=>eX_iaG rc σ id x0 x1 x2 x3 F)
 (fun x0 x1 x2 x3 x4 rc σ id F=>eX_eqA rc σ id x0 x1 x2 x3 x4 F)
 (fun x0 x1 x2 x3 x4 x5 rc σ id F=>eX_appZ rc σ id x0 x1 x2 x3 x4 x5 F)
 (fun x0 rc σ id F=>eX_mkM rc σ id x0 F)
 (fun x0 x1 x2 x3 rc σ id F=>eX_lkM rc σ id x0 x1 x2 x3 F)
 (fun x0 x1 x2 rc σ id F=>eX_upM rc σ id x0 x1 x2 F)
 (fun x0 x1 x2 x3 x4 rc σ id F=>eX_appC rc σ id x0 x1 x2 x3 x4 F)
 (fun x0 x1 x2 rc σ id F=>eX_clrC rc σ id x0 x1 x2 F)
 (fun x0 x1 x2 x3 x4 rc σ id F=>eX_eqP rc σ id x0 x1 x2 x3 x4 F)
 (fun x0 x1 rc σ id F=>eX_rngS rc σ id x0 x1 F)
 (fun x0 x1 rc σ id F=>eX_nxtS rc σ id x0 x1 F)
 (fun x0 x1 rc σ id F=>eX_rngE rc σ id x0 x1 F)
 (fun x0 x1 rc σ id F=>eX_nxtE rc σ id x0 x1 F)
 (fun x0 rc σ id F=>eX_mkS rc σ id x0 F)
 (fun x0 x1 x2 x3 x4 x5 rc σ id F=>eX_lkS rc σ id x0 x1 x2 x3 x4 x5 F)
 (fun x0 x1 x2 x3 rc σ id F=>eX_upS rc σ id x0 x1 x2 x3 F)
 o
noncomputable def fB (rc:Rec) (σ:Lk) (id:Nat) (o:AOp) (F:Log→Option R):Option R:=effXH o rc σ id F
end
theorem mZ {R:Type} {rc:Rec} {σ:Log} {id:Nat}:@fB R rc (look σ) id=@bP R rc σ id:=by
 funext o F
 cases o
 case call d f as_=>
  show pK rc (look σ) id d f as_ F=_
  unfold pK
  simp only [callXQ_eq]
  kernel_rfl
 all_goals kernel_rfl
end Go.Abs
namespace Go.Abs
open Go
inductive Tr | lf | nd (v:Option Cell) (l r:Tr)
def Tr.val:Tr→Option Cell | .lf=>none | .nd v _ _=>v
def Tr.left:Tr→Tr | .lf=>.lf | .nd _ l _=>l
def Tr.right:Tr→Tr | .lf=>.lf | .nd _ _ r=>r
noncomputable def fy (t:Tr):Nat→Option Cell:=@Tr.rec (fun _=>Nat→Option Cell) (fun _=>none)
 (fun v _ _ gl gr n=>@Bool.rec (fun _=>Option Cell) (@Bool.rec (fun _=>Option Cell) (gr (Nat.sub (Nat.div n 2) 1)) (gl (Nat.div n 2)) (Nat.beq (Nat.mod n 2) 1)) v (Nat.beq n 0)) t
noncomputable def iQ (k:Nat):Tr→Nat→Cell→Tr:=@Nat.rec (fun _=>Tr→Nat→Cell→Tr) (fun t _ c=>.nd (some c) t.left t.right)
 (fun _ ih t n c=>@Bool.rec (fun _=>Tr) (@Bool.rec (fun _=>Tr) (.nd t.val t.left (ih t.right (Nat.sub (Nat.div n 2) 1) c)) (.nd t.val (ih t.left (Nat.div n 2) c) t.right) (Nat.beq (Nat.mod n 2) 1)) (.nd (some c) t.left t.right) (Nat.beq n 0)) k
theorem getT_nd {v:Option Cell} {l r:Tr} {n:Nat}:fy (.nd v l r) n=match Nat.beq n 0 with
  | true=>v
  | false => match Nat.beq (Nat.mod n 2) 1 with
    | true=>fy l (Nat.div n 2)
    | false=>fy r (Nat.sub (Nat.div n 2) 1):=by
 show @Bool.rec (fun _=>Option Cell) (@Bool.rec (fun _=>Option Cell) (fy r (Nat.sub (Nat.div n 2) 1)) (fy l (Nat.div n 2)) (Nat.beq (Nat.mod n 2) 1)) v (Nat.beq n 0)=_
 cases Nat.beq n 0<;>cases Nat.beq (Nat.mod n 2) 1<;>rfl
theorem putT_s {k:Nat} {t:Tr} {n:Nat} {c:Cell}:iQ (k+1) t n c=match Nat.beq n 0 with
  | true=>.nd (some c) t.left t.right
  | false => match Nat.beq (Nat.mod n 2) 1 with
    | true=>.nd t.val (iQ k t.left (Nat.div n 2) c) t.right
    | false=>.nd t.val t.left (iQ k t.right (Nat.sub (Nat.div n 2) 1) c):=by
 show @Bool.rec (fun _=>Tr) (@Bool.rec (fun _=>Tr) (.nd t.val t.left (iQ k t.right (Nat.sub (Nat.div n 2) 1) c)) (.nd t.val (iQ k t.left (Nat.div n 2) c) t.right) (Nat.beq (Nat.mod n 2) 1)) (.nd (some c) t.left t.right) (Nat.beq n 0)=_
 cases Nat.beq n 0<;>cases Nat.beq (Nat.mod n 2) 1<;>rfl
theorem fw (t:Tr):fy t 0=t.val:=by cases t<;>rfl
theorem cP {t:Tr} {n:Nat} (h:n≠0):fy t n=match Nat.beq (Nat.mod n 2) 1 with | true=>fy t.left (Nat.div n 2) | false=>fy t.right (Nat.sub (Nat.div n 2) 1):=by
 cases t with
 | lf=>split<;>rfl
 | nd v l r =>
   have:Nat.beq n 0=false:=by cases hb:Nat.beq n 0 with | false=>rfl | true=>exact absurd (Nat.eq_of_beq_eq_true hb) h
   simp only [getT_nd,this,Tr.left,Tr.right]
theorem beq1 (n:Nat):(Nat.beq (Nat.mod n 2) 1=true∧n % 2=1)∨(Nat.beq (Nat.mod n 2) 1=false∧n % 2=0):=by
 rcases Nat.mod_two_eq_zero_or_one n with h | h
 ·exact .inr ⟨by show Nat.beq (n % 2) 1=false;rw [h];rfl,h⟩
 ·exact .inl ⟨by show Nat.beq (n % 2) 1=true;rw [h];rfl,h⟩
theorem mP:∀ (k:Nat) (t:Tr) (n m:Nat) (c:Cell),n≤k→fy (iQ k t n c) m=if m=n then some c else fy t m
 | 0, t, n, m, c, h => by
   obtain rfl:n=0:=by omega
   by_cases hm:m=0
   ·subst hm;rfl
   ·rw [if_neg hm,cP hm,cP hm];rfl
 | k + 1, t, n, m, c, h => by
   by_cases hn:n=0
   ·subst hn
    by_cases hm:m=0
    ·subst hm;rfl
    ·rw [if_neg hm,cP hm,cP hm];rfl
   ·have hb:Nat.beq n 0=false:=by cases hb:Nat.beq n 0 with | false=>rfl | true=>exact absurd (Nat.eq_of_beq_eq_true hb) hn
    have hd:n / 2<n:=by omega
    rcases beq1 n with ⟨h1,h2⟩ | ⟨h1,h2⟩
    ·have e:iQ (k+1) t n c=.nd t.val (iQ k t.left (Nat.div n 2) c) t.right:=by simp only [putT_s,hb,h1]
     rw [e]
     by_cases hm:m=0
     ·subst hm;rw [if_neg (fun e=>hn e.symm),fw,fw];rfl
     ·rw [cP hm,cP hm]
      show (match Nat.beq (Nat.mod m 2) 1 with | true=>fy (iQ k t.left (Nat.div n 2) c) (Nat.div m 2) | false=>fy t.right (Nat.sub (Nat.div m 2) 1))=_
      rcases beq1 m with ⟨g1,g2⟩ | ⟨g1,g2⟩
      ·simp only [g1]
       rw [mP k t.left _ _ c (by show n / 2≤k;omega)]
       have:(Nat.div m 2=Nat.div n 2)↔m=n:=by show m / 2=n / 2↔m=n;omega
       simp only [this]
      ·simp only [g1]
       rw [if_neg (by omega)]
    ·have e:iQ (k+1) t n c=.nd t.val t.left (iQ k t.right (Nat.sub (Nat.div n 2) 1) c):=by simp only [putT_s,hb,h1]
     rw [e]
     by_cases hm:m=0
     ·subst hm;rw [if_neg (fun e=>hn e.symm),fw,fw];rfl
     ·rw [cP hm,cP hm]
      show (match Nat.beq (Nat.mod m 2) 1 with | true=>fy t.left (Nat.div m 2) | false=>fy (iQ k t.right (Nat.sub (Nat.div n 2) 1) c) (Nat.sub (Nat.div m 2) 1))=_
      rcases beq1 m with ⟨g1,g2⟩ | ⟨g1,g2⟩
      ·simp only [g1]
       rw [if_neg (by omega)]
      ·simp only [g1]
       rw [mP k t.right _ _ c (by show n / 2 - 1≤k;omega)]
       have:(Nat.sub (Nat.div m 2) 1=Nat.sub (Nat.div n 2) 1)↔m=n:=by show m / 2 - 1=n / 2 - 1↔m=n;omega
       simp only [this]
def mapT (f:Cell→Cell):Tr→Tr
 | .lf=>.lf
 | .nd v l r=>.nd (v.map f) (mapT f l) (mapT f r)
theorem mQ {f:Cell→Cell}:∀ {t:Tr} {n:Nat},fy (mapT f t) n=(fy t n).map f
 | .lf,n=>rfl
 | .nd v l r, n => by
   by_cases hn:n=0
   ·subst hn;rw [fw,fw];rfl
   ·rw [cP hn,cP hn]
    simp only [mapT,Tr.left,Tr.right]
    split
    ·exact mQ
    ·exact mQ
structure St where
 s:Tr
 b:Tr
 t:Tr
noncomputable def lkT (z:St):Loc→Option Cell
 | .s n=>fy z.s n
 | .b n=>fy z.b n
 | .t n=>fy z.t n
noncomputable def put1 (z:St):Loc→Cell→St
 | .s n,c=>match z with | ⟨a,b,t⟩=>⟨iQ n a n c,b,t⟩
 | .b n,c=>match z with | ⟨a,b,t⟩=>⟨a,iQ n b n c,t⟩
 | .t n,c=>match z with | ⟨a,b,t⟩=>⟨a,b,iQ n t n c⟩
noncomputable def apT:Log→St→St
 | [],z=>z
 | (k,c)::r,z=>put1 (apT r z) k c
def thawT (b sz n:Nat) (ch:List (List Data)) (z:St):St:=⟨mapT (gh b sz n ch) z.s,mapT (gh b sz n ch) z.b,mapT (gh b sz n ch) z.t⟩
theorem ly {z:St} {σ:Log} (h:lkT z=look σ) (k:Loc) (c:Cell):lkT (put1 z k c)=look ((k,c)::σ):=by
 funext l
 have hl:=congrFun h l
 rw [af]
 obtain ⟨a,b,t⟩:=z
 cases k<;>cases l<;>simp only [put1,lkT,mP _ _ _ _ _ (Nat.le_refl _)] at hl ⊢
 case s.s n m=>by_cases e:m=n<;>simp [e,hl,eq_comm]<;>(intro e2;exact absurd e2.symm e)
 case b.b n m=>by_cases e:m=n<;>simp [e,hl,eq_comm]<;>(intro e2;exact absurd e2.symm e)
 case t.t n m=>by_cases e:m=n<;>simp [e,hl,eq_comm]<;>(intro e2;exact absurd e2.symm e)
 all_goals (rw [if_neg (by intro e;cases e)];exact hl)
theorem gc {z:St} {σ:Log} (h:lkT z=look σ):∀ δ:Log,lkT (apT δ z)=look (δ++σ)
 | []=>h
 | (k,c)::r=>ly (gc h r) k c
theorem thawT_lk {z:St} {σ:Log} (h:lkT z=look σ) {b sz n:Nat} {ch:List (List Data)}:lkT (thawT b sz n ch z)=look (iL b sz n ch σ):=by
 funext l
 have hl:=congrFun h l
 rw [fp,← hl]
 cases l<;>simp only [lkT,thawT,mQ]
def St0:St:=⟨.lf,.lf,.lf⟩
theorem St0_lk:lkT St0=look []:=by funext l;cases l<;>rfl
end Go.Abs
