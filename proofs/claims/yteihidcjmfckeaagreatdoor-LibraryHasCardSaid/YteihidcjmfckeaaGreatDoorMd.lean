/- The run over a tree of cells: quick in the kernel. -/
import Derived.Test.YteihidcjmfckeaaGreatDoorMc
import Derived.KernelRfl
set_option linter.all false
namespace Go.Abs
open Go
abbrev Lk := Loc → Option Cell
section runF
variable {R : Type}
def evF (σ : Lk) : Opd → AV
 | .t n => match σ (.s n) with | some (.av v) => v | _ => .bad
 | .c v => v
def evsF (σ : Lk) : List Opd → List AV
 | [] => []
 | o :: r => evF σ o :: evsF σ r
def lkRF (σ : Lk) (st : Bool) (x k : Opd) : Option (Option AV) := match evF σ x, jF st (evF σ k) with
 | .mr b, some q => (match σ (.b b) with
   | some (.bx [.mm ks vs]) => iL q ks vs
   | _ => none)
 | _, _ => none
def upRF (σ : Lk) (st : Bool) (x k v : Opd) : Option (Nat × AV) := match evF σ x, jF st (evF σ k), mval (evF σ v) with
 | .mr b, some q, some v => (match σ (.b b) with
   | some (.bx [.mm ks vs]) => (match iL q ks vs with
     | some _ => some (b, .mm (lO q ks) (lN q v ks vs))
     | none => none)
   | _ => none)
 | _, _, _ => none
def yslF (σ : Lk) (sz : Nat) : AV → Option (Nat × List AV)
 | .sl z e _ => match Nat.beq sz z with
   | true => some (e.length, e.flatten.map aG)
   | false => none
 | .cs z b o m _ _ => match Nat.beq sz z with
   | true => (match σ (.b b) with
     | some (.bx l) => (match isM l with
       | true => none
       | false => (match sub l o (m * sz) with
         | some V => some (m, V)
         | none => none))
     | _ => none)
   | false => none
 | .mx z [] b m _ => match Nat.beq sz z with
   | true => (match σ (.b b) with
     | some (.bx l) => (match isM l with
       | true => none
       | false => (match sub l 0 (m * sz) with
         | some V => some (m, V)
         | none => none))
     | _ => none)
   | false => none
 | _ => none
def zqF (σ : Lk) (sz : Nat) (v : AV) : Bool := match yslF σ sz v with
 | some (m, _) => Nat.beq m 0
 | none => false
def bldXF (σ : Lk) : List (Nat × Nat × Opd) → List AV → (List AV → Option R) → Option R
 | [], z, F => F z
 | (o, n, x) :: r, z, F => aS (flat (evF σ x)) fun v => match Nat.beq v.length n with
   | true => (match aT o v z with | some z => bldXF σ r z F | none => none)
   | false => none
def bslXF (σ : Lk) (sz : Nat) : List Opd → (List (List Data) → Option R) → Option R
 | [], F => F []
 | x :: r, F => aS (flat (evF σ x)) fun v => match bv v with
   | none => none
   | some ds => match Nat.beq ds.length sz with
     | true => bslXF σ sz r fun els => F (ds :: els)
     | false => none
def bslAXF (σ : Lk) (sz : Nat) : List Opd → (List AV → Option R) → Option R
 | [], F => F []
 | x :: r, F => aS (flat (evF σ x)) fun v => match Nat.beq v.length sz with
   | true => bslAXF σ sz r fun vs => F (v ++ vs)
   | false => none
def cI (σ : Lk) (x : Option Opd) (z : Int) (K : Int → Option R) : Option R := match x with
 | none => K z
 | some x => match evF σ x with | .sc (.i _ n) => K n | _ => none
def unHF (σ : Lk) (bs ts : List Nat) : List Nat → Option (List (List AV))
 | [] => some []
 | b :: r => match σ (.b b) with
   | some (.bx l) => (match pr bs ts l with
     | none => none
     | some h => match unHF σ bs ts r with | none => none | some H => some (h :: H))
   | _ => none
def lC (σ : Lk) : List Nat → Bool
 | [] => true
 | k :: r => match σ (.t k) with | some (.tk true) => lC σ r | _ => false
def jt (σ : Lk) : Nat → List Nat → List Nat → List Nat
 | 0, _, l => l
 | _ + 1, [], l => l
 | n + 1, b :: todo, l => match σ (.b b) with
   | some (.bx c) => jt σ n (todo ++ (c.foldl bx2 l).drop l.length) (c.foldl bx2 l)
   | _ => jt σ n todo l
def tk1F (σ : Lk) (l : List Nat) : AV → List Nat
 | .sl _ _ (.t k) => match σ (.t k) with | some (.tk true) => mu k l | _ => l
 | .mx _ _ _ _ (.t k) => match σ (.t k) with | some (.tk true) => mu k l | _ => l
 | .cs _ _ _ _ _ (.t k) => match σ (.t k) with | some (.tk true) => mu k l | _ => l
 | _ => l
def tk2F (σ : Lk) (l : List Nat) : AV → List Nat
 | .fn _ c => c.foldl (tk1F σ) l
 | .agg c => c.foldl (tk1F σ) l
 | v => tk1F σ l v
def tk3F (σ : Lk) (l : List Nat) : AV → List Nat
 | .tup c => c.foldl (tk2F σ) l
 | v => tk2F σ l v
def tkHF (σ : Lk) : List Nat → List Nat → List Nat
 | [], l => l
 | b :: r, l => match σ (.b b) with
   | some (.bx c) => tkHF σ r (c.foldl (tk2F σ) l)
   | _ => tkHF σ r l
def pS (rc : Rec) (σ : Lk) (f : FuncId) (args : List AV) : Option (AV × List (List AV) × List Nat × List Nat) :=
 match jt σ 100 (args.foldl bx2 []) (args.foldl bx2 []) with
 | bs => match tkHF σ bs (args.foldl (tk2F σ) []) with
   | ts => match pr bs ts args, unHF σ bs ts bs with
     | some args', some H => (match rc f args' H with
       | some (res, H') => (match bm bs && bm ts && Nat.ble bs.length H'.length && Nat.ble H'.length (bs.length + 50) && Nat.ble (bs.length + ts.length) 900 && Nat.beq ts.length (cz args' H) &&
          cX bs.length ts.length args' && inH bs.length ts.length H && inR H'.length (ts.length + 50) res && inH H'.length (ts.length + 50) H' && lC σ ts with
         | true => some (res, H', bs, ts)
         | false => none)
       | none => none)
     | _, _ => none
def callXF (rc : Rec) (σ : Lk) (id : Nat) (d : Option Nat) (f : FuncId) (args : List AV) (F : Log → Option R) : Option R :=
 match (match cX 0 0 (args.map aU) with
  | true => (match rc f (args.map aU) [] with
    | some (res, H') => (match inR H'.length 50 res && inH H'.length 50 H' && Nat.ble H'.length 50 && Nat.beq (cz (args.map aU) []) 0 with
      | true => some (res, H')
      | false => none)
    | none => none)
  | false => none) with
 | some (res, []) => F (bp d (ren [] [] id res) ++ bA [] id (toks res))
 | some (res, h :: H') => F (bp d (ren [] [] id res) ++ aK [] [] id 0 (h :: H') ++ bA [] id (toks res ++ ((h :: H').flatMap fun h => h.flatMap aZ)) ++ bh [])
 | none => match pS rc σ f (args.map erS) with
   | some (res, H', bs, ts) => F (bp d (ren bs ts id res) ++ aK bs ts id 0 H' ++ bA ts id (toks res ++ (H'.flatMap fun h => h.flatMap aZ)) ++ bh ts)
   | none => match pS rc σ f args with
     | some (res, H', bs, ts) => F (bp d (ren bs ts id res) ++ aK bs ts id 0 H' ++ bA ts id (toks res ++ (H'.flatMap fun h => h.flatMap aZ)) ++ bh ts)
     | none => none
def effXF (rc : Rec) (σ : Lk) (id : Nat) : AOp → (Log → Option R) → Option R
 | .mv d x, F => fM (evF σ x) fun v => F [(.s d, .av v)]
 | .pick d c a b, F => match evF σ c with
   | .sc (.b t) => (match t with
     | false => fM (evF σ b) fun v => F [(.s d, .av v)]
     | true => fM (evF σ a) fun v => F [(.s d, .av v)])
   | _ => none
 | .box d x, F => aS (flat (evF σ x)) fun l => F [(.s d, .av (.ptr id 0)), (.b id, .bx l)]
 | .alloc d z, F => F [(.s d, .av (.ptr id 0)), (.b id, .bx z)]
 | .build d z ps, F => bldXF σ ps z fun z => aS z fun z => F [(.s d, .av (.agg z))]
 | .bsl d sz xs, F => bslXF σ sz xs fun els => F [(.s d, .av (.sl sz els .full))]
 | .ld d n ag a, F => match evF σ a with
  | .ptr b o => (match σ (.b b) with
    | some (.bx l) => (match isM l with
      | true => none
      | false => lG d ag (sub l o n) F)
    | _ => none)
  | .elp l o => lG d ag (sub (l.map aG) o n) F
  | _ => none
 | .st a n x, F => match evF σ a with
  | .ptr b o => (match σ (.b b) with
    | some (.bx l) => (match isM l with
      | true => none
      | false => aS (flat (evF σ x)) fun v => (match Nat.beq v.length n with
        | true => (match aT o v l with | some l => aS l fun l => F [(.b b, .bx l)] | none => none)
        | false => none))
    | _ => none)
  | _ => none
 | .nc d x, F => match evF σ x with
  | .ptr b o => F [(.s d, .av (.ptr b o))]
  | .elp b o => F [(.s d, .av (.elp b o))]
  | .fn b o => F [(.s d, .av (.fn b o))]
  | .fb f b o => F [(.s d, .av (.fb f b o))]
  | _ => none
 | .bin d o x y, F => binX o (evF σ x) (evF σ y) fun v => F [(.s d, .av v)]
 | .binB d neg x y, F => match evF σ x, evF σ y with
  | .sc (.b a), .sc (.b b) => (match neg with
    | true => F [(.s d, .av (.sc (.b (a != b))))]
    | false => F [(.s d, .av (.sc (.b (a == b))))])
  | _, _ => none
 | .no d x, F => match evF σ x with | .sc (.b t) => F [(.s d, .av (.sc (.b (!t))))] | _ => none
 | .fa d x off, F => match evF σ x with
  | .ptr b o => F [(.s d, .av (.ptr b (o + off)))]
  | .elp l o => F [(.s d, .av (.elp l (o + off)))]
  | _ => none
 | .fld d x off n ag, F => match evF σ x with
  | .agg l => lG d ag (sub l off n) F
  | _ => none
 | .ia d sz x i, F => match evF σ x, evF σ i with
  | .sl z els _, .sc (.i _ n) => (match Nat.beq sz z with
    | true => (match els[n.toNat]? with
      | some e => tst (leI 0 n) (F [(.s d, .av (.elp e 0))])
      | none => none)
    | false => none)
  | .mx z els b m _, .sc (.i _ n) => (match Nat.beq sz z with
    | true => tst (leI 0 n && Nat.ble els.length n.toNat && Nat.blt n.toNat (els.length + m)) (F [(.s d, .av (.ptr b ((n.toNat - els.length) * sz)))])
    | false => none)
  | .cs z b o m _ _, .sc (.i _ n) => (match Nat.beq sz z with
    | true => tst (leI 0 n && Nat.blt n.toNat m) (F [(.s d, .av (.ptr b (o + n.toNat * sz)))])
    | false => none)
  | _, _ => none
 | .ix d x i, F => match evF σ x, evF σ i with
  | .sc (.s l), .sc (.i _ n) => (match l[n.toNat]? with
    | some e => tst (leI 0 n) (F [(.s d, .av (.sc (.i .u8 e.toNat)))])
    | none => none)
  | _, _ => none
 | .slS d x lo hi, F => match evF σ x with
  | .sc (.s l) => cI σ lo 0 fun a => cI σ hi l.length fun b =>
   tst (leI 0 a && leI a b && leI b l.length) (F [(.s d, .av (.sc (.s ((l.drop a.toNat).take (b.toNat - a.toNat)))))])
  | _ => none
 | .slL d sz x lo hi mx, F => match evF σ x with
  | .mx z [] b n t => (match Nat.beq sz z with
    | true => (match lo, hi, mx, σ (.b b) with
      | none, some hi, none, some (.bx l) => cI σ (some hi) 0 fun c => tst (decide (c = 0) && Nat.beq l.length (n * sz) && !isM l) (match t with
        | .none => none
        | .full => F [(.s d, .av (.sl z [] (.t id))), (.t id, .tk true), (.b b, .tk false)]
        | .t k => (match σ (.t k) with
          | some (.tk true) => F [(.s d, .av (.sl z [] (.t id))), (.t id, .tk true), (.b b, .tk false), (.t k, .tk false)]
          | _ => none))
      | _, _, _, _ => none)
    | false => none)
  | .sl z els t => (match Nat.beq sz z with
    | true => cI σ lo 0 fun a => cI σ hi els.length fun b => match mx with
      | none => tst (leI 0 a && leI a b && leI b els.length) (match decide (b = els.length) with
        | true => F [(.s d, .av (.sl z ((els.drop a.toNat).take (b.toNat - a.toNat)) t))]
        | false => F [(.s d, .av (.sl z ((els.drop a.toNat).take (b.toNat - a.toNat)) .none))])
      | some _ => cI σ mx 0 fun c => tst (leI 0 a && leI a b && decide (b = c) && leI b els.length) (F [(.s d, .av (.sl z ((els.drop a.toNat).take (b.toNat - a.toNat)) .full))])
    | false => none)
  | .cs z b o n c t => (match Nat.beq sz z with
    | true => cI σ lo 0 fun p => cI σ hi n fun q => (match mx with
      | none => tst (leI 0 p && leI p q && leI q c) (match decide (p < c) with
        | true => F [(.s d, .av (.cs z b (o + p.toNat * sz) (q.toNat - p.toNat) (c - p.toNat) t))]
        | false => F [(.s d, .av (.sl z [] (tokE t)))])
      | some _ => cI σ mx 0 fun r => tst (decide (p = 0) && decide (q = 0) && decide (r = 0)) (F [(.s d, .av (.sl z [] .full))]))
    | false => none)
  | _ => none
 | .cvi d k x, F => match evF σ x with | .sc (.i _ n) => tst (iK k n) (F [(.s d, .av (.sc (.i k n)))]) | _ => none
 | .ext d x i, F => match evF σ x with
  | .tup l => (match l[i]? with | some v => fM v fun v => F [(.s d, .av v)] | none => none)
  | _ => none
 | .call d f as_, F => match evF σ f with
  | .fn f caps => callXF rc σ id d f (evsF σ as_ ++ caps) F
  | .fb f b o => callXF rc σ id d f (.ptr b o :: evsF σ as_) F
  | _ => none
 | .app d sz by_ a x, F => match evF σ a, evF σ x with
  | .sl z e1 t1, .sl z' e2 _ => (match Nat.beq sz z, Nat.beq sz z' with
    | true, true => (match t1 with
      | .none => none
      | .full => tst (bt (e1.length + e2.length) by_) (F [(.s d, .av (.sl sz (e1 ++ e2) (.t id))), (.t id, .tk true)])
      | .t k => (match σ (.t k) with
        | some (.tk true) => tst (bt (e1.length + e2.length) by_) (F [(.s d, .av (.sl sz (e1 ++ e2) (.t id))), (.t id, .tk true), (.t k, .tk false)])
        | _ => none))
    | _, _ => none)
  | _, _ => none
 | .len d x, F => match evF σ x with
  | .sl _ els _ => F [(.s d, .av (.sc (.i .i64 els.length)))]
  | .mx _ els _ n _ => F [(.s d, .av (.sc (.i .i64 (els.length + n : Nat))))]
  | .cs _ _ _ n _ _ => F [(.s d, .av (.sc (.i .i64 n)))]
  | _ => none
 | .lenS d x, F => match evF σ x with
  | .sc (.s l) => F [(.s d, .av (.sc (.i .i64 l.length)))]
  | _ => none
 | .mx d x y, F => match evF σ x, evF σ y with
  | .sc (.i .i64 a), .sc (.i .i64 b) => F [(.s d, .av (.sc (.i .i64 (max a b))))]
  | _, _ => none
 | .rngE d x, F => match evF σ x with
  | .mr b => (match σ (.b b) with
    | some (.bx [.mm [] []]) => F [(.s d, .av (.ptr id 0)), (.b id, .bx [.mpv (.ie b)])]
    | _ => none)
  | _ => none
 | .nxtE d x, F => match evF σ x with
  | .ptr i 0 => (match σ (.b i) with
    | some (.bx [.mpv (.ie b)]) => (match σ (.b b) with
      | some (.bx [.mm [] []]) => F [(.s d, .av (.tup [.sc (.b false)]))]
      | _ => none)
    | _ => none)
  | _ => none
 | .eqN d ng x, F => match evF σ x with
  | .sl _ (_ :: _) _ => F [(.s d, .av (.sc (.b ng)))]
  | .cs _ _ _ _ _ _ => F [(.s d, .av (.sc (.b ng)))]
  | .mx _ _ _ _ _ => F [(.s d, .av (.sc (.b ng)))]
  | _ => none
 | .bslZ d sz, F => F [(.s d, .av (.sl sz [] .full))]
 | .mkC d sz by_ z x, F => match evF σ x with
  | .sc (.i .i64 n) => tst (leI 0 n && bt n.toNat by_) (aS (List.replicate n.toNat z).flatten fun L => F [(.s d, .av (.cs sz id 0 n.toNat n.toNat .full)), (.b id, .bx L)])
  | _ => none
 | .cpy d sz x y, F => match evF σ x with
  | .cs q b o n _ _ => (match Nat.beq sz q with
    | true => (match zqF σ sz (evF σ y) with
      | true => F (bp d (.sc (.i .i64 0)))
      | false => (match yslF σ sz (evF σ y), σ (.b b) with
        | some (m, V), some (.bx l) => (match isM l with
          | true => none
          | false => (match di (Nat.min m n * sz) V with
            | some V' => (match aT o V' l with
              | some l' => tst (Nat.blt 0 m) (aS l' fun L => F (bp d (.sc (.i .i64 (Nat.min m n : Nat))) ++ [(.b b, .bx L)]))
              | none => none)
            | none => none))
        | _, _ => none))
    | false => none)
  | _ => none
 | .mn d x y, F => match evF σ x, evF σ y with
  | .sc (.i .i64 a), .sc (.i .i64 b) => F [(.s d, .av (.sc (.i .i64 (min a b))))]
  | _, _ => none
 | .mkf d f caps, F => aS (evsF σ caps) fun caps => F [(.s d, .av (.fn f caps))]
 | .mkfb d f x, F => match evF σ x with
  | .ptr b o => F [(.s d, .av (.fb f b o))]
  | _ => none
 | .mk d sz by_ z x, F => match evF σ x with
  | .sc (.i .i64 n) => tst (leI 0 n && bt n.toNat by_) (F [(.s d, .av (.mx sz [] id n.toNat .full)), (.b id, .bx (List.replicate n.toNat z).flatten)])
  | _ => none
 | .mkF d sz by_ z x, F => match evF σ x with
  | .sc (.i .i64 n) => tst (leI 0 n && bt n.toNat by_) (F [(.s d, .av (.sl sz (List.replicate n.toNat z) .full))])
  | _ => none
 | .bslM d sz xs, F => bslAXF σ sz xs fun vs => F [(.s d, .av (.cs sz id 0 xs.length xs.length .full)), (.b id, .bx vs)]
 | .appM d sz by_ a x, F => match evF σ a, evF σ x with
  | .sl z e1 t1, .sl z' e2 _ => (match Nat.beq sz z, Nat.beq sz z' with
    | true, true => (match t1 with
      | .none => none
      | .full => tst (Nat.blt 0 e2.length && bt (e1.length + e2.length) by_) (F [(.s d, .av (.mx sz e1 (id + 1) e2.length (.t (id + 1)))), (.b (id + 1), .bx (e2.flatten.map aG)), (.t (id + 1), .tk true), (.t id, .tk false), (.t id, .tk true)])
      | .t k => (match σ (.t k) with
        | some (.tk true) => tst (Nat.blt 0 e2.length && bt (e1.length + e2.length) by_) (F [(.s d, .av (.mx sz e1 (id + 1) e2.length (.t (id + 1)))), (.b (id + 1), .bx (e2.flatten.map aG)), (.t (id + 1), .tk true), (.t id, .tk false), (.t id, .tk true), (.t k, .tk false)])
        | _ => none))
    | _, _ => none)
  | _, _ => none
 | .cap d x, F => match evF σ x with
  | .sl _ els .full => F [(.s d, .av (.sc (.i .i64 els.length)))]
  | .mx _ els _ n .full => F [(.s d, .av (.sc (.i .i64 (els.length + n : Nat))))]
  | _ => none
 | .iaG d cells sz x, F => match evF σ x with
  | .sc (.i _ n) => tst (leI 0 n && Nat.ble (n.toNat * sz + sz) cells.length) (F [(.s d, .av (.elp cells (n.toNat * sz)))])
  | _ => none
 | .eqA d ng ks x y, F => match evF σ x, evF σ y with
  | .agg l, .agg m => (match eqL ks l m with
    | some b => (match ng with
      | true => F [(.s d, .av (.sc (.b (!b))))]
      | false => F [(.s d, .av (.sc (.b b)))])
    | none => none)
  | _, _ => none
 | .appZ d sz by_ z a x, F => match evF σ a, evF σ x with
  | .sl q [] .full, .sc (.i .i64 n) => (match Nat.beq sz q with
    | true => tst (leI 1 n && bt n.toNat by_) (F [(.s d, .av (.mx sz [] (id + 1) n.toNat (.t (id + 1)))), (.b (id + 1), .bx ((List.replicate n.toNat z).flatten.map aG)), (.t (id + 1), .tk true), (.t id, .tk false), (.t id, .tk true)])
    | false => none)
  | _, _ => none
 | .mkM d, F => F [(.s d, .av (.mr id)), (.b id, .bx [.mpv (.m [])])]
 | .lkM d z x k, F => match evF σ x, evF σ k with
  | .mr b, .sc (.i .i64 n) => (match σ (.b b) with
    | some (.bx [.mpv (.m es)]) => (match fQ n es with
      | some ds => F [(.s d, .av (.tup [.agg (ds.map aG), .sc (.b true)]))]
      | none => F [(.s d, .av (.tup [.agg (z.map aG), .sc (.b false)]))])
    | _ => none)
  | _, _ => none
 | .upM x k v, F => match evF σ x, evF σ k with
  | .mr b, .sc (.i .i64 n) => (match σ (.b b) with
    | some (.bx [.mpv (.m es)]) => (match evF σ v with
      | .agg l => aS l fun l => (match bv l with
        | some ds => F [(.b b, .bx [.mpv (.m (j0 n ds es))])]
        | none => none)
      | _ => none)
    | _ => none)
  | _, _ => none
 | .appC d sz by_ a x, F => match zqF σ sz (evF σ x) with
   | true => (match app0 sz (evF σ a) with
     | true => fM (evF σ a) fun v => F [(.s d, .av v)]
     | false => none)
   | false => match yslF σ sz (evF σ x) with
     | none => none
     | some (m, V) => (match evF σ a with
       | .sl z e1 .full => (match Nat.beq sz z with
         | true => tst (Nat.blt 0 m && bt (e1.length + m) by_) (aS (e1.flatten.map aG ++ V) fun L => F [(.s d, .av (.cs sz (id + 1) 0 (e1.length + m) (e1.length + m) (.t (id + 1)))), (.b (id + 1), .bx L), (.t (id + 1), .tk true), (.t id, .tk false), (.t id, .tk true)])
         | false => none)
       | .cs z b o n c t => (match Nat.beq sz z with
         | true => (match σ (.b b) with
           | some (.bx l) => (match isM l with
             | true => none
             | false => (match Nat.ble (n + m) c with
               | true => (match aT (o + n * sz) V l with
                 | some l' => tst (Nat.blt 0 m) (F [(.s d, .av (.cs sz b o (n + m) c t)), (.b b, .bx l')])
                 | none => none)
               | false => (match sub l o (n * sz) with
                 | none => none
                 | some l0 => (match t with
                   | .none => none
                   | .full => tst (Nat.blt 0 m && bt (n + m) by_) (aS (l0 ++ V) fun L => F [(.s d, .av (.cs sz (id + 1) 0 (n + m) (n + m) (.t (id + 1)))), (.b (id + 1), .bx L), (.t (id + 1), .tk true), (.t id, .tk false), (.t id, .tk true)])
                   | .t k => (match σ (.t k) with
                     | some (.tk true) => tst (Nat.ble (o + c * sz) l.length && Nat.blt 0 m && bt (n + m) by_) (aS (l0 ++ V) fun L => F [(.s d, .av (.cs sz (id + 1) 0 (n + m) (n + m) (.t (id + 1)))), (.b b, .bx []), (.b (id + 1), .bx L), (.t (id + 1), .tk true), (.t (id + 2), .tk false), (.t (id + 2), .tk true), (.t id, .tk false), (.t id, .tk true), (.b b, .tk false), (.t k, .tk false)])
                     | _ => none)))))
           | _ => none)
         | false => none)
       | _ => none)
 | .clrC sz z x, F => match evF σ x with
  | .cs q b o n _ _ => (match Nat.beq sz q with
    | true => (match σ (.b b) with
      | some (.bx l) => (match isM l with
        | true => none
        | false => (match aT o (List.replicate n z).flatten l with
          | some l' => tst (Nat.blt 0 n) (F [(.b b, .bx l')])
          | none => none))
      | _ => none)
    | false => none)
  | _ => none
 | .eqP d fn neg x y, F => match fn, evF σ x, evF σ y with
  | false, .ptr b o, .ptr b' o' => (match Nat.beq b b' with
    | true => F [(.s d, .av (.sc (.b (xor (Nat.beq o o') neg))))]
    | false => none)
  | false, .ptr _ _, .sc .np => F [(.s d, .av (.sc (.b neg)))]
  | false, .elp _ _, .sc .np => F [(.s d, .av (.sc (.b neg)))]
  | false, .sc .np, .ptr _ _ => F [(.s d, .av (.sc (.b neg)))]
  | false, .sc .np, .sc .np => F [(.s d, .av (.sc (.b (!neg))))]
  | true, .fn _ _, .sc .nf => F [(.s d, .av (.sc (.b neg)))]
  | true, .sc .nf, .sc .nf => F [(.s d, .av (.sc (.b (!neg))))]
  | _, _, _ => none
 | .rngS d x, F => match evF σ x with
  | .sc (.s l) => F [(.s d, .av (.ptr id 0)), (.b id, .bx [.mpv (.it l 0)])]
  | _ => none
 | .mkS d, F => F [(.s d, .av (.mr id)), (.b id, .bx [.mm [] []])]
 | .lkS d ok st z x k, F => (match lkRF σ st x k with
  | some r => F [(.s d, .av (lkV ok z r))]
  | none => none)
 | .upS st x k v, F => (match upRF σ st x k v with
  | some (b, m) => F [(.b b, .bx [m])]
  | none => none)
 | .nxtS d x, F => match evF σ x with
  | .ptr b 0 => (match σ (.b b) with
    | some (.bx [.mpv (.it l p)]) => (match l[p]? with
      | none => tst (Nat.ble l.length p) (F [(.s d, .av (.tup [.sc (.b false)])), (.b b, .bx [.mpv (.it l p)])])
      | some c => tst (Nat.blt c.toNat 128) (F [(.s d, .av (.tup [.sc (.b true), .sc (.i .i64 p), .sc (.i .i32 c.toNat)])), (.b b, .bx [.mpv (.it l (p + 1))])]))
    | _ => none)
  | _ => none
def rdF (σ : Lk) : AOp → List Loc
 | .mv _ x => al x
 | .pick _ c a b => al c ++ al a ++ al b
 | .box _ x => al x
 | .alloc _ _ => []
 | .build _ _ ps => bU (ps.map fun p => p.2.2)
 | .bsl _ _ xs => bU xs
 | .ld _ _ _ a => al a ++ (match evF σ a with | .ptr b _ => [.b b] | _ => [])
 | .st a _ x => al a ++ al x
 | .nc _ x => al x
 | .bin _ _ x y => al x ++ al y
 | .binB _ _ x y => al x ++ al y
 | .no _ x => al x
 | .fa _ x _ => al x
 | .fld _ x _ _ _ => al x
 | .ia _ _ x i => al x ++ al i
 | .ix _ x i => al x ++ al i
 | .slS _ x lo hi => al x ++ jX lo ++ jX hi
 | .slL _ _ x lo hi m => al x ++ jX lo ++ jX hi ++ jX m
 | .cvi _ _ x => al x
 | .ext _ x _ => al x
 | .call _ f as_ => al f ++ bU as_
 | .app _ _ _ s x => al s ++ al x
 | .len _ x => al x
 | .lenS _ x => al x
 | .mx _ x y => al x ++ al y
 | .mn _ x y => al x ++ al y
 | .eqN _ _ x => al x
 | .bslZ _ _ => []
 | .mkC _ _ _ _ x => al x
 | .cpy _ _ x y => al x ++ al y ++ bxR (evF σ y)
 | .mkf _ _ c => bU c
 | .mkfb _ _ x => al x
 | .mk _ _ _ _ x => al x
 | .mkF _ _ _ _ x => al x
 | .bslM _ _ xs => bU xs
 | .appM _ _ _ s x => al s ++ al x
 | .cap _ x => al x
 | .iaG _ _ _ x => al x
 | .eqA _ _ _ x y => al x ++ al y
 | .appZ _ _ _ _ s x => al s ++ al x
 | .mkM _ => []
 | .lkM _ _ x k => al x ++ al k ++ (match evF σ x with | .mr b => [.b b] | _ => [])
 | .upM x k v => al x ++ al k ++ al v
 | .appC _ _ _ s x => al s ++ al x ++ bxR (evF σ s) ++ bxR (evF σ x)
 | .clrC _ _ x => al x
 | .eqP _ _ _ x y => al x ++ al y
 | .rngS _ x => al x
 | .nxtS _ x => al x
 | .rngE _ x => al x ++ (match evF σ x with | .mr b => [.b b] | _ => [])
 | .nxtE _ x => al x ++ (match evF σ x with | .ptr i _ => .b i :: (match σ (.b i) with | some (.bx [.mpv (.ie b)]) => [.b b] | _ => []) | _ => [])
 | .mkS _ => []
 | .lkS _ _ _ _ x k => al x ++ al k ++ (match evF σ x with | .mr b => [.b b] | _ => [])
 | .upS _ x k v => al x ++ al k ++ al v
def sameKF (σ' σ : Lk) (k : Loc) : Bool := match σ' k, σ k with
 | some (.bx l), some (.bx m) => dK (fi 4) l m
 | some (.tk true), some (.tk true) => true
 | some (.tk false), some (.tk false) => true
 | _, _ => false
def b7 (σ' σ : Lk) : List Loc → List Loc
 | [] => []
 | .s _ :: r => b7 σ' σ r
 | k :: r => match sameKF σ' σ k with | true => k :: b7 σ' σ r | false => b7 σ' σ r
def resLXF (σ : Lk) : List (Nat × Nat) → (List AV → Option R) → Option R
 | [], K => K []
 | (r, 0) :: t, K => resLXF σ t fun l => K (evF σ (.t r) :: l)
 | (r, n + 1) :: t, K => match evF σ (.t r) with
   | .ptr b 0 => (match σ (.b b) with
     | some (.bx l) => (match isM l with
       | true => none
       | false => (match Nat.beq l.length (n + 1) with
         | true => resLXF σ t fun r => K (.agg l :: r)
         | false => none))
     | _ => none)
   | _ => none
def cM (σ : Lk) (rs : List (Nat × Nat)) (K : AV → Option R) : Option R := resLXF σ rs fun l => match l with
 | [v] => K v
 | l => K (.tup l)
def finXF (σ : Lk) (v : AV) (nb nt : Nat) : Option (AV × List (List AV)) :=
 match jt σ 100 (bx3 (upN nb) v) (bx3 (upN nb) v) with
 | bs => match tkHF σ bs (tk3F σ (upN nt) v) with
   | ts => match un3 bs ts v, unHF σ bs ts bs with
     | some res, some H' => tst (bm bs && bm ts && (bs.take nb == upN nb) && (ts.take nt == upN nt) && inR bs.length ts.length res && inH bs.length ts.length H' &&
      lC σ ((toks res ++ H'.flatMap fun h => h.flatMap aZ).map (rb ts 0))) (some (res, H'))
     | _, _ => none
end runF
end Go.Abs
namespace Go.Abs
open Go
section
variable {R : Type} {σ : Log} {rc : Rec}
theorem evF_eq : evF (look σ) = ev σ := by kernel_rfl
theorem pB : rdF (look σ) = AOp.rd σ := by kernel_rfl
theorem keepKF_eq {σ' : Log} : b7 (look σ') (look σ) = lM σ' σ := by kernel_rfl
theorem dw : @cM R (look σ) = @resPX R σ := by kernel_rfl
end
end Go.Abs
