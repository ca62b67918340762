/- The abstract machine run: where the inputs are given outright, the kernel walks. -/
import Derived.Test.YthmcdebdkbhbmaaGreatDoorA18
namespace Go.Abs
open Go

section run
variable {R : Type}

def frcX (v : AV) (F : AV → Option R) : Option R := match v with
  | .bad => none
  | v => F v
def frc1X (v : AV) (F : AV → Option R) : Option R := match v with
  | .sc c => F (.sc c)
  | .sl a b c => F (.sl a b c)
  | .ptr a b => F (.ptr a b)
  | .elp a b => F (.elp a b)
  | .mx a b c d e => F (.mx a b c d e)
  | .fn a b => F (.fn a b)
  | _ => none
def frcLX : List AV → (List AV → Option R) → Option R
  | [], F => F []
  | v :: r, F => frc1X v fun v => frcLX r fun r => F (v :: r)

def tst (b : Bool) (F : Option R) : Option R := match b with | true => F | false => none

def binSX : Bin → List UInt8 → List UInt8 → (AV → Option R) → Option R
  | .eql, a, b, K => K (.sc (.b (beqL a b)))
  | .neq, a, b, K => K (.sc (.b (!beqL a b)))
  | .add, a, b, K => tst (Nat.ble (a.length + b.length) 9223372036854775807) (K (.sc (.s (a ++ b))))
  | _, _, _, _ => none

def leI (a b : Int) : Bool := decide (a ≤ b)
def fitsB : IntKind → Int → Bool
  | .i64, n => leI (-9223372036854775808) n && leI n 9223372036854775807
  | .u8, n => leI 0 n && leI n 255
  | _, _ => false
def roomB (n by_ : Nat) : Bool := Nat.ble n 9223372036854775807 && Nat.ble (n * by_) 140737488355328

def binIX : Bin → IntKind → Int → Int → (AV → Option R) → Option R
  | .add, k, a, b, K => tst (fitsB k (a + b)) (K (.sc (.i k (a + b))))
  | .sub, k, a, b, K => tst (fitsB k (a - b)) (K (.sc (.i k (a - b))))
  | .mul, k, a, b, K => tst (fitsB k (a * b)) (K (.sc (.i k (a * b))))
  | .quo, k, a, b, K => tst (fitsB k a && leI 0 a && leI 1 b) (K (.sc (.i k (a / b))))
  | .rem, k, a, b, K => tst (leI 0 a && leI 1 b) (K (.sc (.i k (a % b))))
  | .eql, _, a, b, K => K (.sc (.b (decide (a = b))))
  | .neq, _, a, b, K => K (.sc (.b (!decide (a = b))))
  | .lss, _, a, b, K => K (.sc (.b (decide (a < b))))
  | .leq, _, a, b, K => K (.sc (.b (decide (a ≤ b))))
  | .gtr, _, a, b, K => K (.sc (.b (decide (b < a))))
  | .geq, _, a, b, K => K (.sc (.b (decide (b ≤ a))))
  | .and, k, a, b, K => K (.sc (.i k (bits .and k a b)))
  | .or, k, a, b, K => K (.sc (.i k (bits .or k a b)))
  | .xor, k, a, b, K => K (.sc (.i k (bits .xor k a b)))
  | .andNot, k, a, b, K => K (.sc (.i k (bits .andNot k a b)))

def binX (o : Bin) (x y : AV) (K : AV → Option R) : Option R :=
  match x, y with
  | .sc (.i k a), .sc (.i k' b) => match ikBeq k k' with | true => binIX o k a b K | false => none
  | .sc (.s a), .sc (.s b) => binSX o a b K
  | _, _ => none

def ldvX (d : Nat) (ag : Bool) (l : Option (List AV)) (F : Log → Option R) : Option R := match l with
  | none => none
  | some l => match ag with
    | true => frcLX l fun l => F [(.s d, .av (.agg l))]
    | false => match l with
      | [v] => frc1X v fun v => F [(.s d, .av v)]
      | _ => none

def bldX (σ : Log) : List (Nat × Nat × Opd) → List AV → (List AV → Option R) → Option R
  | [], z, F => F z
  | (o, n, x) :: r, z, F => frcLX (flat (ev σ x)) fun v => match Nat.beq v.length n with
    | true => (match splice o v z with | some z => bldX σ r z F | none => none)
    | false => none

def bslX (σ : Log) (sz : Nat) : List Opd → (List (List Data) → Option R) → Option R
  | [], F => F []
  | x :: r, F => frcLX (flat (ev σ x)) fun v => match cellsD v with
    | none => none
    | some ds => match Nat.beq ds.length sz with
      | true => bslX σ sz r fun els => F (ds :: els)
      | false => none

def optX (σ : Log) (x : Option Opd) (z : Int) (K : Int → Option R) : Option R := match x with
  | none => K z
  | some x => match ev σ x with | .sc (.i _ n) => K n | _ => none

def idx : List Nat → Nat → Nat → Option Nat
  | [], _, _ => none
  | x :: r, k, i => match Nat.beq x k with | true => some i | false => idx r k (i + 1)

def un1 (bs ts : List Nat) : AV → Option AV
  | .sl z e (.t k) => match idx ts k 0 with | some i => some (.sl z e (.t i)) | none => some (.sl z e .none)
  | .ptr b o => match idx bs b 0 with | some i => some (.ptr i o) | none => none
  | .mx z e b n (.t k) => match idx bs b 0 with
    | some i => (match idx ts k 0 with | some j => some (.mx z e i n (.t j)) | none => some (.mx z e i n .none))
    | none => none
  | .mx z e b n t => match idx bs b 0 with | some i => some (.mx z e i n t) | none => none
  | v => some v
def unL1 (bs ts : List Nat) : List AV → Option (List AV)
  | [] => some []
  | x :: r => match un1 bs ts x with | none => none | some y => match unL1 bs ts r with | none => none | some s => some (y :: s)
def un2 (bs ts : List Nat) : AV → Option AV
  | .fn f c => match unL1 bs ts c with | none => none | some c => some (.fn f c)
  | .agg l => match unL1 bs ts l with | none => none | some c => some (.agg c)
  | v => un1 bs ts v
def unL2 (bs ts : List Nat) : List AV → Option (List AV)
  | [] => some []
  | x :: r => match un2 bs ts x with | none => none | some y => match unL2 bs ts r with | none => none | some s => some (y :: s)
def un3 (bs ts : List Nat) : AV → Option AV
  | .tup l => match unL2 bs ts l with | none => none | some c => some (.tup c)
  | v => un2 bs ts v

def unH (σ : Log) (bs ts : List Nat) : List Nat → Option (List (List AV))
  | [] => some []
  | b :: r => match look σ (.b b) with
    | some (.bx l) => (match unL2 bs ts l with
      | none => none
      | some h => match unH σ bs ts r with | none => none | some H => some (h :: H))
    | _ => none

def liveB (σ : Log) : List Nat → Bool
  | [] => true
  | k :: r => match look σ (.t k) with | some (.tk true) => liveB σ r | _ => false

def addN (x : Nat) (l : List Nat) : List Nat := match l.contains x with | true => l | false => l ++ [x]

/-- the boxes named -/
def bx1 (l : List Nat) : AV → List Nat
  | .ptr b _ => addN b l
  | .mx _ _ b _ _ => addN b l
  | _ => l
def bx2 (l : List Nat) : AV → List Nat
  | .fn _ c => c.foldl bx1 l
  | .agg c => c.foldl bx1 l
  | v => bx1 l v
def bx3 (l : List Nat) : AV → List Nat
  | .tup c => c.foldl bx2 l
  | v => bx2 l v
def bxAll (σ : Log) : Nat → List Nat → List Nat → List Nat
  | 0, _, l => l
  | _ + 1, [], l => l
  | n + 1, b :: todo, l => match look σ (.b b) with
    | some (.bx c) => bxAll σ n (todo ++ (c.foldl bx2 l).drop l.length) (c.foldl bx2 l)
    | _ => bxAll σ n todo l

/-- the living tokens named -/
def tk1 (σ : Log) (l : List Nat) : AV → List Nat
  | .sl _ _ (.t k) => match look σ (.t k) with | some (.tk true) => addN k l | _ => l
  | .mx _ _ _ _ (.t k) => match look σ (.t k) with | some (.tk true) => addN k l | _ => l
  | _ => l
def tk2 (σ : Log) (l : List Nat) : AV → List Nat
  | .fn _ c => c.foldl (tk1 σ) l
  | .agg c => c.foldl (tk1 σ) l
  | v => tk1 σ l v
def tk3 (σ : Log) (l : List Nat) : AV → List Nat
  | .tup c => c.foldl (tk2 σ) l
  | v => tk2 σ l v
def tkH (σ : Log) : List Nat → List Nat → List Nat
  | [], l => l
  | b :: r, l => match look σ (.b b) with
    | some (.bx c) => tkH σ r (c.foldl (tk2 σ) l)
    | _ => tkH σ r l

abbrev Rec := FuncId → List AV → List (List AV) → Option (AV × List (List AV))

def callX (rc : Rec) (σ : Log) (id : Nat) (d : Option Nat) (f : FuncId) (args : List AV) (F : Log → Option R) : Option R :=
  match (match inL2 0 0 (args.map eraseA) with
    | true => (match rc f (args.map eraseA) [] with
      | some (res, []) => (match inR 0 50 res with | true => some res | false => none)
      | _ => none)
    | false => none) with
  | some res => F (dstL d (ren [] [] id res) ++ onToks [] id (toks res))
  | none =>
    match bxAll σ 100 (args.foldl bx2 []) (args.foldl bx2 []) with
    | bs => match tkH σ bs (args.foldl (tk2 σ) []) with
      | ts => match unL2 bs ts args, unH σ bs ts bs with
        | some args', some H => (match rc f args' H with
          | some (res, H') => tst (nodupB bs && nodupB ts && Nat.ble bs.length H'.length && Nat.ble H'.length (bs.length + 50) && Nat.ble (bs.length + ts.length) 900 && Nat.beq ts.length (tokN args' H) &&
              inL2 bs.length ts.length args' && inH bs.length ts.length H && inR H'.length (ts.length + 50) res && inH H'.length (ts.length + 50) H' && liveB σ ts)
              (F (dstL d (ren bs ts id res) ++ newBoxes bs ts id 0 H' ++ onToks ts id (toks res ++ (H'.flatMap fun h => h.flatMap toks2)) ++ offToks ts))
          | none => none)
        | _, _ => none

def effX (rc : Rec) (σ : Log) (id : Nat) : AOp → (Log → Option R) → Option R
  | .mv d x, F => frcX (ev σ x) fun v => F [(.s d, .av v)]
  | .pick d c a b, F => match ev σ c with
    | .sc (.b t) => (match t with
      | false => frcX (ev σ b) fun v => F [(.s d, .av v)]
      | true => frcX (ev σ a) fun v => F [(.s d, .av v)])
    | _ => none
  | .box d x, F => frcLX (flat (ev σ x)) fun l => F [(.s d, .av (.ptr id 0)), (.b id, .bx l)]
  | .alloc d z, F => F [(.s d, .av (.ptr id 0)), (.b id, .bx z)]
  | .build d z ps, F => bldX σ ps z fun z => frcLX z fun z => F [(.s d, .av (.agg z))]
  | .bsl d sz xs, F => bslX σ sz xs fun els => F [(.s d, .av (.sl sz els .full))]
  | .ld d n ag a, F => match ev σ a with
      | .ptr b o => (match look σ (.b b) with
        | some (.bx l) => ldvX d ag (sub l o n) F
        | _ => none)
      | .elp l o => ldvX d ag (sub (l.map dcell) o n) F
      | _ => none
  | .st a n x, F => match ev σ a with
      | .ptr b o => (match look σ (.b b) with
        | some (.bx l) => frcLX (flat (ev σ x)) fun v => (match Nat.beq v.length n with
          | true => (match splice o v l with | some l => frcLX l fun l => F [(.b b, .bx l)] | none => none)
          | false => none)
        | _ => none)
      | _ => none
  | .nc d x, F => match ev σ x with
      | .ptr b o => F [(.s d, .av (.ptr b o))]
      | .elp b o => F [(.s d, .av (.elp b o))]
      | .fn b o => F [(.s d, .av (.fn b o))]
      | _ => none
  | .bin d o x y, F => binX o (ev σ x) (ev σ y) fun v => F [(.s d, .av v)]
  | .binB d neg x y, F => match ev σ x, ev σ y with
      | .sc (.b a), .sc (.b b) => (match neg with
        | true => F [(.s d, .av (.sc (.b (a != b))))]
        | false => F [(.s d, .av (.sc (.b (a == b))))])
      | _, _ => none
  | .no d x, F => match ev σ x with | .sc (.b t) => F [(.s d, .av (.sc (.b (!t))))] | _ => none
  | .fa d x off, F => match ev σ x with
      | .ptr b o => F [(.s d, .av (.ptr b (o + off)))]
      | .elp l o => F [(.s d, .av (.elp l (o + off)))]
      | _ => none
  | .fld d x off n ag, F => match ev σ x with
      | .agg l => ldvX d ag (sub l off n) F
      | _ => none
  | .ia d sz x i, F => match ev σ x, ev σ i with
      | .sl z els _, .sc (.i _ n) => (match Nat.beq sz z with
        | true => (match els[n.toNat]? with
          | some e => tst (leI 0 n) (F [(.s d, .av (.elp e 0))])
          | none => none)
        | false => none)
      | .mx z els b m _, .sc (.i _ n) => (match Nat.beq sz z with
        | true => tst (leI 0 n && Nat.ble els.length n.toNat && Nat.blt n.toNat (els.length + m)) (F [(.s d, .av (.ptr b ((n.toNat - els.length) * sz)))])
        | false => none)
      | _, _ => none
  | .ix d x i, F => match ev σ x, ev σ i with
      | .sc (.s l), .sc (.i _ n) => (match l[n.toNat]? with
        | some e => tst (leI 0 n) (F [(.s d, .av (.sc (.i .u8 e.toNat)))])
        | none => none)
      | _, _ => none
  | .slS d x lo hi, F => match ev σ x with
      | .sc (.s l) => optX σ lo 0 fun a => optX σ hi l.length fun b =>
          tst (leI 0 a && leI a b && leI b l.length) (F [(.s d, .av (.sc (.s ((l.drop a.toNat).take (b.toNat - a.toNat)))))])
      | _ => none
  | .slL d sz x lo hi mx, F => match ev σ x with
      | .mx z [] b n t => (match Nat.beq sz z with
        | true => (match lo, hi, mx, look σ (.b b) with
          | none, some hi, none, some (.bx l) => optX σ (some hi) 0 fun c => tst (decide (c = 0) && Nat.beq l.length (n * sz)) (match t with
            | .none => none
            | .full => F [(.s d, .av (.sl z [] (.t id))), (.t id, .tk true), (.b b, .tk false)]
            | .t k => (match look σ (.t k) with
              | some (.tk true) => F [(.s d, .av (.sl z [] (.t id))), (.t id, .tk true), (.b b, .tk false), (.t k, .tk false)]
              | _ => none))
          | _, _, _, _ => none)
        | false => none)
      | .sl z els t => (match Nat.beq sz z with
        | true => optX σ lo 0 fun a => optX σ hi els.length fun b => match mx with
          | none => tst (leI 0 a && leI a b && leI b els.length) (match decide (b = els.length) with
            | true => F [(.s d, .av (.sl z ((els.drop a.toNat).take (b.toNat - a.toNat)) t))]
            | false => F [(.s d, .av (.sl z ((els.drop a.toNat).take (b.toNat - a.toNat)) .none))])
          | some _ => optX σ mx 0 fun c => tst (leI 0 a && leI a b && decide (b = c) && leI b els.length) (F [(.s d, .av (.sl z ((els.drop a.toNat).take (b.toNat - a.toNat)) .full))])
        | false => none)
      | _ => none
  | .cvi d k x, F => match ev σ x with | .sc (.i _ n) => tst (fitsB k n) (F [(.s d, .av (.sc (.i k n)))]) | _ => none
  | .ext d x i, F => match ev σ x with
      | .tup l => (match l[i]? with | some v => frcX v fun v => F [(.s d, .av v)] | none => none)
      | _ => none
  | .call d f as_, F => match ev σ f with
      | .fn f caps => callX rc σ id d f (evs σ as_ ++ caps) F
      | _ => none
  | .app d sz by_ a x, F => match ev σ a, ev σ x with
      | .sl z e1 t1, .sl z' e2 _ => (match Nat.beq sz z, Nat.beq sz z' with
        | true, true => (match t1 with
          | .none => none
          | .full => tst (roomB (e1.length + e2.length) by_) (F [(.s d, .av (.sl sz (e1 ++ e2) (.t id))), (.t id, .tk true)])
          | .t k => (match look σ (.t k) with
            | some (.tk true) => tst (roomB (e1.length + e2.length) by_) (F [(.s d, .av (.sl sz (e1 ++ e2) (.t id))), (.t id, .tk true), (.t k, .tk false)])
            | _ => none))
        | _, _ => none)
      | _, _ => none
  | .len d x, F => match ev σ x with
      | .sl _ els _ => F [(.s d, .av (.sc (.i .i64 els.length)))]
      | .mx _ els _ n _ => F [(.s d, .av (.sc (.i .i64 (els.length + n : Nat))))]
      | _ => none
  | .lenS d x, F => match ev σ x with
      | .sc (.s l) => F [(.s d, .av (.sc (.i .i64 l.length)))]
      | _ => none
  | .mx d x y, F => match ev σ x, ev σ y with
      | .sc (.i .i64 a), .sc (.i .i64 b) => F [(.s d, .av (.sc (.i .i64 (max a b))))]
      | _, _ => none
  | .mkf d f caps, F => frcLX (evs σ caps) fun caps => F [(.s d, .av (.fn f caps))]
  | .mk d sz by_ z x, F => match ev σ x with
      | .sc (.i .i64 n) => tst (leI 0 n && roomB n.toNat by_) (F [(.s d, .av (.mx sz [] id n.toNat .full)), (.b id, .bx (List.replicate n.toNat z).flatten)])
      | _ => none
  | .mkF d sz by_ z x, F => match ev σ x with
      | .sc (.i .i64 n) => tst (leI 0 n && roomB n.toNat by_) (F [(.s d, .av (.sl sz (List.replicate n.toNat z) .full))])
      | _ => none
  | .bslM d sz xs, F => bslX σ sz xs fun els => F [(.s d, .av (.mx sz [] id els.length .full)), (.b id, .bx (els.flatten.map dcell))]
  | .appM d sz by_ a x, F => match ev σ a, ev σ x with
      | .sl z e1 t1, .sl z' e2 _ => (match Nat.beq sz z, Nat.beq sz z' with
        | true, true => (match t1 with
          | .none => none
          | .full => tst (Nat.blt 0 e2.length && roomB (e1.length + e2.length) by_) (F [(.s d, .av (.mx sz e1 (id + 1) e2.length (.t (id + 1)))), (.b (id + 1), .bx (e2.flatten.map dcell)), (.t (id + 1), .tk true), (.t id, .tk false), (.t id, .tk true)])
          | .t k => (match look σ (.t k) with
            | some (.tk true) => tst (Nat.blt 0 e2.length && roomB (e1.length + e2.length) by_) (F [(.s d, .av (.mx sz e1 (id + 1) e2.length (.t (id + 1)))), (.b (id + 1), .bx (e2.flatten.map dcell)), (.t (id + 1), .tk true), (.t id, .tk false), (.t id, .tk true), (.t k, .tk false)])
            | _ => none))
        | _, _ => none)
      | _, _ => none
  | .cap d x, F => match ev σ x with
      | .sl _ els .full => F [(.s d, .av (.sc (.i .i64 els.length)))]
      | .mx _ els _ n .full => F [(.s d, .av (.sc (.i .i64 (els.length + n : Nat))))]
      | _ => none
  | .iaG d cells sz x, F => match ev σ x with
      | .sc (.i _ n) => tst (leI 0 n && Nat.ble (n.toNat * sz + sz) cells.length) (F [(.s d, .av (.elp cells (n.toNat * sz)))])
      | _ => none
  | .eqA d ng ks x y, F => match ev σ x, ev σ y with
      | .agg l, .agg m => (match eqL ks l m with
        | some b => (match ng with
          | true => F [(.s d, .av (.sc (.b (!b))))]
          | false => F [(.s d, .av (.sc (.b b)))])
        | none => none)
      | _, _ => none
  | .appZ d sz by_ z a x, F => match ev σ a, ev σ x with
      | .sl q [] .full, .sc (.i .i64 n) => (match Nat.beq sz q with
        | true => tst (leI 1 n && roomB n.toNat by_) (F [(.s d, .av (.mx sz [] (id + 1) n.toNat (.t (id + 1)))), (.b (id + 1), .bx ((List.replicate n.toNat z).flatten.map dcell)), (.t (id + 1), .tk true), (.t id, .tk false), (.t id, .tk true)])
        | false => none)
      | _, _ => none

def guardX (σ : Log) (g : Option (Nat × Bool)) (A B : Log → Option R) : Option R :=
  match g with
  | none => A σ
  | some (n, w) => match ev σ (.t n) with
    | .sc (.b t) => (match t with
        | false => (match w with | false => A | true => B) ((.s n, .av (.sc (.b false))) :: σ)
        | true => (match w with | true => A | false => B) ((.s n, .av (.sc (.b true))) :: σ))
    | .tup _ => B σ
    | _ => none

def aopsX (rc : Rec) : List GOp → Nat → Log → (Log → Option R) → Option R
  | [], _, σ, K => K σ
  | o :: r, id, σ, K => guardX σ o.g (fun σ => effX rc σ id o.o fun δ => aopsX rc r (id + 100) (δ ++ σ) K)
      (fun σ => aopsX rc r (id + 100) (dstL o.o.dst (.tup []) ++ σ) K)

def aopsDX (rc : Rec) : List GOp → List Nat → Nat → Nat → Log → List (Nat × List Loc × List Loc) → (Log → Option R) → Option R
  | [], _, _, _, σ, _, K => K σ
  | _ :: _, [], _, _, _, _, _ => none
  | o :: r, p :: ps, j, id, σ, fs, K => guardX σ o.g
      (fun σ => effX rc σ id o.o fun δ => match confl p (grdR o.g ++ o.o.rd σ) (keysL δ) fs with
        | true => none
        | false => aopsDX rc r ps (j + 1) (id + 100) (δ ++ σ) ((j, grdR o.g ++ o.o.rd σ, keysL δ) :: fs) K)
      (fun σ => match confl p (grdR o.g) (keysL (dstL o.o.dst (.tup []))) fs with
        | true => none
        | false => aopsDX rc r ps (j + 1) (id + 100) (dstL o.o.dst (.tup []) ++ σ) ((j, grdR o.g, keysL (dstL o.o.dst (.tup []))) :: fs) K)

def iterX (f : Nat → Log → (Ex → Nat → Log → Option R) → Option R) (Q : Ex → Nat → Log → Option R) : Nat → Nat → Log → Option R
  | 0, _, _ => none
  | k + 1, n, σ => f n σ fun e n' σ' => match e with
    | .n => iterX f Q k n' σ'
    | .e i => Q (.e i) n' σ'
    | .r => Q .r n' σ'

def chunk (sz : Nat) : Nat → List Data → Option (List (List Data))
  | 0, [] => some []
  | 0, _ => none
  | n + 1, l => match takeE sz l with
    | some e => (match chunk sz n (l.drop sz) with | some r => some (e :: r) | none => none)
    | none => none

def awpX (rc : Rec) : AC → Nat → Log → (Ex → Nat → Log → Option R) → Option R
  | .reg ops, nx, σ, Q => aopsX rc ops nx σ fun σ => Q .n (nx + 100 * ops.length) σ
  | .regD ops pre, nx, σ, Q => aopsDX rc ops pre 0 nx σ [] fun σ => Q .n (nx + 100 * ops.length) σ
  | .frz x, nx, σ, Q => match ev σ (.t x) with
    | .mx sz _ b n _ => (match look σ (.b b) with
      | some (.bx l) => (match cellsD l with
        | some ds => (match chunk sz n ds with
          | some ch => Q .n nx ((.b b, .tk false) :: thaw b sz n ch σ)
          | none => none)
        | none => none)
      | _ => none)
    | .sl _ _ _ => Q .n nx σ
    | _ => none
  | .seq x y, nx, σ, Q => awpX rc x nx σ fun e nx σ => match e with
    | .n => awpX rc y nx σ Q
    | .e i => Q (.e i) nx σ
    | .r => Q .r nx σ
  | .cond x t e, nx, σ, Q => match ev σ x with
    | .sc (.b v) => (match v with | false => awpX rc e nx (setB x false σ) Q | true => awpX rc t nx (setB x true σ) Q)
    | _ => none
  | .block n c, nx, σ, Q => awpX rc c nx σ fun e nx σ => match e with
    | .n => Q .n nx σ
    | .e i => (match Nat.beq i n with | true => Q .n nx σ | false => Q (.e i) nx σ)
    | .r => Q .r nx σ
  | .loop c, nx, σ, Q => iterX (fun n σ Q => awpX rc c n σ Q) Q 1000 nx σ
  | .exit n, nx, σ, Q => Q (.e n) nx σ
  | .ret, nx, σ, Q => Q .r nx σ
  | .skip, nx, σ, Q => Q .n nx σ
  | .cut, nx, σ, Q => Q .n nx σ
  | .stuck, _, _, _ => none

def resLX (σ : Log) : List (Nat × Nat) → (List AV → Option R) → Option R
  | [], K => K []
  | (r, 0) :: t, K => resLX σ t fun l => K (ev σ (.t r) :: l)
  | (r, n + 1) :: t, K => match ev σ (.t r) with
    | .ptr b 0 => (match look σ (.b b) with
      | some (.bx l) => (match Nat.beq l.length (n + 1) with
        | true => resLX σ t fun r => K (.agg l :: r)
        | false => none)
      | _ => none)
    | _ => none
def resPX (σ : Log) (rs : List (Nat × Nat)) (K : AV → Option R) : Option R := resLX σ rs fun l => match l with
  | [v] => K v
  | l => K (.tup l)
end run

def finX (σ : Log) (v : AV) (nb nt : Nat) : Option (AV × List (List AV)) :=
  match bxAll σ 100 (bx3 (upN nb) v) (bx3 (upN nb) v) with
  | bs => match tkH σ bs (tk3 σ (upN nt) v) with
    | ts => match un3 bs ts v, unH σ bs ts bs with
      | some res, some H' => tst (nodupB bs && nodupB ts && (bs.take nb == upN nb) && (ts.take nt == upN nt) && inR bs.length ts.length res && inH bs.length ts.length H' &&
          liveB σ ((toks res ++ H'.flatMap fun h => h.flatMap toks2).map (rb ts 0))) (some (res, H'))
      | _, _ => none

structure Fn where
  ac : AC
  rs : List (Nat × Nat)
  nt : Nat

def bodyX (rc : Rec) (c : AC) (rs : List (Nat × Nat)) (args : List AV) (H : List (List AV)) : Option (AV × List (List AV)) :=
  awpX rc c 1000 (initLog args H) fun e _ σ => match e with
    | .e _ => none
    | _ => resPX σ rs fun v => finX σ v H.length (tokN args H)

/-- so deep at most -/
def runX (T : FuncId → Option Fn) (lib : FuncId → List AV → Option AV) : Nat → Rec
  | 0 => fun _ _ _ => none
  | k + 1 => fun f args H => match (match H with | [] => lib f args | _ => none) with
    | some res => some (res, [])
    | none => match T f with
      | none => none
      | some F => tst (Nat.ble args.length F.nt && Nat.ble (H.length + tokN args H) 900) (bodyX (runX T lib k) F.ac F.rs args H)
end Go.Abs
