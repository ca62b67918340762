/- The abstract machine: pure values, a log of writes, and the weakest precondition of compiled code over it. -/
import Derived.WalkKit
import Derived.Orders
namespace Go.Abs
open Go

/-- a scalar: a value without an address -/
inductive Sc
  | b (x : Bool) | i (k : IntKind) (n : Int) | s (l : List UInt8) | np | nf | ni

/-- immutable data: a scalar, or the content of a slice whose elements take sz cells each -/
inductive Data
  | sc (c : Sc)
  | lst (sz : Nat) (els : List (List Data))

/-- what is known of a slice's spare room: nothing; there is none; it belongs to token k -/
inductive Tok | none | full | t (k : Nat)

/-- what a slot holds -/
inductive AV
  | sc (c : Sc)
  | sl (sz : Nat) (els : List (List Data)) (t : Tok)
  | ptr (b o : Nat)
  | elp (cells : List Data) (o : Nat)
  | mx (sz : Nat) (els : List (List Data)) (b n : Nat) (t : Tok)
  | fn (f : FuncId) (caps : List AV)
  | agg (l : List AV)
  | tup (l : List AV)
  | bad

inductive Cell | av (v : AV) | bx (l : List AV) | tk (on : Bool)
inductive Loc | s (n : Nat) | b (n : Nat) | t (n : Nat)
abbrev Log := List (Loc × Cell)
inductive Opd | t (n : Nat) | c (v : AV)
inductive Bin | add | sub | mul | quo | rem | eql | neq | lss | leq | gtr | geq | and | or | xor | andNot

inductive AOp
  | mv (d : Nat) (x : Opd)
  | pick (d : Nat) (c a b : Opd)
  | box (d : Nat) (x : Opd)
  | alloc (d : Nat) (z : List AV)
  | build (d : Nat) (z : List AV) (parts : List (Nat × Nat × Opd))
  | bsl (d : Nat) (sz : Nat) (xs : List Opd)
  | ld (d : Nat) (n : Nat) (ag : Bool) (a : Opd)
  | st (a : Opd) (n : Nat) (x : Opd)
  | nc (d : Nat) (x : Opd)
  | bin (d : Nat) (o : Bin) (x y : Opd)
  | binB (d : Nat) (neg : Bool) (x y : Opd)
  | no (d : Nat) (x : Opd)
  | fa (d : Nat) (x : Opd) (off : Nat)
  | fld (d : Nat) (x : Opd) (off n : Nat) (ag : Bool)
  | ia (d : Nat) (sz : Nat) (x i : Opd)
  | ix (d : Nat) (x i : Opd)
  | slS (d : Nat) (x : Opd) (lo hi : Option Opd)
  | slL (d : Nat) (sz : Nat) (x : Opd) (lo hi mx : Option Opd)
  | cvi (d : Nat) (k : IntKind) (x : Opd)
  | ext (d : Nat) (x : Opd) (i : Nat)
  | call (d : Option Nat) (f : Opd) (args : List Opd)
  | app (d : Nat) (sz by_ : Nat) (s x : Opd)
  | len (d : Nat) (x : Opd)
  | lenS (d : Nat) (x : Opd)
  | mx (d : Nat) (x y : Opd)
  | mkf (d : Nat) (f : FuncId) (caps : List Opd)
  | mk (d sz by_ : Nat) (z : List AV) (x : Opd)
  | mkF (d sz by_ : Nat) (z : List Data) (x : Opd)
  | bslM (d sz : Nat) (xs : List Opd)
  | appM (d sz by_ : Nat) (s x : Opd)
  | cap (d : Nat) (x : Opd)
  | iaG (d : Nat) (cells : List Data) (sz : Nat) (x : Opd)
  | eqA (d : Nat) (neg : Bool) (ks : List Nat) (x y : Opd)
  | appZ (d sz by_ : Nat) (z : List Data) (s x : Opd)

structure GOp where
  g : Option (Nat × Bool)
  o : AOp

inductive AC
  | reg (ops : List GOp)
  | frz (x : Nat)
  | regD (ops : List GOp) (pre : List Nat)
  | cut
  | seq (x y : AC) | cond (x : Opd) (t e : AC) | block (n : Nat) (c : AC) | loop (c : AC) | exit (n : Nat) | ret | skip | stuck

def Loc.beq : Loc → Loc → Bool
  | .s i, .s j => Nat.beq i j
  | .b i, .b j => Nat.beq i j
  | .t i, .t j => Nat.beq i j
  | _, _ => false

def look : Log → Loc → Option Cell
  | [], _ => none
  | (k, c) :: r, l => match Loc.beq k l with | true => some c | false => look r l

def ev (σ : Log) : Opd → AV
  | .t n => match look σ (.s n) with | some (.av v) => v | _ => .bad
  | .c v => v

/-- the value's head is laid bare before it goes on -/
def frc (v : AV) (F : AV → Prop) : Prop := match v with
  | .sc c => F (.sc c)
  | .sl a b c => F (.sl a b c)
  | .ptr a b => F (.ptr a b)
  | .elp a b => F (.elp a b)
  | .mx a b c d e => F (.mx a b c d e)
  | .fn a b => F (.fn a b)
  | .agg a => F (.agg a)
  | .tup a => F (.tup a)
  | .bad => False

/-- the same, of a value of one cell -/
def frc1 (v : AV) (F : AV → Prop) : Prop := match v with
  | .sc c => F (.sc c)
  | .sl a b c => F (.sl a b c)
  | .ptr a b => F (.ptr a b)
  | .elp a b => F (.elp a b)
  | .mx a b c d e => F (.mx a b c d e)
  | .fn a b => F (.fn a b)
  | _ => False

def frcL : List AV → (List AV → Prop) → Prop
  | [], F => F []
  | v :: r, F => frc1 v fun v => frcL r fun r => F (v :: r)

def evs (σ : Log) : List Opd → List AV
  | [] => []
  | o :: r => ev σ o :: evs σ r

def CallP := FuncId → List AV → List (List AV) → AV → List (List AV) → Prop

def cellD : AV → Option Data
  | .sc c => some (.sc c)
  | .sl z e _ => some (.lst z e)
  | _ => none

def cellsD : List AV → Option (List Data)
  | [] => some []
  | v :: r => match cellD v with
    | none => none
    | some d => match cellsD r with
      | none => none
      | some ds => some (d :: ds)

def flat : AV → List AV
  | .agg l => l
  | v => [v]

def dcell : Data → AV
  | .sc c => .sc c
  | .lst z e => .sl z e .none

def takeE {α : Type} : Nat → List α → Option (List α)
  | 0, _ => some []
  | _ + 1, [] => none
  | n + 1, x :: r => match takeE n r with | none => none | some l => some (x :: l)

def sub {α : Type} : List α → Nat → Nat → Option (List α)
  | l, 0, n => takeE n l
  | [], _ + 1, _ => none
  | _ :: r, o + 1, n => sub r o n

def over {α : Type} : List α → List α → Option (List α)
  | [], l => some l
  | _ :: _, [] => none
  | x :: xs, _ :: l => match over xs l with | none => none | some r => some (x :: r)

def splice {α : Type} : Nat → List α → List α → Option (List α)
  | 0, new, l => over new l
  | _ + 1, _, [] => none
  | n + 1, new, x :: r => match splice n new r with | none => none | some l => some (x :: l)

def beqL (a b : List UInt8) : Bool := decide (a = b)

def Fits : IntKind → Int → Prop
  | .i64, n => -9223372036854775808 ≤ n ∧ n ≤ 9223372036854775807
  | .u8, n => 0 ≤ n ∧ n ≤ 255
  | _, _ => False

def Room (n by_ : Nat) : Prop := n ≤ 9223372036854775807 ∧ n * by_ ≤ 140737488355328

def binS : Bin → List UInt8 → List UInt8 → (AV → Prop) → Prop
  | .eql, a, b, K => K (.sc (.b (beqL a b)))
  | .neq, a, b, K => K (.sc (.b (!beqL a b)))
  | .add, a, b, K => a.length + b.length ≤ 9223372036854775807 ∧ K (.sc (.s (a ++ b)))
  | _, _, _, _ => False

def binI : Bin → IntKind → Int → Int → (AV → Prop) → Prop
  | .add, k, a, b, K => Fits k (a + b) ∧ K (.sc (.i k (a + b)))
  | .sub, k, a, b, K => Fits k (a - b) ∧ K (.sc (.i k (a - b)))
  | .mul, k, a, b, K => Fits k (a * b) ∧ K (.sc (.i k (a * b)))
  | .quo, k, a, b, K => (Fits k a ∧ 0 ≤ a ∧ 0 < b) ∧ K (.sc (.i k (a / b)))
  | .rem, k, a, b, K => (0 ≤ a ∧ 0 < b) ∧ K (.sc (.i k (a % b)))
  | .eql, _, a, b, K => K (.sc (.b (decide (a = b))))
  | .neq, _, a, b, K => K (.sc (.b (!decide (a = b))))
  | .lss, _, a, b, K => K (.sc (.b (decide (a < b))))
  | .leq, _, a, b, K => K (.sc (.b (decide (a ≤ b))))
  | .gtr, _, a, b, K => K (.sc (.b (decide (b < a))))
  | .geq, _, a, b, K => K (.sc (.b (decide (b ≤ a))))
  | .and, k, a, b, K => K (.sc (.i k (bits .and k a b)))
  | .or, k, a, b, K => K (.sc (.i k (bits .or k a b)))
  | .xor, k, a, b, K => K (.sc (.i k (bits .xor k a b)))
  | .andNot, k, a, b, K => K (.sc (.i k (bits .andNot k a b)))

def ikBeq : IntKind → IntKind → Bool
  | .i64, .i64 => true
  | .u8, .u8 => true
  | _, _ => false

def binP (o : Bin) (x y : AV) (K : AV → Prop) : Prop :=
  match x, y with
  | .sc (.i k a), .sc (.i k' b) => match ikBeq k k' with | true => binI o k a b K | false => False
  | .sc (.s a), .sc (.s b) => binS o a b K
  | _, _ => False

def ldv (d : Nat) (ag : Bool) (l : Option (List AV)) (F : Log → Prop) : Prop := match l with
  | none => False
  | some l => match ag with
    | true => frcL l fun l => F [(.s d, .av (.agg l))]
    | false => match l with
      | [v] => frc1 v fun v => F [(.s d, .av v)]
      | _ => False

def bld (σ : Log) : List (Nat × Nat × Opd) → List AV → (List AV → Prop) → Prop
  | [], z, F => F z
  | (o, n, x) :: r, z, F => frcL (flat (ev σ x)) fun v => match Nat.beq v.length n with
    | true => (match splice o v z with | some z => bld σ r z F | none => False)
    | false => False

def bslc (σ : Log) (sz : Nat) : List Opd → (List (List Data) → Prop) → Prop
  | [], F => F []
  | x :: r, F => frcL (flat (ev σ x)) fun v => match cellsD v with
    | none => False
    | some ds => match Nat.beq ds.length sz with
      | true => bslc σ sz r fun els => F (ds :: els)
      | false => False

def erase : AV → AV
  | .sl z e _ => .sl z e .none
  | v => v

/-- a struct's cells are erased too -/
def eraseA : AV → AV
  | .agg l => .agg (l.map erase)
  | v => erase v

/-- the caller's name for the callee's id -/
def rb (bs : List Nat) (id b : Nat) : Nat := match bs[b]? with | some x => x | none => id + (b - bs.length)

def ren1 (bs ts : List Nat) (id : Nat) : AV → AV
  | .sl z e (.t k) => .sl z e (.t (rb ts id k))
  | .ptr b o => .ptr (rb bs id b) o
  | .mx z e b n (.t k) => .mx z e (rb bs id b) n (.t (rb ts id k))
  | .mx z e b n t => .mx z e (rb bs id b) n t
  | v => v

def ren2 (bs ts : List Nat) (id : Nat) : AV → AV
  | .fn f c => .fn f (c.map (ren1 bs ts id))
  | .agg l => .agg (l.map (ren1 bs ts id))
  | v => ren1 bs ts id v

def ren (bs ts : List Nat) (id : Nat) : AV → AV
  | .tup l => .tup (l.map (ren2 bs ts id))
  | v => ren2 bs ts id v

def toks1 : AV → List Nat
  | .sl _ _ (.t k) => [k]
  | .mx _ _ _ _ (.t k) => [k]
  | _ => []
def toks2 : AV → List Nat
  | .fn _ c => c.flatMap toks1
  | .agg l => l.flatMap toks1
  | v => toks1 v
def toks : AV → List Nat
  | .tup l => l.flatMap toks2
  | v => toks2 v

def wk1 : AV → AV → Prop
  | .sl z e t, .sl z' e' t' => z = z' ∧ e = e' ∧ (t' = .none ∨ t' = t)
  | .mx z e b n t, .mx z' e' b' n' t' => z = z' ∧ e = e' ∧ b = b' ∧ n = n' ∧ (t' = .none ∨ t' = t)
  | x, y => x = y
def wkL1 : List AV → List AV → Prop
  | [], [] => True
  | x :: xs, y :: ys => wk1 x y ∧ wkL1 xs ys
  | _, _ => False
def wk2 : AV → AV → Prop
  | .fn f c, .fn f' c' => f = f' ∧ wkL1 c c'
  | .agg l, .agg l' => wkL1 l l'
  | x, y => wk1 x y
def wkL2 : List AV → List AV → Prop
  | [], [] => True
  | x :: xs, y :: ys => wk2 x y ∧ wkL2 xs ys
  | _, _ => False

/-- each of these boxes holds what the list says (the callee's spelling, renamed) -/
def boxIs (σ : Log) (bs ts : List Nat) (id : Nat) : List Nat → List (List AV) → Prop
  | [], [] => True
  | b :: r, h :: H => (match look σ (.b b) with
      | some (.bx l) => wkL2 l (h.map (ren2 bs ts id))
      | _ => False) ∧ boxIs σ bs ts id r H
  | _, _ => False

def liveAll (σ : Log) : List Nat → Prop
  | [] => True
  | k :: r => (match look σ (.t k) with | some (.tk true) => True | _ => False) ∧ liveAll σ r

def newBoxes (bs ts : List Nat) (id : Nat) : Nat → List (List AV) → Log
  | _, [] => []
  | n, h :: H => (.b (rb bs id n), .bx (h.map (ren2 bs ts id))) :: newBoxes bs ts id (n + 1) H

def onToks (ts : List Nat) (id : Nat) : List Nat → Log
  | [] => []
  | k :: r => (.t (rb ts id k), .tk true) :: onToks ts id r

def offToks : List Nat → Log
  | [] => []
  | k :: r => (.t k, .tk false) :: offToks r

def dstL (d : Option Nat) (v : AV) : Log := match d with | some d => [(.s d, .av v)] | none => []

def nodupB : List Nat → Bool
  | [] => true
  | x :: r => match r.contains x with | true => false | false => nodupB r

/-- ids in range: boxes below nb, tokens below nt -/
def in1 (nb nt : Nat) : AV → Bool
  | .sc _ => true
  | .sl _ _ (.t k) => Nat.blt k nt
  | .sl _ _ _ => true
  | .ptr b _ => Nat.blt b nb
  | .mx _ _ b _ (.t k) => match Nat.blt k nt with | true => Nat.blt b nb | false => false
  | .mx _ _ b _ _ => Nat.blt b nb
  | .elp _ _ => true
  | _ => false
def inL1 (nb nt : Nat) : List AV → Bool
  | [] => true
  | x :: r => match in1 nb nt x with | true => inL1 nb nt r | false => false
def in2 (nb nt : Nat) : AV → Bool
  | .fn _ c => inL1 nb nt c
  | .agg l => inL1 nb nt l
  | v => in1 nb nt v
def inL2 (nb nt : Nat) : List AV → Bool
  | [] => true
  | x :: r => match in2 nb nt x with | true => inL2 nb nt r | false => false
def inR (nb nt : Nat) : AV → Bool
  | .tup l => inL2 nb nt l
  | v => in2 nb nt v
def inH (nb nt : Nat) : List (List AV) → Bool
  | [] => true
  | x :: r => match inL2 nb nt x with | true => inH nb nt r | false => false

/-- how many tokens the callee's spelling names -/
def tokN (args : List AV) (H : List (List AV)) : Nat := (args.flatMap toks ++ H.flatMap fun h => h.flatMap toks2).foldr (fun k m => Nat.max (k + 1) m) 0

/-- what a call does: a pure one (nothing is handed over but data), or one that hands over boxes and tokens -/
inductive callP (call : CallP) (σ : Log) (id : Nat) (d : Option Nat) (f : FuncId) (args : List AV) (F : Log → Prop) : Prop
  | pure (res : AV) (h1 : call f (args.map eraseA) [] res []) (h2 : inL2 0 0 (args.map eraseA) = true ∧ inR 0 50 res = true) (h3 : F (dstL d (ren [] [] id res) ++ onToks [] id (toks res)))
  | full (bs ts : List Nat) (args' : List AV) (H H' : List (List AV)) (res : AV) (h1 : call f args' H res H')
    (h2 : nodupB bs = true ∧ nodupB ts = true ∧ Nat.ble bs.length H'.length = true ∧ Nat.ble H'.length (bs.length + 50) = true ∧ Nat.ble (bs.length + ts.length) 900 = true ∧ Nat.beq ts.length (tokN args' H) = true ∧
      inL2 bs.length ts.length args' = true ∧ inH bs.length ts.length H = true ∧ inR H'.length (ts.length + 50) res = true ∧ inH H'.length (ts.length + 50) H' = true ∧
      wkL2 args (args'.map (ren2 bs ts id)) ∧ boxIs σ bs ts id bs H ∧ liveAll σ ts)
    (h3 : F (dstL d (ren bs ts id res) ++ newBoxes bs ts id 0 H' ++ onToks ts id (toks res ++ (H'.flatMap fun h => h.flatMap toks2)) ++ offToks ts))

/-- two structs of scalars, cell by cell -/
def eqL : List Nat → List AV → List AV → Option Bool
  | [], [], [] => some true
  | 0 :: ks, .sc (.b x) :: r, .sc (.b y) :: s => match eqL ks r s with | some b => some ((x == y) && b) | none => none
  | 1 :: ks, .sc (.i k x) :: r, .sc (.i k' y) :: s => match ikBeq k k' with | true => (match eqL ks r s with | some b => some (decide (x = y) && b) | none => none) | false => none
  | 2 :: ks, .sc (.s x) :: r, .sc (.s y) :: s => match eqL ks r s with | some b => some (beqL x y && b) | none => none
  | _, _, _ => none

def optI (σ : Log) (x : Option Opd) (z : Int) (K : Int → Prop) : Prop := match x with
  | none => K z
  | some x => match ev σ x with | .sc (.i _ n) => K n | _ => False

/-- what one operation writes -/
def eff (call : CallP) (σ : Log) (id : Nat) : AOp → (Log → Prop) → Prop
  | .mv d x, F => frc (ev σ x) fun v => F [(.s d, .av v)]
  | .pick d c a b, F => match ev σ c with
    | .sc (.b t) => @Bool.rec (fun _ => Prop) (frc (ev σ b) fun v => F [(.s d, .av v)]) (frc (ev σ a) fun v => F [(.s d, .av v)]) t
    | _ => False
  | .box d x, F => frcL (flat (ev σ x)) fun l => F [(.s d, .av (.ptr id 0)), (.b id, .bx l)]
  | .alloc d z, F => F [(.s d, .av (.ptr id 0)), (.b id, .bx z)]
  | .build d z ps, F => bld σ ps z fun z => frcL z fun z => F [(.s d, .av (.agg z))]
  | .bsl d sz xs, F => bslc σ sz xs fun els => F [(.s d, .av (.sl sz els .full))]
  | .ld d n ag a, F => match ev σ a with
      | .ptr b o => (match look σ (.b b) with
        | some (.bx l) => ldv d ag (sub l o n) F
        | _ => False)
      | .elp l o => ldv d ag (sub (l.map dcell) o n) F
      | _ => False
  | .st a n x, F => match ev σ a with
      | .ptr b o => (match look σ (.b b) with
        | some (.bx l) => frcL (flat (ev σ x)) fun v => (match Nat.beq v.length n with
          | true => (match splice o v l with | some l => frcL l fun l => F [(.b b, .bx l)] | none => False)
          | false => False)
        | _ => False)
      | _ => False
  | .nc d x, F => match ev σ x with
      | .ptr b o => F [(.s d, .av (.ptr b o))]
      | .elp b o => F [(.s d, .av (.elp b o))]
      | .fn b o => F [(.s d, .av (.fn b o))]
      | _ => False
  | .bin d o x y, F => binP o (ev σ x) (ev σ y) fun v => F [(.s d, .av v)]
  | .binB d neg x y, F => match ev σ x, ev σ y with
      | .sc (.b a), .sc (.b b) => (match neg with
        | true => F [(.s d, .av (.sc (.b (a != b))))]
        | false => F [(.s d, .av (.sc (.b (a == b))))])
      | _, _ => False
  | .no d x, F => match ev σ x with | .sc (.b t) => F [(.s d, .av (.sc (.b (!t))))] | _ => False
  | .fa d x off, F => match ev σ x with
      | .ptr b o => F [(.s d, .av (.ptr b (o + off)))]
      | .elp l o => F [(.s d, .av (.elp l (o + off)))]
      | _ => False
  | .fld d x off n ag, F => match ev σ x with
      | .agg l => ldv d ag (sub l off n) F
      | _ => False
  | .ia d sz x i, F => match ev σ x, ev σ i with
      | .sl z els _, .sc (.i _ n) => (match Nat.beq sz z with
        | true => ∃ e, (0 ≤ n ∧ els[n.toNat]? = some e) ∧ F [(.s d, .av (.elp e 0))]
        | false => False)
      | .mx z els b m _, .sc (.i _ n) => (match Nat.beq sz z with
        | true => (0 ≤ n ∧ els.length ≤ n.toNat ∧ n.toNat < els.length + m) ∧ F [(.s d, .av (.ptr b ((n.toNat - els.length) * sz)))]
        | false => False)
      | _, _ => False
  | .ix d x i, F => match ev σ x, ev σ i with
      | .sc (.s l), .sc (.i _ n) => ∃ e, (0 ≤ n ∧ l[n.toNat]? = some e) ∧ F [(.s d, .av (.sc (.i .u8 e.toNat)))]
      | _, _ => False
  | .slS d x lo hi, F => match ev σ x with
      | .sc (.s l) => optI σ lo 0 fun a => optI σ hi l.length fun b =>
          (0 ≤ a ∧ a ≤ b ∧ b ≤ l.length) ∧ F [(.s d, .av (.sc (.s ((l.drop a.toNat).take (b.toNat - a.toNat)))))]
      | _ => False
  | .slL d sz x lo hi mx, F => match ev σ x with
      | .mx z [] b n t => (match Nat.beq sz z with
        | true => (match lo, hi, mx, look σ (.b b) with
          | none, some hi, none, some (.bx l) => optI σ (some hi) 0 fun c => (c = 0 ∧ l.length = n * sz) ∧ (match t with
            | .none => False
            | .full => F [(.s d, .av (.sl z [] (.t id))), (.t id, .tk true), (.b b, .tk false)]
            | .t k => (match look σ (.t k) with
              | some (.tk true) => F [(.s d, .av (.sl z [] (.t id))), (.t id, .tk true), (.b b, .tk false), (.t k, .tk false)]
              | _ => False))
          | _, _, _, _ => False)
        | false => False)
      | .sl z els t => (match Nat.beq sz z with
        | true => optI σ lo 0 fun a => optI σ hi els.length fun b => match mx with
          | none => ∃ t', ((0 ≤ a ∧ a ≤ b ∧ b ≤ els.length) ∧ (t' = .none ∨ (t' = t ∧ b = els.length))) ∧ F [(.s d, .av (.sl z ((els.drop a.toNat).take (b.toNat - a.toNat)) t'))]
          | some _ => optI σ mx 0 fun c => (0 ≤ a ∧ a ≤ b ∧ b = c ∧ b ≤ els.length) ∧ F [(.s d, .av (.sl z ((els.drop a.toNat).take (b.toNat - a.toNat)) .full))]
        | false => False)
      | _ => False
  | .cvi d k x, F => match ev σ x with | .sc (.i _ n) => Fits k n ∧ F [(.s d, .av (.sc (.i k n)))] | _ => False
  | .ext d x i, F => match ev σ x with
      | .tup l => (match l[i]? with | some v => frc v fun v => F [(.s d, .av v)] | none => False)
      | _ => False
  | .call d f as_, F => match ev σ f with
      | .fn f caps => callP call σ id d f (evs σ as_ ++ caps) F
      | _ => False
  | .app d sz by_ a x, F => match ev σ a, ev σ x with
      | .sl z e1 t1, .sl z' e2 _ => (match Nat.beq sz z, Nat.beq sz z' with
        | true, true => (match t1 with
          | .none => False
          | .full => Room (e1.length + e2.length) by_ ∧ F [(.s d, .av (.sl sz (e1 ++ e2) (.t id))), (.t id, .tk true)]
          | .t k => (match look σ (.t k) with
            | some (.tk true) => Room (e1.length + e2.length) by_ ∧ F [(.s d, .av (.sl sz (e1 ++ e2) (.t id))), (.t id, .tk true), (.t k, .tk false)]
            | _ => False))
        | _, _ => False)
      | _, _ => False
  | .len d x, F => match ev σ x with
      | .sl _ els _ => F [(.s d, .av (.sc (.i .i64 els.length)))]
      | .mx _ els _ n _ => F [(.s d, .av (.sc (.i .i64 (els.length + n : Nat))))]
      | _ => False
  | .lenS d x, F => match ev σ x with
      | .sc (.s l) => F [(.s d, .av (.sc (.i .i64 l.length)))]
      | _ => False
  | .mx d x y, F => match ev σ x, ev σ y with
      | .sc (.i .i64 a), .sc (.i .i64 b) => F [(.s d, .av (.sc (.i .i64 (max a b))))]
      | _, _ => False
  | .mkf d f caps, F => frcL (evs σ caps) fun caps => F [(.s d, .av (.fn f caps))]
  | .mk d sz by_ z x, F => match ev σ x with
      | .sc (.i .i64 n) => (0 ≤ n ∧ Room n.toNat by_) ∧ F [(.s d, .av (.mx sz [] id n.toNat .full)), (.b id, .bx (List.replicate n.toNat z).flatten)]
      | _ => False
  | .mkF d sz by_ z x, F => match ev σ x with
      | .sc (.i .i64 n) => (0 ≤ n ∧ Room n.toNat by_) ∧ F [(.s d, .av (.sl sz (List.replicate n.toNat z) .full))]
      | _ => False
  | .bslM d sz xs, F => bslc σ sz xs fun els => F [(.s d, .av (.mx sz [] id els.length .full)), (.b id, .bx (els.flatten.map dcell))]
  | .appM d sz by_ a x, F => match ev σ a, ev σ x with
      | .sl z e1 t1, .sl z' e2 _ => (match Nat.beq sz z, Nat.beq sz z' with
        | true, true => (match t1 with
          | .none => False
          | .full => (0 < e2.length ∧ Room (e1.length + e2.length) by_) ∧ F [(.s d, .av (.mx sz e1 (id + 1) e2.length (.t (id + 1)))), (.b (id + 1), .bx (e2.flatten.map dcell)), (.t (id + 1), .tk true), (.t id, .tk false), (.t id, .tk true)]
          | .t k => (match look σ (.t k) with
            | some (.tk true) => (0 < e2.length ∧ Room (e1.length + e2.length) by_) ∧ F [(.s d, .av (.mx sz e1 (id + 1) e2.length (.t (id + 1)))), (.b (id + 1), .bx (e2.flatten.map dcell)), (.t (id + 1), .tk true), (.t id, .tk false), (.t id, .tk true), (.t k, .tk false)]
            | _ => False))
        | _, _ => False)
      | _, _ => False
  | .cap d x, F => match ev σ x with
      | .sl _ els .full => F [(.s d, .av (.sc (.i .i64 els.length)))]
      | .mx _ els _ n .full => F [(.s d, .av (.sc (.i .i64 (els.length + n : Nat))))]
      | _ => False
  | .iaG d cells sz x, F => match ev σ x with
      | .sc (.i _ n) => (0 ≤ n ∧ n.toNat * sz + sz ≤ cells.length) ∧ F [(.s d, .av (.elp cells (n.toNat * sz)))]
      | _ => False
  | .eqA d ng ks x y, F => match ev σ x, ev σ y with
      | .agg l, .agg m => (match eqL ks l m with
        | some b => (match ng with
          | true => F [(.s d, .av (.sc (.b (!b))))]
          | false => F [(.s d, .av (.sc (.b b)))])
        | none => False)
      | _, _ => False
  | .appZ d sz by_ z a x, F => match ev σ a, ev σ x with
      | .sl q [] .full, .sc (.i .i64 n) => (match Nat.beq sz q with
        | true => (0 < n ∧ Room n.toNat by_) ∧ F [(.s d, .av (.mx sz [] (id + 1) n.toNat (.t (id + 1)))), (.b (id + 1), .bx ((List.replicate n.toNat z).flatten.map dcell)), (.t (id + 1), .tk true), (.t id, .tk false), (.t id, .tk true)]
        | false => False)
      | _, _ => False

/-- a value of one cell -/
def one : AV → Bool
  | .sc _ => true | .sl _ _ _ => true | .ptr _ _ => true | .elp _ _ => true | .fn _ _ => true | .mx _ _ _ _ _ => true
  | _ => false

/-- is the operation wanted? Where its guard's Bool is open, both ways, the guard's slot known in each -/
def guard (σ : Log) (g : Option (Nat × Bool)) (A B : Log → Prop) : Prop :=
  match g with
  | none => A σ
  | some (n, w) => match ev σ (.t n) with
    | .sc (.b t) => @Bool.rec (fun _ => Prop)
        ((match w with | false => A | true => B) ((.s n, .av (.sc (.b false))) :: σ))
        ((match w with | true => A | false => B) ((.s n, .av (.sc (.b true))) :: σ)) t
    | .tup _ => B σ
    | _ => False

def AOp.dst : AOp → Option Nat
  | .mv d _ => some d | .pick d _ _ _ => some d | .box d _ => some d | .alloc d _ => some d | .build d _ _ => some d | .bsl d _ _ => some d
  | .ld d _ _ _ => some d | .st _ _ _ => none | .nc d _ => some d | .bin d _ _ _ => some d | .binB d _ _ _ => some d | .no d _ => some d | .fa d _ _ => some d | .fld d _ _ _ _ => some d
  | .ia d _ _ _ => some d | .ix d _ _ => some d | .slS d _ _ _ => some d | .slL d _ _ _ _ _ => some d | .cvi d _ _ => some d | .ext d _ _ => some d
  | .mk d _ _ _ _ => some d | .mkF d _ _ _ _ => some d | .bslM d _ _ => some d | .appM d _ _ _ _ => some d | .cap d _ => some d | .iaG d _ _ _ => some d | .eqA d _ _ _ _ => some d | .appZ d _ _ _ _ _ => some d
  | .call d _ _ => d | .app d _ _ _ _ => some d | .len d _ => some d | .lenS d _ => some d | .mx d _ _ => some d | .mkf d _ _ => some d

def aops (call : CallP) : List GOp → Nat → Log → (Log → Prop) → Prop
  | [], _, σ, K => K σ
  | o :: r, id, σ, K => guard σ o.g (fun σ => eff call σ id o.o fun δ => aops call r (id + 100) (δ ++ σ) K)
      (fun σ => aops call r (id + 100) (dstL o.o.dst (.tup []) ++ σ) K)

inductive Ex | n | e (i : Nat) | r

def opdR : Opd → List Loc
  | .t n => [.s n]
  | .c _ => []
def opdsR : List Opd → List Loc
  | [] => []
  | x :: r => opdR x ++ opdsR r
def optR : Option Opd → List Loc
  | none => []
  | some x => opdR x

/-- what an operation reads: its slots, and the box that it loads from -/
def AOp.rd (σ : Log) : AOp → List Loc
  | .mv _ x => opdR x
  | .pick _ c a b => opdR c ++ opdR a ++ opdR b
  | .box _ x => opdR x
  | .alloc _ _ => []
  | .build _ _ ps => opdsR (ps.map fun p => p.2.2)
  | .bsl _ _ xs => opdsR xs
  | .ld _ _ _ a => opdR a ++ (match ev σ a with | .ptr b _ => [.b b] | _ => [])
  | .st a _ x => opdR a ++ opdR x
  | .nc _ x => opdR x
  | .bin _ _ x y => opdR x ++ opdR y
  | .binB _ _ x y => opdR x ++ opdR y
  | .no _ x => opdR x
  | .fa _ x _ => opdR x
  | .fld _ x _ _ _ => opdR x
  | .ia _ _ x i => opdR x ++ opdR i
  | .ix _ x i => opdR x ++ opdR i
  | .slS _ x lo hi => opdR x ++ optR lo ++ optR hi
  | .slL _ _ x lo hi m => opdR x ++ optR lo ++ optR hi ++ optR m
  | .cvi _ _ x => opdR x
  | .ext _ x _ => opdR x
  | .call _ f as_ => opdR f ++ opdsR as_
  | .app _ _ _ s x => opdR s ++ opdR x
  | .len _ x => opdR x
  | .lenS _ x => opdR x
  | .mx _ x y => opdR x ++ opdR y
  | .mkf _ _ c => opdsR c
  | .mk _ _ _ _ x => opdR x
  | .mkF _ _ _ _ x => opdR x
  | .bslM _ _ xs => opdsR xs
  | .appM _ _ _ s x => opdR s ++ opdR x
  | .cap _ x => opdR x
  | .iaG _ _ _ x => opdR x
  | .eqA _ _ _ x y => opdR x ++ opdR y
  | .appZ _ _ _ _ s x => opdR s ++ opdR x

def grdR : Option (Nat × Bool) → List Loc
  | none => []
  | some (n, _) => [.s n]

def keysL : Log → List Loc
  | [] => []
  | (k, _) :: r => k :: keysL r

def memL (l : Loc) : List Loc → Bool
  | [] => false
  | x :: r => match Loc.beq x l with | true => true | false => memL l r

def meets : List Loc → List Loc → Bool
  | [], _ => false
  | x :: r, l => match memL x l with | true => true | false => meets r l

def bitOf (p i : Nat) : Bool := Nat.beq (Nat.mod (Nat.div p (Nat.pow 2 i)) 2) 1

/-- does the operation meddle with an earlier one that it does not wait for? -/
def confl (p : Nat) (R W : List Loc) : List (Nat × List Loc × List Loc) → Bool
  | [] => false
  | (i, Ri, Wi) :: fs => match bitOf p i with
    | true => confl p R W fs
    | false => match meets Wi R with
      | true => true
      | false => match meets Wi W with
        | true => true
        | false => match meets Ri W with
          | true => true
          | false => confl p R W fs

def aopsD (call : CallP) : List GOp → List Nat → Nat → Nat → Log → List (Nat × List Loc × List Loc) → (Log → Prop) → Prop
  | [], _, _, _, σ, _, K => K σ
  | _ :: _, [], _, _, _, _, _ => False
  | o :: r, p :: ps, j, id, σ, fs, K => guard σ o.g
      (fun σ => eff call σ id o.o fun δ => match confl p (grdR o.g ++ o.o.rd σ) (keysL δ) fs with
        | true => False
        | false => aopsD call r ps (j + 1) (id + 100) (δ ++ σ) ((j, grdR o.g ++ o.o.rd σ, keysL δ) :: fs) K)
      (fun σ => match confl p (grdR o.g) (keysL (dstL o.o.dst (.tup []))) fs with
        | true => False
        | false => aopsD call r ps (j + 1) (id + 100) (dstL o.o.dst (.tup []) ++ σ) ((j, grdR o.g, keysL (dstL o.o.dst (.tup []))) :: fs) K)

def below1 (n : Nat) : AV → Bool
  | .sl _ _ (.t k) => Nat.blt k n
  | .ptr b _ => Nat.blt b n
  | .mx _ _ b _ (.t k) => match Nat.blt k n with | true => Nat.blt b n | false => false
  | .mx _ _ b _ _ => Nat.blt b n
  | .fn _ _ => false
  | .agg _ => false
  | .tup _ => false
  | .bad => false
  | _ => true
def belowL1 (n : Nat) : List AV → Bool
  | [] => true
  | x :: r => match below1 n x with | true => belowL1 n r | false => false
def below2 (n : Nat) : AV → Bool
  | .fn _ c => belowL1 n c
  | .agg l => belowL1 n l
  | .tup l => belowL1 n l
  | v => below1 n v
def belowL2 (n : Nat) : List AV → Bool
  | [] => true
  | x :: r => match below2 n x with | true => belowL2 n r | false => false
def oneL : List AV → Bool
  | [] => true
  | x :: r => match one x with | true => oneL r | false => false
def belowC (n : Nat) : Log → Bool
  | [] => true
  | (.s _, .av v) :: r => match below2 n v with | true => belowC n r | false => false
  | (.b b, .bx l) :: r => match Nat.blt b n, belowL2 n l, oneL l with | true, true, true => belowC n r | _, _, _ => false
  | (.t k, .tk _) :: r => match Nat.blt k n with | true => belowC n r | false => false
  | (.b _, .tk _) :: r => belowC n r
  | _ => false

/-- the token that stands for k in the elder log; a token below 1000 stands for itself -/
def assoc : List (Nat × Nat) → Nat → Option Nat
  | [], _ => none
  | (k, x) :: r, i => match Nat.beq k i with | true => some x | false => assoc r i

def tokR (ρ : List (Nat × Nat)) : Tok → Tok → Prop
  | _, .none => True
  | .full, .full => True
  | .full, .t k => match Nat.blt k 1000 with
    | true => False
    | false => True
  | .t k', .t k => match Nat.blt k 1000 with
    | true => k = k'
    | false => assoc ρ k = some k'
  | _, _ => False

def wkR1 (ρ : List (Nat × Nat)) : AV → AV → Prop
  | .sl z e t, .sl z' e' t' => z = z' ∧ e = e' ∧ tokR ρ t t'
  | .mx z e b n t, .mx z' e' b' n' t' => z = z' ∧ e = e' ∧ b = b' ∧ n = n' ∧ tokR ρ t t'
  | _, .bad => True
  | x, y => x = y
def wkRL1 (ρ : List (Nat × Nat)) : List AV → List AV → Prop
  | [], [] => True
  | x :: xs, y :: ys => wkR1 ρ x y ∧ wkRL1 ρ xs ys
  | _, _ => False
def wkR2 (ρ : List (Nat × Nat)) : AV → AV → Prop
  | .fn f c, .fn f' c' => f = f' ∧ wkRL1 ρ c c'
  | .agg l, .agg l' => wkRL1 ρ l l'
  | .tup l, .tup l' => wkRL1 ρ l l'
  | x, y => wkR1 ρ x y
def wkRL2 (ρ : List (Nat × Nat)) : List AV → List AV → Prop
  | [], [] => True
  | x :: xs, y :: ys => wkR2 ρ x y ∧ wkRL2 ρ xs ys
  | _, _ => False

/-- what the younger log says, the elder one bears -/
def leP (ρ : List (Nat × Nat)) (σ : Log) : Log → Prop
  | [] => True
  | (.s n, .av v) :: r => (match look σ (.s n) with | some (.av u) => wkR2 ρ u v | _ => False) ∧ leP ρ σ r
  | (.b b, .bx l) :: r => (match look σ (.b b) with | some (.bx m) => wkRL2 ρ m l | _ => False) ∧ leP ρ σ r
  | (.t k, .tk true) :: r => (match Nat.blt k 1000 with
      | true => (match look σ (.t k) with | some (.tk true) => True | _ => False)
      | false => (match assoc ρ k with
        | none => True
        | some k' => (match look σ (.t k') with | some (.tk true) => True | _ => False))) ∧ leP ρ σ r
  | (.t _, .tk false) :: r => leP ρ σ r
  | (.b _, .tk _) :: r => leP ρ σ r
  | _ => False

/-- the tokens below 1000 that live -/
def lowToks : Log → List Nat
  | [] => []
  | (.t k, .tk true) :: r => match Nat.blt k 1000 with | true => k :: lowToks r | false => lowToks r
  | _ :: r => lowToks r

def Le (σ : Log) (n : Nat) (σ' : Log) : Prop := ∃ ρ : List (Nat × Nat),
  (nodupB (ρ.map (·.2)) = true ∧ (lowToks σ').all (fun k => !(ρ.map (·.2)).contains k) = true ∧ Nat.ble 1000 n = true ∧ belowC n σ' = true) ∧ leP ρ σ σ'

def setB (x : Opd) (v : Bool) (σ : Log) : Log := match x with
  | .t n => (.s n, .av (.sc (.b v))) :: σ
  | .c _ => σ

/-- so many rounds at most, each walked -/
def iter (f : Nat → Log → (Ex → Nat → Log → Prop) → Prop) (Q : Ex → Nat → Log → Prop) : Nat → Nat → Log → Prop
  | 0, _, _ => False
  | k + 1, n, σ => f n σ fun e n' σ' => match e with
    | .n => iter f Q k n' σ'
    | .e i => Q (.e i) n' σ'
    | .r => Q .r n' σ'

/-- a loop: run, or by what holds at each round's head -/
inductive LoopP (f : Nat → Log → (Ex → Nat → Log → Prop) → Prop) (Q : Ex → Nat → Log → Prop) (nx : Nat) (σ : Log) : Prop
  | runs (k : Nat) (h : iter f Q k nx σ)
  | inv (J : Nat → Nat → Log → Prop) (h0 : ∃ m n σ', Le σ n σ' ∧ J m n σ') (h : ∀ m n σ, J m n σ → f n σ fun e n' σ' => match e with
        | .n => ∃ m' n'' σ'', m' < m ∧ Le σ' n'' σ'' ∧ J m' n'' σ''
        | .e i => Q (.e i) n' σ'
        | .r => Q .r n' σ')

/-- a place where the log may be forgotten in part -/
inductive CutP (K : Nat → Log → Prop) (nx : Nat) (σ : Log) : Prop
  | go (h : K nx σ)
  | cut (n : Nat) (σ' : Log) (hle : Le σ n σ') (h : K n σ')

def thaw1 (b sz n : Nat) (ch : List (List Data)) : AV → AV
  | .mx sz' els b' n' t => match Nat.beq b b', Nat.beq sz sz', Nat.beq n n' with
    | true, true, true => .sl sz' (els ++ ch) t
    | _, _, _ => .bad
  | v => v
/-- the slices that lead into the box are frozen -/
def thawC (b sz n : Nat) (ch : List (List Data)) : Cell → Cell
  | .av (.mx sz' els b' n' t) => match Nat.beq b b' with
    | true => .av (thaw1 b sz n ch (.mx sz' els b' n' t))
    | false => .av (.mx sz' els b' n' t)
  | .bx l => .bx (l.map fun v => match v with
    | .mx sz' els b' n' t => (match Nat.beq b b', Nat.beq sz sz', Nat.beq n n' with
      | true, true, true => .sl sz' (els ++ ch) t
      | _, _, _ => .mx sz' els b' n' t)
    | v => v)
  | c => c
def thaw (b sz n : Nat) (ch : List (List Data)) : Log → Log
  | [] => []
  | (k, c) :: r => (k, thawC b sz n ch c) :: thaw b sz n ch r

def awp (call : CallP) : AC → Nat → Log → (Ex → Nat → Log → Prop) → Prop
  | .reg ops, nx, σ, Q => aops call ops nx σ fun σ => Q .n (nx + 100 * ops.length) σ
  | .frz x, nx, σ, Q => match ev σ (.t x) with
    | .mx sz _ b n _ => (match look σ (.b b) with
      | some (.bx l) => ∃ ch : List (List Data), (cellsD l = some ch.flatten ∧ ch.length = n ∧ ∀ e, e ∈ ch → e.length = sz) ∧ Q .n nx ((.b b, .tk false) :: thaw b sz n ch σ)
      | _ => False)
    | .sl _ _ _ => Q .n nx σ
    | _ => False
  | .regD ops pre, nx, σ, Q => aopsD call ops pre 0 nx σ [] fun σ => Q .n (nx + 100 * ops.length) σ
  | .seq x y, nx, σ, Q => awp call x nx σ fun e nx σ => match e with
    | .n => awp call y nx σ Q
    | .e i => Q (.e i) nx σ
    | .r => Q .r nx σ
  | .cond x t e, nx, σ, Q => match ev σ x with
    | .sc (.b v) => @Bool.rec (fun _ => Prop) (awp call e nx (setB x false σ) Q) (awp call t nx (setB x true σ) Q) v
    | _ => False
  | .block n c, nx, σ, Q => awp call c nx σ fun e nx σ => match e with
    | .n => Q .n nx σ
    | .e i => (match Nat.beq i n with | true => Q .n nx σ | false => Q (.e i) nx σ)
    | .r => Q .r nx σ
  | .loop c, nx, σ, Q => LoopP (fun n σ Q => awp call c n σ Q) Q nx σ
  | .cut, nx, σ, Q => CutP (fun n σ => Q .n n σ) nx σ
  | .exit n, nx, σ, Q => Q (.e n) nx σ
  | .ret, nx, σ, Q => Q .r nx σ
  | .skip, nx, σ, Q => Q .n nx σ
  | .stuck, _, _, _ => False

def initS : Nat → List AV → Log
  | _, [] => []
  | n, v :: r => (.s n, .av v) :: initS (n + 1) r
def initB : Nat → List (List AV) → Log
  | _, [] => []
  | n, h :: H => (.b n, .bx h) :: initB (n + 1) H
def initT : List Nat → Log
  | [] => []
  | k :: r => (.t k, .tk true) :: initT r
def initLog (args : List AV) (H : List (List AV)) : Log :=
  initS 0 args ++ initB 0 H ++ initT (args.flatMap toks ++ H.flatMap fun h => h.flatMap toks2)

def wk3 : AV → AV → Prop
  | .tup l, .tup l' => wkL2 l l'
  | x, y => wk2 x y

def upN : Nat → List Nat
  | 0 => []
  | n + 1 => upN n ++ [n]

/-- the end of a body: the result, in the contract's spelling: its new boxes are bn, its new tokens tn -/
structure FinOK (σ : Log) (v : AV) (nb nt : Nat) (res : AV) (H' : List (List AV)) : Prop where
  ex : ∃ bn tn : List Nat,
    (nodupB (upN nb ++ bn) = true ∧ nodupB (upN nt ++ tn) = true ∧ inR (upN nb ++ bn).length (upN nt ++ tn).length res = true ∧ inH (upN nb ++ bn).length (upN nt ++ tn).length H' = true) ∧
    wk3 v (ren (upN nb ++ bn) (upN nt ++ tn) 0 res) ∧ boxIs σ (upN nb ++ bn) (upN nt ++ tn) 0 (upN nb ++ bn) H' ∧
    liveAll σ ((toks res ++ H'.flatMap fun h => h.flatMap toks2).map (rb (upN nt ++ tn) 0))

def resL (σ : Log) : List (Nat × Nat) → (List AV → Prop) → Prop
  | [], K => K []
  | (r, 0) :: t, K => resL σ t fun l => K (ev σ (.t r) :: l)
  | (r, n + 1) :: t, K => match ev σ (.t r) with
    | .ptr b 0 => (match look σ (.b b) with
      | some (.bx l) => (match Nat.beq l.length (n + 1) with
        | true => resL σ t fun r => K (.agg l :: r)
        | false => False)
      | _ => False)
    | _ => False

/-- what is handed back: slots, and structs that lie in boxes -/
def resP (σ : Log) (rs : List (Nat × Nat)) (K : AV → Prop) : Prop := resL σ rs fun l => match l with
  | [v] => K v
  | l => K (.tup l)

/-- the body c, called with args and H, hands back res and leaves H' -/
def Body (call : CallP) (c : AC) (rs : List (Nat × Nat)) (args : List AV) (H : List (List AV)) (res : AV) (H' : List (List AV)) : Prop :=
  awp call c 1000 (initLog args H) fun e _ σ => match e with
    | .e _ => False
    | _ => resP σ rs fun v => FinOK σ v H.length (tokN args H) res H'
end Go.Abs
