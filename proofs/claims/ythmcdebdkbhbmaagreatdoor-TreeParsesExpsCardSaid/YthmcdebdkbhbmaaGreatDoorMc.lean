/- The program's trees as Lean data, and how they are spelt in the machine. -/
import Derived.Test.YthmcdebdkbhbmaaGreatDoorMb
import Derived.Below
namespace Go.Abs
open Go
abbrev S := List UInt8
inductive Exp | mk (op nm : S) (n : Int) (args : List Exp)
mutual
def Exp.d : Exp → List Data | .mk a b n l => [.sc (.s a), .sc (.s b), .sc (.i .i64 n), .lst 4 (expsD l)]
def expsD : List Exp → List (List Data) | [] => [] | x :: r => x.d :: expsD r
end
/-- an expression, handed over -/
def eE (x : Exp) : AV := .agg (x.d.map dcell)
/-- expressions, handed over -/
def eL (l : List Exp) : AV := .sl 4 (expsD l) .none
theorem expsD_length : ∀ l, (expsD l).length = l.length | [] => rfl | _ :: r => by simp [expsD, expsD_length r]
theorem expsD_map : ∀ l : List Exp, expsD l = l.map Exp.d | [] => rfl | x :: r => by simp [expsD, expsD_map r]
theorem expsD_get {l : List Exp} {i : Nat} {x : Exp} (h : l[i]? = some x) : (expsD l)[i]? = some x.d := by rw [expsD_map]; simp [h]
mutual
def sameE : Exp → Exp → Bool | .mk a b n l, .mk a' b' n' l' => beqL a a' && (beqL b b' && (decide (n = n') && sameL l l'))
def sameL : List Exp → List Exp → Bool | [], [] => true | x :: r, y :: s => sameE x y && sameL r s | _, _ => false
end
theorem ctr_body {P : Program} {W0 : World} {an : Ann} {an' : FuncId → Ann} (hm : P.follows .mixedOrders = true) {f : FuncId} {F : Fn} (hF : compT P an' f = some F) (ha' : an' f = an) (hG : ∀ g cells, an.gl g = some cells → GlobOK W0 g cells)
    {args : List AV} {H : List (List AV)} {res : AV} {H' : List (List AV)} (ha : Nat.ble args.length F.nt = true) (hH : Nat.ble (H.length + tokN args H) 900 = true)
    (h : Body (Ctr P W0) F.ac F.rs args H res H') : Ctr P W0 f args H res H' := by
  subst ha'
  unfold compT at hF
  split at hF
  · rename_i fn hfn
    split at hF
    · rename_i c hc
      split at hF
      · rename_i hcal
        split at hF
        · rename_i ac rs hac hrs
          cases hF
          exact ctr_of hm hG (fun _ _ _ _ _ h => h) hfn hc hcal hac hrs ha hH h
        · cases hF
      · cases hF
    · cases hF
  · cases hF
end Go.Abs
namespace Go.Abs
open Go
theorem brec {A B : Prop} {t : Bool} (h1 : t = false → A) (h2 : t = true → B) : @Bool.rec (fun _ => Prop) A B t := by
  cases t with
  | false => exact h1 rfl
  | true => exact h2 rfl
theorem fin_sc {σ : Log} {c c' : Sc} (h : c' = c) : FinOK σ (.sc c') 0 0 (.sc c) [] := by subst h; exact ⟨⟨[], [], ⟨rfl, rfl, rfl, rfl⟩, rfl, trivial, trivial⟩⟩
theorem fin_b {σ : Log} {c c' : Bool} (h : c' = c) : FinOK σ (.sc (.b c')) 0 0 (.sc (.b c)) [] := fin_sc (by rw [h])
theorem fin_i {σ : Log} {c c' : Int} {k : IntKind} (h : c' = c) : FinOK σ (.sc (.i k c')) 0 0 (.sc (.i k c)) [] := fin_sc (by rw [h])
theorem fin_s {σ : Log} {c c' : S} (h : c' = c) : FinOK σ (.sc (.s c')) 0 0 (.sc (.s c)) [] := fin_sc (by rw [h])
/-- the loop's head: the state is st a, μ a falls -/
def JJ {α : Type} (N : Nat) (μ : α → Nat) (st : α → Log) (I : α → Prop) (m n : Nat) (σ : Log) : Prop := ∃ a, (m = μ a ∧ n = N ∧ I a) ∧ σ = st a
theorem nxt {α : Type} {N : Nat} {μ : α → Nat} {st : α → Log} {I : α → Prop} {m : Nat} {σ' : Log} (a : α) (h : μ a < m ∧ I a) (hle : Le σ' N (st a)) : ∃ m' n'' σ'', m' < m ∧ Le σ' n'' σ'' ∧ JJ N μ st I m' n'' σ'' :=
  ⟨_, _, _, h.1, hle, a, ⟨rfl, rfl, h.2⟩, rfl⟩
theorem LoopP.st {f : Nat → Log → (Ex → Nat → Log → Prop) → Prop} {Q : Ex → Nat → Log → Prop} {nx : Nat} {σ : Log} {α : Type} (N : Nat) (μ : α → Nat) (st : α → Log) (I : α → Prop) (a0 : α) (h0 : Le σ N (st a0)) (i0 : I a0)
    (hk : ∀ a, I a → f N (st a) fun e n' σ' => match e with
      | .n => ∃ m' n'' σ'', m' < μ a ∧ Le σ' n'' σ'' ∧ JJ N μ st I m' n'' σ''
      | .e i => Q (.e i) n' σ'
      | .r => Q .r n' σ') : LoopP f Q nx σ :=
  .inv (JJ N μ st I) ⟨μ a0, N, st a0, h0, a0, ⟨rfl, rfl, i0⟩, rfl⟩ (by
    rintro m n σ ⟨a, ⟨rfl, rfl, ia⟩, rfl⟩
    exact hk a ia)
theorem le_of {σ σ' : Log} {N : Nat} (h1 : Nat.ble 1000 N = true) (h2 : belowC N σ' = true) (h3 : leP [] σ σ') : Le σ N σ' := ⟨[], ⟨rfl, by simp, h1, h2⟩, h3⟩
end Go.Abs
namespace Go.Abs
open Go
mutual
/-- no text and no list is longer than the reach -/
def Exp.ok : Exp → Prop | .mk a b n l => (a.length ≤ 140737488355328 ∧ b.length ≤ 140737488355328 ∧ Fits .i64 n) ∧ l.length ≤ 140737488355328 ∧ oksE l
def oksE : List Exp → Prop | [] => True | x :: r => x.ok ∧ oksE r
end
theorem oksE_get : ∀ {l : List Exp} {k : Nat} {x : Exp}, oksE l → l[k]? = some x → x.ok
  | [], _, _, _, h => by simp at h
  | y :: r, 0, x, h, hx => by simp at hx; subst hx; exact h.1
  | y :: r, k + 1, x, h, hx => oksE_get (k := k) h.2 (by simpa using hx)
mutual
theorem sameE_refl : ∀ x, sameE x x = true | .mk a b n l => by simp [sameE, beqL, sameL_refl l]
theorem sameL_refl : ∀ l, sameL l l = true | [] => by simp [sameL] | x :: r => by simp [sameL, sameE_refl x, sameL_refl r]
end
theorem sameL_len : ∀ {l m : List Exp}, l.length ≠ m.length → sameL l m = false
  | [], [], h => absurd rfl h
  | [], _ :: _, _ => rfl
  | _ :: _, [], _ => rfl
  | x :: r, y :: s, h => by simp [sameL, sameL_len (l := r) (m := s) (by simpa using h)]
theorem drop_get {α : Type} {l : List α} {k : Nat} {x : α} (h : l[k]? = some x) : l.drop k = x :: l.drop (k + 1) := by
  obtain ⟨h1, h2⟩ := List.getElem?_eq_some_iff.1 h
  rw [List.drop_eq_getElem_cons h1, h2]
theorem get_of_lt {α : Type} {l : List α} {k : Nat} (h : k < l.length) : ∃ x, l[k]? = some x := ⟨_, List.getElem?_eq_getElem h⟩
theorem size_get {l : List Exp} {k : Nat} {x : Exp} (h : l[k]? = some x) : SizeOf.sizeOf x < SizeOf.sizeOf l := List.sizeOf_lt_of_mem (List.mem_of_getElem? h)
end Go.Abs

namespace Go.Abs
open Go Go.RowKit
/-- the new blocks are data -/
def grownI (κ : Gh) (w w' : World) : Gh := { κ with I := fun b o => κ.I b o ∨ (w.heap.size ≤ b ∧ b < w'.heap.size) }
theorem ctr_lib {P : Program} {W0 : World} {f : FuncId} {args : List AV} {res : AV} (hcal : callable P f = true) (hR : allToks [res] [] = [])
    (h : ∀ (κ : Gh) (w : World) (vals : Array Value), vals.size = args.length → RepS W0 κ (initLog args []) ⟨vals, []⟩ w → Calls P f vals w fun e w' => ∃ v, e = .returned v ∧ Below w.heap.size w w' ∧ RepV (grownI κ w w') w' res v) : Ctr P W0 f args [] res [] := by
  refine ⟨hcal, fun κ w vals hsz hdb hdt hs => (h κ w vals hsz hs).mono ?_⟩
  rintro e w' ⟨v, rfl, hb, hv⟩
  have nb : ∀ args i l, look (initLog args []) (.b i) ≠ some (.bx l) := by
    intro args i l hh
    rw [look_init_b] at hh
    simp at hh
  have nt : ∀ args k, allToks args [] = [] → look (initLog args []) (.t k) ≠ some (.tk true) := by
    intro args k ha hh
    rw [look_init_t, ha] at hh
    simp at hh
  have no : ∀ args κ b o, allToks args [] = [] → ¬ Own κ (initLog args []) b o := by
    rintro args κ b o ha (⟨i, l, hl, _⟩ | ⟨k, hk, _⟩)
    · exact nb _ _ _ hl
    · exact nt _ _ ha hk
  refine ⟨v, grownI κ w w', rfl, ⟨?_, ?_, ?_, ?_, ?_, ?_, ?_, ?_, ?_, ?_, ?_, rfl, ?_, ?_, ?_⟩, ⟨⟨hb.os, hb.tape, hb.output, hb.size, fun b hlt _ => hb.block b hlt, ?_, ?_⟩, ?_, ?_, ?_, ?_, ?_⟩⟩
  · intro n u hu
    unfold finLog at hu
    rw [look_init_s] at hu
    cases n with
    | zero =>
      simp at hu; subst hu
      simpa using hv
    | succ n => simp at hu
  · intro b l hl; exact absurd hl (nb _ _ _)
  · intro b b' l l' hl; exact absurd hl (nb _ _ _)
  · intro k hk; exact absurd hk (nt _ _ hR)
  · intro k k' hk; exact absurd hk (nt _ _ hR)
  · intro k i l hk; exact absurd hk (nt _ _ hR)
  · intro b o ho; exact absurd ho (no _ _ _ _ hR)
  · rintro b o (hI | ⟨_, h2⟩)
    · exact Nat.lt_of_lt_of_le (hs.Icell b o hI) hb.size
    · exact h2
  · intro b o hlt; exact .inl (hs.old b o hlt)
  · exact Nat.le_trans hs.size0 hb.size
  · intro b hlt; exact (hb.block b (Nat.lt_of_lt_of_le hlt hs.size0)).trans (hs.amb b hlt)
  · exact hb.os.trans hs.os
  · exact hb.tape.trans hs.tape
  · exact hb.output.trans hs.output
  · intro b C ty fz hC
    exact ⟨C, (hb.block b (lt_of_heap hC)).trans hC, rfl, fun _ _ => rfl⟩
  · intro b E c hE
    exact ⟨E, c, (hb.block b (lt_of_heap hE)).trans hE⟩
  · intro b o ho; exact absurd ho (no _ _ _ _ hR)
  · intro b o hI; exact .inl hI
  · rintro b o (hI | ⟨h1, _⟩)
    · exact .inl hI
    · exact .inr (.inr h1)
  · intro b _ hd; exact ⟨hd, rfl⟩
  · intro k _ hd; exact ⟨hd, rfl⟩
/-- the arguments' values -/
theorem RepS.arg {W0 : World} {κ : Gh} {args : List AV} {H : List (List AV)} {vals : Array Value} {w : World} (hs : RepS W0 κ (initLog args H) ⟨vals, []⟩ w) {n : Nat} {v : AV} (h : args[n]? = some v) : RepV κ w v (vals.getD n undef) :=
  hs.slots n v (by rw [look_init_s, h]; rfl)
end Go.Abs
namespace Go.Abs
open Go Go.RowKit
/-- texts, handed over -/
def strsD (l : List (List UInt8)) : List (List Data) := l.map fun s => [.sc (.s s)]
def strL (l : List (List UInt8)) : AV := .sl 1 (strsD l) .none
theorem strsD_length (l : List (List UInt8)) : (strsD l).length = l.length := by simp [strsD]
theorem strsD_get {l : List (List UInt8)} {i : Nat} {s : List UInt8} (h : l[i]? = some s) : (strsD l)[i]? = some [.sc (.s s)] := by simp [strsD, h]
/-- how a list of texts lies -/
theorem RepS.texts {W0 : World} {κ : Gh} {σ : Log} {a : Act} {w : World} (hs : RepS W0 κ σ a w) {l : List (List UInt8)} {t : Tok} {v : Value} (h : RepV κ w (.sl 1 (strsD l) t) v) :
    (∃ ad c, v = .slice ad 0 c ∧ l = []) ∨ ∃ b o c, v = .slice (some ⟨b, o, none⟩) l.length c ∧ l.length ≤ c ∧ b < w.heap.size ∧ ∀ (j : Nat) s, l[j]? = some s → w.cell? ⟨b, o + j, none⟩ = some (.string ⟨s.toArray⟩) := by
  obtain ⟨hD, _⟩ := h.sl_inv
  generalize hg : strsD l = els at hD
  cases hD with
  | nil _ A =>
    have : l = [] := by cases l with | nil => rfl | cons => simp [strsD] at hg
    exact .inl ⟨_, _, rfl, this⟩
  | lst _ _ b o cap C hn hlen hI hc hr =>
    subst hg
    rw [strsD_length] at hn
    cases l with
    | nil => exact .inl ⟨_, _, rfl, rfl⟩
    | cons s r =>
      refine .inr ⟨b, o, cap, by rw [strsD_length], hn, hs.Icell b (o + 0 * 1 + 0) (hI 0 0 (by simp [strsD]) (by omega)), fun j x hx => ?_⟩
      have hj := (List.getElem?_eq_some_iff.1 hx).1
      have h1 := hc j 0 (by rw [strsD_length]; exact hj) (by omega)
      have h2 := hr j 0 _ _ (strsD_get hx) rfl
      rw [Nat.mul_one, Nat.add_zero] at h1
      rw [h1]
      generalize C j 0 = x at h2
      cases h2 with | sc c => rfl
theorem vals1 {vals : Array Value} (h : vals.size = 1) : vals = #[vals.getD 0 undef] := by
  apply Array.ext
  · simpa using h
  · intro i h1 h2
    obtain rfl : i = 0 := by omega
    simp [Array.getD, h]
theorem vals2 {vals : Array Value} (h : vals.size = 2) : vals = #[vals.getD 0 undef, vals.getD 1 undef] := by
  apply Array.ext
  · simpa using h
  · intro i h1 h2
    rcases (show i = 0 ∨ i = 1 by omega) with rfl | rfl <;> simp [Array.getD, h]
end Go.Abs
namespace Go.Abs
open Go Go.RowKit
theorem RepS.tab {P : Program} {W0 : World} {κ : Gh} {σ : Log} {a : Act} {w : World} (hs : RepS W0 κ σ a w) {n : String} {cs : Array Value} (h : W0.var? P n = some cs) : w.var? P n = some cs := by
  unfold World.var? at h ⊢
  cases hg : P.globalNamed n with
  | none => rw [hg] at h; cases h
  | some g =>
    rw [hg] at h
    simp only [Option.bind_some] at h ⊢
    by_cases hlt : g < W0.heap.size
    · rw [hs.amb g hlt]; exact h
    · rw [Array.getElem?_eq_none (by omega)] at h; cases h
/-- a new row of texts -/
theorem alloc_texts {κ : Gh} {w : World} (l : List (List UInt8)) (ty : TypeId) : RepV (grownI κ w (w.alloc (.cells (l.map fun s => Value.string ⟨s.toArray⟩).toArray ty))) (w.alloc (.cells (l.map fun s => Value.string ⟨s.toArray⟩).toArray ty)) (.sl 1 (strsD l) .full) (.slice (some ⟨w.heap.size, 0, none⟩) l.length l.length) := by
  refine .sl 1 _ .full _ ?_ (fun A m c ev => by cases ev; rfl)
  have := RepD.lst (I := (grownI κ w (w.alloc (.cells (l.map fun s => Value.string ⟨s.toArray⟩).toArray ty))).I) (w := w.alloc (.cells (l.map fun s => Value.string ⟨s.toArray⟩).toArray ty)) 1 (strsD l) w.heap.size 0 l.length
    (fun i _ => (l.map fun s => Value.string ⟨s.toArray⟩).getD i undef) (by rw [strsD_length]; exact Nat.le_refl _)
    (fun e he => by simp only [strsD, List.mem_map] at he; obtain ⟨s, _, rfl⟩ := he; rfl)
    (fun i j _ _ => .inr ⟨Nat.le_refl _, by rw [show (w.alloc (.cells (l.map fun s => Value.string ⟨s.toArray⟩).toArray ty)).heap.size = w.heap.size + 1 by simp]; omega⟩)
    (fun i j hi hj => by
      rw [strsD_length] at hi
      obtain rfl : j = 0 := by omega
      rw [cell?_of_cells (heap_alloc_new (w := w))]
      simp [hi])
    (fun i j e d he hd => by
      have hi : i < l.length := by have := (List.getElem?_eq_some_iff.1 he).1; rwa [strsD_length] at this
      rw [strsD_get (List.getElem?_eq_getElem hi)] at he
      cases he
      cases j with
      | zero =>
        simp at hd; subst hd
        rw [List.getD_eq_getElem?_getD]
        simp only [List.getElem?_map, List.getElem?_eq_getElem hi, Option.map_some, Option.getD_some]
        exact .sc (.s l[i])
      | succ j => simp at hd)
  rwa [strsD_length] at this
theorem below_alloc (w : World) (o : Obj) : Below w.heap.size w (w.alloc o) := (Below.refl _ w).alloc (Nat.le_refl _) o
end Go.Abs

namespace Go.Abs
open Go
structure Fold where
  op : S
  nm : S
structure Prm where
  nm : S
  ty : S
  rk : Int
inductive Stm | mk (op nm tx : S) (n : Int) (ns : List S) (es : List Exp) (fs : List Fold) (bs : List (List Stm))
structure Prc where
  nm : S
  res : S
  ps : List Prm
  body : List Stm
structure Prg where
  procs : List Prc
  body : List Stm
def Fold.d (f : Fold) : List Data := [.sc (.s f.op), .sc (.s f.nm)]
def foldsD (l : List Fold) : List (List Data) := l.map Fold.d
def Prm.d (p : Prm) : List Data := [.sc (.s p.nm), .sc (.s p.ty), .sc (.i .i64 p.rk)]
def prmsD (l : List Prm) : List (List Data) := l.map Prm.d
mutual
def Stm.d : Stm → List Data | .mk o nm tx n ns es fs bs => [.sc (.s o), .sc (.s nm), .sc (.s tx), .sc (.i .i64 n), .lst 1 (strsD ns), .lst 4 (expsD es), .lst 2 (foldsD fs), .lst 1 (bodiesD bs)]
def stmsD : List Stm → List (List Data) | [] => [] | x :: r => x.d :: stmsD r
def bodiesD : List (List Stm) → List (List Data) | [] => [] | b :: r => [.lst 8 (stmsD b)] :: bodiesD r
end
def Prc.d (p : Prc) : List Data := [.sc (.s p.nm), .sc (.s p.res), .lst 3 (prmsD p.ps), .lst 8 (stmsD p.body)]
def prcsD (l : List Prc) : List (List Data) := l.map Prc.d
def Prg.d (p : Prg) : List Data := [.lst 4 (prcsD p.procs), .lst 8 (stmsD p.body)]
theorem beqL_refl (a : S) : beqL a a = true := by simp [beqL]
/-- no text and no list longer than the reach -/
def okT (l : List S) : Prop := l.length ≤ 140737488355328 ∧ ∀ s, s ∈ l → s.length ≤ 140737488355328
def Fold.ok (f : Fold) : Prop := f.op.length ≤ 140737488355328 ∧ f.nm.length ≤ 140737488355328
def Prm.ok (f : Prm) : Prop := f.nm.length ≤ 140737488355328 ∧ f.ty.length ≤ 140737488355328 ∧ Fits .i64 f.rk
mutual
def Stm.ok : Stm → Prop | .mk o nm tx n ns es fs bs => (o.length ≤ 140737488355328 ∧ nm.length ≤ 140737488355328 ∧ tx.length ≤ 140737488355328 ∧ Fits .i64 n) ∧ okT ns ∧ (es.length ≤ 140737488355328 ∧ oksE es) ∧ (fs.length ≤ 140737488355328 ∧ ∀ f, f ∈ fs → f.ok) ∧ (bs.length ≤ 140737488355328 ∧ oksBs bs)
def oksB : List Stm → Prop | [] => True | x :: r => x.ok ∧ oksB r
def oksBs : List (List Stm) → Prop | [] => True | x :: r => (x.length ≤ 140737488355328 ∧ oksB x) ∧ oksBs r
end
def Prc.ok (p : Prc) : Prop := (p.nm.length ≤ 140737488355328 ∧ p.res.length ≤ 140737488355328) ∧ (p.ps.length ≤ 140737488355328 ∧ ∀ x, x ∈ p.ps → x.ok) ∧ (p.body.length ≤ 140737488355328 ∧ oksB p.body)
def Prg.ok (p : Prg) : Prop := (p.procs.length ≤ 140737488355328 ∧ ∀ x, x ∈ p.procs → x.ok) ∧ (p.body.length ≤ 140737488355328 ∧ oksB p.body)
end Go.Abs
