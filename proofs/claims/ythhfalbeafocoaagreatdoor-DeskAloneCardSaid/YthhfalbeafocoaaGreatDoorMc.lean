/- The program's trees as Lean data, and how they are spelt in the machine. -/
import Derived.Test.YthhfalbeafocoaaGreatDoorMg
import Derived.Below
import Derived.Lib.AtoiErrMem
import Derived.Test.YthhfalbeafocoaaGreatDoorSh
import Derived.Shelf.SlicesE.Clone
import Derived.RangeFuncRecord
import Derived.RangeFuncLeaves
import Derived.RangeFuncIn
import Derived.WalkKit
import Derived.TacticsIn
import Derived.BigFrameIn
namespace Go.Abs
open Go
abbrev S := List UInt8
inductive Exp | mk (op nm : S) (n : Int) (args : List Exp)
mutual
def Exp.d : Exp → List Data | .mk a b n l => [.sc (.s a), .sc (.s b), .sc (.i .i64 n), .lst 4 (expsD l)]
def expsD : List Exp → List (List Data) | [] => [] | x :: r => x.d :: expsD r
end
theorem ctr_body {P : Program} {W0 : World} {an : Ann} {an' : FuncId → Ann} (hm : P.follows .mixedOrders = true) {f : FuncId} {F : Fn} (hF : compT P an' f = some F) (ha' : an' f = an) (hG : ∀ g cells, an.gl g = some cells → GlobOK W0 g cells)
    {args : List AV} {H : List (List AV)} {res : AV} {H' : List (List AV)} (ha : Nat.ble args.length F.nt = true) (hH : Nat.ble (H.length + tokN args H) 900 = true)
    (h : Body (Ctr P W0) F.ac F.rs args H res H') : Ctr P W0 f args H res H' := by
  subst ha'
  unfold compT at hF
  split at hF
  · rename_i fn hfn
    split at hF
    · rename_i c hc
      split at hF
      · rename_i hcal
        split at hF
        · rename_i ac rs hac hrs
          cases hF
          exact ctr_of hm hG (fun _ _ _ _ _ h => h) hfn hc hcal hac hrs ha hH h
        · cases hF
      · cases hF
    · cases hF
  · cases hF
end Go.Abs
namespace Go.Abs
open Go
theorem brec {A B : Prop} {t : Bool} (h1 : t = false → A) (h2 : t = true → B) : @Bool.rec (fun _ => Prop) A B t := by
  cases t with
  | false => exact h1 rfl
  | true => exact h2 rfl
theorem fin_sc {σ : Log} {c c' : Sc} (h : c' = c) : FinOK σ (.sc c') 0 0 (.sc c) [] := by subst h; exact ⟨⟨[], [], ⟨rfl, rfl, rfl, rfl⟩, rfl, trivial, trivial⟩⟩
theorem fin_b {σ : Log} {c c' : Bool} (h : c' = c) : FinOK σ (.sc (.b c')) 0 0 (.sc (.b c)) [] := fin_sc (by rw [h])
theorem fin_i {σ : Log} {c c' : Int} {k : IntKind} (h : c' = c) : FinOK σ (.sc (.i k c')) 0 0 (.sc (.i k c)) [] := fin_sc (by rw [h])
theorem fin_s {σ : Log} {c c' : S} (h : c' = c) : FinOK σ (.sc (.s c')) 0 0 (.sc (.s c)) [] := fin_sc (by rw [h])
/-- the loop's head: the state is st a, μ a falls -/
def JJ {α : Type} (N : Nat) (μ : α → Nat) (st : α → Log) (I : α → Prop) (m n : Nat) (σ : Log) : Prop := ∃ a, (m = μ a ∧ n = N ∧ I a) ∧ σ = st a
theorem nxt {α : Type} {N : Nat} {μ : α → Nat} {st : α → Log} {I : α → Prop} {m : Nat} {σ' : Log} (a : α) (h : μ a < m ∧ I a) (hle : Le σ' N (st a)) : ∃ m' n'' σ'', m' < m ∧ Le σ' n'' σ'' ∧ JJ N μ st I m' n'' σ'' :=
  ⟨_, _, _, h.1, hle, a, ⟨rfl, rfl, h.2⟩, rfl⟩
theorem LoopP.st {f : Nat → Log → (Ex → Nat → Log → Prop) → Prop} {Q : Ex → Nat → Log → Prop} {nx : Nat} {σ : Log} {α : Type} (N : Nat) (μ : α → Nat) (st : α → Log) (I : α → Prop) (a0 : α) (h0 : Le σ N (st a0)) (i0 : I a0)
    (hk : ∀ a, I a → f N (st a) fun e n' σ' => match e with
      | .n => ∃ m' n'' σ'', m' < μ a ∧ Le σ' n'' σ'' ∧ JJ N μ st I m' n'' σ''
      | .e i => Q (.e i) n' σ'
      | .r => Q .r n' σ') : LoopP f Q nx σ :=
  .inv (JJ N μ st I) ⟨μ a0, N, st a0, h0, a0, ⟨rfl, rfl, i0⟩, rfl⟩ (by
    rintro m n σ ⟨a, ⟨rfl, rfl, ia⟩, rfl⟩
    exact hk a ia)
theorem le_of {σ σ' : Log} {N : Nat} (h1 : Nat.ble 1000 N = true) (h2 : belowC N σ' = true) (h3 : leP [] σ σ') : Le σ N σ' := ⟨[], ⟨rfl, by simp, h1, h2⟩, h3⟩
end Go.Abs
namespace Go.Abs
open Go
mutual
/-- no text and no list is longer than the reach -/
def Exp.ok : Exp → Prop | .mk a b n l => (a.length ≤ 140737488355328 ∧ b.length ≤ 140737488355328 ∧ Fits .i64 n) ∧ l.length ≤ 140737488355328 ∧ oksE l
def oksE : List Exp → Prop | [] => True | x :: r => x.ok ∧ oksE r
end
theorem drop_get {α : Type} {l : List α} {k : Nat} {x : α} (h : l[k]? = some x) : l.drop k = x :: l.drop (k + 1) := by
  obtain ⟨h1, h2⟩ := List.getElem?_eq_some_iff.1 h
  rw [List.drop_eq_getElem_cons h1, h2]
theorem get_of_lt {α : Type} {l : List α} {k : Nat} (h : k < l.length) : ∃ x, l[k]? = some x := ⟨_, List.getElem?_eq_getElem h⟩
end Go.Abs

namespace Go.Abs
open Go Go.RowKit
/-- the new blocks are data -/
def grownI (κ : Gh) (w w' : World) : Gh := { κ with I := fun b o => κ.I b o ∨ (w.heap.size ≤ b ∧ b < w'.heap.size) }
theorem ctr_lib {P : Program} {W0 : World} {f : FuncId} {args : List AV} {res : AV} (hcal : callable P f = true) (hR : allToks [res] [] = [])
    (h : ∀ (κ : Gh) (w : World) (vals : Array Value), vals.size = args.length → RepS W0 κ (initLog args []) ⟨vals, []⟩ w → Calls P f vals w fun e w' => ∃ v, e = .returned v ∧ Below w.heap.size w w' ∧ RepV (grownI κ w w') w' res v) : Ctr P W0 f args [] res [] := by
  refine ⟨hcal, fun κ w vals hsz hdb hdt hs => (h κ w vals hsz hs).mono ?_⟩
  rintro e w' ⟨v, rfl, hb, hv⟩
  have nb : ∀ args i l, look (initLog args []) (.b i) ≠ some (.bx l) := by
    intro args i l hh
    rw [look_init_b] at hh
    simp at hh
  have nt : ∀ args k, allToks args [] = [] → look (initLog args []) (.t k) ≠ some (.tk true) := by
    intro args k ha hh
    rw [look_init_t, ha] at hh
    simp at hh
  have no : ∀ args κ b o, allToks args [] = [] → ¬ Own κ (initLog args []) b o := by
    rintro args κ b o ha (⟨i, l, hl, _⟩ | ⟨k, hk, _⟩)
    · exact nb _ _ _ hl
    · exact nt _ _ ha hk
  refine ⟨v, grownI κ w w', rfl, ⟨?_, ?_, ?_, ?_, ?_, ?_, ?_, ?_, ?_, ?_, ?_, rfl, ?_, ?_, ?_⟩, ⟨⟨hb.os, hb.tape, hb.output, hb.size, fun b hlt _ => hb.block b hlt, ?_, ?_⟩, ?_, ?_, ?_, ?_, ?_⟩⟩
  · intro n u hu
    unfold finLog at hu
    rw [look_init_s] at hu
    cases n with
    | zero =>
      simp at hu; subst hu
      simpa using hv
    | succ n => simp at hu
  · intro b l hl; exact absurd hl (nb _ _ _)
  · intro b b' l l' hl; exact absurd hl (nb _ _ _)
  · intro k hk; exact absurd hk (nt _ _ hR)
  · intro k k' hk; exact absurd hk (nt _ _ hR)
  · intro k i l hk; exact absurd hk (nt _ _ hR)
  · intro b o ho; exact absurd ho (no _ _ _ _ hR)
  · rintro b o (hI | ⟨_, h2⟩)
    · exact Nat.lt_of_lt_of_le (hs.Icell b o hI) hb.size
    · exact h2
  · intro b o hlt; exact .inl (hs.old b o hlt)
  · exact Nat.le_trans hs.size0 hb.size
  · intro b hlt; exact (hb.block b (Nat.lt_of_lt_of_le hlt hs.size0)).trans (hs.amb b hlt)
  · exact hb.os.trans hs.os
  · exact hb.tape.trans hs.tape
  · exact hb.output.trans hs.output
  · intro b C ty fz hC
    exact ⟨C, (hb.block b (lt_of_heap hC)).trans hC, rfl, fun _ _ => rfl⟩
  · intro b ob hE hn
    exact ⟨ob, (hb.block b (lt_of_heap hE)).trans hE, hn⟩
  · intro b o ho; exact absurd ho (no _ _ _ _ hR)
  · intro b o hI; exact .inl hI
  · rintro b o (hI | ⟨h1, _⟩)
    · exact .inl hI
    · exact .inr (.inr h1)
  · intro b _ hd; exact ⟨hd, rfl⟩
  · intro k _ hd; exact ⟨hd, rfl⟩
/-- the arguments' values -/
theorem RepS.arg {W0 : World} {κ : Gh} {args : List AV} {H : List (List AV)} {vals : Array Value} {w : World} (hs : RepS W0 κ (initLog args H) ⟨vals, []⟩ w) {n : Nat} {v : AV} (h : args[n]? = some v) : RepV κ w v (vals.getD n undef) :=
  hs.slots n v (by rw [look_init_s, h]; rfl)
end Go.Abs
namespace Go.Abs
open Go Go.RowKit
/-- texts, handed over -/
def strsD (l : List (List UInt8)) : List (List Data) := l.map fun s => [.sc (.s s)]
def strL (l : List (List UInt8)) : AV := .sl 1 (strsD l) .none
theorem strsD_length (l : List (List UInt8)) : (strsD l).length = l.length := by simp [strsD]
theorem strsD_get {l : List (List UInt8)} {i : Nat} {s : List UInt8} (h : l[i]? = some s) : (strsD l)[i]? = some [.sc (.s s)] := by simp [strsD, h]
/-- how a list of texts lies -/
theorem RepS.texts {W0 : World} {κ : Gh} {σ : Log} {a : Act} {w : World} (hs : RepS W0 κ σ a w) {l : List (List UInt8)} {t : Tok} {v : Value} (h : RepV κ w (.sl 1 (strsD l) t) v) :
    (∃ ad c, v = .slice ad 0 c ∧ l = []) ∨ ∃ b o c, v = .slice (some ⟨b, o, none⟩) l.length c ∧ l.length ≤ c ∧ b < w.heap.size ∧ ∀ (j : Nat) s, l[j]? = some s → w.cell? ⟨b, o + j, none⟩ = some (.string ⟨s.toArray⟩) := by
  obtain ⟨hD, _⟩ := h.sl_inv
  generalize hg : strsD l = els at hD
  cases hD with
  | nil _ A =>
    have : l = [] := by cases l with | nil => rfl | cons => simp [strsD] at hg
    exact .inl ⟨_, _, rfl, this⟩
  | lst _ _ b o cap C hn hlen hI hc hr =>
    subst hg
    rw [strsD_length] at hn
    cases l with
    | nil => exact .inl ⟨_, _, rfl, rfl⟩
    | cons s r =>
      refine .inr ⟨b, o, cap, by rw [strsD_length], hn, hs.Icell b (o + 0 * 1 + 0) (hI 0 0 (by simp [strsD]) (by omega)), fun j x hx => ?_⟩
      have hj := (List.getElem?_eq_some_iff.1 hx).1
      have h1 := hc j 0 (by rw [strsD_length]; exact hj) (by omega)
      have h2 := hr j 0 _ _ (strsD_get hx) rfl
      rw [Nat.mul_one, Nat.add_zero] at h1
      rw [h1]
      generalize C j 0 = x at h2
      cases h2 with | sc c => rfl
theorem vals1 {vals : Array Value} (h : vals.size = 1) : vals = #[vals.getD 0 undef] := by
  apply Array.ext
  · simpa using h
  · intro i h1 h2
    obtain rfl : i = 0 := by omega
    simp [Array.getD, h]
theorem vals2 {vals : Array Value} (h : vals.size = 2) : vals = #[vals.getD 0 undef, vals.getD 1 undef] := by
  apply Array.ext
  · simpa using h
  · intro i h1 h2
    rcases (show i = 0 ∨ i = 1 by omega) with rfl | rfl <;> simp [Array.getD, h]
end Go.Abs
namespace Go.Abs
open Go Go.RowKit
theorem RepS.tab {P : Program} {W0 : World} {κ : Gh} {σ : Log} {a : Act} {w : World} (hs : RepS W0 κ σ a w) {n : String} {cs : Array Value} (h : W0.var? P n = some cs) : w.var? P n = some cs := by
  unfold World.var? at h ⊢
  cases hg : P.globalNamed n with
  | none => rw [hg] at h; cases h
  | some g =>
    rw [hg] at h
    simp only [Option.bind_some] at h ⊢
    by_cases hlt : g < W0.heap.size
    · rw [hs.amb g hlt]; exact h
    · rw [Array.getElem?_eq_none (by omega)] at h; cases h
/-- a new row of texts -/
theorem alloc_texts {κ : Gh} {w : World} (l : List (List UInt8)) (ty : TypeId) : RepV (grownI κ w (w.alloc (.cells (l.map fun s => Value.string ⟨s.toArray⟩).toArray ty))) (w.alloc (.cells (l.map fun s => Value.string ⟨s.toArray⟩).toArray ty)) (.sl 1 (strsD l) .full) (.slice (some ⟨w.heap.size, 0, none⟩) l.length l.length) := by
  refine .sl 1 _ .full _ ?_ (fun A m c ev => by cases ev; rfl)
  have := RepD.lst (I := (grownI κ w (w.alloc (.cells (l.map fun s => Value.string ⟨s.toArray⟩).toArray ty))).I) (w := w.alloc (.cells (l.map fun s => Value.string ⟨s.toArray⟩).toArray ty)) 1 (strsD l) w.heap.size 0 l.length
    (fun i _ => (l.map fun s => Value.string ⟨s.toArray⟩).getD i undef) (by rw [strsD_length]; exact Nat.le_refl _)
    (fun e he => by simp only [strsD, List.mem_map] at he; obtain ⟨s, _, rfl⟩ := he; rfl)
    (fun i j _ _ => .inr ⟨Nat.le_refl _, by rw [show (w.alloc (.cells (l.map fun s => Value.string ⟨s.toArray⟩).toArray ty)).heap.size = w.heap.size + 1 by simp]; omega⟩)
    (fun i j hi hj => by
      rw [strsD_length] at hi
      obtain rfl : j = 0 := by omega
      rw [cell?_of_cells (heap_alloc_new (w := w))]
      simp [hi])
    (fun i j e d he hd => by
      have hi : i < l.length := by have := (List.getElem?_eq_some_iff.1 he).1; rwa [strsD_length] at this
      rw [strsD_get (List.getElem?_eq_getElem hi)] at he
      cases he
      cases j with
      | zero =>
        simp at hd; subst hd
        rw [List.getD_eq_getElem?_getD]
        simp only [List.getElem?_map, List.getElem?_eq_getElem hi, Option.map_some, Option.getD_some]
        exact .sc (.s l[i])
      | succ j => simp at hd)
  rwa [strsD_length] at this
theorem below_alloc (w : World) (o : Obj) : Below w.heap.size w (w.alloc o) := (Below.refl _ w).alloc (Nat.le_refl _) o
end Go.Abs

namespace Go.Abs
open Go.Proofs Go.RowKit
theorem join_ctr (W0 : Go.World) (l : List (List UInt8)) (sep : List UInt8) (hl : l.length ≤ 140737488355328) (hlen : (Go.Lib.join l sep).length ≤ 140737488355328) :
    Ctr Tryz.prog W0 88 [strL l, .sc (.s sep)] [] (.sc (.s (Go.Lib.join l sep))) [] := by
  refine ctr_lib (by kernel_rfl) rfl fun κ w vals hsz hs => ?_
  have h0 := hs.arg (n := 0) rfl
  have h1 := (hs.arg (n := 1) rfl).sc_inv
  rw [vals2 hsz]
  generalize vals.getD 0 Go.undef = v0 at h0 ⊢
  rw [h1]
  rcases hs.texts h0 with ⟨ad, c, rfl, rfl⟩ | ⟨b, o, c, rfl, hc, hb, hcell⟩
  · refine (Tryz.strings_Join_none ad c _ w).mono ?_
    rintro e w' ⟨rfl, rfl⟩
    exact ⟨_, rfl, Below.refl _ _, .sc (.s [])⟩
  · have em : (l.map fun s => (⟨s.toArray⟩ : ByteArray)).map (·.data.toList) = l := by simp [Function.comp_def]
    have := Tryz.strings_Join b o c (l.map fun s => ⟨s.toArray⟩) ⟨sep.toArray⟩ w (by
      intro j x hx
      rw [List.getElem?_map] at hx
      cases hj : l[j]? with
      | none => rw [hj] at hx; cases hx
      | some s => rw [hj] at hx; cases hx; exact hcell j s hj) hb (by simpa using hl) (by simpa using hc) (by rw [em]; simpa using hlen)
    rw [em] at this
    simp only [List.length_map] at this
    refine this.mono ?_
    rintro e w' ⟨rfl, hw⟩
    exact ⟨_, rfl, hw, .sc (.s _)⟩
theorem atoi_ctr (W0 : Go.World) (s : List UInt8) (n : Int) (hl : s.length ≤ 18) (h : Go.Lib.atoi s = some n) : Ctr Tryz.prog W0 54 [.sc (.s s)] [] (.tup [.sc (.i .i64 n), .sc .ni]) [] := by
  refine ctr_lib (by kernel_rfl) rfl fun κ w vals hsz hs => ?_
  have h0 := (hs.arg (n := 0) rfl).sc_inv
  rw [vals1 hsz, h0]
  refine (Tryz.strconv_Atoi ⟨s.toArray⟩ n (by simpa [ByteArray.size] using hl) h w).mono ?_
  rintro e w' ⟨rfl, t, rfl⟩
  refine ⟨_, rfl, Go.Lib.bytesWorld_below _ _ _, .tup _ _ rfl fun j v hj => ?_⟩
  match j, hj with
  | 0, hj => simp at hj; subst hj; exact .sc (.i .i64 n)
  | 1, hj => simp at hj; subst hj; exact .sc .ni
  | j + 2, hj => simp at hj
end Go.Abs
namespace Go.Abs
open Go.Proofs Go.RowKit
theorem fields_ctr (W0 : Go.World) (htab : Go.Lib.TabIs Tryz.prog W0 "strings.asciiSpace" .u8 Go.Lib.asciiSpaceTab) (s : List UInt8) (hl : s.length < 4294967281) (ha : ∀ b, b ∈ s → b.toNat < 128) :
    Ctr Tryz.prog W0 201 [.sc (.s s)] [] (.sl 1 (strsD (Go.Lib.fields s)) .full) [] := by
  refine ctr_lib (by kernel_rfl) rfl fun κ w vals hsz hs => ?_
  have h0 := (hs.arg (n := 0) rfl).sc_inv
  rw [vals1 hsz, h0]
  refine (Tryz.strings_Fields_laid ⟨s.toArray⟩ w (by simpa [ByteArray.size] using hl) (fun j b hb => ha b (List.mem_of_getElem? (by simpa using hb))) (hs.tab htab)).mono ?_
  rintro e w' ⟨rfl, rfl⟩
  exact ⟨_, rfl, below_alloc _ _, alloc_texts (Go.Lib.fields s) 9⟩
theorem itoa_ctr (W0 : Go.World) (htab : Go.Lib.TabIs Tryz.prog W0 "internal/strconv.uint64pow10" .u64 Go.Lib.pow10Tab) (n : Int) (hn : Fits .i64 n) :
    Ctr Tryz.prog W0 13 [.sc (.i .i64 n)] [] (.sc (.s (Go.Lib.itoa n))) [] := by
  refine ctr_lib (by kernel_rfl) rfl fun κ w vals hsz hs => ?_
  have h0 := (hs.arg (n := 0) rfl).sc_inv
  rw [vals1 hsz, h0]
  refine (Tryz.strconv_Itoa n hn.1 hn.2 w (hs.tab htab)).mono ?_
  rintro e w' ⟨rfl, k, os, rfl⟩
  refine ⟨_, rfl, ⟨rfl, rfl, rfl, by simp [Go.Sort.grow], fun b hb => ?_⟩, .sc (.s _)⟩
  have hb' : b < (w.drewN k).heap.size := hb
  show ((w.drewN k).heap ++ os)[b]? = _
  rw [Array.getElem?_append_left hb']
  rfl
theorem split_ctr (W0 : Go.World) (hm : ∃ m, W0.cell? ⟨0, 0, none⟩ = some (.int .i64 m)) (s sep : List UInt8) (hl : s.length < 4294967281) (h1 : 1 ≤ sep.length) (l : List (List UInt8)) (he : (Go.Lib.splitB ⟨sep.toArray⟩ 0 (Go.Lib.countB ⟨s.toArray⟩ ⟨sep.toArray⟩) ⟨s.toArray⟩).map (·.data.toList) = l) (hn : l.length = Go.Lib.countB ⟨s.toArray⟩ ⟨sep.toArray⟩ + 1) :
    Ctr Tryz.prog W0 22 [.sc (.s s), .sc (.s sep)] [] (.sl 1 (strsD l) .full) [] := by
  refine ctr_lib (by kernel_rfl) rfl fun κ w vals hsz hs => ?_
  have h0 := (hs.arg (n := 0) rfl).sc_inv
  have h1' := (hs.arg (n := 1) rfl).sc_inv
  rw [vals2 hsz, h0, h1']
  obtain ⟨m, hm⟩ := hm
  have hm' : w.cell? ⟨0, 0, none⟩ = some (.int .i64 m) := by
    have hlt : 0 < W0.heap.size := by
      cases h : W0.heap[0]? with
      | none => simp [Go.World.cell?, h] at hm
      | some x => exact (Array.getElem?_eq_some_iff.1 h).1
    rw [hs.oldcell hlt]; exact hm
  refine (Tryz.strings_Split ⟨s.toArray⟩ ⟨sep.toArray⟩ m w (by simpa [ByteArray.size] using hl) hm' (by simpa [ByteArray.size] using h1)).mono ?_
  rintro e w' ⟨rfl, rfl⟩
  have e1 : (Go.Lib.splitB ⟨sep.toArray⟩ 0 (Go.Lib.countB ⟨s.toArray⟩ ⟨sep.toArray⟩) ⟨s.toArray⟩).map Go.Value.string = l.map fun s => Go.Value.string ⟨s.toArray⟩ := by
    rw [← he, List.map_map]
    refine List.map_congr_left fun x _ => ?_
    simp
  rw [e1]
  exact ⟨_, rfl, below_alloc _ _, by rw [← hn]; exact alloc_texts l 9⟩
end Go.Abs

namespace Go.Abs
open Go Go.Proofs Go.Shelf Go.RowKit Go.Lib
variable {P : Program} {ρ : Go.Shelf.Ren}
set_option maxHeartbeats 2000000 in
set_option maxRecDepth 100000 in
theorem clone_empty (L : SlLaysE0.n41 P ρ) (i0 : TypeInfo) (z : Value) (size : Nat) (hi : P.info? (ρ.t 23) = some i0) (hz0 : i0.zero = some z) (hz1 : i0.size = size)
    (z23 : ∀ w, (Go.sizeOf (ρ.t 23)).run P w = .ok size w) (a : Addr) (w : World) :
    Calls P (ρ.f 41) #[.slice (some a) 0 0] w fun e w' => e = .returned (.slice (some ⟨w.heap.size, 0, none⟩) 0 0) ∧ w' = w.alloc (.cells #[] (ρ.t 23)) := by
  have mixed := L.mixed; have t4 := L.t4; have a4 := L.a4; have z4 := L.z4; have v4 := L.v4; have t22 := L.t22; have a22 := L.a22; have z22 := L.z22; have v22 := L.v22
  have q22 : ∀ (w : World) (a : Option Addr) (n c n' c' : Nat), (binOp .eql (ρ.t 22) (.slice a n c) (.slice none n' c')).run P w = .ok (.bool a.isNone) w := fun w a n c n' c' => Lib.run_eql_slice_nil w _ _ a n c n' c' L.t22
  have u22 : ∀ w, Sem.run P (underlying (ρ.t 22)) w = .ok (TypeDesc.slice (ρ.t 23)) w := run_underlying t22
  have happ : ∀ w1 (A : Option Addr), (Builtin.append_ #[ρ.t 22, ρ.t 22] (ρ.t 22) #[.slice A 0 0, .slice (some a) 0 0]).run P w1 = .ok (.slice A 0 0) w1 := fun w1 A =>
    run_append_zero (P := P) (w := w1) (ρ.t 22) (ρ.t 22) (ρ.t 23) i0 t22 hi A (some a) 0 0 0 (Nat.le_refl _)
  obtain ⟨_, _, FG⟩ := L.f41
  go_enter FG, SlBodyN.n41_ntmps ρ
  go_wp2
  go_ret
  exact ⟨rfl, rfl⟩
theorem clone_ctr (W0 : World) (L : SlLaysE0.n41 P ρ) (i0 : TypeInfo) (z : Value) (sz : Nat) (hcal : callable P (ρ.f 41) = true) (hi : P.info? (ρ.t 23) = some i0) (hz0 : i0.zero = some z) (hz1 : i0.size = sz) (hzs : z.cells.size = sz) (hsz : 0 < sz)
    (z23 : ∀ w, (Go.sizeOf (ρ.t 23)).run P w = .ok sz w) (els : List (List Abs.Data)) (hn : els.length ≤ maxLen) (hbig : els.length * i0.bytes ≤ 140737488355328) :
    Ctr P W0 (ρ.f 41) [.sl sz els .none] [] (.sl sz els .none) [] := by
  refine ctr_lib hcal rfl fun κ w vals hvs hs => ?_
  have h0 := (hs.arg (n := 0) rfl).sl_inv.1
  rw [vals1 hvs]
  generalize vals.getD 0 undef = v0 at h0
  rcases h0.flat hsz with ⟨A, hv, he⟩ | ⟨b, o, cap, L1, hv, hcap, f, hI, hc⟩
  · subst hv; subst he
    cases A with
    | none =>
      refine (AnyE.slices_Clone_nil L 0 0 w).mono ?_
      rintro e w' ⟨rfl, rfl⟩
      exact ⟨_, rfl, Below.refl _ _, .sl sz [] .none _ (.nil sz none) trivial⟩
    | some A =>
      refine (clone_empty L i0 z sz hi hz0 hz1 z23 A w).mono ?_
      rintro e w' ⟨rfl, rfl⟩
      exact ⟨_, rfl, below_alloc _ _, .sl sz [] .none _ (.nil sz _) trivial⟩
  · subst hv
    refine (AnyE.slices_Clone L i0 z sz i0.bytes hi hz0 hz1 rfl hzs hsz z23 b o els.length cap L1 w f.len hn hbig (fun j u hj => ?_) (f.one hsz)).mono ?_
    · have hjl : j < els.length * sz := by rw [← f.len]; exact (List.getElem?_eq_some_iff.1 hj).1
      rw [hc j hjl, hj]
    · rintro e w' ⟨v', rfl, hown, hnil, hb⟩
      refine ⟨v', rfl, hb, ?_⟩
      obtain ⟨o1, o2⟩ := hown
      rcases o2 with ⟨h, _⟩ | ⟨g, cap', cur, rfl, hg, hgc, hn', _, hcs, htk⟩
      · exact absurd h hnil
      · have hlt : ∀ b o, κ.I b o → b < w.heap.size := fun b o h => hs.Icell b o h
        have f' := f.mono (I' := (grownI κ w w').I) (w' := w') (fun b o h => .inl h) (fun b o h => by simp [World.cell?, hb.block b (hlt b o h)])
        refine .sl sz els .none _ (f'.shut hn' (fun k hk => .inr ⟨hg, lt_of_heap hgc⟩) (fun k hk => ?_)) trivial
        rw [cell?_of_cells hgc, Nat.zero_add, ← htk, List.getElem?_take_of_lt hk, Array.getElem?_toList]
end Go.Abs

set_option maxRecDepth 100000
namespace Go.Proofs
open Go.RowKit Go
set_option maxHeartbeats 1000000 in
theorem Tryz.back401 (F : Fence) (n : Nat) (h : F.fn 401) (hro : F.round = none) (A : Option Addr) (k c : Nat) (w : World) :
    CallsIn F n Tryz.prog 401 #[.slice A k c] w fun e w' => e = .returned (.func (.func 474) #[] #[.pointer (some ⟨w.heap.size, 0, none⟩)]) ∧ w' = w.alloc (.cells #[.slice A k c] 359) := by
  refine callsIn_of_wp Tryz.func401 rfl h ?_ hro
  simp only [Tryz.ntmps401, List.size_toArray, List.length_cons, List.length_nil, Nat.reduceAdd, Nat.reduceSub, Array.replicate_succ, Array.replicate_zero, List.push_toArray, List.append_toArray, List.nil_append, List.cons_append]
  gi_wp2
  first | go_end0 | go_ret
  exact ⟨rfl, rfl⟩
set_option maxHeartbeats 1000000 in
theorem Tryz.iter474 (F : Fence) (n : Nat) (h : F.fn 474) (hro : F.round = none) (hn : 1 ≤ n) (y : Value) (b : Nat) (A : Option Addr) (c : Nat) (w : World) (hc : w.cell? ⟨b, 0, none⟩ = some (.slice A 0 c)) (hf : w.frozen? ⟨b, 0, none⟩ = false) :
    CallsIn F n Tryz.prog 474 #[y, .pointer (some ⟨b, 0, none⟩)] w fun e w' => (∃ v, e = .returned v) ∧ w' = w := by
  refine callsIn_of_wp Tryz.func474 rfl h ?_ hro
  simp only [Tryz.ntmps474, List.size_toArray, List.length_cons, List.length_nil, Nat.reduceAdd, Nat.reduceSub, Array.replicate_succ, Array.replicate_zero, List.push_toArray, List.append_toArray, List.nil_append, List.cons_append]
  gi_wp2
  refine wpIn_loop_once ?_
  gi_wp2
  first | go_end0 | go_ret
  exact ⟨⟨_, rfl⟩, rfl⟩
theorem below_putObj {B r : Nat} {a w : World} (h : Below B a w) (x : Obj) (hr : B ≤ r) : Below B a (w.putObj r x) :=
  h.trans ⟨rfl, rfl, rfl, by simp [World.putObj], fun k hk => World.putObj_heap_other (by omega)⟩
theorem setCell_same {w : World} {b : Nat} {C : Array Value} {t : TypeId} {fz : Nat × Nat} (o : Nat) (v : Value) (h : w.heap[b]? = some (.cells C t fz)) : (w.setCell ⟨b, o, none⟩ v).heap[b]? = some (.cells (C.setIfInBounds o v) t fz) := by
  simp [World.setCell, Array.getElem?_modify, h]
set_option maxHeartbeats 2000000 in
theorem Tryz.find316_in (F : Fence) (n : Nat) (h1 : F.fn 316) (h2 : F.fn 401) (h3 : F.fn 474) (hro : F.round = none) (hn : 2 ≤ n) (b o : Nat) (s : ByteArray) (A : Option Addr) (c : Nat) (w : World)
    (hc : w.cell? ⟨b, o + 2, none⟩ = some (.slice A 0 c)) :
    CallsIn F n Tryz.prog 316 #[.pointer (some ⟨b, o, none⟩), .string s] w fun e w' => e = .returned (.agg #[.string s, .int .i64 (-1), .bool false]) ∧ Below w.heap.size w w' := by
  have hb : b < w.heap.size := by
    cases h : w.heap[b]? with
    | none => simp [World.cell?, h] at hc
    | some x => exact (Array.getElem?_eq_some_iff.1 h).1
  refine callsIn_of_wp_marks Tryz.func316 rfl h1 ?_ hro
  simp only [Tryz.ntmps316, List.size_toArray, List.length_cons, List.length_nil, Nat.reduceAdd, Nat.reduceSub, Array.replicate_succ, Array.replicate_zero, List.push_toArray, List.append_toArray, List.nil_append, List.cons_append]
  gi_wp2
  refine ⟨fun _ => by omega, (Tryz.back401 F (n - 1) h2 hro _ _ _ _).mono ?_⟩
  rintro e w' ⟨rfl, rfl⟩
  gi_wp2
  refine wpIn_rangeFunc ?_
  intro fn hfn
  rw [hro]
  obtain ⟨W0, hW0⟩ : ∃ W0, (((w.alloc (Obj.cells #[Value.string s] 9)).alloc (Obj.cells #[Value.string { data := #[] }, Value.int IntKind.i64 0, Value.bool false] 435)).alloc (Obj.cells #[Value.slice A 0 c] 359)) = W0 := ⟨_, rfl⟩
  have hs0 : W0.heap.size = w.heap.size + 1 + 1 + 1 := by rw [← hW0]; simp only [World.size_alloc]
  have hk0 : W0.heap[w.heap.size]? = some (.cells #[.string s] 9 (0, 0)) := by
    rw [← hW0]; exact (Below.heap_alloc _ _ _ (by simp; omega)).trans ((Below.heap_alloc _ _ _ (by simp)).trans (World.alloc_heap_new w _))
  have hk1 : W0.heap[w.heap.size + 1]? = some (.cells #[.string ⟨#[]⟩, .int .i64 0, .bool false] 435 (0, 0)) := by
    rw [← hW0]; refine (Below.heap_alloc _ _ _ (by simp)).trans ?_
    have := World.alloc_heap_new (w.alloc (Obj.cells #[Value.string s] 9)) (Obj.cells #[Value.string { data := #[] }, Value.int IntKind.i64 0, Value.bool false] 435)
    rwa [World.size_alloc] at this
  have hk2 : W0.heap[w.heap.size + 1 + 1]? = some (.cells #[.slice A 0 c] 359 (0, 0)) := by
    rw [← hW0]
    have := World.alloc_heap_new ((w.alloc (Obj.cells #[Value.string s] 9)).alloc (Obj.cells #[Value.string { data := #[] }, Value.int IntKind.i64 0, Value.bool false] 435)) (Obj.cells #[Value.slice A 0 c] 359)
    rwa [World.size_alloc, World.size_alloc] at this
  have hB0 : Below w.heap.size w W0 := by rw [← hW0]; exact (((Below.refl _ w).alloc (Nat.le_refl _) _).alloc (by simp) _).alloc (by simp; omega) _
  rw [hW0]
  have hent : ∀ (tm : Array Value) (ps : Array Tmp) (as_ bo : Code), ∃ rec : Loop, rec.state = .ready ∧ rec.pending = none ∧
      (Instr.enterLoop fn tm ps as_ bo none).run Tryz.prog W0 = .ok (W0.heap.size + 1, [{ target := .collected W0.heap.size, args := #[] }]) ((W0.alloc (.deferred (some []))).alloc (.loop rec)) :=
    fun tm ps as_ bo => ⟨_, rfl, rfl, run_enterLoop_outer _ _ _ _ _⟩
  obtain ⟨rec, hr1, hr2, he⟩ := hent _ _ _ _
  obtain ⟨W1, hW1⟩ : ∃ W1, (W0.alloc (.deferred (some []))).alloc (.loop rec) = W1 := ⟨_, rfl⟩
  rw [hW1] at he
  have hold : ∀ k, k < W0.heap.size → W1.heap[k]? = W0.heap[k]? := fun k hk => by
    rw [← hW1]; exact (Below.heap_alloc _ _ k (by simp; omega)).trans (Below.heap_alloc _ _ k hk)
  have hL1 : W1.heap[W0.heap.size + 1]? = some (.loop rec) := by
    rw [← hW1]; have := World.alloc_heap_new (W0.alloc (.deferred (some []))) (.loop rec); rwa [World.size_alloc] at this
  have hK1 : W1.heap[W0.heap.size]? = some (.deferred (some [])) := by
    rw [← hW1]; exact (Below.heap_alloc _ _ _ (by simp)).trans (World.alloc_heap_new W0 _)
  have hB1 : Below w.heap.size w W1 := by rw [← hW1]; exact (hB0.alloc (by omega) _).alloc (by simp; omega) _
  refine ⟨W0.heap.size + 1, [{ target := .collected W0.heap.size, args := #[] }], W1, { target := .fn (.func 474) #[.pointer (some ⟨w.heap.size + 1 + 1, 0, none⟩)], args := #[.func (.yield (W0.heap.size + 1)) #[] #[]] }, W1, 474,
    #[.func (.yield (W0.heap.size + 1)) #[] #[], .pointer (some ⟨w.heap.size + 1 + 1, 0, none⟩)], W1, he, ?_, ?_, ?_, fun _ => by omega, ?_⟩
  · simp [resolve, go_sem]
  · intro f' hf'; simp [Target.leads] at hf'; subst hf'; exact h3
  · simp [invoke, go_sem]
  · refine (Tryz.iter474 F (n - 1) h3 hro (by omega) _ _ A c W1 (by simp [World.cell?, hold _ (show w.heap.size + 1 + 1 < W0.heap.size by omega), hk2]) (by simp [World.frozen?, hold _ (show w.heap.size + 1 + 1 < W0.heap.size by omega), hk2])).mono ?_
    rintro e w' ⟨⟨v, rfl⟩, rfl⟩
    have hend := run_endLoop (P := Tryz.prog) hL1 (by rw [hr1]; exact fun h => by cases h)
    obtain ⟨W3, hW3⟩ : ∃ W3, w'.putObj (W0.heap.size + 1) (.loop { rec with state := .exhausted }) = W3 := ⟨_, rfl⟩
    rw [hW3, hr2] at hend
    have hoth : ∀ k, k ≠ W0.heap.size + 1 → W3.heap[k]? = w'.heap[k]? := fun k hk => by rw [← hW3]; exact World.putObj_heap_other (fun e => hk (by omega))
    have hK3 : W3.heap[W0.heap.size]? = some (.deferred (some [])) := (hoth _ (by omega)).trans hK1
    have c0 : W3.cell? ⟨w.heap.size, 0, none⟩ = some (.string s) := by simp [World.cell?, hoth _ (show w.heap.size ≠ W0.heap.size + 1 by omega), hold _ (show w.heap.size < W0.heap.size by omega), hk0]
    have c1 : W3.heap[w.heap.size + 1]? = some (.cells #[.string ⟨#[]⟩, .int .i64 0, .bool false] 435 (0, 0)) := by rw [hoth _ (by omega), hold _ (by omega), hk1]
    have c10 : W3.cell? ⟨w.heap.size + 1, 0, none⟩ = some (.string ⟨#[]⟩) := by simp [World.cell?, c1]
    have c11 : W3.cell? ⟨w.heap.size + 1, 1, none⟩ = some (.int .i64 0) := by simp [World.cell?, c1]
    have c12 : W3.cell? ⟨w.heap.size + 1, 2, none⟩ = some (.bool false) := by simp [World.cell?, c1]
    have f10 : W3.frozen? ⟨w.heap.size + 1, 0, none⟩ = false := by simp [World.frozen?, c1]
    have f11 : W3.frozen? ⟨w.heap.size + 1, 1, none⟩ = false := by simp [World.frozen?, c1]
    have f12 : W3.frozen? ⟨w.heap.size + 1, 2, none⟩ = false := by simp [World.frozen?, c1]
    have hB3' : Below w.heap.size w W3 := by rw [← hW3]; exact below_putObj hB1 _ (by omega)
    clear hW3
    refine ⟨none, W3, hend, ?_⟩
    have hB3 : Below w.heap.size w W3 := by
      exact hB3'
    gi_wp2
    obtain ⟨Wf, hWf⟩ : ∃ Wf, (((W3.setCell { block := w.heap.size + 1, off := 0 } (Value.string s)).setCell { block := w.heap.size + 1, off := 1 } (Value.int IntKind.i64 (-1))).setCell { block := w.heap.size + 1, off := 2 } (Value.bool false)) = Wf := ⟨_, rfl⟩
    have g1 : Wf.heap[w.heap.size + 1]? = some (.cells #[.string s, .int .i64 (-1), .bool false] 435 (0, 0)) := by
      rw [← hWf]; simpa using setCell_same 2 (.bool false) (setCell_same 1 (.int .i64 (-1)) (setCell_same 0 (.string s) c1))
    have g2 : Wf.heap[W0.heap.size]? = some (.deferred (some [])) := by
      rw [← hWf]; exact (Below.heap_setCell _ _ _ _ (by simp; omega)).trans ((Below.heap_setCell _ _ _ _ (by simp; omega)).trans ((Below.heap_setCell _ _ _ _ (by simp; omega)).trans hK3))
    rw [hWf, ← hs0]
    refine ⟨by simp, .inl ⟨_, _, rfl, run_takeDeferred g2, ?_⟩⟩
    have g3 : (Wf.putObj W0.heap.size (.deferred none)).heap[w.heap.size + 1]? = some (.cells #[.string s, .int .i64 (-1), .bool false] 435 (0, 0)) := (World.putObj_heap_other (by omega)).trans g1
    refine ⟨_, results_cell_row rfl _ _ (w.heap.size + 1) 435 _ (0, 0) _ rfl g3 Tryz.underlying435 rfl (by kernel_rfl), rfl, ?_⟩
    rw [← hWf]
    have hb1 : w.heap.size ≤ w.heap.size + 1 := by omega
    exact below_putObj (((hB3.setCell (p := ⟨w.heap.size + 1, 0, none⟩) hb1 _).setCell (p := ⟨w.heap.size + 1, 1, none⟩) hb1 _).setCell (p := ⟨w.heap.size + 1, 2, none⟩) hb1 _) _ (by omega)
end Go.Proofs

namespace Go.Abs
open Go Go.RowKit
theorem ctr_read {P : Program} {W0 : World} {f : FuncId} {args : List AV} {H : List (List AV)} {res : AV} (hcal : callable P f = true) (hR : toks res = [])
    (h : ∀ (κ : Gh) (w : World) (vals : Array Value), vals.size = args.length → RepS W0 κ (initLog args H) ⟨vals, []⟩ w → Calls P f vals w fun e w' => ∃ v, e = .returned v ∧ Below w.heap.size w w' ∧ RepV (grownI κ w w') w' res v) :
    Ctr P W0 f args H res H := by
  refine ⟨hcal, fun κ w vals hsz hdb hdt hs => (h κ w vals hsz hs).mono ?_⟩
  rintro e w' ⟨v, rfl, hb, hv⟩
  have lb : ∀ i, look (finLog res H) (.b i) = look (initLog args H) (.b i) := fun i => by unfold finLog; rw [look_init_b, look_init_b]
  have lt : ∀ k, look (finLog res H) (.t k) = some (.tk true) → look (initLog args H) (.t k) = some (.tk true) := by
    intro k hk
    unfold finLog at hk
    rw [look_init_t] at hk ⊢
    have hm : k ∈ allToks [res] H := by
      by_cases hh : k ∈ allToks [res] H
      · exact hh
      · rw [if_neg hh] at hk; cases hk
    rw [if_pos]
    unfold allToks at hm ⊢
    simp only [List.flatMap_cons, List.flatMap_nil, hR, List.append_nil, List.nil_append] at hm
    exact List.mem_append_right _ hm
  have lo : ∀ b o, Own (grownI κ w w') (finLog res H) b o → Own κ (initLog args H) b o := by
    rintro b o (⟨i, l, hl, hi⟩ | ⟨k, hk, hi⟩)
    · rw [lb] at hl; exact .inl ⟨i, l, hl, hi⟩
    · exact .inr ⟨k, lt k hk, hi⟩
  have ext : Ext κ w (grownI κ w w') w' := ⟨fun _ _ h => .inl h, fun b o hI => by simp [World.cell?, hb.block b (hs.Icell b o hI)], fun b hd => ⟨hd, rfl⟩, fun k hd => ⟨hd, rfl⟩⟩
  refine ⟨v, grownI κ w w', rfl, ⟨?_, ?_, ?_, ?_, ?_, ?_, ?_, ?_, ?_, ?_, ?_, rfl, ?_, ?_, ?_⟩, ⟨⟨hb.os, hb.tape, hb.output, hb.size, fun b hlt _ => hb.block b hlt, ?_, ?_⟩, ?_, ?_, ?_, ?_, ?_⟩⟩
  · intro n u hu
    unfold finLog at hu
    rw [look_init_s] at hu
    cases n with
    | zero =>
      simp at hu; subst hu
      simpa using hv
    | succ n => simp at hu
  · intro b l hl
    rw [lb] at hl
    obtain ⟨h1, h2, h3⟩ := hs.boxes b l hl
    exact ⟨h1, h2, h3.mono ext (hb.block _ h3.lt)⟩
  · intro b b' l l' hl hl'
    rw [lb] at hl hl'
    exact hs.binj b b' l l' hl hl'
  · intro k hk
    obtain ⟨h1, h2⟩ := hs.toks k (lt k hk)
    refine ⟨h1, fun hh => ?_⟩
    obtain ⟨h3, C, ty, h4, h5⟩ := h2 hh
    exact ⟨h3, C, ty, (hb.block _ (lt_of_heap h4)).trans h4, h5⟩
  · intro k k' hk hk'; exact hs.tdis k k' (lt k hk) (lt k' hk')
  · intro k i l hk hl; rw [lb] at hl; exact hs.tbox k i l (lt k hk) hl
  · rintro b o ho (hI | ⟨h1, _⟩)
    · exact hs.sepI b o (lo b o ho) hI
    · exact absurd h1 (Nat.not_le.2 (hs.ownLt (lo b o ho)))
  · rintro b o (hI | ⟨_, h2⟩)
    · exact Nat.lt_of_lt_of_le (hs.Icell b o hI) hb.size
    · exact h2
  · intro b o hlt; exact .inl (hs.old b o hlt)
  · exact Nat.le_trans hs.size0 hb.size
  · intro b hlt; exact (hb.block b (Nat.lt_of_lt_of_le hlt hs.size0)).trans (hs.amb b hlt)
  · exact hb.os.trans hs.os
  · exact hb.tape.trans hs.tape
  · exact hb.output.trans hs.output
  · intro b C ty fz hC
    exact ⟨C, (hb.block b (lt_of_heap hC)).trans hC, rfl, fun _ _ => rfl⟩
  · intro b ob hE hn
    exact ⟨ob, (hb.block b (lt_of_heap hE)).trans hE, hn⟩
  · intro b o ho; exact .inl (lo b o ho)
  · intro b o hI; exact .inl hI
  · rintro b o (hI | ⟨h1, _⟩)
    · exact .inl hI
    · exact .inr (.inr h1)
  · intro b _ hd; exact ⟨hd, rfl⟩
  · intro k _ hd; exact ⟨hd, rfl⟩
end Go.Abs
namespace Go.Abs
open Go.Proofs Go.RowKit
theorem find_ctr (W0 : Go.World) (s : List UInt8) (x0 x1 x3 x4 : AV) (t : Tok) (H : List (List AV)) :
    Ctr Tryz.prog W0 316 [.ptr 0 0, .sc (.s s)] ([x0, x1, .sl 3 [] t, x3, x4] :: H) (.agg [.sc (.s s), .sc (.i .i64 (-1)), .sc (.b false)]) ([x0, x1, .sl 3 [] t, x3, x4] :: H) := by
  refine ctr_read (by kernel_rfl) rfl fun κ w vals hsz hs => ?_
  obtain ⟨hDb, h0⟩ := (hs.arg (n := 0) rfl).ptr_inv
  have h1 := (hs.arg (n := 1) rfl).sc_inv
  rw [vals2 hsz, h0, h1]
  obtain ⟨_, _, hB⟩ := hs.boxes 0 [x0, x1, .sl 3 [] t, x3, x4] (by rw [look_init_b]; rfl)
  obtain ⟨C, ty, hg, hR⟩ := hB.row (by cases x0 <;> rfl)
  obtain ⟨A, c, hc⟩ := (hR.2.2 2 (.sl 3 [] t) rfl).sl_inv.1.len
  have hsz' := hR.1
  have hcell : w.cell? ⟨(κ.ι 0).1, (κ.ι 0).2 + 0 + 2, none⟩ = some (.slice A 0 c) := by
    rw [cell?_of_cells hg, Nat.add_zero]
    rw [Array.getD_eq_getD_getElem?] at hc
    have : (κ.ι 0).2 + 2 < C.size := by simp at hsz'; omega
    rw [Array.getElem?_eq_getElem this] at hc ⊢
    exact congrArg some hc
  refine (Go.callsIn_wide.1 (Tryz.find316_in Go.Fence.wide 2 trivial trivial trivial rfl (Nat.le_refl _) (κ.ι 0).1 ((κ.ι 0).2 + 0) ⟨s.toArray⟩ A c w hcell)).mono ?_
  rintro e w' ⟨rfl, hb⟩
  refine ⟨_, rfl, hb, .agg _ #[.string ⟨s.toArray⟩, .int .i64 (-1), .bool false] rfl (by simp [one]) fun j v hj => ?_⟩
  match j, hj with
  | 0, hj => simp at hj; subst hj; exact .sc (.s s)
  | 1, hj => simp at hj; subst hj; exact .sc (.i .i64 (-1))
  | 2, hj => simp at hj; subst hj; exact .sc (.b false)
end Go.Abs

set_option maxRecDepth 100000
namespace Go.Proofs
def Tryz.laysSlE041_f227_ren : Go.Shelf.Ren := ⟨fun | 41 => 227 | n => n, fun | 22 => 139 | 23 => 333 | 4 => 4 | n => n, fun | n => n⟩
theorem Tryz.laysSlE041_f227 : Go.Proofs.SlLaysE0.n41 Tryz.prog Tryz.laysSlE041_f227_ren := {
  mixed := by kernel_rfl
  f41 := ⟨Tryz.f227.name, by decide, Tryz.func227.trans (congrArg some (by kernel_rfl))⟩
  t4 := Tryz.underlying4
  a4 := Tryz.isAgg4
  z4 := Tryz.sizeOf4
  v4 := Tryz.zeroValue4
  t22 := Tryz.underlying139
  a22 := Tryz.isAgg139
  z22 := Tryz.sizeOf139
  v22 := Tryz.zeroValue139 }
def Tryz.laysSlE041_f299_ren : Go.Shelf.Ren := ⟨fun | 41 => 299 | n => n, fun | 22 => 345 | 23 => 419 | 4 => 4 | n => n, fun | n => n⟩
theorem Tryz.laysSlE041_f299 : Go.Proofs.SlLaysE0.n41 Tryz.prog Tryz.laysSlE041_f299_ren := {
  mixed := by kernel_rfl
  f41 := ⟨Tryz.f299.name, by decide, Tryz.func299.trans (congrArg some (by kernel_rfl))⟩
  t4 := Tryz.underlying4
  a4 := Tryz.isAgg4
  z4 := Tryz.sizeOf4
  v4 := Tryz.zeroValue4
  t22 := Tryz.underlying345
  a22 := Tryz.isAgg345
  z22 := Tryz.sizeOf345
  v22 := Tryz.zeroValue345 }
end Go.Proofs
namespace Go.Abs
open Go.Proofs Go.RowKit
/-- what a type's description says, as Clone's contract wants it -/
theorem cl_info {e : Go.TypeId} {sz by_ : Nat} (h : ((Tryz.prog.info? e).map fun i => (i.size, i.bytes, i.zero.map fun z => z.cells.size)) = some (sz, by_, some sz)) :
    ∃ i0 z, Tryz.prog.info? e = some i0 ∧ i0.zero = some z ∧ i0.size = sz ∧ i0.bytes = by_ ∧ z.cells.size = sz := by
  cases hi : Tryz.prog.info? e with
  | none => rw [hi] at h; cases h
  | some i =>
    rw [hi] at h
    simp only [Option.map_some, Option.some.injEq, Prod.mk.injEq] at h
    obtain ⟨h1, h2, h3⟩ := h
    cases hz : i.zero with
    | none => rw [hz] at h3; cases h3
    | some z =>
      rw [hz] at h3
      simp only [Option.map_some, Option.some.injEq] at h3
      exact ⟨i, z, rfl, hz, h1, h2, h3⟩
theorem clone176 (W0 : Go.World) (els : List (List Data)) (h : els.length ≤ 1000) : Ctr Tryz.prog W0 176 [.sl 1 els .none] [] (.sl 1 els .none) [] := by
  obtain ⟨i0, z, h1, h2, h3, h4, h5⟩ := cl_info (e := 3) (sz := 1) (by_ := 8) (by kernel_rfl)
  exact clone_ctr W0 Tryz.laysSlE041_f176 i0 z 1 (by kernel_rfl) h1 h2 h3 h5 (by omega) Tryz.sizeOf3 els (by unfold maxLen; omega) (by rw [h4]; omega)
theorem clone163 (W0 : Go.World) (els : List (List Data)) (h : els.length ≤ 1000) : Ctr Tryz.prog W0 163 [.sl 1 els .none] [] (.sl 1 els .none) [] := by
  obtain ⟨i0, z, h1, h2, h3, h4, h5⟩ := cl_info (e := 9) (sz := 1) (by_ := 16) (by kernel_rfl)
  exact clone_ctr W0 Tryz.laysSlE041_f163 i0 z 1 (by kernel_rfl) h1 h2 h3 h5 (by omega) Tryz.sizeOf9 els (by unfold maxLen; omega) (by rw [h4]; omega)
theorem clone227 (W0 : Go.World) (els : List (List Data)) (h : els.length ≤ 1000) : Ctr Tryz.prog W0 227 [.sl 6 els .none] [] (.sl 6 els .none) [] := by
  obtain ⟨i0, z, h1, h2, h3, h4, h5⟩ := cl_info (e := 333) (sz := 6) (by_ := 64) (by kernel_rfl)
  exact clone_ctr W0 Tryz.laysSlE041_f227 i0 z 6 (by kernel_rfl) h1 h2 h3 h5 (by omega) Tryz.sizeOf333 els (by unfold maxLen; omega) (by rw [h4]; omega)
theorem clone299 (W0 : Go.World) (els : List (List Data)) (h : els.length ≤ 1000) : Ctr Tryz.prog W0 299 [.sl 3 els .none] [] (.sl 3 els .none) [] := by
  obtain ⟨i0, z, h1, h2, h3, h4, h5⟩ := cl_info (e := 419) (sz := 3) (by_ := 40) (by kernel_rfl)
  exact clone_ctr W0 Tryz.laysSlE041_f299 i0 z 3 (by kernel_rfl) h1 h2 h3 h5 (by omega) Tryz.sizeOf419 els (by unfold maxLen; omega) (by rw [h4]; omega)
theorem sort_ctr (W0 : Go.World) : Ctr Tryz.prog W0 297 [.sl 1 [] .none] [] (.tup []) [] := by
  refine ctr_lib (by kernel_rfl) rfl fun κ w vals hsz hs => ?_
  obtain ⟨A, c, h0⟩ := (hs.arg (n := 0) rfl).sl_inv.1.len
  rw [vals1 hsz, h0]
  refine (Tryz.slices_Sort_string_none A c w).mono ?_
  rintro e w' ⟨rfl, rfl⟩
  exact ⟨_, rfl, Below.refl _ _, .tup [] #[] rfl (by simp)⟩
theorem indexByte_ctr (W0 : Go.World) (s : List UInt8) (c : Int) : Ctr Tryz.prog W0 118 [.sc (.s s), .sc (.i .u8 c)] [] (.sc (.i .i64 (Go.Lib.indexByte s c.toNat.toUInt8))) [] := by
  refine ctr_lib (by kernel_rfl) rfl fun κ w vals hsz hs => ?_
  have h0 := (hs.arg (n := 0) rfl).sc_inv
  have h1 := (hs.arg (n := 1) rfl).sc_inv
  rw [vals2 hsz, h0, h1]
  refine (Tryz.stringslite_IndexByte ⟨s.toArray⟩ c w).mono ?_
  rintro e w' ⟨rfl, rfl⟩
  exact ⟨_, rfl, Below.refl _ _, .sc (.i .i64 _)⟩
end Go.Abs

set_option maxRecDepth 1000000
namespace Go.Abs
open Go.Proofs
/-- what the library answers, where Awake asks it -/
def strsOf : List (List Data) → Option (List (List UInt8))
  | [] => some []
  | [.sc (.s l)] :: r => (match strsOf r with | some x => some (l :: x) | none => none)
  | _ => none
def asciiB : List UInt8 → Bool
  | [] => true
  | b :: r => match Nat.blt b.toNat 128 with | true => asciiB r | false => false
theorem strsOf_spec : ∀ {els : List (List Data)} {l : List (List UInt8)}, strsOf els = some l → els = strsD l
  | [], l, h => by simp only [strsOf, Option.some.injEq] at h; subst h; rfl
  | e :: r, l, h => by
    unfold strsOf at h
    split at h
    · rename_i hh; cases hh
    · rename_i s r' hh
      cases hh
      split at h
      · rename_i x hx
        cases h
        rw [strsOf_spec hx]; rfl
      · cases h
    · cases h
theorem asciiB_spec : ∀ {l : List UInt8}, asciiB l = true → ∀ b, b ∈ l → b.toNat < 128
  | [], _, b, hb => by simp at hb
  | x :: r, h, b, hb => by
    simp only [asciiB] at h
    split at h
    · rename_i hx
      rcases List.mem_cons.1 hb with rfl | hb
      · simpa [Nat.blt_eq] using hx
      · exact asciiB_spec h b hb
    · cases h
def splitL (s sep : List UInt8) : List (List UInt8) := (Go.Lib.splitB ⟨sep.toArray⟩ 0 (Go.Lib.countB ⟨s.toArray⟩ ⟨sep.toArray⟩) ⟨s.toArray⟩).map (·.data.toList)
def libD : Go.FuncId → List AV → List (List AV) → Option (AV × List (List AV))
  | 201, [.sc (.s l)], [] => tst (asciiB l && Nat.blt l.length 100000) (some (.sl 1 (strsD (Go.Lib.fields l)) .full, []))
  | 88, [.sl 1 els .none, .sc (.s s)], [] => (match strsOf els with | some l => tst (Nat.blt l.length 100000 && Nat.blt (Go.Lib.join l s).length 100000) (some (.sc (.s (Go.Lib.join l s)), [])) | none => none)
  | 54, [.sc (.s l)], [] => tst (Nat.ble l.length 18) (match Go.Lib.atoi l with | some n => some (.tup [.sc (.i .i64 n), .sc .ni], []) | none => none)
  | 13, [.sc (.i .i64 n)], [] => tst (fitsB .i64 n) (some (.sc (.s (Go.Lib.itoa n)), []))
  | 22, [.sc (.s s), .sc (.s sep)], [] => tst (Nat.blt s.length 100000 && Nat.ble 1 sep.length && Nat.beq (splitL s sep).length (Go.Lib.countB ⟨s.toArray⟩ ⟨sep.toArray⟩ + 1)) (some (.sl 1 (strsD (splitL s sep)) .full, []))
  | 118, [.sc (.s s), .sc (.i .u8 c)], [] => some (.sc (.i .i64 (Go.Lib.indexByte s c.toNat.toUInt8)), [])
  | 176, [.sl 1 els .none], [] => tst (Nat.ble els.length 1000) (some (.sl 1 els .none, []))
  | 163, [.sl 1 els .none], [] => tst (Nat.ble els.length 1000) (some (.sl 1 els .none, []))
  | 227, [.sl 6 els .none], [] => tst (Nat.ble els.length 1000) (some (.sl 6 els .none, []))
  | 299, [.sl 3 els .none], [] => tst (Nat.ble els.length 1000) (some (.sl 3 els .none, []))
  | 297, [.sl 1 [] .none], [] => some (.tup [], [])
  | 316, [.ptr 0 0, .sc (.s s)], [x0, x1, .sl 3 [] t, x3, x4] :: H => some (.agg [.sc (.s s), .sc (.i .i64 (-1)), .sc (.b false)], [x0, x1, .sl 3 [] t, x3, x4] :: H)
  | _, _, _ => none
def annD : Go.FuncId → Ann
  | 296 => { opn := [], gl := fun _ => none, frz := fun _ => [], tk := [1] }
  | 383 => { opn := [], gl := fun _ => none, frz := fun _ => [], tk := [1] }
  | 154 => { opn := [23], gl := fun _ => none, frz := fun _ => [], cs := [48] }
  | 405 => { opn := [], gl := fun _ => none, frz := fun _ => [], cs := [12] }
  | _ => an0
theorem libD_ok (W0 : Go.World) (htab : Go.Lib.TabIs Tryz.prog W0 "strings.asciiSpace" .u8 Go.Lib.asciiSpaceTab) (hpow : Go.Lib.TabIs Tryz.prog W0 "internal/strconv.uint64pow10" .u64 Go.Lib.pow10Tab) (hm : ∃ m, W0.cell? ⟨0, 0, none⟩ = some (.int .i64 m)) :
    ∀ f args H res H', libD f args H = some (res, H') → Ctr Tryz.prog W0 f args H res H' := by
  intro f args H res H' h
  unfold libD at h
  split at h
  · obtain ⟨h1, h2⟩ := tst_s h
    cases h2
    simp only [Bool.and_eq_true, Nat.blt_eq] at h1
    exact fields_ctr W0 htab _ (by omega) (asciiB_spec h1.1)
  · split at h
    · rename_i l hl
      obtain ⟨h1, h2⟩ := tst_s h
      cases h2
      simp only [Bool.and_eq_true, Nat.blt_eq] at h1
      rw [strsOf_spec hl]
      exact join_ctr W0 l _ (by omega) (by omega)
    · cases h
  · obtain ⟨h1, h2⟩ := tst_s h
    split at h2
    · rename_i n hn
      cases h2
      exact atoi_ctr W0 _ n (Nat.le_of_ble_eq_true h1) hn
    · cases h2
  · obtain ⟨h1, h2⟩ := tst_s h
    cases h2
    exact itoa_ctr W0 hpow _ (fitsB_s h1)
  · obtain ⟨h1, h2⟩ := tst_s h
    cases h2
    simp only [Bool.and_eq_true, Nat.blt_eq] at h1
    exact split_ctr W0 hm _ _ (by omega) (Nat.le_of_ble_eq_true h1.1.2) _ rfl (Nat.eq_of_beq_eq_true h1.2)
  · cases h; exact indexByte_ctr W0 _ _
  · obtain ⟨h1, h2⟩ := tst_s h; cases h2; exact clone176 W0 _ (Nat.le_of_ble_eq_true h1)
  · obtain ⟨h1, h2⟩ := tst_s h; cases h2; exact clone163 W0 _ (Nat.le_of_ble_eq_true h1)
  · obtain ⟨h1, h2⟩ := tst_s h; cases h2; exact clone227 W0 _ (Nat.le_of_ble_eq_true h1)
  · obtain ⟨h1, h2⟩ := tst_s h; cases h2; exact clone299 W0 _ (Nat.le_of_ble_eq_true h1)
  · cases h; exact sort_ctr W0
  · cases h; exact find_ctr W0 _ _ _ _ _ _ _
  · cases h
/-! data compared -/
def sEq : Sc → Sc → Bool
  | .b x, .b y => decide (x = y)
  | .i k n, .i k' n' => decide (k = k') && decide (n = n')
  | .s l, .s m => decide (l = m)
  | _, _ => false
theorem sEq_s : ∀ {a b : Sc}, sEq a b = true → a = b := by
  intro a b h
  unfold sEq at h
  split at h
  · rw [of_decide_eq_true h]
  · simp only [Bool.and_eq_true, decide_eq_true_eq] at h; rw [h.1, h.2]
  · rw [of_decide_eq_true h]
  · cases h
mutual
def dEq : Data → Data → Bool
  | .sc a, .sc b => sEq a b
  | .lst n x, .lst m y => match Nat.beq n m with | true => eEq x y | false => false
  | _, _ => false
def eEq : List (List Data) → List (List Data) → Bool
  | [], [] => true
  | a :: x, b :: y => match rEq a b with | true => eEq x y | false => false
  | _, _ => false
def rEq : List Data → List Data → Bool
  | [], [] => true
  | a :: x, b :: y => match dEq a b with | true => rEq x y | false => false
  | _, _ => false
end
mutual
theorem dEq_s : ∀ {a b : Data}, dEq a b = true → a = b
  | .sc a, .sc b, h => by rw [dEq] at h; rw [sEq_s h]
  | .lst n x, .lst m y, h => by
    rw [dEq] at h
    split at h
    · rename_i hn; rw [Nat.eq_of_beq_eq_true hn, eEq_s h]
    · cases h
  | .sc a, .lst m y, h => by simp [dEq] at h
  | .lst n x, .sc b, h => by simp [dEq] at h
theorem eEq_s : ∀ {a b : List (List Data)}, eEq a b = true → a = b
  | [], [], _ => rfl
  | a :: x, b :: y, h => by
    rw [eEq] at h
    split at h
    · rename_i hn; rw [rEq_s hn, eEq_s h]
    · cases h
  | [], b :: y, h => by simp [eEq] at h
  | a :: x, [], h => by simp [eEq] at h
theorem rEq_s : ∀ {a b : List Data}, rEq a b = true → a = b
  | [], [], _ => rfl
  | a :: x, b :: y, h => by
    rw [rEq] at h
    split at h
    · rename_i hn; rw [dEq_s hn, rEq_s h]
    · cases h
  | [], b :: y, h => by simp [rEq] at h
  | a :: x, [], h => by simp [rEq] at h
end
/-- the text "write ( 1 + 2 ) ;", what is read in it, and what it tells -/
def txtA : List UInt8 := [119, 114, 105, 116, 101, 32, 40, 32, 49, 32, 43, 32, 50, 32, 41, 32, 59]
def elsA : List (List Data) := [[.sc (.s [119, 114, 105, 116, 101]), .sc (.s []), .sc (.s []), .sc (.i .i64 0), .lst 1 [], .lst 4 [[.sc (.s [111, 112]), .sc (.s [43]), .sc (.i .i64 0), .lst 4 [[.sc (.s [105, 110, 116]), .sc (.s []), .sc (.i .i64 1), .lst 4 []], [.sc (.s [105, 110, 116]), .sc (.s []), .sc (.i .i64 2), .lst 4 []]]]], .lst 2 [], .lst 1 []]]
def argA : AV := .agg [.sl 4 [] .none, .sl 8 elsA .none]
def progA : AV := .tup [.agg [.sl 4 [] .full, .sl 8 elsA (.t 0)], .sc (.i .i64 0)]
def toldA : AV := .tup [.agg [.sl 1 [[.sc (.s [51])]] .none, .sc (.s [101, 110, 100]), .sc (.s []), .sc (.i .i64 4)], .sc (.i .i64 0)]
end Go.Abs
