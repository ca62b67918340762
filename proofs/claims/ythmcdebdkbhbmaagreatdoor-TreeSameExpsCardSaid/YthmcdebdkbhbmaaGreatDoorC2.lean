/- Contracts of the library, turned into the machine's. -/
import Derived.Test.YthmcdebdkbhbmaaGreatDoorC1
import Derived.Below
namespace Go.Abs
open Go Go.RowKit
/-- the new blocks are data -/
def grownI (κ : Gh) (w w' : World) : Gh := { κ with I := fun b o => κ.I b o ∨ (w.heap.size ≤ b ∧ b < w'.heap.size) }
theorem ctr_lib {P : Program} {W0 : World} {f : FuncId} {args : List AV} {res : AV} (hcal : callable P f = true) (hR : allToks [res] [] = [])
    (h : ∀ (κ : Gh) (w : World) (vals : Array Value), vals.size = args.length → RepS W0 κ (initLog args []) ⟨vals, []⟩ w → Calls P f vals w fun e w' => ∃ v, e = .returned v ∧ Below w.heap.size w w' ∧ RepV (grownI κ w w') w' res v) : Ctr P W0 f args [] res [] := by
  refine ⟨hcal, fun κ w vals hsz hdb hdt hs => (h κ w vals hsz hs).mono ?_⟩
  rintro e w' ⟨v, rfl, hb, hv⟩
  have nb : ∀ args i l, look (initLog args []) (.b i) ≠ some (.bx l) := by
    intro args i l hh
    rw [look_init_b] at hh
    simp at hh
  have nt : ∀ args k, allToks args [] = [] → look (initLog args []) (.t k) ≠ some (.tk true) := by
    intro args k ha hh
    rw [look_init_t, ha] at hh
    simp at hh
  have no : ∀ args κ b o, allToks args [] = [] → ¬ Own κ (initLog args []) b o := by
    rintro args κ b o ha (⟨i, l, hl, _⟩ | ⟨k, hk, _⟩)
    · exact nb _ _ _ hl
    · exact nt _ _ ha hk
  refine ⟨v, grownI κ w w', rfl, ⟨?_, ?_, ?_, ?_, ?_, ?_, ?_, ?_, ?_, ?_, ?_, rfl, ?_, ?_, ?_⟩, ⟨⟨hb.os, hb.tape, hb.output, hb.size, fun b hlt _ => hb.block b hlt, ?_⟩, ?_, ?_, ?_, ?_, ?_⟩⟩
  · intro n u hu
    unfold finLog at hu
    rw [look_init_s] at hu
    cases n with
    | zero =>
      simp at hu; subst hu
      simpa using hv
    | succ n => simp at hu
  · intro b l hl; exact absurd hl (nb _ _ _)
  · intro b b' l l' hl; exact absurd hl (nb _ _ _)
  · intro k hk; exact absurd hk (nt _ _ hR)
  · intro k k' hk; exact absurd hk (nt _ _ hR)
  · intro k i l hk; exact absurd hk (nt _ _ hR)
  · intro b o ho; exact absurd ho (no _ _ _ _ hR)
  · rintro b o (hI | ⟨_, h2⟩)
    · exact Nat.lt_of_lt_of_le (hs.Icell b o hI) hb.size
    · exact h2
  · intro b o hlt; exact .inl (hs.old b o hlt)
  · exact Nat.le_trans hs.size0 hb.size
  · intro b hlt; exact (hb.block b (Nat.lt_of_lt_of_le hlt hs.size0)).trans (hs.amb b hlt)
  · exact hb.os.trans hs.os
  · exact hb.tape.trans hs.tape
  · exact hb.output.trans hs.output
  · intro b C ty fz hC
    exact ⟨C, (hb.block b (lt_of_heap hC)).trans hC, rfl, fun _ _ => rfl⟩
  · intro b o ho; exact absurd ho (no _ _ _ _ hR)
  · intro b o hI; exact .inl hI
  · rintro b o (hI | ⟨h1, _⟩)
    · exact .inl hI
    · exact .inr (.inr h1)
  · intro b _ hd; exact ⟨hd, rfl⟩
  · intro k _ hd; exact ⟨hd, rfl⟩
/-- the arguments' values -/
theorem RepS.arg {W0 : World} {κ : Gh} {args : List AV} {H : List (List AV)} {vals : Array Value} {w : World} (hs : RepS W0 κ (initLog args H) ⟨vals, []⟩ w) {n : Nat} {v : AV} (h : args[n]? = some v) : RepV κ w v (vals.getD n undef) :=
  hs.slots n v (by rw [look_init_s, h]; rfl)
end Go.Abs
namespace Go.Abs
open Go Go.RowKit
/-- texts, handed over -/
def strsD (l : List (List UInt8)) : List (List Data) := l.map fun s => [.sc (.s s)]
def strL (l : List (List UInt8)) : AV := .sl 1 (strsD l) .none
theorem strsD_length (l : List (List UInt8)) : (strsD l).length = l.length := by simp [strsD]
theorem strsD_get {l : List (List UInt8)} {i : Nat} {s : List UInt8} (h : l[i]? = some s) : (strsD l)[i]? = some [.sc (.s s)] := by simp [strsD, h]
/-- how a list of texts lies -/
theorem RepS.texts {W0 : World} {κ : Gh} {σ : Log} {a : Act} {w : World} (hs : RepS W0 κ σ a w) {l : List (List UInt8)} {t : Tok} {v : Value} (h : RepV κ w (.sl 1 (strsD l) t) v) :
    (∃ ad c, v = .slice ad 0 c ∧ l = []) ∨ ∃ b o c, v = .slice (some ⟨b, o, none⟩) l.length c ∧ l.length ≤ c ∧ b < w.heap.size ∧ ∀ (j : Nat) s, l[j]? = some s → w.cell? ⟨b, o + j, none⟩ = some (.string ⟨s.toArray⟩) := by
  obtain ⟨hD, _⟩ := h.sl_inv
  generalize hg : strsD l = els at hD
  cases hD with
  | nil _ A =>
    have : l = [] := by cases l with | nil => rfl | cons => simp [strsD] at hg
    exact .inl ⟨_, _, rfl, this⟩
  | lst _ _ b o cap C hn hlen hI hc hr =>
    subst hg
    rw [strsD_length] at hn
    cases l with
    | nil => exact .inl ⟨_, _, rfl, rfl⟩
    | cons s r =>
      refine .inr ⟨b, o, cap, by rw [strsD_length], hn, hs.Icell b (o + 0 * 1 + 0) (hI 0 0 (by simp [strsD]) (by omega)), fun j x hx => ?_⟩
      have hj := (List.getElem?_eq_some_iff.1 hx).1
      have h1 := hc j 0 (by rw [strsD_length]; exact hj) (by omega)
      have h2 := hr j 0 _ _ (strsD_get hx) rfl
      rw [Nat.mul_one, Nat.add_zero] at h1
      rw [h1]
      generalize C j 0 = x at h2
      cases h2 with | sc c => rfl
theorem vals1 {vals : Array Value} (h : vals.size = 1) : vals = #[vals.getD 0 undef] := by
  apply Array.ext
  · simpa using h
  · intro i h1 h2
    obtain rfl : i = 0 := by omega
    simp [Array.getD, h]
theorem vals2 {vals : Array Value} (h : vals.size = 2) : vals = #[vals.getD 0 undef, vals.getD 1 undef] := by
  apply Array.ext
  · simpa using h
  · intro i h1 h2
    rcases (show i = 0 ∨ i = 1 by omega) with rfl | rfl <;> simp [Array.getD, h]
end Go.Abs
namespace Go.Abs
open Go Go.RowKit
theorem RepS.tab {P : Program} {W0 : World} {κ : Gh} {σ : Log} {a : Act} {w : World} (hs : RepS W0 κ σ a w) {n : String} {cs : Array Value} (h : W0.var? P n = some cs) : w.var? P n = some cs := by
  unfold World.var? at h ⊢
  cases hg : P.globalNamed n with
  | none => rw [hg] at h; cases h
  | some g =>
    rw [hg] at h
    simp only [Option.bind_some] at h ⊢
    by_cases hlt : g < W0.heap.size
    · rw [hs.amb g hlt]; exact h
    · rw [Array.getElem?_eq_none (by omega)] at h; cases h
/-- a new row of texts -/
theorem alloc_texts {κ : Gh} {w : World} (l : List (List UInt8)) (ty : TypeId) : RepV (grownI κ w (w.alloc (.cells (l.map fun s => Value.string ⟨s.toArray⟩).toArray ty))) (w.alloc (.cells (l.map fun s => Value.string ⟨s.toArray⟩).toArray ty)) (.sl 1 (strsD l) .full) (.slice (some ⟨w.heap.size, 0, none⟩) l.length l.length) := by
  refine .sl 1 _ .full _ ?_ (fun A m c ev => by cases ev; rfl)
  have := RepD.lst (I := (grownI κ w (w.alloc (.cells (l.map fun s => Value.string ⟨s.toArray⟩).toArray ty))).I) (w := w.alloc (.cells (l.map fun s => Value.string ⟨s.toArray⟩).toArray ty)) 1 (strsD l) w.heap.size 0 l.length
    (fun i _ => (l.map fun s => Value.string ⟨s.toArray⟩).getD i undef) (by rw [strsD_length]; exact Nat.le_refl _)
    (fun e he => by simp only [strsD, List.mem_map] at he; obtain ⟨s, _, rfl⟩ := he; rfl)
    (fun i j _ _ => .inr ⟨Nat.le_refl _, by rw [show (w.alloc (.cells (l.map fun s => Value.string ⟨s.toArray⟩).toArray ty)).heap.size = w.heap.size + 1 by simp]; omega⟩)
    (fun i j hi hj => by
      rw [strsD_length] at hi
      obtain rfl : j = 0 := by omega
      rw [cell?_of_cells (heap_alloc_new (w := w))]
      simp [hi])
    (fun i j e d he hd => by
      have hi : i < l.length := by have := (List.getElem?_eq_some_iff.1 he).1; rwa [strsD_length] at this
      rw [strsD_get (List.getElem?_eq_getElem hi)] at he
      cases he
      cases j with
      | zero =>
        simp at hd; subst hd
        rw [List.getD_eq_getElem?_getD]
        simp only [List.getElem?_map, List.getElem?_eq_getElem hi, Option.map_some, Option.getD_some]
        exact .sc (.s l[i])
      | succ j => simp at hd)
  rwa [strsD_length] at this
theorem below_alloc (w : World) (o : Obj) : Below w.heap.size w (w.alloc o) := (Below.refl _ w).alloc (Nat.le_refl _) o
end Go.Abs
