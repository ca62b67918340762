/- How the arguments read: from the row's reader to the machine's data. -/
import Derived.Test.YthmcdebdkbhbmaaGreatDoorMc
import Derived.ChangeArms
import Derived.ChangeVars
import Derived.ReadAgain
import GoSem.ClaimJoined
namespace Go.Abs
open Go
def oldI (w : World) : Nat → Nat → Prop := fun b _ => b < w.heap.size
/-- these values are these data -/
def Cells (w : World) (ds : List Data) (cs : List Value) : Prop := cs.length = ds.length ∧ ∀ j dd, ds[j]? = some dd → RepD (oldI w) w dd (cs.getD j undef)
mutual
/-- how much a datum holds -/
def bulkD : Data → Nat
  | .sc c => match c with | .s l => l.length + 1 | _ => 1
  | .lst _ els => bulkLL els + 1
def bulkL : List Data → Nat
  | [] => 0
  | d :: r => bulkD d + bulkL r
def bulkLL : List (List Data) → Nat
  | [] => 0
  | e :: r => bulkL e + bulkLL r
end
/-- a measure of readings -/
structure Bk {H : Type} (bk : DataW H → Nat) : Prop where
  str : ∀ l, l.length + 1 ≤ bk (.lit (.string l))
  int : ∀ k n, 1 ≤ bk (.lit (.int k n))
  nil : 1 ≤ bk .nil
  slice : ∀ (els sp : List (DataW H)), (els.map bk).sum + 1 ≤ bk (.slice els sp)
  agg : ∀ (ps : List (DataW H)), (ps.map bk).sum ≤ bk (.agg ps)
section
variable {H : Type} {enc : TypeId × Value → H} {P : Program} {w : World} {bk : DataW H → Nat}
/-- readings of type t, with fuel n -/
def Rd {H : Type} (enc : TypeId × Value → H) (P : Program) (w : World) (bk : DataW H → Nat) (t : TypeId) {α : Type} (en : α → List Data) (ok : α → Prop) (n : Nat) : Prop :=
  ∀ cs x, DataW.trod enc P w 0 (fun _ => true) true n t cs = some x → (x.1.weights P t).all (· ≤ reachBytes) = true → ∃ a, ok a ∧ Cells w (en a) cs ∧ bulkL (en a) ≤ bk x.1
theorem cells1 {d : Data} {v : Value} (h : RepD (oldI w) w d v) : Cells w [d] [v] := ⟨rfl, fun j dd hj => by
  cases j with
  | zero => simp at hj; subst hj; exact h
  | succ j => simp at hj⟩
theorem Cells.one {d : Data} {v : Value} (h : Cells w [d] [v]) : RepD (oldI w) w d v := h.2 0 d rfl
theorem cells_nil : Cells w [] [] := ⟨rfl, fun j dd hj => by simp at hj⟩
theorem cells_cons {d : Data} {v : Value} {ds : List Data} {vs : List Value} (h : RepD (oldI w) w d v) (hs : Cells w ds vs) : Cells w (d :: ds) (v :: vs) := ⟨by simp [hs.1], fun j dd hj => by
  cases j with
  | zero => simp at hj; subst hj; exact h
  | succ j => simpa using hs.2 j dd (by simpa using hj)⟩
theorem rd_string (hb : Bk bk) {t : TypeId} (ht : P.underlying t = some .string) (n : Nat) : Rd enc P w bk t (fun s : S => [.sc (.s s)]) (fun s => s.length ≤ 140737488355328) n := by
  intro cs x h hw
  obtain ⟨s, rfl, rfl, hs⟩ := DataW.trod_string ht h
  have h1 := hb.str s.data.toList
  have e : (⟨s.data.toList.toArray⟩ : ByteArray) = s := by simp
  refine ⟨s.data.toList, ?_, cells1 ?_, by simp only [bulkL, bulkD]; omega⟩
  · simp only [DataW.weights, List.all_cons, List.all_nil, Bool.and_true] at hw
    have := of_decide_eq_true hw
    simp only [reachBytes] at this
    omega
  · have := RepD.sc (I := oldI w) (w := w) (.s s.data.toList)
    simp only [Sc.val, e] at this
    exact this
theorem rd_int (hb : Bk bk) {t : TypeId} (ht : P.underlying t = some (.int .i64)) (n : Nat) : Rd enc P w bk t (fun n : Int => [.sc (.i .i64 n)]) (fun n => Fits .i64 n) n := by
  intro cs x h hw
  obtain ⟨k, rfl, rfl, hk⟩ := DataW.trod_int ht h
  refine ⟨k, ?_, cells1 (.sc (.i .i64 k)), by have := hb.int .i64 k; simp only [bulkL, bulkD]; omega⟩
  have := hk
  simp only [Lit.wf, Bool.and_eq_true] at this
  have h1 := of_decide_eq_true this.1
  have h2 := of_decide_eq_true this.2
  simp [IntKind.min, IntKind.max, IntKind.signed, IntKind.bits] at h1 h2
  exact ⟨h1, by omega⟩
theorem mapM_some_getElem? {α β : Type} {f : α → Option β} : ∀ {l : List α} {r : List β}, l.mapM f = some r → ∀ (i : Nat) (a : α), l[i]? = some a → ∃ y, f a = some y ∧ r[i]? = some y
  | [], _, _, i, a, ha => by simp at ha
  | x :: l, r, h, i, a, ha => by
    rw [List.mapM_cons] at h
    cases hx : f x with
    | none => simp [hx] at h
    | some y =>
      cases hl : l.mapM f with
      | none => simp [hx, hl] at h
      | some ys =>
        simp [hx, hl] at h
        subst h
        cases i with
        | zero => simp at ha; subst ha; exact ⟨y, hx, rfl⟩
        | succ i => simpa using mapM_some_getElem? hl i a (by simpa using ha)
theorem cell?_plain {a : Addr} {v : Value} (h : w.cell? a = some v) : a.spot = none ∧ a.block < w.heap.size := by
  unfold World.cell? at h
  split at h
  · rename_i c ty fz hb
    refine ⟨?_, lt_of_heap hb⟩
    split at h
    · cases h
    · rename_i hh
      cases hs : a.spot with
      | none => rfl
      | some s => simp [hs] at hh
  · cases h
theorem cells?_spec {base : Nat} {a : Addr} {n : Nat} {cs : List Value} (h : w.cells? base a n = some cs) : cs.length = n ∧ ∀ j, j < n → w.cell? (a.add j) = some (cs.getD j undef) := by
  unfold World.cells? at h
  split at h
  · have hl := mapM_some_length h
    simp only [List.length_range] at hl
    refine ⟨hl, fun j hj => ?_⟩
    have := mapM_some_getElem? h j j (List.getElem?_range hj)
    obtain ⟨y, h1, h2⟩ := this
    rw [List.getD_eq_getElem?_getD, h2]
    exact h1
  · cases h
theorem weightsAll_mem {e : TypeId} : ∀ {l : List (DataW H)} {d : DataW H}, (DataW.weightsAll P e l).all (· ≤ reachBytes) = true → d ∈ l → (d.weights P e).all (· ≤ reachBytes) = true
  | x :: r, d, h, hd => by
    simp only [DataW.weightsAll, List.all_append, Bool.and_eq_true] at h
    rcases List.mem_cons.1 hd with rfl | hd
    · exact h.1
    · exact weightsAll_mem h.2 hd
theorem rd_slice (hb : Bk bk) {t e : TypeId} {α : Type} {en : α → List Data} {ok : α → Prop} {n sz : Nat} (ht : P.underlying t = some (.slice e)) (hsz : P.cellsOf e = sz) (hs0 : 0 < sz) (hby : 1 ≤ P.bytesOf e)
    (h : Rd enc P w bk e en ok n) : Rd enc P w bk t (fun l : List α => [.lst sz (l.map en)]) (fun l => l.length ≤ 140737488355328 ∧ ∀ a, a ∈ l → ok a) (n + 1) := by
  intro cs x hx hw
  subst hsz
  rcases DataW.trod_slice ht hx with ⟨rfl, rfl⟩ | ⟨a, len, cap, elems, rest, n', hn, rfl, rfl, _, hlc, hcap, rfl, hel, hsp, _⟩
  · exact ⟨[], ⟨by simp, by simp⟩, cells1 (.nil _ none), by have := hb.nil; simp only [bulkL, bulkD, List.map_nil, bulkLL]; omega⟩
  · obtain rfl : n' = n := by omega
    simp only [DataW.weights, ht, List.all_cons, List.all_append, Bool.and_eq_true, List.length_map] at hw
    obtain ⟨hw1, hw2, _⟩ := hw
    have hw1 := of_decide_eq_true hw1
    simp only [reachBytes] at hw1
    -- the elements, one by one
    have key : ∀ i y, elems[i]? = some y → ∃ cs a', w.cells? 0 (a.add (i * P.cellsOf e)) (P.cellsOf e) = some cs ∧ ok a' ∧ Cells w (en a') cs ∧ bulkL (en a') ≤ bk y.1 := by
      intro i y hy
      have hi := (List.getElem?_eq_some_iff.1 hy).1
      have := hel i hi
      rw [hy] at this
      simp only [Option.bind_eq_some_iff] at this
      obtain ⟨cs, hc, ht'⟩ := this
      obtain ⟨a', h1, h2, h3⟩ := h cs y ht' (weightsAll_mem hw2 (List.mem_map_of_mem (List.mem_of_getElem? hy)))
      exact ⟨cs, a', hc, h1, h2, h3⟩
    have build : ∀ (L : List (DataW H × List MemPlace)) (k : Nat), (∀ i y, L[i]? = some y → elems[k + i]? = some y) →
        ∃ l : List α, l.length = L.length ∧ (∀ a, a ∈ l → ok a) ∧ (∀ i b, l[i]? = some b → ∃ cs, w.cells? 0 (a.add ((k + i) * P.cellsOf e)) (P.cellsOf e) = some cs ∧ Cells w (en b) cs) ∧ bulkLL (l.map en) ≤ (L.map fun y => bk y.1).sum := by
      intro L
      induction L with
      | nil => intro k _; exact ⟨[], rfl, by simp, by simp, by simp [bulkLL]⟩
      | cons y r ih =>
        intro k hk
        obtain ⟨cs, a', h1, h2, h3, h4⟩ := key k y (by simpa using hk 0 y rfl)
        obtain ⟨l, g1, g2, g3, g4⟩ := ih (k + 1) (fun i y hy => by have := hk (i + 1) y (by simpa using hy); rwa [show k + (i + 1) = k + 1 + i by omega] at this)
        refine ⟨a' :: l, by simp [g1], ?_, ?_, ?_⟩
        · intro b hb
          rcases List.mem_cons.1 hb with rfl | hb
          · exact h2
          · exact g2 b hb
        · intro i b hb
          cases i with
          | zero => simp at hb; subst hb; exact ⟨cs, by simpa using h1, h3⟩
          | succ i =>
            obtain ⟨cs', q1, q2⟩ := g3 i b (by simpa using hb)
            exact ⟨cs', by rwa [show k + (i + 1) = k + 1 + i by omega], q2⟩
        · simp only [List.map_cons, bulkLL, List.sum_cons]; omega
    obtain ⟨l, g1, g2, g3, g4⟩ := build elems 0 (fun i y hy => by simpa using hy)
    have hlen : l.length ≤ 140737488355328 := by
      rw [g1]
      have : elems.length * 1 ≤ (elems.length + rest.length) * P.bytesOf e := Nat.mul_le_mul (by omega) hby
      omega
    refine ⟨l, ⟨hlen, g2⟩, cells1 ?_, ?_⟩
    · -- the slice
      by_cases hz : l.length = 0
      · have hl : l = [] := List.eq_nil_of_length_eq_zero hz
        subst hl
        have he0 : elems.length = 0 := by simpa using g1.symm
        rw [he0]
        by_cases hc0 : cap = 0
        · subst hc0; exact .nil _ (some a)
        · -- a spare cell tells that the address is plain
          have := (hsp rfl).2 0 (by omega)
          have hr : rest.length = cap - elems.length := (hsp rfl).1
          rw [List.getElem?_eq_getElem (by omega)] at this
          simp only [Option.bind_eq_some_iff] at this
          obtain ⟨cs, hc, _⟩ := this
          rw [he0] at hc
          rw [show (0 + 0) * P.cellsOf e = 0 by omega] at hc
          simp only [Addr.add, if_true] at hc
          have hspot : a.spot = none := by
            have := (cells?_spec hc).2 0 hs0
            simp only [Addr.add, if_true] at this
            exact (cell?_plain this).1
          obtain ⟨b, o, sp⟩ := a
          simp only at hspot
          subst hspot
          exact .lst _ [] b o cap (fun _ _ => undef) (Nat.zero_le _) (by simp) (by simp) (by simp) (by simp)
      · have h0 : 0 < l.length := by omega
        obtain ⟨cs0, hc0, _⟩ := g3 0 _ (List.getElem?_eq_getElem h0)
        have hp := (cells?_spec hc0).2 0 hs0
        rw [show (0 + 0) * P.cellsOf e = 0 by omega] at hp
        simp only [Addr.add, if_true] at hp
        obtain ⟨hspot, hblk⟩ := cell?_plain hp
        obtain ⟨b, o, sp⟩ := a
        simp only at hspot hblk
        subst hspot
        rw [← g1]
        have hcell : ∀ i x, l[i]? = some x → (en x).length = P.cellsOf e ∧ ∀ j, j < P.cellsOf e → ∃ v, w.cell? ⟨b, o + i * P.cellsOf e + j, none⟩ = some v ∧ ∀ dd, (en x)[j]? = some dd → RepD (oldI w) w dd v := by
          intro i x hx
          obtain ⟨cs, q1, q2⟩ := g3 i x hx
          obtain ⟨r1, r2⟩ := cells?_spec q1
          refine ⟨by rw [← q2.1, r1], fun j hj => ⟨cs.getD j undef, ?_, fun dd hdd => q2.2 j dd hdd⟩⟩
          have := r2 j hj
          rw [addr_add, addr_add, Nat.zero_add] at this
          exact this
        have := RepD.lst (I := oldI w) (w := w) (P.cellsOf e) (l.map en) b o cap (fun i j => (w.cell? ⟨b, o + i * P.cellsOf e + j, none⟩).getD undef) (by rw [List.length_map, g1]; exact hlc)
          (fun e' he' => by
            obtain ⟨x, hx, rfl⟩ := List.mem_map.1 he'
            obtain ⟨i, hi⟩ := List.mem_iff_getElem?.1 hx
            exact (hcell i x hi).1)
          (fun i j _ _ => hblk)
          (fun i j hi hj => by
            rw [List.length_map] at hi
            obtain ⟨v, h1, _⟩ := (hcell i _ (List.getElem?_eq_getElem hi)).2 j hj
            rw [h1]; rfl)
          (fun i j e' dd he' hd' => by
            rw [List.getElem?_map] at he'
            cases hx : l[i]? with
            | none => rw [hx] at he'; cases he'
            | some x =>
              rw [hx] at he'
              simp only [Option.map_some, Option.some.injEq] at he'
              subst he'
              have hj : j < P.cellsOf e := by rw [← (hcell i x hx).1]; exact (List.getElem?_eq_some_iff.1 hd').1
              obtain ⟨v, h1, h2⟩ := (hcell i x hx).2 j hj
              rw [h1]
              exact h2 dd hd')
        rwa [List.length_map] at this
    · have := hb.slice (elems.map (·.1)) (rest.map (·.1))
      simp only [List.map_map] at this
      simp only [bulkL, bulkD]
      have e : (elems.map (bk ∘ fun x => x.1)).sum = (elems.map fun y => bk y.1).sum := rfl
      omega
end
end Go.Abs
namespace Go.Abs
open Go
section
variable {H : Type} {enc : TypeId × Value → H} {P : Program} {w : World} {bk : DataW H → Nat}
def flds (P : Program) (t : TypeId) : Array Field := match P.underlying t with | some (.struct fs) => fs | _ => #[]
/-- a struct whose fields take one cell each -/
theorem rd_fields {t : TypeId} {L : List TypeId} (ht : P.underlying t = some (.struct (flds P t))) (hL : (flds P t).toList.map (fun f => f.type) = L) (hO : (flds P t).toList.map (fun f => f.offset) = List.range L.length) (h1 : L.all (fun t => Nat.beq (P.cellsOf t) 1) = true) (hc : P.cellsOf t = L.length)
    {n : Nat} {cs : List Value} {x : DataW H × List MemPlace} (h : DataW.trod enc P w 0 (fun _ => true) true n t cs = some x) (hw : (x.1.weights P t).all (· ≤ reachBytes) = true) :
    ∃ (xs : List (DataW H × List MemPlace)) (n' : Nat), n = n' + 1 ∧ x.1 = .agg (xs.map (·.1)) ∧ cs.length = L.length ∧ xs.length = L.length ∧
      ∀ i ty, L[i]? = some ty → ∃ y, xs[i]? = some y ∧ DataW.trod enc P w 0 (fun _ => true) true n' ty [cs.getD i undef] = some y ∧ (y.1.weights P ty).all (· ≤ reachBytes) = true := by
  obtain ⟨xs, n', hn, rfl, hl, hlen, hf⟩ := DataW.trod_struct ht h
  have hsz : (flds P t).size = L.length := by rw [← hL]; simp
  refine ⟨xs, n', hn, rfl, by rw [hl, hc], by rw [hlen, hsz], fun i ty hi => ?_⟩
  have hil := (List.getElem?_eq_some_iff.1 hi).1
  have hix : i < xs.length := by rw [hlen, hsz]; exact hil
  have hif : i < (flds P t).size := by rw [hsz]; exact hil
  have hfi : (flds P t)[i]? = some (flds P t)[i] := Array.getElem?_eq_getElem hif
  have hty : (flds P t)[i].type = ty := by
    have : L[i]? = some (flds P t)[i].type := by
      rw [← hL, List.getElem?_map, Array.getElem?_toList, hfi]; rfl
    rw [this] at hi; exact Option.some.inj hi
  have hoff : (flds P t)[i].offset = i := by
    have : (List.range L.length)[i]? = some (flds P t)[i].offset := by
      rw [← hO, List.getElem?_map, Array.getElem?_toList, hfi]; rfl
    rw [List.getElem?_range hil] at this
    exact (Option.some.inj this).symm
  have hone : P.cellsOf ty = 1 := Nat.eq_of_beq_eq_true (List.all_eq_true.1 h1 ty (List.mem_of_getElem? hi))
  have := hf i _ hfi
  rw [hty, hoff, hone, List.getElem?_eq_getElem hix] at this
  have hci : i < cs.length := by rw [hl, hc]; exact hil
  have e : (cs.drop i).take 1 = [cs.getD i undef] := by
    rw [List.drop_eq_getElem_cons hci, List.take_succ_cons, List.take_zero, List.getD_eq_getElem?_getD, List.getElem?_eq_getElem hci, Option.getD_some]
  rw [e] at this
  refine ⟨_, List.getElem?_eq_getElem hix, this, ?_⟩
  -- the weights
  have hwx : (DataW.weightsEach P L (xs.map (·.1))).all (· ≤ reachBytes) = true := by
    simp only [DataW.weights, ht] at hw
    rwa [hL] at hw
  have each : ∀ (L : List TypeId) (ds : List (DataW H)) (i : Nat) (ty : TypeId) (d : DataW H), (DataW.weightsEach P L ds).all (· ≤ reachBytes) = true → L[i]? = some ty → ds[i]? = some d → (d.weights P ty).all (· ≤ reachBytes) = true := by
    intro L
    induction L with
    | nil => intro ds i ty d _ h _; simp at h
    | cons t L ih =>
      intro ds i ty d h h1 h2
      cases ds with
      | nil => simp at h2
      | cons d0 ds =>
        simp only [DataW.weightsEach, List.all_append, Bool.and_eq_true] at h
        cases i with
        | zero => simp at h1 h2; subst h1; subst h2; exact h.1
        | succ i => exact ih ds i ty d h.2 (by simpa using h1) (by simpa using h2)
  exact each L _ i ty _ hwx hi (by rw [List.getElem?_map, List.getElem?_eq_getElem hix]; rfl)
end
end Go.Abs
