/- Maps whose keys are ints and whose elements are structs: made, looked up, set. -/
import Derived.Test.YthmcdebdkbhbmaaGreatDoorMa
import Derived.MapKept
namespace Go.Abs
open Go Go.MapKept
/-- an entry's value -/
def EntV (I : Nat → Nat → Prop) (w : World) (ds : List Data) (v : Value) : Prop := ∃ cs, v = .agg cs ∧ cs.size = ds.length ∧ ∀ (j : Nat) (d : Data), ds[j]? = some d → RepD I w d (cs.getD j undef)
theorem findNow_rep {I : Nat → Nat → Prop} {w : World} {n : Int} : ∀ {es : List (Int × List Data)} {E : List MapEntry} (i : Nat), RepM I w es E →
    (∃ ds, findM n es = some ds ∧ ∃ j e, Instr.findNow (.int .i64) (.int .i64 n) E i = some (some (i + j, e.val)) ∧ E[j]? = some e ∧ e.key = .int .i64 n ∧ EntV I w ds e.val ∧
      ∀ x v, EntV I w x v → RepM I w (insM n x es) (E.modify j fun e => { e with key := .int .i64 n, val := v })) ∨
    (findM n es = none ∧ Instr.findNow (.int .i64) (.int .i64 n) E i = some none ∧ ∀ x v b, EntV I w x v → RepM I w (insM n x es) (E ++ [{ key := .int .i64 n, val := v, born := b }]))
  | [], [], i, _ => .inr ⟨rfl, rfl, fun x v b h => ⟨⟨rfl, h⟩, trivial⟩⟩
  | (m, ds) :: r, e :: s, i, ⟨⟨h1, h2⟩, h3⟩ => by
    by_cases hn : n = m
    · subst hn
      refine .inl ⟨ds, by simp [findM], 0, e, ?_, rfl, h1, h2, fun x v h => ?_⟩
      · simp [Instr.findNow, h1, Instr.sameNow]
      · simp only [insM, decide_true]
        exact ⟨⟨rfl, h⟩, h3⟩
    · have hb : (n == m) = false := by simpa using hn
      rcases findNow_rep (n := n) (i + 1) h3 with ⟨ds', g1, j, e', g2, g3, g4, g5, g6⟩ | ⟨g1, g2, g3⟩
      · refine .inl ⟨ds', by simp [findM, hn, g1], j + 1, e', ?_, by simpa using g3, g4, g5, fun x v h => ?_⟩
        · simp only [Instr.findNow, h1, Instr.sameNow, if_true, hb]
          rw [g2, Nat.add_assoc, Nat.add_comm 1 j]
        · simp only [insM, hn, decide_false]
          exact ⟨⟨h1, h2⟩, g6 x v h⟩
      · refine .inr ⟨by simp [findM, hn, g1], ?_, fun x v b h => ?_⟩
        · simp only [Instr.findNow, h1, Instr.sameNow, if_true, hb]
          exact g2
        · simp only [insM, hn, decide_false]
          exact ⟨⟨h1, h2⟩, g3 x v b h⟩

theorem chg_setMap {O : Nat → Nat → Prop} {w : World} {r : Nat} {E E' : Array MapEntry} {c c' : Nat} (hb : w.heap[r]? = some (.map E c)) (ho : O r 0) : Chg O w { w with heap := w.heap.setIfInBounds r (.map E' c') } := {
  os := rfl
  tape := rfl
  output := rfl
  size := by simp
  same b hb' hn := (heap_set hb).2 b fun e => hn 0 (e ▸ ho)
  cells b C ty fz h := by
    have hne : b ≠ r := fun e => by subst e; rw [hb] at h; cases h
    exact ⟨C, ((heap_set hb).2 b hne).trans h, rfl, fun _ _ => rfl⟩
  maps b E1 c1 h := by
    by_cases e : b = r
    · subst e; exact ⟨E', c', (heap_set hb).1⟩
    · exact ⟨E1, c1, ((heap_set hb).2 b e).trans h⟩ }

/-- a map is written -/
theorem RepS.storeM {W0 : World} {κ : Gh} {σ : Log} {a : Act} {w : World} (hs : RepS W0 κ σ a w) {b : Nat} {es es' : List (Int × List Data)} (hb : look σ (.b b) = some (.bx [.mpv es]))
    {E E' : Array MapEntry} {c c' : Nat} (hp : (κ.ι b).2 = 0) (hg : w.heap[(κ.ι b).1]? = some (.map E c)) (hm : RepM κ.I w es' E'.toList) :
    RepS W0 κ ((.b b, .bx [.mpv es']) :: σ) a { w with heap := w.heap.setIfInBounds (κ.ι b).1 (.map E' c') } ∧ Step κ σ w κ ((.b b, .bx [.mpv es']) :: σ) { w with heap := w.heap.setIfInBounds (κ.ι b).1 (.map E' c') } := by
  have hO : Own κ σ (κ.ι b).1 0 := .inl ⟨b, _, hb, rfl, by simp only [spb, hp]; omega, by simp only [spb, hp]; simp⟩
  have hchg : Chg (Own κ σ) w { w with heap := w.heap.setIfInBounds (κ.ι b).1 (.map E' c') } := chg_setMap hg hO
  have hsz : ({ w with heap := w.heap.setIfInBounds (κ.ι b).1 (.map E' c') } : World).heap.size = w.heap.size := by simp
  have hheap : ∀ k, k ≠ (κ.ι b).1 → ({ w with heap := w.heap.setIfInBounds (κ.ι b).1 (.map E' c') } : World).heap[k]? = w.heap[k]? := fun k h => (heap_set hg).2 k h
  have hnew : ({ w with heap := w.heap.setIfInBounds (κ.ι b).1 (.map E' c') } : World).heap[(κ.ι b).1]? = some (.map E' c') := (heap_set hg).1
  have hout : ({ w with heap := w.heap.setIfInBounds (κ.ι b).1 (.map E' c') } : World).os = w.os ∧ ({ w with heap := w.heap.setIfInBounds (κ.ι b).1 (.map E' c') } : World).tape = w.tape ∧ ({ w with heap := w.heap.setIfInBounds (κ.ι b).1 (.map E' c') } : World).output = w.output := ⟨rfl, rfl, rfl⟩
  generalize ({ w with heap := w.heap.setIfInBounds (κ.ι b).1 (.map E' c') } : World) = w' at hchg hsz hheap hnew hout ⊢
  have e : Ext κ w κ w' := ⟨fun _ _ h => h, fun b o h => hchg.cell hs h, fun _ h => ⟨h, rfl⟩, fun _ h => ⟨h, rfl⟩⟩
  have hB : ∀ {b' m}, look ((.b b, .bx [.mpv es']) :: σ) (.b b') = some (.bx m) → (b' = b ∧ m = [.mpv es']) ∨ (b' ≠ b ∧ look σ (.b b') = some (.bx m)) := by
    intro b' m h
    rw [look_cons] at h
    by_cases hh : b = b'
    · subst hh; simp at h; exact .inl ⟨rfl, h.symm⟩
    · have : (Loc.b b = Loc.b b') = False := by simp [hh]
      simp only [this, if_false] at h
      exact .inr ⟨fun x => hh x.symm, h⟩
  have hB' : ∀ {b' m}, look ((.b b, .bx [.mpv es']) :: σ) (.b b') = some (.bx m) → ∃ m', look σ (.b b') = some (.bx m') ∧ spb κ b' m = spb κ b' m' := by
    intro b' m h
    rcases hB h with ⟨rfl, rfl⟩ | ⟨_, h⟩
    · exact ⟨_, hb, rfl⟩
    · exact ⟨m, h, rfl⟩
  have ht : ∀ k, look ((.b b, .bx [.mpv es']) :: σ) (.t k) = look σ (.t k) := fun k => by simp [look_cons]
  have hss : ∀ k, look ((.b b, .bx [.mpv es']) :: σ) (.s k) = look σ (.s k) := fun k => by simp [look_cons]
  have hown' : ∀ b' o, Own κ ((.b b, .bx [.mpv es']) :: σ) b' o → Own κ σ b' o := by
    rintro b' o (⟨id, m, hm, hi⟩ | ⟨k, hk, hi⟩)
    · obtain ⟨m', hm', hsp⟩ := hB' hm; exact .inl ⟨id, m', hm', hsp ▸ hi⟩
    · rw [ht] at hk; exact .inr ⟨k, hk, hi⟩
  refine ⟨⟨fun n v h => by rw [hss] at h; exact (hs.slots n v h).mono e, ?_, ?_, ?_, ?_, ?_, fun b' o ho => hs.sepI b' o (hown' b' o ho), fun b' o h => by rw [hsz]; exact hs.Icell b' o h, hs.old, by rw [hsz]; exact hs.size0, hchg.amb hs, hs.defers, hout.1.trans hs.os, hout.2.1.trans hs.tape, hout.2.2.trans hs.output⟩,
    ⟨hchg, fun b' o h => .inl (hown' b' o h), fun _ _ h => h, fun _ _ h => .inl h, fun _ _ h => ⟨h, rfl⟩, fun _ _ h => ⟨h, rfl⟩⟩⟩
  · intro b' m h
    rcases hB h with ⟨rfl, rfl⟩ | ⟨hn, h⟩
    · obtain ⟨h1, h2, _⟩ := hs.boxes b' _ hb
      exact ⟨h1, h2, .inr ⟨es', E', c', rfl, hp, hnew, hm.ext e⟩⟩
    · obtain ⟨h1, h2, hbx⟩ := hs.boxes b' m h
      by_cases hx : (κ.ι b').1 = (κ.ι b).1
      · exfalso
        rcases hbx with ⟨_, C, ty', h3, h4⟩ | ⟨es1, E1, c1, e1, e2, e3, _⟩
        · rw [hx, hg] at h3; cases h3
        · subst e1
          refine hs.binj b' b _ _ h hb hn (κ.ι b).1 0 ⟨hx, by simp only [spb, e2]; omega, by simp only [spb, e2]; simp⟩ ⟨rfl, by simp only [spb, hp]; omega, by simp only [spb, hp]; simp⟩
      · exact ⟨h1, h2, hbx.mono e (hheap _ hx)⟩
  · intro b1 b2 m1 m2 h1 h2 hne x o hi hi'
    obtain ⟨m1', h1', e1⟩ := hB' h1
    obtain ⟨m2', h2', e2⟩ := hB' h2
    rw [e1] at hi
    rw [e2] at hi'
    exact hs.binj b1 b2 m1' m2' h1' h2' hne x o hi hi'
  · intro k h
    rw [ht] at h
    obtain ⟨h1, h2⟩ := hs.toks k h
    refine ⟨h1, fun hh => ?_⟩
    obtain ⟨h3, C', ty', h4, h5⟩ := h2 hh
    have hx : (κ.τ k).1 ≠ (κ.ι b).1 := fun hx => by rw [hx, hg] at h4; cases h4
    exact ⟨h3, C', ty', by rw [hheap _ hx]; exact h4, h5⟩
  · intro k k' h h'; rw [ht] at h h'; exact hs.tdis k k' h h'
  · intro k id m h h' x o hi hi'
    rw [ht] at h
    obtain ⟨m', hm', e1⟩ := hB' h'
    rw [e1] at hi'
    exact hs.tbox k id m' h hm' x o hi hi'

section ops
variable {P : Program} {W0 : World} {κ : Gh} {σ : Log} {a : Act} {w : World} {id : Nat} {F : Log → Prop} {call : CallP} {o : Oper} {Q : Exit → Act → World → Prop} {d : Nat}
theorem s_mkM (hs : RepS W0 κ σ a w) (hf : Fresh κ id) {t : TypeId} (ho : o.op = .makeMap t none) (hd : o.dst = some d) (hN : d < a.tmps.size) (h : eff call σ id (.mkM d) F) : o.wp P a w (After W0 κ σ a w id F) Q := by
  have hid : ¬ κ.Db id := hf.db id (Nat.le_refl _) (by omega)
  obtain ⟨r1, r2, _⟩ := hs.boxO (id := id) (l := [.mpv []]) (ob := .map #[] 0) hid fun κ' e => .inr ⟨[], #[], 0, rfl, rfl, heap_alloc_new, trivial⟩
  refine wp_value (x := .map (some w.heap.size)) (w' := w.alloc (.map #[] 0)) ?_ ?_
  · simp [execOp, ho, Instr.makeMap, Result.andThen]
  · rw [hd]
    refine ⟨_, { κ with Db := fun b => κ.Db b ∨ b = id, ι := fun b => if b = id then (w.heap.size, 0) else κ.ι b }, h, ?_, ?_, put_size, ⟨fun b hb => ?_, fun k hk => .inl hk⟩⟩
    · refine r1.put hN ?_
      have := RepV.mr (κ := { κ with Db := fun b => κ.Db b ∨ b = id, ι := fun b => if b = id then (w.heap.size, 0) else κ.ι b }) (w := w.alloc (.map #[] 0)) id (.inr rfl)
      simpa using this
    · exact r2.trans Step.put
    · rcases (show κ.Db b ∨ b = id from hb) with hb | rfl
      · exact .inl hb
      · exact .inr ⟨Nat.le_refl _, by omega⟩

theorem dcells_repL {ds : List Data} {cs : Array Value} (h1 : cs.size = ds.length) (h2 : ∀ (j : Nat) (d : Data), ds[j]? = some d → RepD κ.I w d (cs.getD j undef)) : RepV κ w (.agg (ds.map dcell)) (.agg cs) := by
  refine .agg _ cs (by simpa using h1) ?_ fun j v hj => ?_
  · intro v hv
    obtain ⟨d, _, rfl⟩ := List.mem_map.1 hv
    cases d <;> rfl
  · rw [List.getElem?_map] at hj
    cases hd : ds[j]? with
    | none => rw [hd] at hj; cases hj
    | some dd =>
      rw [hd] at hj
      simp only [Option.map_some, Option.some.injEq] at hj
      subst hj
      exact (dcell_rep (h2 j dd hd)).1

theorem s_lkM (hs : RepS W0 κ σ a w) {x k : Operand} {x' k' : Opd} {t kt e : TypeId} {i : TypeInfo} {z : List Data} {v0 : Value} (ho : o.op = .lookup t x k true) (hd : o.dst = some d) (hx : opdC none x = some x') (hk : opdC none k = some k')
    (ht : P.underlying t = some (.map kt e)) (hkt : P.underlying kt = some (.int .i64)) (hi : P.info? e = some i) (hv0 : i.zero = some v0) (hz : ∀ (κ : Gh) (w : World), RepV κ w (.agg (z.map dcell)) v0) (hN : d < a.tmps.size)
    (h : eff call σ id (.lkM d z x' k') F) : o.wp P a w (After W0 κ σ a w id F) Q := by
  simp only [eff] at h
  split at h
  · rename_i b n he1 he2
    have hrx := opd_rep hs hx
    have hrk := opd_rep hs hk
    rw [he1] at hrx
    rw [he2] at hrk
    obtain ⟨_, hpx⟩ := hrx.mr_inv
    have hpk := hrk.sc_inv
    split at h
    · rename_i es hl
      obtain ⟨_, _, hB⟩ := hs.boxes b _ hl
      rcases hB with ⟨h0, _⟩ | ⟨es', E, c, e1, e2, e3, e4⟩
      · cases h0
      cases e1
      have hkey : IsKey (.int .i64) (.int .i64 n) := rfl
      have pair : ∀ {u : AV} {y : Value} {bb : Bool}, RepV κ w u y → RepV κ w (.tup [u, .sc (.b bb)]) (.tuple #[y, .bool bb]) := by
        intro u y bb hu
        refine .tup _ #[y, .bool bb] rfl fun j v hj => ?_
        match j, hj with
        | 0, hj => simp at hj; subst hj; exact hu
        | 1, hj => simp at hj; subst hj; exact .sc (.b bb)
      rcases findNow_rep (n := n) 0 e4 with ⟨ds, g1, j, e', g2, g3, g4, ⟨cs, g5, g6, g7⟩, _⟩ | ⟨g1, g2, _⟩
      · simp only [g1] at h
        refine wp_value (x := .tuple #[.agg cs, .bool true]) (w' := w) ?_ ?_
        · simp [execOp, ho, hpx, hpk, Sc.val, Instr.lookup, run_underlying ht, MapKept.run_getObj_map e3, MapKept.run_checkKey hkt hkey, MapKept.run_findKey hkt g2, Result.andThen, g5]
        · rw [hd]
          exact .put hs hN (pair (dcells_repL g6 g7)) h
      · simp only [g1] at h
        refine wp_value (x := .tuple #[v0, .bool false]) (w' := w) ?_ ?_
        · simp [execOp, ho, hpx, hpk, Sc.val, Instr.lookup, run_underlying ht, MapKept.run_getObj_map e3, MapKept.run_checkKey hkt hkey, MapKept.run_findKey hkt g2, Result.andThen, zeroValue, run_typeInfo w hi, hv0]
        · rw [hd]
          exact .put hs hN (pair (hz κ w)) h
    · exact h.elim
  · exact h.elim

theorem s_upM (hs : RepS W0 κ σ a w) {x k v : Operand} {x' k' v' : Opd} {t kt e : TypeId} (ho : o.op = .mapUpdate t x k v) (hd : o.dst = none) (hx : opdC none x = some x') (hk : opdC none k = some k') (hv : opdC none v = some v')
    (ht : P.underlying t = some (.map kt e)) (hkt : P.underlying kt = some (.int .i64))
    (h : eff call σ id (.upM x' k' v') F) : o.wp P a w (After W0 κ σ a w id F) Q := by
  simp only [eff] at h
  split at h
  · rename_i b n he1 he2
    have hrx := opd_rep hs hx
    have hrk := opd_rep hs hk
    have hrv := opd_rep hs hv
    rw [he1] at hrx
    rw [he2] at hrk
    obtain ⟨_, hpx⟩ := hrx.mr_inv
    have hpk := hrk.sc_inv
    split at h
    · rename_i es hl
      split at h
      · rename_i l hvl
        rw [hvl] at hrv
        obtain ⟨vs, hpv, hL⟩ := hrv.agg_inv
        obtain ⟨_, h⟩ := frcL_iff.1 h
        split at h
        · rename_i ds hds
          obtain ⟨c1, c2⟩ := cellsD_spec hds
          have hent : EntV κ.I w ds (.agg vs) := by
            refine ⟨vs, rfl, by rw [hL.1, c1], fun j dd hj => ?_⟩
            have hjl : j < l.length := by rw [← c1]; exact (List.getElem?_eq_some_iff.1 hj).1
            obtain ⟨dd', g1, g2⟩ := c2 j l[j] (List.getElem?_eq_getElem hjl)
            rw [hj] at g1
            cases g1
            exact cellD_rep (hL.2.2 j _ (List.getElem?_eq_getElem hjl)) g2
          obtain ⟨_, _, hB⟩ := hs.boxes b _ hl
          rcases hB with ⟨h0, _⟩ | ⟨es', E, c, e1, e2, e3, e4⟩
          · cases h0
          cases e1
          have hkey : IsKey (.int .i64) (.int .i64 n) := rfl
          rcases findNow_rep (n := n) 0 e4 with ⟨ds0, g1, j, e', g2, g3, g4, _, g6⟩ | ⟨g1, g2, g6⟩
          · have hm := g6 ds (.agg vs) hent
            obtain ⟨r1, r2⟩ := hs.storeM hl (E' := E.modify j fun e => { e with key := .int .i64 n, val := .agg vs }) (c' := c) e2 e3 (by simpa using hm)
            refine wp_skip' (w' := { w with heap := w.heap.setIfInBounds (κ.ι b).1 (.map (E.modify j fun e => { e with key := .int .i64 n, val := .agg vs }) c) }) ?_ ?_
            · have g3' : E[j]? = some e' := by simpa using g3
              simp [execOp, ho, hpx, hpk, hpv, Sc.val, Instr.mapUpdate, run_underlying ht, MapKept.run_getObj_map e3, MapKept.run_checkKey hkt hkey, MapKept.run_findKey hkt g2, Result.andThen, g3', g4, MapKept.run_keyThatStays hkey, MapKept.run_setObj_map _ e3]
            · rw [hd]
              exact ⟨_, κ, h, r1, r2, rfl, Grow.refl _ _⟩
          · have hm := g6 ds (.agg vs) c hent
            obtain ⟨r1, r2⟩ := hs.storeM hl (E' := E.push { key := .int .i64 n, val := .agg vs, born := c }) (c' := c + 1) e2 e3 (by simpa using hm)
            refine wp_skip' (w' := { w with heap := w.heap.setIfInBounds (κ.ι b).1 (.map (E.push { key := .int .i64 n, val := .agg vs, born := c }) (c + 1)) }) ?_ ?_
            · simp [execOp, ho, hpx, hpk, hpv, Sc.val, Instr.mapUpdate, run_underlying ht, MapKept.run_getObj_map e3, MapKept.run_checkKey hkt hkey, MapKept.run_findKey hkt g2, Result.andThen, MapKept.run_setObj_map _ e3]
            · rw [hd]
              exact ⟨_, κ, h, r1, r2, rfl, Grow.refl _ _⟩
        · exact h.elim
      · exact h.elim
    · exact h.elim
  · exact h.elim
end ops
end Go.Abs
