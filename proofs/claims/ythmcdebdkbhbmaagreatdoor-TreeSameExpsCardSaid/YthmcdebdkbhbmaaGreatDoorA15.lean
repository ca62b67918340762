/- Regions in whatever order: one goal, in the text's order, serves all. -/
import Derived.Test.YthmcdebdkbhbmaaGreatDoorA14
namespace Go.Abs
open Go

theorem memL_iff {x : Loc} : ∀ {l : List Loc}, memL x l = true ↔ x ∈ l
  | [] => by simp [memL]
  | y :: l => by
    simp only [memL, List.mem_cons]
    cases hb : Loc.beq y x with
    | true => have := Loc.beq_iff.1 hb; subst this; simp
    | false =>
      have hne : ¬ x = y := fun e => by subst e; rw [Loc.beq_self] at hb; cases hb
      simp [hne, memL_iff]

theorem meets_false : ∀ {l m : List Loc}, meets l m = false → ∀ x, x ∈ l → x ∉ m
  | [], m, _, x, h => by cases h
  | y :: l, m, h, x, hx => by
    simp only [meets] at h
    split at h
    · cases h
    · rename_i hm
      rcases List.mem_cons.1 hx with rfl | hx
      · intro hh; rw [memL_iff.2 hh] at hm; cases hm
      · exact meets_false h x hx

theorem confl_false {p : Nat} {R W : List Loc} : ∀ {fs : List (Nat × List Loc × List Loc)}, confl p R W fs = false → ∀ i Ri Wi, (i, Ri, Wi) ∈ fs → bitOf p i = true ∨ (meets Wi R = false ∧ meets Wi W = false ∧ meets Ri W = false)
  | [], _, i, Ri, Wi, h => by cases h
  | (k, Rk, Wk) :: fs, h, i, Ri, Wi, hm => by
    simp only [confl] at h
    have rest : confl p R W fs = false ∧ (bitOf p k = true ∨ (meets Wk R = false ∧ meets Wk W = false ∧ meets Rk W = false)) := by
      split at h
      · rename_i hb; exact ⟨h, .inl hb⟩
      · split at h
        · cases h
        · split at h
          · cases h
          · split at h
            · cases h
            · exact ⟨h, .inr ⟨by assumption, by assumption, by assumption⟩⟩
    rcases List.mem_cons.1 hm with e | hm
    · cases e; exact rest.2
    · exact confl_false rest.1 i Ri Wi hm

/-- at every log that agrees with σ where it matters, the operation writes δ -/
def Exec (call : CallP) (g : GOp) (id : Nat) (σ : Log) (R : List Loc) (δ : Log) : Prop :=
  ∀ σ', (∀ l, l ∈ R ∨ l ∈ keysL δ → look σ' l = look σ l) →
    (guardV σ' g.g = some true ∧ eff call σ' id g.o (· = δ)) ∨ (guardV σ' g.g = some false ∧ δ = dstL g.o.dst (.tup []))

def TrOK (call : CallP) : List GOp → List Nat → Nat → Nat → Log → List (Nat × List Loc × List Loc) → List (List Loc × Log) → (Log → Prop) → Prop
  | [], _, _, _, σ, _, [], K => ∃ σ', Same σ σ' ∧ K σ'
  | g :: gs, p :: ps, j, id, σ, fs, (R, δ) :: ds, K => Exec call g id σ R δ ∧ confl p R (keysL δ) fs = false ∧ TrOK call gs ps (j + 1) (id + 100) (δ ++ σ) ((j, R, keysL δ) :: fs) ds K
  | _, _, _, _, _, _, _, _ => False

theorem Same.trans {σ σ' σ'' : Log} (h : Same σ σ') (g : Same σ' σ'') : Same σ σ'' := fun l => (g l).trans (h l)
theorem Same.symm {σ σ' : Log} (h : Same σ σ') : Same σ' σ := fun l => (h l).symm
theorem Same.append {σ σ' δ : Log} (h : Same σ σ') : Same (δ ++ σ) (δ ++ σ') := fun l => by rw [look_append, look_append, h l]

theorem TrOK_same {call : CallP} : ∀ {gs : List GOp} {ps : List Nat} {j id : Nat} {σ σ' : Log} {fs : List (Nat × List Loc × List Loc)} {ds : List (List Loc × Log)} {K : Log → Prop}, Same σ σ' → TrOK call gs ps j id σ' fs ds K → TrOK call gs ps j id σ fs ds K
  | [], ps, j, id, σ, σ', fs, [], K, hs, h => by
    obtain ⟨σ'', h1, h2⟩ := (show ∃ σ'', Same σ' σ'' ∧ K σ'' by cases ps <;> exact h)
    have : ∃ σ'', Same σ σ'' ∧ K σ'' := ⟨σ'', hs.trans h1, h2⟩
    cases ps <;> exact this
  | g :: gs, p :: ps, j, id, σ, σ', fs, (R, δ) :: ds, K, hs, h => by
    obtain ⟨h1, h2, h3⟩ := h
    exact ⟨fun τ ha => h1 τ fun l hl => (ha l hl).trans (hs l).symm, h2, TrOK_same hs.append h3⟩
  | [], ps, j, id, σ, σ', fs, _ :: _, K, hs, h => by cases ps <;> exact h.elim
  | _ :: _, [], _, _, _, _, _, _, _, _, h => by exact (show False from h).elim
  | _ :: _, _ :: _, _, _, _, _, _, [], _, _, h => h.elim

theorem guardV_agree {σ σ' : Log} {g : Option (Nat × Bool)} (h : ∀ l, l ∈ grdR g → look σ' l = look σ l) : guardV σ' g = guardV σ g := by
  cases g with
  | none => rfl
  | some p =>
    obtain ⟨n, wt⟩ := p
    simp only [guardV]
    rw [ev_agree (x := .t n) fun l hl => h l (by simpa [grdR, opdR] using hl)]

theorem aopsD_tr {call : CallP} : ∀ {gs : List GOp} {ps : List Nat} {j id : Nat} {σ : Log} {fs : List (Nat × List Loc × List Loc)} {K : Log → Prop}, aopsD call gs ps j id σ fs K → ∃ ds, TrOK call gs ps j id σ fs ds K
  | [], ps, j, id, σ, fs, K, h => by
    refine ⟨[], ?_⟩
    have h' : K σ := by cases ps <;> exact h
    have : ∃ σ', Same σ σ' ∧ K σ' := ⟨σ, fun _ => rfl, h'⟩
    cases ps <;> exact this
  | _ :: _, [], _, _, _, _, _, h => h.elim
  | g :: gs, p :: ps, j, id, σ, fs, K, h => by
    simp only [aopsD] at h
    obtain ⟨σ1, hs, h⟩ := guard_pick h
    rcases h with ⟨hv, h⟩ | ⟨hv, h⟩
    · obtain ⟨δ, h, hp⟩ := eff_pick h
      split at h
      · exact h.elim
      · rename_i hc
        obtain ⟨ds, hd⟩ := aopsD_tr h
        refine ⟨(grdR g.g ++ g.o.rd σ1, δ) :: ds, ?_, hc, TrOK_same hs.append hd⟩
        intro σ' ha
        refine .inl ⟨?_, hp σ' fun l hl => ?_⟩
        · exact (guardV_agree (σ := σ) (σ' := σ') fun l hl => ha l (.inl (List.mem_append_left _ hl))).trans hv
        · rw [ha l (hl.imp (fun h => List.mem_append_right _ h) (fun h => h))]
          exact (hs l).symm
    · split at h
      · exact h.elim
      · rename_i hc
        obtain ⟨ds, hd⟩ := aopsD_tr h
        refine ⟨(grdR g.g, dstL g.o.dst (.tup [])) :: ds, ?_, hc, TrOK_same hs.append hd⟩
        intro σ' ha
        refine .inr ⟨?_, rfl⟩
        exact (guardV_agree (σ := σ) (σ' := σ') fun l hl => ha l (.inl hl)).trans hv

def dL (ds : List (List Loc × Log)) (i : Nat) : Log := match ds[i]? with | some d => d.2 | none => []
def rL (ds : List (List Loc × Log)) (i : Nat) : List Loc := match ds[i]? with | some d => d.1 | none => []

theorem lay_shift {δ : Nat → Log} {σ : Log} (m : Nat) : lay δ σ (List.range (m + 1)) = lay (fun i => δ (i + 1)) (δ 0 ++ σ) (List.range m) := by
  rw [List.range_succ_eq_map]
  simp only [lay, List.foldl_cons, List.foldl_map]

theorem TrOK_spec {call : CallP} : ∀ {gs : List GOp} {ps : List Nat} {j id : Nat} {σ : Log} {fs : List (Nat × List Loc × List Loc)} {ds : List (List Loc × Log)} {K : Log → Prop}, TrOK call gs ps j id σ fs ds K →
    (∃ σ', Same (lay (dL ds) σ (List.range gs.length)) σ' ∧ K σ') ∧
    ∀ (i : Nat) (g : GOp), gs[i]? = some g → Exec call g (id + 100 * i) (lay (dL ds) σ (List.range i)) (rL ds i) (dL ds i) ∧
      ∃ p fs', ps[i]? = some p ∧ confl p (rL ds i) (keysL (dL ds i)) fs' = false ∧ (∀ x, x ∈ fs → x ∈ fs') ∧ ∀ k, k < i → (j + k, rL ds k, keysL (dL ds k)) ∈ fs'
  | [], ps, j, id, σ, fs, [], K, h => by
    have h' : ∃ σ', Same σ σ' ∧ K σ' := by cases ps <;> exact h
    exact ⟨h', fun i g hi => by simp at hi⟩
  | g :: gs, p :: ps, j, id, σ, fs, (R, δ) :: ds, K, h => by
    obtain ⟨h1, h2, h3⟩ := h
    obtain ⟨g1, g2⟩ := TrOK_spec h3
    have e : (fun i => dL ((R, δ) :: ds) (i + 1)) = dL ds := by funext i; simp [dL]
    refine ⟨?_, fun i g' hi => ?_⟩
    · rw [List.length_cons, lay_shift, e]
      exact g1
    · cases i with
      | zero =>
        simp at hi; subst hi
        exact ⟨by simpa [dL, rL, lay] using h1, p, fs, rfl, by simpa [dL, rL] using h2, fun x hx => hx, fun k hk => by omega⟩
      | succ i =>
        obtain ⟨k1, q, fs', k2, k3, k4, k5⟩ := g2 i g' (by simpa using hi)
        refine ⟨?_, q, fs', by simpa using k2, by simpa [dL, rL] using k3, fun x hx => k4 x (by simp [hx]), fun k hk => ?_⟩
        · rw [lay_shift, e]
          have : dL ((R, δ) :: ds) (i + 1) = dL ds i := by simp [dL]
          have hr : rL ((R, δ) :: ds) (i + 1) = rL ds i := by simp [rL]
          rw [this, hr, show id + 100 * (i + 1) = id + 100 + 100 * i by omega]
          exact k1
        · cases k with
          | zero => exact k4 _ (by simp [dL, rL])
          | succ k =>
            have := k5 k (by omega)
            rw [show j + (k + 1) = j + 1 + k by omega]
            simpa [dL, rL] using this
  | [], ps, j, id, σ, fs, _ :: _, K, h => by cases ps <;> exact h.elim
  | _ :: _, [], _, _, _, _, _, _, h => by exact (show False from h).elim
  | _ :: _, _ :: _, _, _, _, _, [], _, h => h.elim

/- which operations an operation waits for -/
def mkMask (es : List Edge) (ms : List Nat) : Nat := es.foldl (fun m e => match Region.binds .any e with | true => (m ||| (1 <<< e.on)) ||| ms.getD e.on 0 | false => m) 0

def masks : List Oper → List Nat → List Nat
  | [], ms => ms
  | o :: r, ms => masks r (ms ++ [mkMask o.after.toList ms])

theorem bitOf_testBit (p i : Nat) : bitOf p i = p.testBit i := by
  rw [Nat.testBit_eq_decide_div_mod_eq]
  unfold bitOf
  rw [Bool.eq_iff_iff]
  simp only [Nat.beq_eq, decide_eq_true_eq]
  exact Iff.rfl

theorem bitOf_or (p q i : Nat) : bitOf (p ||| q) i = (bitOf p i || bitOf q i) := by simp [bitOf_testBit, Nat.testBit_or]

theorem bitOf_one (k i : Nat) (h : bitOf (1 <<< k) i = true) : i = k := by
  rw [bitOf_testBit, Nat.one_shiftLeft, Nat.testBit_two_pow] at h
  simpa [eq_comm] using h

theorem mkMask_bit {ms : List Nat} {i : Nat} : ∀ {es : List Edge} {m : Nat}, bitOf (es.foldl (fun m e => match Region.binds .any e with | true => (m ||| (1 <<< e.on)) ||| ms.getD e.on 0 | false => m) m) i = true →
    bitOf m i = true ∨ ∃ e, e ∈ es ∧ Region.binds .any e = true ∧ (i = e.on ∨ bitOf (ms.getD e.on 0) i = true)
  | [], m, h => .inl h
  | e :: es, m, h => by
    simp only [List.foldl_cons] at h
    rcases mkMask_bit h with h | ⟨e', h1, h2, h3⟩
    · split at h
      · rename_i hb
        rw [bitOf_or, bitOf_or, Bool.or_eq_true, Bool.or_eq_true] at h
        rcases h with (h | h) | h
        · exact .inl h
        · exact .inr ⟨e, by simp, hb, .inl (bitOf_one _ _ h)⟩
        · exact .inr ⟨e, by simp, hb, .inr h⟩
      · exact .inl h
    · exact .inr ⟨e', by simp [h1], h2, h3⟩

def edgesOK : List Oper → Nat → Bool
  | [], _ => true
  | o :: r, j => o.after.toList.all (fun e => !Region.binds .any e || Nat.blt e.on j) && edgesOK r (j + 1)

theorem edgesOK_spec : ∀ {l : List Oper} {j : Nat}, edgesOK l j = true → ∀ (i : Nat) (o : Oper) (e : Edge), l[i]? = some o → e ∈ o.after.toList → Region.binds .any e = true → e.on < j + i
  | [], j, _, i, o, e, h, _, _ => by simp at h
  | o' :: l, j, h, i, o, e, hi, he, hb => by
    simp only [edgesOK, Bool.and_eq_true] at h
    cases i with
    | zero =>
      simp at hi; subst hi
      have := List.all_eq_true.1 h.1 e he
      rw [hb] at this
      simpa [Nat.blt_eq] using this
    | succ i =>
      have := edgesOK_spec h.2 i o e (by simpa using hi) he hb
      omega

section
variable {ops : Array Oper}

/-- the set keeps what its members wait for -/
def Closed (ops : Array Oper) (S : Nat → Prop) : Prop := ∀ (k : Nat) (o : Oper) (e : Edge), S k → ops[k]? = some o → e ∈ o.after.toList → Region.binds .any e = true → S e.on

def GoodM (ops : Array Oper) (j m : Nat) : Prop := ∀ i, bitOf m i = true → ∀ S : Nat → Prop, Closed ops S → (∀ (o : Oper) (e : Edge), ops[j]? = some o → e ∈ o.after.toList → Region.binds .any e = true → S e.on) → S i

theorem masks_good (hE : ∀ (i : Nat) (o : Oper) (e : Edge), ops[i]? = some o → e ∈ o.after.toList → Region.binds .any e = true → e.on < i) : ∀ (l : List Oper) (ms : List Nat), (∀ i, l[i]? = ops[ms.length + i]?) → (∀ j m, ms[j]? = some m → GoodM ops j m) →
    ∀ (j m : Nat), (masks l ms)[j]? = some m → GoodM ops j m
  | [], ms, _, h, j, m, hj => h j m hj
  | o :: l, ms, hl, h, j, m, hj => by
    refine masks_good hE l (ms ++ [mkMask o.after.toList ms]) ?_ ?_ j m hj
    · intro i
      have := hl (i + 1)
      rw [List.length_append, List.length_singleton, show ms.length + 1 + i = ms.length + (i + 1) by omega]
      simpa using this
    · intro j' m' hj'
      by_cases hlt : j' < ms.length
      · rw [List.getElem?_append_left hlt] at hj'
        exact h j' m' hj'
      · rw [List.getElem?_append_right (by omega)] at hj'
        have e0 : j' - ms.length = 0 := by
          have := (List.getElem?_eq_some_iff.1 hj').1
          simp at this; omega
        rw [e0] at hj'
        simp at hj'
        have ej : j' = ms.length := by omega
        subst hj'
        subst ej
        have ho : ops[ms.length]? = some o := by have := hl 0; simpa using this.symm
        intro i hi S hS hr
        rcases mkMask_bit hi with hh | ⟨e, h1, h2, h3⟩
        · rw [bitOf_testBit] at hh; simp at hh
        · have hSe := hr o e ho h1 h2
          rcases h3 with rfl | h3
          · exact hSe
          · have hlt' := hE _ o e ho h1 h2
            have hm : ms[e.on]? = some (ms.getD e.on 0) := by
              rw [List.getD_eq_getElem?_getD, List.getElem?_eq_getElem hlt']; rfl
            exact h e.on _ hm i h3 S hS fun o' e' ho' he' hb' => hS e.on o' e' hSe ho' he' hb'

theorem masks_length : ∀ (l : List Oper) (ms : List Nat), (masks l ms).length = ms.length + l.length
  | [], ms => rfl
  | o :: l, ms => by rw [masks, masks_length]; simp; omega
end

theorem filter_len_lt {p q : Nat → Bool} : ∀ {l : List Nat}, (∀ k, k ∈ l → q k = true → p k = true) → ∀ {i}, i ∈ l → p i = true → q i = false → (l.filter q).length < (l.filter p).length
  | [], _, i, hi, _, _ => by cases hi
  | x :: l, h, i, hi, hp, hq => by
    have hle : ∀ {m : List Nat}, (∀ k, k ∈ m → q k = true → p k = true) → (m.filter q).length ≤ (m.filter p).length := by
      intro m
      induction m with
      | nil => intro _; exact Nat.le_refl _
      | cons y m ih =>
        intro hm
        have := ih fun k hk => hm k (by simp [hk])
        cases hqy : q y with
        | true => simp [hqy, hm y (by simp) hqy]; exact this
        | false => cases hpy : p y <;> simp [hqy, hpy] <;> omega
    rcases List.mem_cons.1 hi with rfl | hi
    · have := hle fun k hk => h k (List.mem_cons_of_mem _ hk)
      simp [hp, hq]; omega
    · have := filter_len_lt (fun k hk => h k (by simp [hk])) hi hp hq
      cases hqx : q x with
      | true => simp [hqx, h x (by simp) hqx]; exact this
      | false => cases hpx : p x <;> simp [hqx, hpx] <;> omega
end Go.Abs
