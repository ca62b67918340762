/- Regions: in the text's order, and in whatever order. -/
import Derived.Test.YthmcdebdkbhbmaaGreatDoorA13
import Derived.Test.YthmcdebdkbhbmaaGreatDoorB3
namespace Go.Abs
open Go

def dstOK (d : Option Nat) (N : Nat) : Bool := match d with | some d => Nat.blt d N | none => true

def guardC (ops : Array Oper) : Option (Nat × Bool) → Option (Option (Nat × Bool))
  | none => some none
  | some (j, wt) => match (ops[j]?).bind (·.dst) with
    | some s => some (some (s, wt))
    | none => none

def compG (P : Program) (an : Ann) (N : Nat) (ops : Array Oper) (o : Oper) : Option GOp := match compO2 P an o, guardC ops o.guard with
  | some g, some gd => if dstOK o.dst N = true ∧ g.dst = o.dst then some ⟨gd, g⟩ else none
  | _, _ => none

theorem compG_spec {P : Program} {an : Ann} {N : Nat} {ops : Array Oper} {o : Oper} {g : GOp} (h : compG P an N ops o = some g) :
    compO2 P an o = some g.o ∧ (∀ d, o.dst = some d → d < N) ∧ g.o.dst = o.dst ∧
      ((o.guard = none ∧ g.g = none) ∨ ∃ j wt s, o.guard = some (j, wt) ∧ (ops[j]?).bind (·.dst) = some s ∧ g.g = some (s, wt)) := by
  unfold compG at h
  split at h
  · rename_i g' gd hg hgd
    split at h
    · rename_i hd
      cases h
      refine ⟨hg, fun d hd' => ?_, hd.2, ?_⟩
      · have := hd.1
        rw [hd'] at this
        simpa [dstOK, Nat.blt_eq] using this
      · cases hgu : o.guard with
        | none => rw [hgu] at hgd; simp [guardC] at hgd; exact .inl ⟨rfl, hgd.symm⟩
        | some p =>
          obtain ⟨j, wt⟩ := p
          rw [hgu] at hgd
          simp only [guardC] at hgd
          split at hgd
          · rename_i s hs
            cases hgd
            exact .inr ⟨j, wt, s, rfl, hs, rfl⟩
          · cases hgd
    · cases h
  · cases h

/-- is it wanted, as the log has it -/
def guardV (σ : Log) (g : Option (Nat × Bool)) : Option Bool := match g with
  | none => some true
  | some (n, w) => match ev σ (.t n) with
    | .sc (.b t) => some (t == w)
    | .tup _ => some false
    | _ => none

theorem guard_pick {σ : Log} {g : Option (Nat × Bool)} {A B : Log → Prop} (h : guard σ g A B) :
    ∃ σ', Same σ σ' ∧ ((guardV σ g = some true ∧ A σ') ∨ (guardV σ g = some false ∧ B σ')) := by
  unfold guard at h
  split at h
  · exact ⟨σ, fun _ => rfl, .inl ⟨rfl, h⟩⟩
  · rename_i n wt
    split at h
    · rename_i t ht
      have hl : ∀ b, t = b → look σ (.s n) = some (.av (.sc (.b b))) := by
        intro b hb
        subst hb
        simp only [ev] at ht
        split at ht
        · rename_i v hv; rw [hv, ht]
        · cases ht
      cases t with
      | true =>
        refine ⟨(.s n, .av (.sc (.b true))) :: σ, known (hl true rfl), ?_⟩
        cases wt with
        | true => exact .inl ⟨by simp only [guardV, ht]; rfl, h⟩
        | false => exact .inr ⟨by simp only [guardV, ht]; rfl, h⟩
      | false =>
        refine ⟨(.s n, .av (.sc (.b false))) :: σ, known (hl false rfl), ?_⟩
        cases wt with
        | true => exact .inr ⟨by simp only [guardV, ht]; rfl, h⟩
        | false => exact .inl ⟨by simp only [guardV, ht]; rfl, h⟩
    · rename_i l hl
      exact ⟨σ, fun _ => rfl, .inr ⟨by simp only [guardV, hl], h⟩⟩
    · exact h.elim

section
variable {P : Program} {W0 : World} {κ : Gh} {σ : Log} {a : Act} {w : World} {id : Nat} {call : CallP} {Q : Exit → Act → World → Prop} {N : Nat} {ops : Array Oper} {an : Ann}

theorem guard_real (hs : RepS W0 κ σ a w) {o : Oper} {g : GOp} (hg : compG P an N ops o = some g) {b : Bool} (hb : guardV σ g.g = some b) : Region.wanted o (yielded ops a.tmps) = b := by
  obtain ⟨_, _, _, h⟩ := compG_spec hg
  rcases h with ⟨h1, h2⟩ | ⟨j, wt, s, h1, h2, h3⟩
  · rw [h2] at hb
    simp only [guardV, Option.some.injEq] at hb
    simp [Region.wanted, h1, hb]
  · rw [h3] at hb
    simp only [guardV] at hb
    have hy : yielded ops a.tmps j = match a.tmps[s]? with | some (.bool b) => some b | _ => none := by
      unfold yielded
      rw [h2]
      rfl
    have hev : ∀ v, ev σ (.t s) = v → v ≠ .bad → RepV κ w v (a.tmps.getD s undef) := by
      intro v hv hn
      simp only [ev] at hv
      split at hv
      · rename_i u hu; rw [← hv]; exact hs.slots s u hu
      · exact absurd hv.symm hn
    split at hb
    · rename_i t ht
      have := (hev _ ht (by simp)).sc_inv
      simp only [Sc.val] at this
      have hs' : a.tmps[s]? = some (.bool t) := by
        rw [Array.getD_eq_getD_getElem?] at this
        cases hh : a.tmps[s]? with
        | none => rw [hh] at this; simp [undef] at this
        | some x => rw [hh] at this; simp at this; rw [this]
      cases hb
      simp [Region.wanted, h1, hy, hs']
    · rename_i l hl
      obtain ⟨vs, hv, _⟩ := (hev _ hl (by simp)).tup_inv
      cases hb
      have hs' : (match a.tmps[s]? with | some (Value.bool b) => some b | _ => none) = none := by
        rw [Array.getD_eq_getD_getElem?] at hv
        cases hh : a.tmps[s]? with
        | none => rfl
        | some x => rw [hh] at hv; simp at hv; rw [hv]
      simp [Region.wanted, h1, hy, hs']
    · cases hb

theorem undef_rep : RepV κ w (.tup []) undef := .tup [] #[] rfl fun j v h => by simp at h

theorem skip_rep (hs : RepS W0 κ σ a w) {d : Option Nat} (hd : ∀ d', d = some d' → d' < a.tmps.size) :
    RepS W0 κ (dstL d (.tup []) ++ σ) (a.put d undef) w ∧ Step κ σ w κ (dstL d (.tup []) ++ σ) w := by
  cases d with
  | none => exact ⟨hs, Step.refl _ _ _⟩
  | some d => exact ⟨hs.put (hd d rfl) undef_rep, Step.put⟩

/-- all ids are below n -/
structure Bel (κ : Gh) (n : Nat) : Prop where
  ge : 1000 ≤ n
  db : ∀ b, κ.Db b → b < n
  dt : ∀ k, κ.Dt k → k < n

theorem Bel.fresh {n : Nat} (h : Bel κ n) : Fresh κ n :=
  ⟨h.ge, fun b h1 _ hb => by have := h.db b hb; omega, fun b h1 _ hb => by have := h.dt b hb; omega⟩

theorem Bel.grow {κ' : Gh} {n : Nat} (h : Bel κ n) (g : Grow κ κ' n) : Bel κ' (n + 100) :=
  ⟨by have := h.ge; omega, fun b hb => by rcases g.db b hb with q | q; (have := h.db b q; omega); omega, fun b hb => by rcases g.dt b hb with q | q; (have := h.dt b q; omega); omega⟩

theorem Bel.more {n m : Nat} (h : Bel κ n) (hm : n ≤ m) : Bel κ m := ⟨Nat.le_trans h.ge hm, fun b hb => Nat.lt_of_lt_of_le (h.db b hb) hm, fun b hb => Nat.lt_of_lt_of_le (h.dt b hb) hm⟩

def compL (P : Program) (an : Ann) (N : Nat) (ops : Array Oper) : List Oper → Option (List GOp)
  | [] => some []
  | o :: r => match compG P an N ops o with
    | none => none
    | some g => match compL P an N ops r with
      | none => none
      | some gs => some (g :: gs)

theorem compL_spec : ∀ {l : List Oper} {gs : List GOp}, compL P an N ops l = some gs → gs.length = l.length ∧ ∀ (i : Nat) (o : Oper), l[i]? = some o → ∃ g, gs[i]? = some g ∧ compG P an N ops o = some g
  | [], gs, h => by simp [compL] at h; subst h; simp
  | o :: l, gs, h => by
    simp only [compL] at h
    split at h
    · cases h
    · rename_i g hg
      split at h
      · cases h
      · rename_i gs' hgs
        cases h
        obtain ⟨h1, h2⟩ := compL_spec hgs
        refine ⟨by simp [h1], fun i o' hi => ?_⟩
        cases i with
        | zero => simp at hi; subst hi; exact ⟨g, rfl, hg⟩
        | succ i => simpa using h2 i o' (by simpa using hi)

/-- in the text's order -/
theorem aops_sound (hG : ∀ g cells, an.gl g = some cells → GlobOK W0 g cells) (hcall : ∀ f args H res H', call f args H res H' → Ctr P W0 f args H res H') : ∀ (gs : List GOp) (l : List Oper) (k : Nat) (σ : Log) (κ : Gh) (a : Act) (w : World) (id : Nat) (K : Log → Prop),
    compL P an N ops l = some gs → (∀ j, l[j]? = ops[k + j]?) → RepS W0 κ σ a w → Bel κ id → a.tmps.size = N → aops call gs id σ K →
    (∀ σ' κ' a' w', K σ' → RepS W0 κ' σ' a' w' → Step κ σ w κ' σ' w' → a'.tmps.size = N → Bel κ' (id + 100 * gs.length) → Q .normal a' w') →
    wpOps P ops Q (List.range' k l.length) a w
  | [], l, k, σ, κ, a, w, id, K, hl, hk, hs, hb, hN, h, hQ => by
    have := (compL_spec hl).1
    have hl0 : l = [] := List.eq_nil_of_length_eq_zero (by simpa using this.symm)
    subst hl0
    exact hQ σ κ a w h hs (Step.refl _ _ _) hN (by simpa using hb)
  | g :: gs, [], k, σ, κ, a, w, id, K, hl, hk, hs, hb, hN, h, hQ => by simp [compL] at hl
  | g :: gs, o :: l, k, σ, κ, a, w, id, K, hl, hk, hs, hb, hN, h, hQ => by
    have ho : ops[k]? = some o := by have := hk 0; simpa using this.symm
    simp only [compL] at hl
    split at hl
    · cases hl
    · rename_i g' hg
      split at hl
      · cases hl
      · rename_i gs' hgs
        cases hl
        obtain ⟨c1, c2, c3, _⟩ := compG_spec hg
        rw [List.length_cons, List.range'_succ, wpOps_cons]
        simp only [aops] at h
        obtain ⟨σ1, hsame, h⟩ := guard_pick h
        have hs1 := hs.same hsame
        have hd : ∀ d', o.dst = some d' → d' < a.tmps.size := fun d' h' => by rw [hN]; exact c2 d' h'
        have next : ∀ (σ' : Log) (κ' : Gh) (a' : Act) (w' : World), RepS W0 κ' σ' a' w' → Step κ σ1 w κ' σ' w' → a'.tmps.size = N → Bel κ' (id + 100) → aops call gs (id + 100) σ' K → wpOps P ops Q (List.range' (k + 1) l.length) a' w' := by
          intro σ' κ' a' w' r s n b hh
          refine aops_sound hG hcall gs l (k + 1) σ' κ' a' w' (id + 100) K hgs (fun j => by have := hk (j + 1); rw [show k + 1 + j = k + (j + 1) by omega]; simpa using this) r b n hh ?_
          intro σ'' κ'' a'' w'' hK r' s' n' b'
          refine hQ σ'' κ'' a'' w'' hK r' ?_ n' (b'.more (by simp; omega))
          exact Step.trans (Step.same (σ := σ1) (σ' := σ') (τ := σ) (τ' := σ') (fun l => (hsame l).symm) (fun _ => rfl) s) s'
        unfold wpOp
        rw [ho]
        simp only
        rcases h with ⟨hv, h⟩ | ⟨hv, h⟩
        · rw [guard_real hs hg hv, if_pos rfl]
          refine .inl ((Oper.wp_mono ?_ (eff_sound2 (Q := Q) hG hcall hs1 hb.fresh c1 hd h)))
          rintro a' w' ⟨δ, κ', hF, r, s, n, gr⟩
          exact next _ κ' a' w' r s (n.trans hN) (hb.grow gr) hF
        · rw [guard_real hs hg hv]
          simp only [Bool.false_eq_true, if_false]
          rw [c3] at h
          obtain ⟨r, s⟩ := skip_rep hs1 hd
          exact next _ κ _ w r s (put_size.trans hN) (hb.more (by omega)) h

/- whatever order -/
def lay (δ : Nat → Log) (σ : Log) (l : List Nat) : Log := l.foldl (fun s i => δ i ++ s) σ

theorem lay_congr {δ : Nat → Log} {loc : Loc} : ∀ {l : List Nat} {σ σ' : Log}, look σ loc = look σ' loc → look (lay δ σ l) loc = look (lay δ σ' l) loc
  | [], σ, σ', h => h
  | i :: l, σ, σ', h => by
    simp only [lay, List.foldl_cons]
    refine lay_congr (l := l) ?_
    rw [look_append, look_append, h]

theorem lay_filter {δ : Nat → Log} {loc : Loc} {p : Nat → Bool} : ∀ {l : List Nat} {σ : Log}, (∀ i, i ∈ l → p i = false → look (δ i) loc = none) → look (lay δ σ l) loc = look (lay δ σ (l.filter p)) loc
  | [], σ, _ => rfl
  | i :: l, σ, h => by
    have ih : ∀ σ, look (lay δ σ l) loc = look (lay δ σ (l.filter p)) loc := fun σ => lay_filter fun j hj => h j (by simp [hj])
    by_cases hp : p i = true
    · rw [List.filter_cons_of_pos hp]
      simp only [lay, List.foldl_cons]
      exact ih _
    · have hp' : p i = false := by simpa using hp
      rw [List.filter_cons_of_neg hp]
      have : look (lay δ σ (i :: l)) loc = look (lay δ (δ i ++ σ) l) loc := rfl
      rw [this]
      have e : look (δ i ++ σ) loc = look σ loc := by rw [look_append, h i (by simp) hp']
      rw [lay_congr e]
      exact ih σ

theorem lay_snoc {δ : Nat → Log} {σ : Log} {l : List Nat} {i : Nat} : lay δ σ (l ++ [i]) = δ i ++ lay δ σ l := by
  simp [lay, List.foldl_append]

/-- does operation i write there -/
def wr (δ : Nat → Log) (loc : Loc) (i : Nat) : Bool := (look (δ i) loc).isSome

theorem wr_none {δ : Nat → Log} {loc : Loc} {i : Nat} (h : wr δ loc i = false) : look (δ i) loc = none := by
  unfold wr at h
  cases hh : look (δ i) loc with
  | none => rfl
  | some c => rw [hh] at h; cases h

theorem filter_range_lt (n i : Nat) (hi : i ≤ n) : List.range i = (List.range n).filter (fun k => decide (k < i)) := by
  induction n with
  | zero => have : i = 0 := by omega
            subst this; rfl
  | succ n ih =>
    rw [List.range_succ, List.filter_append]
    by_cases h : i ≤ n
    · rw [← ih h]
      have : ¬ n < i := by omega
      simp [this]
    · have : i = n + 1 := by omega
      subst this
      have h1 : (List.range n).filter (fun k => decide (k < n + 1)) = List.range n := List.filter_eq_self.2 fun k hk => by
        have := List.mem_range.1 hk; simp; omega
      rw [h1, List.range_succ]; simp

/-- the log when the operations of S have run -/
def runS (δ : Nat → Log) (σ : Log) (n : Nat) (S : Nat → Bool) : Log := lay δ σ ((List.range n).filter S)

theorem look_runS (δ : Nat → Log) (σ : Log) (n : Nat) (S : Nat → Bool) (loc : Loc) : look (runS δ σ n S) loc = look (lay δ σ ((List.range n).filter fun k => S k && wr δ loc k)) loc := by
  unfold runS
  rw [lay_filter (p := wr δ loc) fun i _ h => wr_none h, List.filter_filter]
  congr 2
  apply List.filter_congr
  intro k _
  exact Bool.and_comm _ _

theorem look_runS_congr {δ : Nat → Log} {σ : Log} {n : Nat} {S T : Nat → Bool} {loc : Loc} (h : ∀ k, k < n → wr δ loc k = true → S k = T k) : look (runS δ σ n S) loc = look (runS δ σ n T) loc := by
  rw [look_runS, look_runS]
  congr 2
  apply List.filter_congr
  intro k hk
  cases hw : wr δ loc k with
  | false => simp
  | true => rw [h k (List.mem_range.1 hk) hw]

theorem runS_lt {δ : Nat → Log} {σ : Log} {n i : Nat} (hi : i ≤ n) : runS δ σ n (fun k => decide (k < i)) = lay δ σ (List.range i) := by
  unfold runS; rw [← filter_range_lt n i hi]

/-- one operation more, where none behind it writes the same place before it -/
theorem runS_add {δ : Nat → Log} {σ : Log} {n i : Nat} (hi : i < n) {S : Nat → Bool} (hlast : ∀ loc k, k < n → S k = true → wr δ loc i = true → wr δ loc k = true → k < i) :
    Same (δ i ++ runS δ σ n S) (runS δ σ n fun k => S k || decide (k = i)) := by
  intro loc
  rw [look_append]
  cases hw : wr δ loc i with
  | false =>
    rw [wr_none hw]
    simp only
    refine look_runS_congr fun k _ hk => ?_
    have : ¬ k = i := fun e => by rw [e, hw] at hk; cases hk
    simp [this]
  | true =>
    obtain ⟨c, hc⟩ : ∃ c, look (δ i) loc = some c := Option.isSome_iff_exists.1 hw
    rw [hc]
    simp only
    rw [look_runS]
    have e : ((List.range n).filter fun k => (S k || decide (k = i)) && wr δ loc k) = ((List.range i).filter fun k => (S k || decide (k = i)) && wr δ loc k) ++ [i] := by
      obtain ⟨m, rfl⟩ : ∃ m, n = i + 1 + m := ⟨n - i - 1, by omega⟩
      have hr : List.range (i + 1 + m) = List.range i ++ [i] ++ (List.range m).map (i + 1 + ·) := by rw [List.range_add, List.range_succ]
      rw [hr, List.filter_append, List.filter_append]
      have h1 : ([i].filter fun k => (S k || decide (k = i)) && wr δ loc k) = [i] := by simp [hw]
      have h2 : (((List.range m).map (i + 1 + ·)).filter fun k => (S k || decide (k = i)) && wr δ loc k) = [] := by
        rw [List.filter_eq_nil_iff]
        intro k hk
        obtain ⟨j, hj, rfl⟩ := List.mem_map.1 hk
        have hjm := List.mem_range.1 hj
        have hne : ¬ i + 1 + j = i := by omega
        simp only [hne, decide_false, Bool.or_false, Bool.and_eq_true, not_and]
        intro hSk hwk
        have := hlast loc _ (by omega) hSk hw hwk
        omega
      rw [h1, h2, List.append_nil]
    rw [e, lay_snoc, look_append, hc]
end
end Go.Abs
