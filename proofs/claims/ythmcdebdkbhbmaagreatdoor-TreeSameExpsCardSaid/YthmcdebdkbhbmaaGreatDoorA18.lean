/- Compiled code, and the contract of a function. -/
import Derived.Test.YthmcdebdkbhbmaaGreatDoorA17
import Derived.Test.YthmcdebdkbhbmaaGreatDoorB4
import Derived.LoopN
namespace Go.Abs
open Go

/-- what is frozen behind a region -/
def wrapF : List Nat → AC → AC
  | [], ac => ac
  | x :: r, ac => wrapF r (.seq ac (.frz x))

/-- where what is known may be forgotten ahead of a region -/
def cutF : Bool → AC → AC
  | true, ac => .seq .cut ac
  | false, ac => ac

def compR (P : Program) (an : Ann) (N : Nat) (ops : Array Oper) (draw : Bool) : AC := match compL P an N ops ops.toList with
  | none => .stuck
  | some gs => match draw with
    | false => .reg gs
    | true => match edgesOK ops.toList 0 with
      | true => .regD gs (masks ops.toList [])
      | false => .stuck

def compC (P : Program) (an : Ann) (N : Nat) : Code → Option AC
  | .region id ops draw => some (cutF (an.cut id) (wrapF (an.frz id) (compR P an N ops draw)))
  | .seq x y => match compC P an N x, compC P an N y with
    | some x, some y => some (.seq x y)
    | _, _ => none
  | .cond c x y => match opdC none c, compC P an N x, compC P an N y with
    | some c, some x, some y => some (.cond c x y)
    | _, _, _ => none
  | .block n c => match compC P an N c with | some c => some (.block n c) | none => none
  | .loop c => match compC P an N c with | some c => some (.loop c) | none => none
  | .exit n => some (.exit n)
  | .ret => some .ret
  | .skip => some .skip
  | _ => some .stuck

def exitIs : Exit → Ex → Prop
  | .normal, .n => True
  | .exit i, .e j => i = j
  | .ret, .r => True
  | _, _ => False

def PostC (W0 : World) (κ : Gh) (σ : Log) (w : World) (N : Nat) (R : Ex → Nat → Log → Prop) : Exit → Act → World → Prop := fun e a' w' =>
  ∃ ex nx κ' σ', exitIs e ex ∧ R ex nx σ' ∧ RepS W0 κ' σ' a' w' ∧ Step κ σ w κ' σ' w' ∧ a'.tmps.size = N ∧ Bel κ' nx

theorem rounds_more {P : Program} {c : Code} {Q : Exit → Act → World → Prop} : ∀ {n m : Nat} {a : Act} {w : World}, n ≤ m → Code.rounds P c Q n a w → Code.rounds P c Q m a w
  | 0, m, a, w, _, h => h.elim
  | n + 1, 0, a, w, hm, _ => absurd hm (by omega)
  | n + 1, m + 1, a, w, hm, h => by
    rw [rounds_succ] at h ⊢
    refine wp_mono h fun e a' w' he => ?_
    cases e <;> first | exact rounds_more (by omega) he | exact he

section
variable {P : Program} {W0 : World} {call : CallP} {N : Nat} {an : Ann}

theorem exitIs_n {ex : Ex} (h : exitIs .normal ex) : ex = .n := by cases ex <;> first | rfl | exact h.elim

theorem wrap_sound {c : Code} {nx : Nat} {κ : Gh} {σ : Log} {a : Act} {w : World} : ∀ (L : List Nat) (ac : AC), (∀ R, awp call ac nx σ R → c.wp P (PostC W0 κ σ w N R) a w) → ∀ R, awp call (wrapF L ac) nx σ R → c.wp P (PostC W0 κ σ w N R) a w
  | [], ac, h, R, hR => h R hR
  | x :: L, ac, h, R, hR => by
    refine wrap_sound L (.seq ac (.frz x)) (fun R hR => ?_) R hR
    refine wp_mono (h _ hR) ?_
    rintro e a' w' ⟨ex, nx', κ', σ', he, hR, r, s, n, b⟩
    cases ex with
    | n =>
      simp only [awp] at hR
      split at hR
      · rename_i sz els b' m t hx
        split at hR
        · rename_i l hl
          obtain ⟨ch, ⟨h1, h2, h3⟩, hR⟩ := hR
          obtain ⟨r', s'⟩ := r.frz hl h1 h2 h3
          exact ⟨.n, nx', _, _, he, hR, r', s.trans s', n, ⟨b.ge, b.db, b.dt⟩⟩
        · exact hR.elim
      · exact ⟨.n, nx', κ', σ', he, hR, r, s, n, b⟩
      · exact hR.elim
    | e i => exact ⟨.e i, nx', κ', σ', he, hR, r, s, n, b⟩
    | r => exact ⟨.r, nx', κ', σ', he, hR, r, s, n, b⟩

theorem awp_sound (hm : P.follows .mixedOrders = true) (hG : ∀ g cells, an.gl g = some cells → GlobOK W0 g cells) (hcall : ∀ f args H res H', call f args H res H' → Ctr P W0 f args H res H') : ∀ (c : Code) (ac : AC) (nx : Nat) (κ : Gh) (σ : Log) (a : Act) (w : World) (R : Ex → Nat → Log → Prop),
    compC P an N c = some ac → RepS W0 κ σ a w → Bel κ nx → a.tmps.size = N → awp call ac nx σ R → c.wp P (PostC W0 κ σ w N R) a w
  | .region id ops draw, ac, nx, κ, σ, a, w, R, hc, hs, hb, hN, h => by
    simp only [compC] at hc
    cases hc
    have main : ∀ (nx : Nat) (κ : Gh) (σ : Log) (R : Ex → Nat → Log → Prop), RepS W0 κ σ a w → Bel κ nx → awp call (wrapF (an.frz id) (compR P an N ops draw)) nx σ R → (Code.region id ops draw).wp P (PostC W0 κ σ w N R) a w := by
      intro nx κ σ R hs hb h
      refine wrap_sound (an.frz id) _ (fun R h => ?_) R h
      unfold compR at h
      split at h
      · exact h.elim
      · rename_i gs hgs
        split at h
        · refine wp_region ?_
          rw [List.range_eq_range']
          have := aops_sound (Q := PostC W0 κ σ w N R) (ops := ops) (N := N) hG hcall gs ops.toList 0 σ κ a w nx _ hgs (fun j => by simp) hs hb hN h (fun σ' κ' a' w' hK r s n b => ⟨.n, _, κ', σ', trivial, hK, r, s, n, b⟩)
          rwa [Array.length_toList] at this
        · split at h
          · rename_i hE
            refine wp_region_any hm ?_
            exact draw_sound (Q := PostC W0 κ σ w N R) hG hcall hgs hE (hs.drawn _) hb hN h (fun σ' κ' a' w' hK r s n b => ⟨.n, _, κ', σ', trivial, hK, r, (Step.drawn _).trans s, n, b⟩)
          · exact h.elim
    cases hcut : an.cut id with
    | false => rw [hcut] at h; exact main nx κ σ R hs hb h
    | true =>
      rw [hcut] at h
      rcases (show CutP (fun n σ => awp call (wrapF (an.frz id) (compR P an N ops draw)) n σ R) nx σ from h) with h | ⟨n, σ', hle, h⟩
      · exact main nx κ σ R hs hb h
      · obtain ⟨κ0, r0, s0, b0⟩ := Le_sound hle hs
        refine wp_mono (main n κ0 σ' R r0 b0 h) ?_
        rintro e a' w' ⟨ex, nx', κ', σ'', he, hR, r, s, n, b⟩
        exact ⟨ex, nx', κ', σ'', he, hR, r, s0.trans s, n, b⟩
  | .seq x y, ac, nx, κ, σ, a, w, R, hc, hs, hb, hN, h => by
    simp only [compC] at hc
    split at hc <;> first | cases hc | skip
    rename_i x' y' hx hy
    refine wp_seq (wp_mono (awp_sound hm hG hcall x x' nx κ σ a w _ hx hs hb hN h) ?_)
    rintro e a' w' ⟨ex, nx', κ', σ', he, hR, r, s, n, b⟩
    cases ex with
    | n =>
      cases e <;> first | exact he.elim | skip
      refine wp_mono (awp_sound hm hG hcall y y' nx' κ' σ' a' w' R hy r b n hR) ?_
      rintro e a'' w'' ⟨ex, nx'', κ'', σ'', he, hR, r', s', n', b'⟩
      exact ⟨ex, nx'', κ'', σ'', he, hR, r', s.trans s', n', b'⟩
    | e i =>
      cases e <;> first | exact he.elim | skip
      exact ⟨.e i, nx', κ', σ', he, hR, r, s, n, b⟩
    | r =>
      cases e <;> first | exact he.elim | skip
      exact ⟨.r, nx', κ', σ', he, hR, r, s, n, b⟩
  | .cond c x y, ac, nx, κ, σ, a, w, R, hc, hs, hb, hN, h => by
    simp only [compC] at hc
    split at hc <;> first | cases hc | skip
    rename_i c' x' y' hcc hx hy
    simp only [awp] at h
    split at h
    · rename_i v hv
      have hr := opd_rep hs hcc
      rw [hv] at hr
      have e := hr.sc_inv
      simp only [Sc.val] at e
      have same : ∀ b, v = b → Same σ (setB c' b σ) := by
        intro b hb
        subst hb
        cases c' with
        | t n =>
          refine known ?_
          simp only [ev] at hv
          split at hv
          · rename_i u hu; rw [hu, hv]
          · cases hv
        | c => exact fun _ => rfl
      refine wp_cond e ?_
      cases v with
      | true =>
        refine wp_mono (awp_sound hm hG hcall x x' nx κ _ a w R hx (hs.same (same true rfl)) hb hN h) ?_
        rintro e a' w' ⟨ex, nx', κ', σ', he, hR, r, s, n, b⟩
        exact ⟨ex, nx', κ', σ', he, hR, r, Step.same (Same.symm (same true rfl)) (fun _ => rfl) s, n, b⟩
      | false =>
        refine wp_mono (awp_sound hm hG hcall y y' nx κ _ a w R hy (hs.same (same false rfl)) hb hN h) ?_
        rintro e a' w' ⟨ex, nx', κ', σ', he, hR, r, s, n, b⟩
        exact ⟨ex, nx', κ', σ', he, hR, r, Step.same (Same.symm (same false rfl)) (fun _ => rfl) s, n, b⟩
    · exact h.elim
  | .block k c, ac, nx, κ, σ, a, w, R, hc, hs, hb, hN, h => by
    simp only [compC] at hc
    split at hc <;> first | cases hc | skip
    rename_i c' hcc
    refine wp_block (wp_mono (awp_sound hm hG hcall c c' nx κ σ a w _ hcc hs hb hN h) ?_)
    rintro e a' w' ⟨ex, nx', κ', σ', he, hR, r, s, n, b⟩
    cases ex with
    | n =>
      cases e <;> first | exact he.elim | skip
      exact ⟨.n, nx', κ', σ', trivial, hR, r, s, n, b⟩
    | e i =>
      cases e <;> first | exact he.elim | skip
      rename_i j
      have hji : j = i := he
      subst hji
      simp only at hR
      simp only [Exit.inBlock]
      split at hR
      · rename_i hk
        rw [if_pos (Nat.eq_of_beq_eq_true hk)]
        exact ⟨.n, nx', κ', σ', trivial, hR, r, s, n, b⟩
      · rename_i hk
        rw [if_neg (fun e => by rw [e, Nat.beq_refl] at hk; cases hk)]
        exact ⟨.e j, nx', κ', σ', rfl, hR, r, s, n, b⟩
    | r =>
      cases e <;> first | exact he.elim | skip
      exact ⟨.r, nx', κ', σ', trivial, hR, r, s, n, b⟩
  | .loop c, ac, nx, κ, σ, a, w, R, hc, hs, hb, hN, h => by
    simp only [compC] at hc
    split at hc <;> first | cases hc | skip
    rename_i c' hcc
    rcases h with ⟨k, h⟩ | ⟨J, ⟨m0, n0, σ0, hle, hJ⟩, hround⟩
    · have key : ∀ (k : Nat) (n1 : Nat) (κ1 : Gh) (σ1 : Log) (a1 : Act) (w1 : World), iter (fun n σ Q => awp call c' n σ Q) R k n1 σ1 → RepS W0 κ1 σ1 a1 w1 → Step κ σ w κ1 σ1 w1 → Bel κ1 n1 → a1.tmps.size = N → Code.rounds P c (PostC W0 κ σ w N R) k a1 w1 := by
        intro k
        induction k with
        | zero => intro n1 κ1 σ1 a1 w1 hi; exact hi.elim
        | succ k ih =>
          intro n1 κ1 σ1 a1 w1 hi r1 s1 b1 hN1
          rw [rounds_succ]
          refine wp_mono (awp_sound hm hG hcall c c' n1 κ1 σ1 a1 w1 _ hcc r1 b1 hN1 hi) ?_
          rintro e a' w' ⟨ex, nx', κ', σ', he, hR, r, s, n, b⟩
          cases ex with
          | n =>
            cases e <;> first | exact he.elim | skip
            exact ih nx' κ' σ' a' w' hR r (s1.trans s) b n
          | e i =>
            cases e <;> first | exact he.elim | skip
            exact ⟨.e i, nx', κ', σ', he, hR, r, s1.trans s, n, b⟩
          | r =>
            cases e <;> first | exact he.elim | skip
            exact ⟨.r, nx', κ', σ', he, hR, r, s1.trans s, n, b⟩
      exact wp_loop_rounds k (key k nx κ σ a w h hs (Step.refl _ _ _) hb hN)
    obtain ⟨κ0, r0, s0, b0⟩ := Le_sound hle hs
    have key : ∀ (m : Nat) (n1 : Nat) (κ1 : Gh) (σ1 : Log) (a1 : Act) (w1 : World), J m n1 σ1 → RepS W0 κ1 σ1 a1 w1 → Step κ σ w κ1 σ1 w1 → Bel κ1 n1 → a1.tmps.size = N → Code.rounds P c (PostC W0 κ σ w N R) (m + 1) a1 w1 := by
      intro m
      induction m using Nat.strongRecOn with
      | _ m ih =>
        intro n1 κ1 σ1 a1 w1 hJ1 r1 s1 b1 hN1
        rw [rounds_succ]
        refine wp_mono (awp_sound hm hG hcall c c' n1 κ1 σ1 a1 w1 _ hcc r1 b1 hN1 (hround m n1 σ1 hJ1)) ?_
        rintro e a' w' ⟨ex, nx', κ', σ', he, hR, r, s, n, b⟩
        cases ex with
        | n =>
          cases e <;> first | exact he.elim | skip
          obtain ⟨m', n'', σ'', hlt, hle', hJ'⟩ := hR
          obtain ⟨κ'', r'', s'', b''⟩ := Le_sound hle' r
          exact rounds_more (by omega) (ih m' hlt n'' κ'' σ'' a' w' hJ' r'' ((s1.trans s).trans s'') b'' n)
        | e i =>
          cases e <;> first | exact he.elim | skip
          exact ⟨.e i, nx', κ', σ', he, hR, r, s1.trans s, n, b⟩
        | r =>
          cases e <;> first | exact he.elim | skip
          exact ⟨.r, nx', κ', σ', he, hR, r, s1.trans s, n, b⟩
    exact wp_loop_rounds (m0 + 1) (key m0 n0 κ0 σ0 a w hJ r0 s0 b0 hN)
  | .exit i, ac, nx, κ, σ, a, w, R, hc, hs, hb, hN, h => by
    cases hc
    exact wp_exit ⟨.e i, nx, κ, σ, rfl, h, hs, Step.refl _ _ _, hN, hb⟩
  | .ret, ac, nx, κ, σ, a, w, R, hc, hs, hb, hN, h => by
    cases hc
    exact wp_ret ⟨.r, nx, κ, σ, trivial, h, hs, Step.refl _ _ _, hN, hb⟩
  | .skip, ac, nx, κ, σ, a, w, R, hc, hs, hb, hN, h => by
    cases hc
    exact wp_skip ⟨.n, nx, κ, σ, trivial, h, hs, Step.refl _ _ _, hN, hb⟩
  | .rangeFunc .., ac, nx, κ, σ, a, w, R, hc, hs, hb, hN, h => by cases hc; exact h.elim
  | .scope .., ac, nx, κ, σ, a, w, R, hc, hs, hb, hN, h => by cases hc; exact h.elim
  | .label .., ac, nx, κ, σ, a, w, R, hc, hs, hb, hN, h => by cases hc; exact h.elim
  | .goto .., ac, nx, κ, σ, a, w, R, hc, hs, hb, hN, h => by cases hc; exact h.elim
  | .refuse .., ac, nx, κ, σ, a, w, R, hc, hs, hb, hN, h => by cases hc; exact h.elim

theorem upN_length : ∀ n, (upN n).length = n
  | 0 => rfl
  | n + 1 => by simp [upN, upN_length n]
theorem upN_get : ∀ {n i : Nat}, i < n → (upN n)[i]? = some i
  | 0, i, h => by omega
  | n + 1, i, h => by
    rw [upN]
    by_cases hi : i < n
    · rw [List.getElem?_append_left (by rw [upN_length]; exact hi)]; exact upN_get hi
    · have : i = n := by omega
      subst this
      rw [List.getElem?_append_right (by rw [upN_length]; omega), upN_length]; simp

theorem RepV.wk3 {κ : Gh} {w : World} {v u : AV} {x : Value} (hv : RepV κ w v x) (h : wk3 v u) : RepV κ w u x := by
  unfold Abs.wk3 at h
  split at h
  · obtain ⟨vs, rfl, hs, hc⟩ := hv.tup_inv
    obtain ⟨g1, g2⟩ := wkL2_spec h
    refine .tup _ vs (by rw [hs, g1]) fun j u hj => ?_
    obtain ⟨v, h1, h2⟩ := g2 j u hj
    exact ((hc j v h1).wk2 h2).1
  · exact (hv.wk2 h).1

theorem RepV.un3 {κ κc : Gh} {w : World} {bs ts : List Nat} {id : Nat} (h : Un κ κc bs ts) {v : AV} {x : Value} (hi : inR bs.length ts.length v = true) (hv : RepV κ w (Abs.ren bs ts id v) x) : RepV κc w v x := by
  by_cases ht : ∃ l, v = .tup l
  · obtain ⟨l, rfl⟩ := ht
    obtain ⟨vs, rfl, hs, hc⟩ := hv.tup_inv
    refine .tup l vs (by simpa using hs) fun j u hj => ?_
    exact (hc j _ (by rw [List.getElem?_map, hj]; rfl)).un2 h (inL2_spec hi u (List.mem_of_getElem? hj))
  · have e1 : Abs.ren bs ts id v = Abs.ren2 bs ts id v := by cases v <;> first | rfl | exact absurd ⟨_, rfl⟩ ht
    have e2 : inR bs.length ts.length v = in2 bs.length ts.length v := by cases v <;> first | rfl | exact absurd ⟨_, rfl⟩ ht
    rw [e1] at hv; rw [e2] at hi
    exact hv.un2 h hi

/-- the world, as the contract has it behind the call -/
theorem fin_rep {κ : Gh} {σ : Log} {a : Act} {w : World} {bs ts : List Nat} {res : AV} {H' : List (List AV)} {v : Value} (hs : RepS W0 κ σ a w) (n1 : nodupB bs = true) (n2 : nodupB ts = true)
    (i1 : inR bs.length ts.length res = true) (i2 : inH bs.length ts.length H' = true) (hv : RepV κ w (ren bs ts 0 res) v) (w2 : boxIs σ bs ts 0 bs H')
    (w3 : liveAll σ ((toks res ++ H'.flatMap fun h => h.flatMap toks2).map (rb ts 0))) :
    RepS W0 (sub' κ bs ts) (finLog res H') ⟨#[v], []⟩ w ∧ ∀ b o, Own (sub' κ bs ts) (finLog res H') b o → Own κ σ b o := by
  obtain ⟨b1, b2⟩ := boxIs_spec w2
  have gD : ∀ (l : List Nat) (i x : Nat), l[i]? = some x → l.getD i 0 = x := fun l i x h => by rw [List.getD_eq_getElem?_getD, h]; rfl
  have un : Un κ (sub' κ bs ts) bs ts := ⟨fun _ _ h => h, fun b x hx _ => ⟨(List.getElem?_eq_some_iff.1 hx).1, by simp only [sub', gD _ _ _ hx]⟩, fun k x hx _ => ⟨(List.getElem?_eq_some_iff.1 hx).1, by simp only [sub', gD _ _ _ hx]⟩⟩
  have e : allToks [res] H' = toks res ++ (H'.flatMap fun h => h.flatMap toks2) := by simp [allToks]
  have htin : ∀ k, k ∈ allToks [res] H' → k < ts.length := allToks_in (fun v hv => by simp at hv; subst hv; exact i1) i2
  have htl : ∀ k, k ∈ allToks [res] H' → ∃ x, ts[k]? = some x ∧ look σ (.t x) = some (.tk true) := by
    intro k hk
    have hlt := htin k hk
    refine ⟨ts[k], List.getElem?_eq_getElem hlt, ?_⟩
    have := liveAll_spec w3 (rb ts 0 k) (List.mem_map_of_mem (f := rb ts 0) (e ▸ hk))
    simpa [rb, List.getElem?_eq_getElem hlt] using this
  have lt : ∀ k, look (finLog res H') (.t k) = some (.tk true) → k ∈ allToks [res] H' := by
    intro k hk
    unfold finLog at hk
    rw [look_init_t] at hk
    by_cases hm : k ∈ allToks [res] H'
    · exact hm
    · rw [if_neg hm] at hk; cases hk
  have lb : ∀ b l, look (finLog res H') (.b b) = some (.bx l) → H'[b]? = some l := by
    intro b l h
    unfold finLog at h
    rw [look_init_b] at h
    cases hn : H'[b]? with
    | none => rw [hn] at h; cases h
    | some u => rw [hn] at h; simp at h; rw [h]
  have hspb : ∀ (i x : Nat) (h m : List AV), bs[i]? = some x → wkL2 m (h.map (ren2 bs ts 0)) → spb (sub' κ bs ts) i h = spb κ x m := by
    intro i x h m hx hw
    have hl := (wkL2_spec hw).1
    rw [List.length_map] at hl
    simp only [spb, sub', gD _ _ _ hx, hl]
  have hown : ∀ b o, Own (sub' κ bs ts) (finLog res H') b o → Own κ σ b o := by
    rintro b o (⟨i, l, hl, hi⟩ | ⟨k, hk, hi⟩)
    · obtain ⟨x, m, h1, h2, h3⟩ := b2 i l (lb i l hl)
      exact .inl ⟨x, m, h2, hspb i x l m h1 h3 ▸ hi⟩
    · obtain ⟨x, hx, hl⟩ := htl k (lt k hk)
      refine .inr ⟨x, hl, ?_⟩
      simpa only [sub', gD _ _ _ hx] using hi
  refine ⟨⟨?_, ?_, ?_, ?_, ?_, ?_, fun b o ho => hs.sepI b o (hown b o ho), hs.Icell, hs.old, hs.size0, hs.amb, rfl, hs.os, hs.tape, hs.output⟩, hown⟩
  · intro n u h
    unfold finLog at h
    rw [look_init_s] at h
    cases n with
    | zero =>
      simp at h; subst h
      simpa using hv.un3 un i1
    | succ n => simp at h
  · intro b l h
    have hn := lb b l h
    obtain ⟨x, m, h1, h2, h3⟩ := b2 b l hn
    obtain ⟨k1, k2, C, ty, k3, k4⟩ := hs.boxes x m h2
    refine ⟨(List.getElem?_eq_some_iff.1 h1).1, ?_, C, ty, ?_, ?_⟩
    · simp only [sub', gD _ _ _ h1]; exact k2
    · simp only [sub', gD _ _ _ h1]; exact k3
    · have := (k4.wk h3).un un (inH_spec i2 l (List.mem_of_getElem? hn))
      simpa only [sub', gD _ _ _ h1] using this
  · intro b b' l l' h h' hne y o hi
    obtain ⟨x, m, h1, h2, h3⟩ := b2 b l (lb b l h)
    obtain ⟨x', m', h1', h2', h3'⟩ := b2 b' l' (lb b' l' h')
    rw [hspb b x l m h1 h3] at hi
    rw [hspb b' x' l' m' h1' h3']
    exact hs.binj x x' m m' h2 h2' (fun e => hne (nodupB_spec n1 b b' x h1 (e ▸ h1'))) y o hi
  · intro k h
    obtain ⟨x, hx, hl⟩ := htl k (lt k h)
    refine ⟨(List.getElem?_eq_some_iff.1 hx).1, ?_⟩
    simp only [sub', gD _ _ _ hx]
    exact (hs.toks x hl).2
  · intro k k' h h' hne b o hi
    obtain ⟨x, hx, hl⟩ := htl k (lt k h)
    obtain ⟨x', hx', hl'⟩ := htl k' (lt k' h')
    simp only [sub', gD _ _ _ hx, gD _ _ _ hx'] at hi ⊢
    exact hs.tdis x x' hl hl' (fun e => hne (nodupB_spec n2 k k' x hx (e ▸ hx'))) b o hi
  · intro k i l h h' q o hi
    obtain ⟨x, hx, hl⟩ := htl k (lt k h)
    obtain ⟨y, m, h1, h2, h3⟩ := b2 i l (lb i l h')
    rw [hspb i y l m h1 h3]
    simp only [sub', gD _ _ _ hx] at hi
    exact hs.tbox x y m hl h2 q o hi

def rsC (P : Program) : List ResultVar → Option (List (Nat × Nat))
  | [] => some []
  | .tmp t :: r => match rsC P r with | some l => some ((t, 0) :: l) | none => none
  | .cell t ty :: r => match aggOf P ty with
    | some true => (match (P.info? ty).map (·.size) with
      | some (n + 1) => (match rsC P r with | some l => some ((t, n + 1) :: l) | none => none)
      | _ => none)
    | _ => none

theorem run_resL {κ : Gh} {σ : Log} {a : Act} {w : World} (hs : RepS W0 κ σ a w) {g : ResultVar → Go.Sem Value} (hg : ∀ t, g (.tmp t) = pure (a.tmps.getD t undef))
    (hg' : ∀ t ty, g (.cell t ty) = (asAddr (a.tmps.getD t undef)).bind fun x => loadVar ty x) :
    ∀ {l : List ResultVar} {rs : List (Nat × Nat)} {K : List AV → Prop}, rsC P l = some rs → resL σ rs K → ∃ vs xs, K vs ∧ (l.mapM g).run P w = .ok xs w ∧ xs.length = vs.length ∧ ∀ (j : Nat) (v : AV), vs[j]? = some v → RepV κ w v (xs.getD j undef)
  | [], rs, K, h, hK => by
    simp only [rsC, Option.some.injEq] at h; subst h
    exact ⟨[], [], hK, rfl, rfl, fun j v hj => by simp at hj⟩
  | .tmp t :: r, rs, K, h, hK => by
    simp only [rsC] at h
    split at h
    · rename_i l hl
      cases h
      simp only [resL] at hK
      obtain ⟨vs, xs, h1, h2, h3, h4⟩ := run_resL hs hg hg' hl hK
      refine ⟨_, a.tmps.getD t undef :: xs, h1, ?_, by simp [h3], ?_⟩
      · simp [List.mapM_cons, hg, h2]
      · intro j v hj
        cases j with
        | zero => simp at hj; subst hj; exact opd_rep hs (z := none) (x := .tmp t) rfl
        | succ j => simpa using h4 j v (by simpa using hj)
    · cases h
  | .cell t ty :: r, rs, K, h, hK => by
    simp only [rsC] at h
    split at h
    · rename_i hag
      split at h
      · rename_i n hn
        split at h
        · rename_i l hl
          cases h
          simp only [resL] at hK
          have hr := opd_rep hs (z := none) (x := .tmp t) (y := .t t) rfl
          split at hK
          · rename_i b he
            rw [he] at hr
            obtain ⟨_, hp⟩ := hr.ptr_inv
            split at hK
            · rename_i bl hbl
              obtain ⟨_, _, C, cty, hgc, hl'⟩ := hs.boxes b bl hbl
              cases hbeq : Nat.beq bl.length (n + 1) with
              | false => rw [hbeq] at hK; exact hK.elim
              | true =>
                rw [hbeq] at hK
                have hlen := Nat.eq_of_beq_eq_true hbeq
                obtain ⟨vs, xs, h1, h2, h3, h4⟩ := run_resL hs hg hg' hl hK
                obtain ⟨ls, hv, hll⟩ := (At.box hgc hl').load (P := P)
                refine ⟨_, .agg ls :: xs, h1, ?_, by simp [h3], ?_⟩
                · have e : (g (.cell t ty)).run P w = .ok (.agg ls) w := by
                    have hp' : a.tmps.getD t undef = .pointer (some ⟨(κ.ι b).1, (κ.ι b).2, none⟩) := hp
                    rw [hg', hp']
                    show ((pure ⟨(κ.ι b).1, (κ.ι b).2, none⟩ : Go.Sem Addr) >>= fun x => loadVar ty x).run P w = _
                    simp [loadVar, run_isAgg' hag, run_sizeOf' hn, ← hlen, hv]
                  simp [List.mapM_cons, e, h2]
                · intro j v hj
                  cases j with
                  | zero => simp at hj; subst hj; exact .agg bl ls hll.1 hll.2.1 hll.2.2
                  | succ j => simpa using h4 j v (by simpa using hj)
            · exact hK.elim
          · exact hK.elim
        · cases h
      · cases h
    · cases h

theorem run_results {fn : Func} {κ : Gh} {σ : Log} {a : Act} {w : World} {rs : List (Nat × Nat)} {K : AV → Prop} (hs : RepS W0 κ σ a w) (h : rsC P fn.results.toList = some rs) (hK : resP σ rs K) :
    ∃ v x, K v ∧ (results fn a.tmps).run P w = .ok x w ∧ RepV κ w v x := by
  unfold resP at hK
  obtain ⟨vs, xs, h1, h2, h3, h4⟩ := run_resL hs (g := fun
    | .tmp t => pure (a.tmps.getD t undef)
    | .cell b t => do loadVar t (← asAddr (a.tmps.getD b undef))) (fun _ => rfl) (fun _ _ => rfl) h hK
  have key : (results fn a.tmps).run P w = .ok (if h : xs.toArray.size = 1 then xs.toArray[0] else .tuple xs.toArray) w := by
    have e : ∀ g : ResultVar → Go.Sem Value, (fn.results.toList.mapM g).run P w = .ok xs w → (fn.results.mapM g).run P w = .ok xs.toArray w := by
      intro g hg
      rw [Array.mapM_eq_mapM_toList]
      simp only [Sem.run_map, hg, Result.andThen_ok]
    unfold results
    rw [Sem.run_bind]
    exact congrArg (fun x : Result (Array Value) => x.andThen fun a w' => (pure (if h : a.size = 1 then a[0] else Value.tuple a) : Go.Sem Value).run P w') (e _ h2)
  match vs, xs, h1, h3, h4, key with
  | [v], [x], h1, _, h4, key =>
    refine ⟨v, x, h1, key, by simpa using h4 0 v rfl⟩
  | [], [], h1, _, _, key => exact ⟨_, _, h1, key, .tup [] #[] rfl fun j v hj => by simp at hj⟩
  | v1 :: v2 :: vs, x1 :: x2 :: xs, h1, h3, h4, key =>
    refine ⟨_, _, h1, key, ?_⟩
    rw [dif_neg (by simp)]
    refine .tup _ _ (by simpa using h3) fun j v hj => ?_
    have := h4 j v hj
    rwa [List.getD_eq_getElem?_getD, ← List.getElem?_toArray, ← Array.getD_eq_getD_getElem?] at this

/-- THE CONTRACT OF A FUNCTION, OUT OF ITS COMPILED BODY -/
theorem ctr_of (hm : P.follows .mixedOrders = true) (hG : ∀ g cells, an.gl g = some cells → GlobOK W0 g cells) (hcall : ∀ f args H res H', call f args H res H' → Ctr P W0 f args H res H') {f : FuncId} {fn : Func} {c : Code} {ac : AC} {rs : List (Nat × Nat)} (hf : P.funcs[f]? = some fn) (hb : fn.body = some c)
    (hnm : callable P f = true) (hc : compC P an fn.ntmps c = some ac) (hrs : rsC P fn.results.toList = some rs) {args : List AV} {H : List (List AV)} {res : AV} {H' : List (List AV)} (ha : Nat.ble args.length fn.ntmps = true) (hH : Nat.ble (H.length + tokN args H) 900 = true)
    (h : Body call ac rs args H res H') : Ctr P W0 f args H res H' := by
  refine ⟨hnm, fun κ w vals hsz hdb hdt hs => calls_of_wp hf hb ?_⟩
  have hle := Nat.le_of_ble_eq_true ha
  have hle2 := Nat.le_of_ble_eq_true hH
  have hs' : RepS W0 κ (initLog args H) { tmps := vals ++ Array.replicate (fn.ntmps - vals.size) undef, defers := [] } w := by
    refine ⟨?_, hs.boxes, hs.binj, hs.toks, hs.tdis, hs.tbox, hs.sepI, hs.Icell, hs.old, hs.size0, hs.amb, rfl, hs.os, hs.tape, hs.output⟩
    intro n v hv
    have := hs.slots n v hv
    rw [look_init_s] at hv
    have hn : n < args.length := by
      cases hh : args[n]? with
      | none => rw [hh] at hv; cases hv
      | some u => exact (List.getElem?_eq_some_iff.1 hh).1
    rw [Array.getD_eq_getD_getElem?] at this ⊢
    rw [Array.getElem?_append_left (by omega)]
    exact this
  have hbel : Bel κ 1000 := ⟨Nat.le_refl _, fun b hb => by have := hdb b hb; omega, fun k hk => by have := hdt k hk; omega⟩
  refine wp_mono (awp_sound (N := fn.ntmps) hm hG hcall c ac 1000 κ (initLog args H) _ w _ hc hs' hbel (by simp; omega) h) ?_
  rintro e a' w' ⟨ex, nx, κ', σ', he, hR, r, s, n, b⟩
  have main : resP σ' rs (fun v => FinOK σ' v H.length (tokN args H) res H') → a'.defers = [] ∧ ∃ v, (results fn a'.tmps).run P w' = .ok v w' ∧ ∃ v' κ'', Ending.returned v = .returned v' ∧ RepS W0 κ'' (finLog res H') ⟨#[v'], []⟩ w' ∧ Step κ (initLog args H) w κ'' (finLog res H') w' := by
    intro hP
    obtain ⟨v0, x0, ⟨⟨bn, tn, ⟨n1, n2, i1, i2⟩, w1, w2, w3⟩⟩, hrun, hrep⟩ := run_results r hrs hP
    refine ⟨r.defers, _, hrun, _, sub' κ' (upN H.length ++ bn) (upN (tokN args H) ++ tn), rfl, ?_, ?_⟩
    · exact (fin_rep r n1 n2 i1 i2 (hrep.wk3 w1) w2 w3).1
    · have ho := (fin_rep r n1 n2 i1 i2 (hrep.wk3 w1) w2 w3).2
      refine ⟨s.chg, fun b o hh => s.own b o (ho b o hh), s.I_, s.In, fun b hb hd => ?_, fun k hk hd => ?_⟩
      · have hlt := hdb b hd
        have e : (upN H.length ++ bn)[b]? = some b := by rw [List.getElem?_append_left (by rw [upN_length]; exact hlt)]; exact upN_get hlt
        refine ⟨(List.getElem?_eq_some_iff.1 e).1, ?_⟩
        simp only [sub', List.getD_eq_getElem?_getD, e, Option.getD_some]
        exact (s.low b hb hd).2
      · have hlt := hdt k hd
        have e : (upN (tokN args H) ++ tn)[k]? = some k := by rw [List.getElem?_append_left (by rw [upN_length]; exact hlt)]; exact upN_get hlt
        refine ⟨(List.getElem?_eq_some_iff.1 e).1, ?_⟩
        simp only [sub', List.getD_eq_getElem?_getD, e, Option.getD_some]
        exact (s.lowt k hk hd).2
  cases ex with
  | n => cases e <;> first | exact he.elim | exact main hR
  | e i => exact hR.elim
  | r => cases e <;> first | exact he.elim | exact main hR
end
end Go.Abs
