/- A call, sound. -/
import Derived.Test.YthmcdebdkbhbmaaGreatDoorA10
namespace Go.Abs
open Go

theorem toks1_in {nb nt : Nat} {v : AV} (h : in1 nb nt v = true) : ∀ k, k ∈ toks1 v → k < nt := by
  intro k hk
  cases v <;> try (simp [toks1] at hk; done)
  · rename_i z e t
    cases t with
    | none => simp [toks1] at hk
    | full => simp [toks1] at hk
    | t j => simp [toks1] at hk; subst hk; simpa [in1, Nat.blt_eq] using h
  · rename_i z e b n t
    cases t with
    | none => simp [toks1] at hk
    | full => simp [toks1] at hk
    | t j =>
      simp [toks1] at hk; subst hk
      simp only [in1] at h
      split at h
      · rename_i h1; simpa [Nat.blt_eq] using h1
      · cases h

theorem toks2_in {nb nt : Nat} {v : AV} (h : in2 nb nt v = true) : ∀ k, k ∈ toks2 v → k < nt := by
  intro k hk
  cases v with
  | fn f c =>
    obtain ⟨u, hu, hk⟩ := List.mem_flatMap.1 hk
    exact toks1_in (inL1_spec h u hu) k hk
  | agg l =>
    obtain ⟨u, hu, hk⟩ := List.mem_flatMap.1 hk
    exact toks1_in (inL1_spec h u hu) k hk
  | sc c => exact toks1_in (show in1 nb nt (.sc c) = true from h) k hk
  | sl z e t => exact toks1_in (show in1 nb nt (.sl z e t) = true from h) k hk
  | ptr b o => exact toks1_in (show in1 nb nt (.ptr b o) = true from h) k hk
  | elp c o => exact toks1_in (show in1 nb nt (.elp c o) = true from h) k hk
  | mx z e b n t => exact toks1_in (show in1 nb nt (.mx z e b n t) = true from h) k hk
  | tup => cases h
  | bad => cases h

theorem toks_in {nb nt : Nat} {v : AV} (h : inR nb nt v = true) : ∀ k, k ∈ toks v → k < nt := by
  intro k hk
  cases v with
  | tup l =>
    obtain ⟨u, hu, hk⟩ := List.mem_flatMap.1 hk
    exact toks2_in (inL2_spec h u hu) k hk
  | sc c => exact toks2_in (show in2 nb nt (.sc c) = true from h) k hk
  | sl z e t => exact toks2_in (show in2 nb nt (.sl z e t) = true from h) k hk
  | ptr b o => exact toks2_in (show in2 nb nt (.ptr b o) = true from h) k hk
  | elp c o => exact toks2_in (show in2 nb nt (.elp c o) = true from h) k hk
  | mx z e b n t => exact toks2_in (show in2 nb nt (.mx z e b n t) = true from h) k hk
  | fn f c => exact toks2_in (show in2 nb nt (.fn f c) = true from h) k hk
  | agg l => exact toks2_in (show in2 nb nt (.agg l) = true from h) k hk
  | bad => cases h

theorem inR_of_in2 {nb nt : Nat} {v : AV} (h : in2 nb nt v = true) : inR nb nt v = true := by
  cases v <;> first | exact h | cases h

theorem allToks_in {nb nt nb' : Nat} {args : List AV} {H : List (List AV)} (h : ∀ v, v ∈ args → inR nb nt v = true) (hH : inH nb' nt H = true) : ∀ k, k ∈ allToks args H → k < nt := by
  intro k hk
  rcases List.mem_append.1 hk with hk | hk
  · obtain ⟨u, hu, hk⟩ := List.mem_flatMap.1 hk
    exact toks_in (h u hu) k hk
  · obtain ⟨l, hl, hk⟩ := List.mem_flatMap.1 hk
    obtain ⟨u, hu, hk⟩ := List.mem_flatMap.1 hk
    exact toks2_in (inL2_spec (inH_spec hH l hl) u hu) k hk

theorem look_newBoxes {bs ts : List Nat} {id : Nat} : ∀ {H : List (List AV)} {n : Nat} {b : Nat},
    (∀ c, look (newBoxes bs ts id n H) (.b b) = some c → ∃ i h, H[i]? = some h ∧ b = rb bs id (n + i) ∧ c = .bx (h.map (ren2 bs ts id))) ∧
    (look (newBoxes bs ts id n H) (.b b) = none → ∀ i, i < H.length → rb bs id (n + i) ≠ b)
  | [], n, b => ⟨fun c h => by simp [newBoxes, look] at h, fun _ i hi => by simp at hi⟩
  | h :: H, n, b => by
    have ih := look_newBoxes (bs := bs) (ts := ts) (id := id) (H := H) (n := n + 1) (b := b)
    rw [newBoxes, look_cons]
    by_cases hb : rb bs id n = b
    · have e : (Loc.b (rb bs id n) = Loc.b b) = True := by
        simp only [Loc.b.injEq, eq_iff_iff, iff_true]; exact hb
      simp only [e, if_true]
      exact ⟨fun c hc => by cases hc; exact ⟨0, h, rfl, hb.symm, rfl⟩, fun hc => by cases hc⟩
    · have e : (Loc.b (rb bs id n) = Loc.b b) = False := by
        simp only [Loc.b.injEq, eq_iff_iff, iff_false]; exact hb
      simp only [e, if_false]
      refine ⟨fun c hc => ?_, fun hc i hi => ?_⟩
      · obtain ⟨i, h', h1, h2, h3⟩ := ih.1 c hc
        exact ⟨i + 1, h', by simpa using h1, by rw [h2]; congr 1; omega, h3⟩
      · cases i with
        | zero => exact hb
        | succ i =>
          have := ih.2 hc i (by simpa using hi)
          rwa [show n + 1 + i = n + (i + 1) by omega] at this

theorem look_newBoxes_s {bs ts : List Nat} {id : Nat} : ∀ {H : List (List AV)} {n m : Nat}, look (newBoxes bs ts id n H) (.s m) = none
  | [], _, _ => rfl
  | h :: H, n, m => by rw [newBoxes, look_cons, look_newBoxes_s]; simp
theorem look_newBoxes_t {bs ts : List Nat} {id : Nat} : ∀ {H : List (List AV)} {n m : Nat}, look (newBoxes bs ts id n H) (.t m) = none
  | [], _, _ => rfl
  | h :: H, n, m => by rw [newBoxes, look_cons, look_newBoxes_t]; simp

theorem look_onToks {ts : List Nat} {id : Nat} : ∀ {L : List Nat} {k : Nat}, look (onToks ts id L) (.t k) = none ∨ (look (onToks ts id L) (.t k) = some (.tk true) ∧ ∃ j, j ∈ L ∧ k = rb ts id j)
  | [], _ => .inl rfl
  | j :: L, k => by
    rw [onToks, look_cons]
    by_cases hb : rb ts id j = k
    · rw [if_pos (by rw [hb])]
      exact .inr ⟨rfl, j, by simp, hb.symm⟩
    · have e : (Loc.t (rb ts id j) = Loc.t k) = False := by
        simp only [Loc.t.injEq, eq_iff_iff, iff_false]; exact hb
      simp only [e, if_false]
      rcases look_onToks (ts := ts) (id := id) (L := L) (k := k) with h | ⟨h, i, hi, he⟩
      · exact .inl h
      · exact .inr ⟨h, i, by simp [hi], he⟩
theorem look_onToks_s {ts : List Nat} {id : Nat} : ∀ {L : List Nat} {k : Nat}, look (onToks ts id L) (.s k) = none
  | [], _ => rfl
  | j :: L, k => by rw [onToks, look_cons, look_onToks_s]; simp
theorem look_onToks_b {ts : List Nat} {id : Nat} : ∀ {L : List Nat} {k : Nat}, look (onToks ts id L) (.b k) = none
  | [], _ => rfl
  | j :: L, k => by rw [onToks, look_cons, look_onToks_b]; simp
theorem look_offToks : ∀ {L : List Nat} {k : Nat}, look (offToks L) (.t k) = if k ∈ L then some (.tk false) else none
  | [], _ => rfl
  | j :: L, k => by
    rw [offToks, look_cons, look_offToks]
    by_cases h : j = k
    · subst h; simp
    · have h' : ¬ k = j := fun e => h e.symm
      simp [h, h']
theorem look_offToks_s : ∀ {L : List Nat} {k : Nat}, look (offToks L) (.s k) = none
  | [], _ => rfl
  | j :: L, k => by rw [offToks, look_cons, look_offToks_s]; simp
theorem look_offToks_b : ∀ {L : List Nat} {k : Nat}, look (offToks L) (.b k) = none
  | [], _ => rfl
  | j :: L, k => by rw [offToks, look_cons, look_offToks_b]; simp

theorem Chg.mono {O O' : Nat → Nat → Prop} {w w' : World} (h : Chg O w w') (hO : ∀ b o, O b o → O' b o) : Chg O' w w' :=
  ⟨h.os, h.tape, h.output, h.size, fun b hb hn => h.same b hb fun o ho => hn o (hO b o ho), fun b C ty fz hC => by
    obtain ⟨C', h1, h2, h3⟩ := h.cells b C ty fz hC
    exact ⟨C', h1, h2, fun o hn => h3 o fun ho => hn (hO b o ho)⟩⟩

section
variable {P : Program} {W0 : World} {κ : Gh} {σ : Log} {a : Act} {w : World} {id : Nat} {F : Log → Prop} {call : CallP} {d : Option Nat}

/-- the callee's ghost -/
def sub' (κ : Gh) (bs ts : List Nat) : Gh := { I := κ.I, Db := fun b => b < bs.length, Dt := fun k => k < ts.length, ι := fun i => κ.ι (bs.getD i 0), τ := fun j => κ.τ (ts.getD j 0) }

/-- the caller's, behind the call -/
def back (κ κ' : Gh) (nb nt id : Nat) : Gh := {
  I := κ'.I
  Db := fun x => κ.Db x ∨ ∃ j, nb ≤ j ∧ j < nb + 100 ∧ κ'.Db j ∧ x = id + (j - nb)
  Dt := fun x => κ.Dt x ∨ ∃ j, nt ≤ j ∧ j < nt + 100 ∧ κ'.Dt j ∧ x = id + (j - nt)
  ι := fun x => if id ≤ x ∧ x < id + 100 then κ'.ι (nb + (x - id)) else κ.ι x
  τ := fun x => if id ≤ x ∧ x < id + 100 then κ'.τ (nt + (x - id)) else κ.τ x }

theorem callG (hs : RepS W0 κ σ a w) (hf : Fresh κ id) {f : FuncId} {args : List AV} {vals : Array Value} (hsz : vals.size = args.length) (hv : ∀ (j : Nat) (v : AV), args[j]? = some v → RepV κ w v (vals.getD j undef))
    (hN : ∀ d', d = some d' → d' < a.tmps.size) {bs ts : List Nat} {args' : List AV} {H H' : List (List AV)} {res : AV} (hc : Ctr P W0 f args' H res H')
    (n1 : nodupB bs = true) (n2 : nodupB ts = true) (n3 : bs.length ≤ H'.length) (n4 : H'.length ≤ bs.length + 50) (n5 : bs.length + ts.length ≤ 900) (n6 : ts.length = tokN args' H)
    (i1 : inL2 bs.length ts.length args' = true) (i2 : inH bs.length ts.length H = true) (i3 : inR H'.length (ts.length + 50) res = true) (i4 : inH H'.length (ts.length + 50) H' = true)
    (w1 : wkL2 args (args'.map (ren2 bs ts id))) (w2 : boxIs σ bs ts id bs H) (w3 : liveAll σ ts)
    (hF : F (dstL d (ren bs ts id res) ++ newBoxes bs ts id 0 H' ++ onToks ts id (toks res ++ (H'.flatMap fun h => h.flatMap toks2)) ++ offToks ts)) :
    callable P f = true ∧ Calls P f vals w fun e w' => ∃ v, e = .returned v ∧ After W0 κ σ a w id F (a.put d v) w' := by
  obtain ⟨hcl, hc⟩ := hc
  refine ⟨hcl, ?_⟩
  obtain ⟨b1, b2⟩ := boxIs_spec w2
  have l1 := liveAll_spec w3
  obtain ⟨g1, g2⟩ := wkL2_spec w1
  have hbs : ∀ (i x : Nat), bs[i]? = some x → ∃ h l, H[i]? = some h ∧ look σ (.b x) = some (.bx l) ∧ wkL2 l (h.map (ren2 bs ts id)) := by
    intro i x hx
    have hi : i < H.length := by rw [b1]; exact (List.getElem?_eq_some_iff.1 hx).1
    obtain ⟨b, l, h1, h2, h3⟩ := b2 i _ (List.getElem?_eq_getElem hi)
    rw [hx] at h1; cases h1
    exact ⟨_, l, List.getElem?_eq_getElem hi, h2, h3⟩
  have gD : ∀ (l : List Nat) (i x : Nat), l[i]? = some x → l.getD i 0 = x := fun l i x h => by rw [List.getD_eq_getElem?_getD, h]; rfl
  have un : Un κ (sub' κ bs ts) bs ts := ⟨fun _ _ h => h, fun b x hx _ => ⟨(List.getElem?_eq_some_iff.1 hx).1, by simp only [sub', gD _ _ _ hx]⟩, fun k x hx _ => ⟨(List.getElem?_eq_some_iff.1 hx).1, by simp only [sub', gD _ _ _ hx]⟩⟩
  have htin : ∀ k, k ∈ allToks args' H → k < ts.length := allToks_in (fun v hv => inR_of_in2 (inL2_spec i1 v hv)) i2
  have hspb : ∀ (i x : Nat) (h m : List AV), bs[i]? = some x → wkL2 m (h.map (ren2 bs ts id)) → spb (sub' κ bs ts) i h = spb κ x m := by
    intro i x h m hx hw
    have hl := (wkL2_spec hw).1
    rw [List.length_map] at hl
    simp only [spb, sub', gD _ _ _ hx, hl]
  have hownc : ∀ b o, Own (sub' κ bs ts) (initLog args' H) b o → (∃ (i x : Nat) (m : List AV), bs[i]? = some x ∧ look σ (.b x) = some (.bx m) ∧ inSp (spb κ x m) b o) ∨ (∃ (k x : Nat), ts[k]? = some x ∧ inSp (κ.τ x) b o) := by
    rintro b o (⟨i, l, hl, hi⟩ | ⟨k, hk, hi⟩)
    · rw [look_init_b] at hl
      cases hh : H[i]? with
      | none => simp [hh] at hl
      | some h =>
        obtain ⟨x, m, h1, hm, h3⟩ := b2 i h hh
        simp [hh] at hl
        subst hl
        exact .inl ⟨i, x, m, h1, hm, hspb i x _ m h1 h3 ▸ hi⟩
    · rw [look_init_t] at hk
      by_cases hm : k ∈ allToks args' H
      · have hlt := htin k hm
        have hx : ts[k]? = some ts[k] := List.getElem?_eq_getElem hlt
        refine .inr ⟨k, ts[k], hx, ?_⟩
        simpa only [sub', gD _ _ _ hx] using hi
      · simp [hm] at hk
  have hownκ : ∀ b o, Own (sub' κ bs ts) (initLog args' H) b o → Own κ σ b o := by
    intro b o h
    rcases hownc b o h with ⟨i, x, m, hx, hm, hi⟩ | ⟨k, x, hx, hi⟩
    · exact .inl ⟨x, m, hm, hi⟩
    · exact .inr ⟨x, l1 x (List.mem_of_getElem? hx), hi⟩
  have pre : RepS W0 (sub' κ bs ts) (initLog args' H) ⟨vals, []⟩ w := by
    refine ⟨?_, ?_, ?_, ?_, ?_, ?_, fun b o ho => hs.sepI b o (hownκ b o ho), hs.Icell, hs.old, hs.size0, hs.amb, rfl, hs.os, hs.tape, hs.output⟩
    · intro n v h
      rw [look_init_s] at h
      cases hn : args'[n]? with
      | none => simp [hn] at h
      | some u =>
        simp [hn] at h
        subst h
        obtain ⟨v, hv1, hv2⟩ := g2 n _ (by rw [List.getElem?_map, hn]; rfl)
        exact ((hv n v hv1).wk2 hv2).1.un2 un (inL2_spec i1 u (List.mem_of_getElem? hn))
    · intro b l h
      rw [look_init_b] at h
      cases hn : H[b]? with
      | none => simp [hn] at h
      | some u =>
        simp [hn] at h
        subst h
        obtain ⟨x, m, h1, h2, h3⟩ := b2 b u hn
        obtain ⟨k1, k2, C, ty, k3, k4⟩ := hs.boxes x m h2
        refine ⟨(List.getElem?_eq_some_iff.1 h1).1, ?_, C, ty, ?_, ?_⟩
        · simp only [sub', gD _ _ _ h1]; exact k2
        · simp only [sub', gD _ _ _ h1]; exact k3
        · have := (k4.wk h3).un un (inH_spec i2 u (List.mem_of_getElem? hn))
          simpa only [sub', gD _ _ _ h1] using this
    · intro b b' l l' h h' hne y o hi
      rw [look_init_b] at h h'
      cases hn : H[b]? with
      | none => simp [hn] at h
      | some u =>
        cases hn' : H[b']? with
        | none => simp [hn'] at h'
        | some u' =>
          obtain ⟨x, m, h1, h2, h3⟩ := b2 b u hn
          obtain ⟨x', m', h1', h2', h3'⟩ := b2 b' u' hn'
          simp [hn] at h
          simp [hn'] at h'
          subst h; subst h'
          rw [hspb b x _ m h1 h3] at hi
          rw [hspb b' x' _ m' h1' h3']
          exact hs.binj x x' m m' h2 h2' (fun e => hne (nodupB_spec n1 b b' x h1 (e ▸ h1'))) y o hi
    · intro k h
      rw [look_init_t] at h
      by_cases hm : k ∈ allToks args' H
      · have hlt := htin k hm
        have hx : ts[k]? = some ts[k] := List.getElem?_eq_getElem hlt
        refine ⟨hlt, ?_⟩
        simp only [sub', gD _ _ _ hx]
        exact (hs.toks _ (l1 _ (List.mem_of_getElem? hx))).2
      · simp [hm] at h
    · intro k k' h h' hne b o hi
      rw [look_init_t] at h h'
      by_cases hm : k ∈ allToks args' H
      · by_cases hm' : k' ∈ allToks args' H
        · have hk1 := htin k hm
          have hk2 := htin k' hm'
          have hx : ts[k]? = some ts[k] := List.getElem?_eq_getElem hk1
          have hx' : ts[k']? = some ts[k'] := List.getElem?_eq_getElem hk2
          simp only [sub', gD _ _ _ hx, gD _ _ _ hx'] at hi ⊢
          exact hs.tdis _ _ (l1 _ (List.mem_of_getElem? hx)) (l1 _ (List.mem_of_getElem? hx')) (fun e => hne (nodupB_spec n2 k k' _ hx (e ▸ hx'))) b o hi
        · simp [hm'] at h'
      · simp [hm] at h
    · intro k i l h h' y o hi
      rw [look_init_t] at h
      rw [look_init_b] at h'
      by_cases hm : k ∈ allToks args' H
      · have hk1 := htin k hm
        have hx : ts[k]? = some ts[k] := List.getElem?_eq_getElem hk1
        cases hn : H[i]? with
        | none => simp [hn] at h'
        | some u =>
          obtain ⟨x, m, h1, h2, h3⟩ := b2 i u hn
          simp [hn] at h'
          subst h'
          rw [hspb i x _ m h1 h3]
          simp only [sub', gD _ _ _ hx] at hi
          exact hs.tbox _ x m (l1 _ (List.mem_of_getElem? hx)) h2 y o hi
      · simp [hm] at h
  refine (hc (sub' κ bs ts) w vals (by rw [hsz, ← g1, List.length_map]) (fun b hb => by rw [b1]; exact hb) (fun k hk => by rw [← n6]; exact hk) pre).mono ?_
  rintro e w' ⟨v, κ', rfl, r, st⟩
  refine ⟨v, rfl, ?_⟩
  -- the way back
  have notin : ∀ x, κ.Db x → ¬ (id ≤ x ∧ x < id + 100) := fun x hx h => hf.db x h.1 h.2 hx
  have notint : ∀ x, κ.Dt x → ¬ (id ≤ x ∧ x < id + 100) := fun x hx h => hf.dt x h.1 h.2 hx
  have ext : Ext κ w (back κ κ' bs.length ts.length id) w' := by
    refine ⟨st.I_, fun b o hI => st.chg.cell pre hI, fun b hb => ⟨.inl hb, ?_⟩, fun k hk => ⟨.inl hk, ?_⟩⟩
    · simp only [back, if_neg (notin b hb)]
    · simp only [back, if_neg (notint k hk)]
  have hbox : ∀ (i x : Nat), bs[i]? = some x → κ.Db x ∧ κ'.ι i = κ.ι x := by
    intro i x hx
    obtain ⟨_, l, _, hl, _⟩ := hbs i x hx
    have hi := (List.getElem?_eq_some_iff.1 hx).1
    refine ⟨(hs.boxes x l hl).1, ?_⟩
    have := (st.low i (by omega) hi).2
    simpa only [sub', gD _ _ _ hx] using this
  have htok : ∀ (i x : Nat), ts[i]? = some x → κ.Dt x ∧ κ'.τ i = κ.τ x := by
    intro i x hx
    have hi := (List.getElem?_eq_some_iff.1 hx).1
    refine ⟨(hs.toks x (l1 x (List.mem_of_getElem? hx))).1, ?_⟩
    have := (st.lowt i (by omega) hi).2
    simpa only [sub', gD _ _ _ hx] using this
  have rn : Ren κ' (back κ κ' bs.length ts.length id) (rb bs id) (rb ts id) H'.length (ts.length + 50) := by
    refine ⟨fun _ _ h => h, ?_, ?_⟩
    · intro b hb hd
      cases hx : bs[b]? with
      | some x =>
        obtain ⟨h1, h2⟩ := hbox b x hx
        have e : rb bs id b = x := by simp only [rb, hx]
        rw [e]
        exact ⟨.inl h1, by simp only [back, if_neg (notin x h1)]; exact h2.symm⟩
      | none =>
        have hge : bs.length ≤ b := List.getElem?_eq_none_iff.1 hx
        have e : rb bs id b = id + (b - bs.length) := by simp only [rb, hx]
        rw [e]
        refine ⟨.inr ⟨b, hge, by omega, hd, rfl⟩, ?_⟩
        simp only [back]
        rw [if_pos ⟨by omega, by omega⟩]
        congr 1; omega
    · intro b hb hd
      cases hx : ts[b]? with
      | some x =>
        obtain ⟨h1, h2⟩ := htok b x hx
        have e : rb ts id b = x := by simp only [rb, hx]
        rw [e]
        exact ⟨.inl h1, by simp only [back, if_neg (notint x h1)]; exact h2.symm⟩
      | none =>
        have hge : ts.length ≤ b := List.getElem?_eq_none_iff.1 hx
        have e : rb ts id b = id + (b - ts.length) := by simp only [rb, hx]
        rw [e]
        refine ⟨.inr ⟨b, hge, by omega, hd, rfl⟩, ?_⟩
        simp only [back]
        rw [if_pos ⟨by omega, by omega⟩]
        congr 1; omega
  have hLin : ∀ k, k ∈ (toks res ++ (H'.flatMap fun h => h.flatMap toks2)) → k < ts.length + 50 := by
    have := allToks_in (args := [res]) (H := H') (nb := H'.length) (nb' := H'.length) (nt := ts.length + 50) (by intro v hv; simp at hv; subst hv; exact i3) i4
    simpa [allToks] using this
  have hfint : ∀ k, look (finLog res H') (.t k) = some (.tk true) ↔ k ∈ (toks res ++ (H'.flatMap fun h => h.flatMap toks2)) := by
    intro k
    unfold finLog
    rw [look_init_t]
    have e : allToks [res] H' = toks res ++ (H'.flatMap fun h => h.flatMap toks2) := by simp [allToks]
    rw [e]
    by_cases hm : k ∈ (toks res ++ (H'.flatMap fun h => h.flatMap toks2))
    · rw [if_pos hm]; exact ⟨fun _ => hm, fun _ => rfl⟩
    · rw [if_neg hm]; exact ⟨fun h => (by cases h), fun h => absurd h hm⟩
  have hfinb : ∀ k, look (finLog res H') (.b k) = (H'[k]?).map .bx := fun k => look_init_b [res] H' k
  let δ' := newBoxes bs ts id 0 H' ++ onToks ts id (toks res ++ (H'.flatMap fun h => h.flatMap toks2)) ++ offToks ts
  have ls : ∀ n, look (δ' ++ σ) (.s n) = look σ (.s n) := by
    intro n
    simp only [δ']
    rw [look_append, look_append, look_append, look_newBoxes_s, look_onToks_s, look_offToks_s]
  have lb : ∀ b l, look (δ' ++ σ) (.b b) = some (.bx l) → (∃ i h, H'[i]? = some h ∧ b = rb bs id i ∧ l = h.map (ren2 bs ts id)) ∨ (look σ (.b b) = some (.bx l) ∧ ∀ i, i < H'.length → rb bs id i ≠ b) := by
    intro b l h
    simp only [δ'] at h
    rw [look_append, look_append, look_append, look_onToks_b, look_offToks_b] at h
    obtain ⟨q1, q2⟩ := look_newBoxes (bs := bs) (ts := ts) (id := id) (H := H') (n := 0) (b := b)
    cases hx : look (newBoxes bs ts id 0 H') (.b b) with
    | some c =>
      rw [hx] at h
      obtain ⟨i, h', h1, h2, h3⟩ := q1 c hx
      simp only [Option.some.injEq] at h
      rw [h3] at h
      simp only [Cell.bx.injEq] at h
      exact .inl ⟨i, h', h1, by simpa using h2, h.symm⟩
    | none =>
      rw [hx] at h
      exact .inr ⟨h, fun i hi => by simpa using q2 hx i hi⟩
  have lt : ∀ k, look (δ' ++ σ) (.t k) = some (.tk true) → (∃ j, j ∈ (toks res ++ (H'.flatMap fun h => h.flatMap toks2)) ∧ k = rb ts id j) ∨ (look σ (.t k) = some (.tk true) ∧ k ∉ ts) := by
    intro k h
    simp only [δ'] at h
    rw [look_append, look_append, look_append, look_newBoxes_t, look_offToks] at h
    rcases look_onToks (ts := ts) (id := id) (L := (toks res ++ (H'.flatMap fun h => h.flatMap toks2))) (k := k) with h1 | ⟨h1, j, h2, h3⟩
    · rw [h1] at h
      by_cases hm : k ∈ ts
      · simp [hm] at h
      · simp [hm] at h; exact .inr ⟨h, hm⟩
    · exact .inl ⟨j, h2, h3⟩
  have oldb : ∀ b l, look σ (.b b) = some (.bx l) → (∀ i, i < H'.length → rb bs id i ≠ b) → ∀ y o, inSp (spb κ b l) y o → ¬ Own (sub' κ bs ts) (initLog args' H) y o := by
    intro b l hl hno y o hy ho
    rcases hownc _ o ho with ⟨i, x, m, hx, hm, hi⟩ | ⟨k, x, hx, hi⟩
    · refine hs.binj x b m l hm hl (fun this => ?_) y o hi hy
      subst this
      have hi' := (List.getElem?_eq_some_iff.1 hx).1
      exact hno i (by omega) (by simp only [rb, hx])
    · exact hs.tbox x b l (l1 x (List.mem_of_getElem? hx)) hl y o hi hy
  have oldt : ∀ k, look σ (.t k) = some (.tk true) → k ∉ ts → ∀ b o, inSp (κ.τ k) b o → ¬ Own (sub' κ bs ts) (initLog args' H) b o := by
    intro k hk hno b o hi ho
    rcases hownc _ o ho with ⟨i, x, m, hx, hm, hi'⟩ | ⟨j, x, hx, hi'⟩
    · exact hs.tbox k x m hk hm b o hi hi'
    · exact hs.tdis k x hk (l1 x (List.mem_of_getElem? hx)) (fun e => hno (e ▸ List.mem_of_getElem? hx)) b o hi hi'
  have hbdb : ∀ b l, look σ (.b b) = some (.bx l) → κ.Db b ∧ (κ.ι b).1 < w.heap.size := by
    intro b l hl
    obtain ⟨h1, _, C, ty, h3, _⟩ := hs.boxes b l hl
    exact ⟨h1, lt_of_heap h3⟩
  have htlt : ∀ k, look σ (.t k) = some (.tk true) → ∀ b o, inSp (κ.τ k) b o → b < w.heap.size := by
    rintro k hk b o ⟨h1, h2, h3⟩
    obtain ⟨_, C, ty, h4, _⟩ := (hs.toks k hk).2 (Nat.lt_of_le_of_lt h2 h3)
    exact h1 ▸ lt_of_heap h4
  have ιn : ∀ (i : Nat) (h : List AV), H'[i]? = some h → (back κ κ' bs.length ts.length id).Db (rb bs id i) ∧ (back κ κ' bs.length ts.length id).ι (rb bs id i) = κ'.ι i := by
    intro i h hi
    have hlook : look (finLog res H') (.b i) = some (.bx h) := by rw [hfinb, hi]; rfl
    exact rn.db i (List.getElem?_eq_some_iff.1 hi).1 (r.boxes i h hlook).1
  have ιo : ∀ b, κ.Db b → (back κ κ' bs.length ts.length id).ι b = κ.ι b := fun b hb => by simp only [back, if_neg (notin b hb)]
  have τn : ∀ j, j ∈ (toks res ++ (H'.flatMap fun h => h.flatMap toks2)) → (back κ κ' bs.length ts.length id).Dt (rb ts id j) ∧ (back κ κ' bs.length ts.length id).τ (rb ts id j) = κ'.τ j := by
    intro j hj
    exact rn.dt j (hLin j hj) (r.toks j ((hfint j).2 hj)).1
  have τo : ∀ k, κ.Dt k → (back κ κ' bs.length ts.length id).τ k = κ.τ k := fun k hk => by simp only [back, if_neg (notint k hk)]
  have spn : ∀ (i : Nat) (h : List AV), H'[i]? = some h → spb (back κ κ' bs.length ts.length id) (rb bs id i) (h.map (ren2 bs ts id)) = spb κ' i h := fun i h hi => by
    simp only [spb, (ιn i h hi).2, List.length_map]
  have spo : ∀ b l, κ.Db b → spb (back κ κ' bs.length ts.length id) b l = spb κ b l := fun b l hb => by simp only [spb, ιo b hb]
  have ownB : ∀ (i : Nat) (h : List AV), H'[i]? = some h → ∀ b o, inSp (spb κ' i h) b o → Own κ' (finLog res H') b o := fun i h hi b o hh => .inl ⟨i, h, by rw [hfinb, hi]; rfl, hh⟩
  have ownT : ∀ j, j ∈ (toks res ++ (H'.flatMap fun h => h.flatMap toks2)) → ∀ b o, inSp (κ'.τ j) b o → Own κ' (finLog res H') b o := fun j hj b o hi => .inr ⟨j, (hfint j).2 hj, hi⟩
  have own'' : ∀ b o, Own (back κ κ' bs.length ts.length id) (δ' ++ σ) b o → Own κ' (finLog res H') b o ∨ (Own κ σ b o ∧ ¬ Own (sub' κ bs ts) (initLog args' H) b o ∧ b < w.heap.size) := by
    rintro b o (⟨i, l, hl, hi⟩ | ⟨k, hk, hi⟩)
    · rcases lb i l hl with ⟨j, h, h1, h2, h3⟩ | ⟨h1, h2⟩
      · rw [h2, h3, spn j h h1] at hi
        exact .inl (ownB j h h1 b o hi)
      · rw [spo i l (hbdb i l h1).1] at hi
        exact .inr ⟨.inl ⟨i, l, h1, hi⟩, oldb i l h1 h2 b o hi, hi.1 ▸ (hbdb i l h1).2⟩
    · rcases lt k hk with ⟨j, h1, h2⟩ | ⟨h1, h2⟩
      · rw [h2, (τn j h1).2] at hi
        exact .inl (ownT j h1 b o hi)
      · rw [τo k (hs.toks k h1).1] at hi
        exact .inr ⟨.inr ⟨k, h1, hi⟩, oldt k h1 h2 b o hi, htlt k h1 b o hi⟩
  have R : RepS W0 (back κ κ' bs.length ts.length id) (δ' ++ σ) a w' := by
    refine ⟨?_, ?_, ?_, ?_, ?_, ?_, ?_, r.Icell, r.old, r.size0, r.amb, hs.defers, r.os, r.tape, r.output⟩
    · intro n u h
      rw [ls] at h
      exact (hs.slots n u h).mono ext
    · intro b l h
      rcases lb b l h with ⟨j, h', h1, h2, h3⟩ | ⟨h1, h2⟩
      · obtain ⟨k1, k2⟩ := ιn j h' h1
        obtain ⟨_, q2, C, ty, q3, q4⟩ := r.boxes j h' (by rw [hfinb, h1]; rfl)
        subst h2; subst h3
        rw [k2]
        exact ⟨k1, q2, C, ty, q3, q4.ren2 rn (inH_spec i4 h' (List.mem_of_getElem? h1))⟩
      · obtain ⟨q1, q2, C, ty, q3, q4⟩ := hs.boxes b l h1
        rw [ιo b q1]
        obtain ⟨C', p1, p2, p3⟩ := st.chg.cells _ C ty _ q3
        refine ⟨.inl q1, q2, C', ty, p1, by rw [p2]; exact q4.1, q4.2.1, fun j v hj => ?_⟩
        have := (q4.2.2 j v hj).mono ext
        have e : C'[(κ.ι b).2 + j]? = C[(κ.ι b).2 + j]? := p3 _ (oldb b l h1 h2 _ _ ⟨rfl, Nat.le_add_right _ _, Nat.add_lt_add_left (List.getElem?_eq_some_iff.1 hj).1 _⟩)
        rwa [Array.getD_eq_getD_getElem?, e, ← Array.getD_eq_getD_getElem?]
    · intro b b' l l' h h' hne y o hi hi'
      rcases lb b l h with ⟨j, m, h1, h2, h3⟩ | ⟨h1, h2⟩ <;> rcases lb b' l' h' with ⟨j', m', h1', h2', h3'⟩ | ⟨h1', h2'⟩
      · rw [h2, h3, spn j m h1] at hi
        rw [h2', h3', spn j' m' h1'] at hi'
        exact r.binj j j' m m' (by rw [hfinb, h1]; rfl) (by rw [hfinb, h1']; rfl) (fun e => hne (by rw [h2, h2', e])) y o hi hi'
      · rw [h2, h3, spn j m h1] at hi
        rw [spo b' l' (hbdb b' l' h1').1] at hi'
        rcases st.own _ _ (ownB j m h1 y o hi) with g | g
        · exact oldb b' l' h1' h2' y o hi' g
        · have := (hbdb b' l' h1').2; have := hi'.1; simp only [spb] at this; omega
      · rw [h2', h3', spn j' m' h1'] at hi'
        rw [spo b l (hbdb b l h1).1] at hi
        rcases st.own _ _ (ownB j' m' h1' y o hi') with g | g
        · exact oldb b l h1 h2 y o hi g
        · have := (hbdb b l h1).2; have := hi.1; simp only [spb] at this; omega
      · rw [spo b l (hbdb b l h1).1] at hi
        rw [spo b' l' (hbdb b' l' h1').1] at hi'
        exact hs.binj b b' l l' h1 h1' hne y o hi hi'
    · intro k h
      rcases lt k h with ⟨j, h1, h2⟩ | ⟨h1, h2⟩
      · obtain ⟨k1, k2⟩ := τn j h1
        rw [h2, k2]
        exact ⟨k1, (r.toks j ((hfint j).2 h1)).2⟩
      · obtain ⟨q1, q2⟩ := hs.toks k h1
        rw [τo k q1]
        refine ⟨.inl q1, fun hh => ?_⟩
        obtain ⟨q3, C, ty, q4, q5⟩ := q2 hh
        obtain ⟨C', p1, p2, _⟩ := st.chg.cells _ C ty _ q4
        exact ⟨q3, C', ty, p1, by omega⟩
    · intro k k' h h' hne b o hi hi'
      rcases lt k h with ⟨j, h1, h2⟩ | ⟨h1, h2⟩ <;> rcases lt k' h' with ⟨j', h1', h2'⟩ | ⟨h1', h2'⟩
      · rw [h2, (τn j h1).2] at hi
        rw [h2', (τn j' h1').2] at hi'
        exact r.tdis j j' ((hfint j).2 h1) ((hfint j').2 h1') (fun e => hne (by rw [h2, h2', e])) b o hi hi'
      · rw [h2, (τn j h1).2] at hi
        rw [τo k' (hs.toks k' h1').1] at hi'
        rcases st.own _ _ (ownT j h1 b o hi) with g | g
        · exact oldt k' h1' h2' b o hi' g
        · have := htlt k' h1' b o hi'; omega
      · rw [h2', (τn j' h1').2] at hi'
        rw [τo k (hs.toks k h1).1] at hi
        rcases st.own _ _ (ownT j' h1' b o hi') with g | g
        · exact oldt k h1 h2 b o hi g
        · have := htlt k h1 b o hi; omega
      · rw [τo k (hs.toks k h1).1] at hi
        rw [τo k' (hs.toks k' h1').1] at hi'
        exact hs.tdis k k' h1 h1' hne b o hi hi'
    · intro k i l h h' y o hi hi'
      rcases lt k h with ⟨j, h1, h2⟩ | ⟨h1, h2⟩ <;> rcases lb i l h' with ⟨j', m', h1', h2', h3'⟩ | ⟨h1', h2'⟩
      · rw [h2, (τn j h1).2] at hi
        rw [h2', h3', spn j' m' h1'] at hi'
        exact r.tbox j j' m' ((hfint j).2 h1) (by rw [hfinb, h1']; rfl) y o hi hi'
      · rw [h2, (τn j h1).2] at hi
        rw [spo i l (hbdb i l h1').1] at hi'
        rcases st.own _ _ (ownT j h1 _ o hi) with g | g
        · exact oldb i l h1' h2' y o hi' g
        · have := (hbdb i l h1').2; have := hi'.1; simp only [spb] at this; omega
      · rw [τo k (hs.toks k h1).1] at hi
        rw [h2', h3', spn j' m' h1'] at hi'
        rcases st.own _ _ (ownB j' m' h1' y o hi') with g | g
        · exact oldt k h1 h2 _ o hi g
        · have := htlt k h1 _ o hi; omega
      · rw [τo k (hs.toks k h1).1] at hi
        rw [spo i l (hbdb i l h1').1] at hi'
        exact hs.tbox k i l h1 h1' y o hi hi'
    · intro b o ho hI
      rcases own'' b o ho with g | ⟨g1, g2, g3⟩
      · exact r.sepI b o g hI
      · rcases st.In b o hI with q | q | q
        · exact hs.sepI b o g1 q
        · exact g2 q
        · omega
  have S : Step κ σ w (back κ κ' bs.length ts.length id) (δ' ++ σ) w' := by
    refine ⟨st.chg.mono hownκ, ?_, st.I_, ?_, fun b _ hb => ⟨.inl hb, ιo b hb⟩, fun k _ hk => ⟨.inl hk, τo k hk⟩⟩
    · intro b o ho
      rcases own'' b o ho with g | ⟨g1, _, _⟩
      · rcases st.own b o g with q | q
        · exact .inl (hownκ b o q)
        · exact .inr q
      · exact .inl g1
    · intro b o hI
      rcases st.In b o hI with q | q | q
      · exact .inl q
      · exact .inr (.inl (hownκ b o q))
      · exact .inr (.inr q)
  have G : Grow κ (back κ κ' bs.length ts.length id) id := by
    refine ⟨?_, ?_⟩
    · rintro b (hb | ⟨j, h1, h2, _, rfl⟩)
      · exact .inl hb
      · exact .inr ⟨by omega, by omega⟩
    · rintro b (hb | ⟨j, h1, h2, _, rfl⟩)
      · exact .inl hb
      · exact .inr ⟨by omega, by omega⟩
  have hres : RepV (back κ κ' bs.length ts.length id) w' (Abs.ren bs ts id res) v := by
    have := r.slots 0 res (by unfold finLog; rw [look_init_s]; rfl)
    exact RepV.ren rn (by simpa using this) i3
  cases d with
  | none =>
    refine ⟨δ', _, ?_, R, S, rfl, G⟩
    simpa [dstL, δ'] using hF
  | some d =>
    refine ⟨(.s d, .av (Abs.ren bs ts id res)) :: δ', _, ?_, R.put (hN d rfl) hres, S.trans Step.put, put_size, G⟩
    simpa [dstL, δ'] using hF
end
end Go.Abs
