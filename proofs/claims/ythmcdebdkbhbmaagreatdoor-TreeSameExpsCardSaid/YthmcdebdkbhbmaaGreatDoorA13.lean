/- An operation's effect is one, and hangs on what it reads alone. -/
import Derived.Test.YthmcdebdkbhbmaaGreatDoorA12
namespace Go.Abs
open Go

theorem ev_agree {σ σ' : Log} {x : Opd} (h : ∀ l, l ∈ opdR x → look σ' l = look σ l) : ev σ' x = ev σ x := by
  cases x with
  | t n => simp only [ev]; rw [h (.s n) (by simp [opdR])]
  | c v => rfl

theorem evs_agree {σ σ' : Log} : ∀ {xs : List Opd}, (∀ l, l ∈ opdsR xs → look σ' l = look σ l) → evs σ' xs = evs σ xs
  | [], _ => rfl
  | x :: r, h => by
    simp only [evs]
    rw [ev_agree fun l hl => h l (by simp [opdsR, hl]), evs_agree fun l hl => h l (by simp [opdsR, hl])]

theorem mem_keys {δ : Log} {l : Loc} : l ∈ keysL δ ↔ look δ l ≠ none := by
  induction δ with
  | nil => simp [keysL, look]
  | cons x r ih =>
    obtain ⟨k, c⟩ := x
    rw [keysL, look_cons, List.mem_cons, ih]
    by_cases h : k = l
    · simp [h]
    · have : ¬ l = k := fun e => h e.symm
      simp [h, this]

theorem optI_agree {σ σ' : Log} {x : Option Opd} {z : Int} {K : Int → Prop} (h : ∀ l, l ∈ optR x → look σ' l = look σ l) : optI σ' x z K = optI σ x z K := by
  cases x with
  | none => rfl
  | some x => simp only [optI]; rw [ev_agree h]

theorem optI_pick {σ : Log} {x : Option Opd} {z : Int} {K : Int → Prop} (h : optI σ x z K) : ∃ n, K n ∧ ∀ G : Int → Prop, G n → optI σ x z G := by
  cases x with
  | none => exact ⟨z, h, fun G g => g⟩
  | some x =>
    simp only [optI] at h ⊢
    split at h
    · rename_i n he; exact ⟨n, h, fun G g => g⟩
    · exact h.elim

theorem bld_pick {σ : Log} : ∀ {ps : List (Nat × Nat × Opd)} {z : List AV} {F : List AV → Prop}, bld σ ps z F → ∃ r, F r ∧ ∀ σ', (∀ l, l ∈ opdsR (ps.map fun p => p.2.2) → look σ' l = look σ l) → ∀ G : List AV → Prop, G r → bld σ' ps z G
  | [], z, F, h => ⟨z, h, fun _ _ G g => g⟩
  | (o, n, x) :: ps, z, F, h => by
    simp only [bld] at h
    obtain ⟨h1, h⟩ := frcL_iff.1 h
    split at h
    · rename_i hb
      split at h
      · rename_i z' hz
        obtain ⟨r, hr, hG⟩ := bld_pick h
        refine ⟨r, hr, fun σ' ha G g => ?_⟩
        simp only [bld]
        have e : ev σ' x = ev σ x := ev_agree fun l hl => ha l (by simp [opdsR, hl])
        rw [e, frcL_iff]
        refine ⟨h1, ?_⟩
        simp only [hb, hz]
        exact hG σ' (fun l hl => ha l (by simp only [List.map_cons, opdsR]; exact List.mem_append_right _ hl)) G g
      · exact h.elim
    · exact h.elim

theorem bslc_pick {σ : Log} {sz : Nat} : ∀ {ps : List Opd} {F : List (List Data) → Prop}, bslc σ sz ps F → ∃ r, F r ∧ ∀ σ', (∀ l, l ∈ opdsR ps → look σ' l = look σ l) → ∀ G : List (List Data) → Prop, G r → bslc σ' sz ps G
  | [], F, h => ⟨[], h, fun _ _ G g => g⟩
  | x :: ps, F, h => by
    simp only [bslc] at h
    obtain ⟨h1, h⟩ := frcL_iff.1 h
    split at h
    · exact h.elim
    · rename_i ds hds
      split at h
      · rename_i hb
        obtain ⟨r, hr, hG⟩ := bslc_pick h
        refine ⟨ds :: r, hr, fun σ' ha G g => ?_⟩
        simp only [bslc]
        have e : ev σ' x = ev σ x := ev_agree fun l hl => ha l (by simp [opdsR, hl])
        rw [e, frcL_iff]
        refine ⟨h1, ?_⟩
        simp only [hb, hds]
        exact hG σ' (fun l hl => ha l (by simp only [opdsR]; exact List.mem_append_right _ hl)) _ g
      · exact h.elim

theorem ldv_pick {d : Nat} {ag : Bool} {l : Option (List AV)} {F : Log → Prop} (h : ldv d ag l F) : ∃ δ, F δ ∧ ∀ G : Log → Prop, G δ → ldv d ag l G := by
  cases l with
  | none => exact h.elim
  | some l =>
    cases ag with
    | true =>
      obtain ⟨h1, h⟩ := frcL_iff.1 (show frcL l fun l => F [(.s d, .av (.agg l))] from h)
      exact ⟨_, h, fun G g => frcL_iff.2 ⟨h1, g⟩⟩
    | false =>
      simp only [ldv] at h ⊢
      split at h
      · obtain ⟨h1, h⟩ := frc1_iff.1 h
        exact ⟨_, h, fun G g => frc1_iff.2 ⟨h1, g⟩⟩
      · exact h.elim

theorem binI_pick {o : Bin} {k : IntKind} {a b : Int} {F : AV → Prop} (h : binI o k a b F) : ∃ v, F v ∧ ∀ G : AV → Prop, G v → binI o k a b G := by
  cases o <;> first | exact ⟨_, h, fun G g => g⟩ | exact ⟨_, h.2, fun G g => ⟨h.1, g⟩⟩

theorem binS_pick {o : Bin} {a b : List UInt8} {F : AV → Prop} (h : binS o a b F) : ∃ v, F v ∧ ∀ G : AV → Prop, G v → binS o a b G := by
  cases o <;> first | exact (show False from h).elim | exact ⟨_, h, fun G g => g⟩ | exact ⟨_, h.2, fun G g => ⟨h.1, g⟩⟩

theorem binP_pick {o : Bin} {x y : AV} {F : AV → Prop} (h : binP o x y F) : ∃ v, F v ∧ ∀ G : AV → Prop, G v → binP o x y G := by
  unfold binP at h
  split at h
  · rename_i k a k' b
    split at h
    · rename_i hk
      obtain ⟨v, h1, h2⟩ := binI_pick h
      refine ⟨v, h1, fun G g => ?_⟩
      simp only [binP, hk]
      exact h2 G g
    · exact h.elim
  · obtain ⟨v, h1, h2⟩ := binS_pick h
    exact ⟨v, h1, fun G g => h2 G g⟩
  · exact h.elim

theorem boxIs_agree {σ σ' : Log} {bs0 ts : List Nat} {id : Nat} : ∀ {bs : List Nat} {H : List (List AV)}, (∀ b, b ∈ bs → look σ' (.b b) = look σ (.b b)) → boxIs σ bs0 ts id bs H → boxIs σ' bs0 ts id bs H
  | [], [], _, h => h
  | b :: bs, h :: H, ha, hh => by
    obtain ⟨h1, h2⟩ := hh
    refine ⟨?_, boxIs_agree (fun b hb => ha b (by simp [hb])) h2⟩
    rw [ha b (by simp)]; exact h1
  | [], _ :: _, _, h => h.elim
  | _ :: _, [], _, h => h.elim

theorem liveAll_agree {σ σ' : Log} : ∀ {ts : List Nat}, (∀ b, b ∈ ts → look σ' (.t b) = look σ (.t b)) → liveAll σ ts → liveAll σ' ts
  | [], _, _ => trivial
  | b :: ts, ha, h => by
    obtain ⟨h1, h2⟩ := h
    refine ⟨?_, liveAll_agree (fun b hb => ha b (by simp [hb])) h2⟩
    rw [ha b (by simp)]; exact h1

theorem rb_mem {bs ts : List Nat} {id : Nat} : ∀ {H : List (List AV)} {n i : Nat}, i < H.length → Loc.b (rb bs id (n + i)) ∈ keysL (newBoxes bs ts id n H)
  | [], n, i, h => by simp at h
  | h :: H, n, i, hi => by
    simp only [newBoxes, keysL]
    cases i with
    | zero => simp
    | succ i =>
      have := rb_mem (bs := bs) (ts := ts) (id := id) (H := H) (n := n + 1) (i := i) (by simpa using hi)
      rw [show n + 1 + i = n + (i + 1) by omega] at this
      exact List.mem_cons_of_mem _ this

theorem off_mem : ∀ {ts : List Nat} {k : Nat}, k ∈ ts → Loc.t k ∈ keysL (offToks ts)
  | [], k, h => by cases h
  | x :: ts, k, h => by
    simp only [offToks, keysL]
    rcases List.mem_cons.1 h with rfl | h
    · simp
    · exact List.mem_cons_of_mem _ (off_mem h)

theorem keys_append {δ δ' : Log} {l : Loc} : l ∈ keysL (δ ++ δ') ↔ l ∈ keysL δ ∨ l ∈ keysL δ' := by
  induction δ with
  | nil => simp [keysL]
  | cons x r ih =>
    obtain ⟨k, c⟩ := x
    simp only [List.cons_append, keysL, List.mem_cons, ih, or_assoc]

theorem callP_pick {call : CallP} {σ : Log} {id : Nat} {d : Option Nat} {f : FuncId} {args : List AV} {F : Log → Prop} (h : callP call σ id d f args F) :
    ∃ δ, F δ ∧ ∀ σ', (∀ l, l ∈ keysL δ → look σ' l = look σ l) → callP call σ' id d f args (· = δ) := by
  rcases h with ⟨res, hc, hh, hF⟩ | ⟨bs, ts, args', H, H', res, hc, ⟨n1, n2, n3, n4, n5, n6, i1, i2, i3, i4, w1, w2, w3⟩, hF⟩
  · exact ⟨_, hF, fun σ' _ => .pure res hc hh rfl⟩
  · refine ⟨_, hF, fun σ' ha => .full bs ts args' H H' res hc ⟨n1, n2, n3, n4, n5, n6, i1, i2, i3, i4, w1, boxIs_agree ?_ w2, liveAll_agree ?_ w3⟩ rfl⟩
    · intro b hb
      refine ha _ (keys_append.2 (.inl (keys_append.2 (.inl (keys_append.2 (.inr ?_))))))
      obtain ⟨i, hi⟩ := List.mem_iff_getElem?.1 hb
      have hil := (List.getElem?_eq_some_iff.1 hi).1
      have := rb_mem (bs := bs) (ts := ts) (id := id) (H := H') (n := 0) (i := i) (Nat.lt_of_lt_of_le hil (Nat.le_of_ble_eq_true n3))
      simpa [rb, hi] using this
    · intro k hk
      exact ha _ (keys_append.2 (.inr (off_mem hk)))

theorem eff_pick {call : CallP} {σ : Log} {id : Nat} {o : AOp} {F : Log → Prop} (h : eff call σ id o F) :
    ∃ δ, F δ ∧ ∀ σ', (∀ l, l ∈ o.rd σ ∨ l ∈ keysL δ → look σ' l = look σ l) → eff call σ' id o (· = δ) := by
  have E : ∀ {σ' : Log} {x : Opd} {R : List Loc} {δ : Log}, (∀ l, l ∈ R ∨ l ∈ keysL δ → look σ' l = look σ l) → (∀ l, l ∈ opdR x → l ∈ R) → ev σ' x = ev σ x :=
    fun ha hx => ev_agree fun l hl => ha l (.inl (hx l hl))
  cases o with
  | mv d x =>
    obtain ⟨h1, h⟩ := frc_iff.1 (show frc (ev σ x) fun v => F [(.s d, .av v)] from h)
    refine ⟨_, h, fun σ' ha => ?_⟩
    simp only [eff]
    rw [E ha (fun l hl => hl), frc_iff]; exact ⟨h1, rfl⟩
  | pick d c a b =>
    simp only [eff] at h
    split at h
    · rename_i t ht
      cases t with
      | true =>
        obtain ⟨h1, h⟩ := frc_iff.1 h
        refine ⟨_, h, fun σ' ha => ?_⟩
        simp only [eff]
        rw [E ha (x := c) (fun l hl => by simp [AOp.rd, hl]), E ha (x := a) (fun l hl => by simp [AOp.rd, hl]), ht]
        exact frc_iff.2 ⟨h1, rfl⟩
      | false =>
        obtain ⟨h1, h⟩ := frc_iff.1 h
        refine ⟨_, h, fun σ' ha => ?_⟩
        simp only [eff]
        rw [E ha (x := c) (fun l hl => by simp [AOp.rd, hl]), E ha (x := b) (fun l hl => by simp [AOp.rd, hl]), ht]
        exact frc_iff.2 ⟨h1, rfl⟩
    · exact h.elim
  | box d x =>
    obtain ⟨h1, h⟩ := frcL_iff.1 (show frcL (flat (ev σ x)) fun l => F [(.s d, .av (.ptr id 0)), (.b id, .bx l)] from h)
    refine ⟨_, h, fun σ' ha => ?_⟩
    show frcL (flat (ev σ' x)) _
    rw [E ha (fun l hl => hl), frcL_iff]; exact ⟨h1, rfl⟩
  | alloc d z => exact ⟨_, h, fun σ' _ => rfl⟩
  | build d z ps =>
    obtain ⟨r, hr, hG⟩ := bld_pick (show bld σ ps z fun z => frcL z fun z => F [(.s d, .av (.agg z))] from h)
    obtain ⟨h1, h⟩ := frcL_iff.1 hr
    exact ⟨_, h, fun σ' ha => hG σ' (fun l hl => ha l (.inl hl)) _ (frcL_iff.2 ⟨h1, rfl⟩)⟩
  | bsl d sz xs =>
    obtain ⟨r, hr, hG⟩ := bslc_pick (show bslc σ sz xs fun els => F [(.s d, .av (.sl sz els .full))] from h)
    exact ⟨_, hr, fun σ' ha => hG σ' (fun l hl => ha l (.inl hl)) _ rfl⟩
  | ld d n ag a =>
    simp only [eff] at h
    split at h
    · rename_i b o' he
      split at h
      · rename_i l hl
        obtain ⟨δ, hF, hG⟩ := ldv_pick h
        refine ⟨δ, hF, fun σ' ha => ?_⟩
        simp only [eff]
        rw [E ha (x := a) (fun l hl => by simp [AOp.rd, hl]), he]
        simp only
        rw [ha (.b b) (.inl (by simp [AOp.rd, he])), hl]
        exact hG _ rfl
      · exact h.elim
    · rename_i l o' he
      obtain ⟨δ, hF, hG⟩ := ldv_pick h
      refine ⟨δ, hF, fun σ' ha => ?_⟩
      simp only [eff]
      rw [E ha (x := a) (fun l hl => by simp [AOp.rd, hl]), he]
      exact hG _ rfl
    · exact h.elim
  | st a n x =>
    simp only [eff] at h
    split at h
    · rename_i b o' he
      split at h
      · rename_i l hl
        obtain ⟨h1, h⟩ := frcL_iff.1 h
        split at h
        · rename_i hb
          split at h
          · rename_i r hr
            obtain ⟨h2, h⟩ := frcL_iff.1 h
            refine ⟨_, h, fun σ' ha => ?_⟩
            simp only [eff]
            rw [E ha (x := a) (fun l hl => by simp [AOp.rd, hl]), E ha (x := x) (fun l hl => by simp [AOp.rd, hl]), he]
            simp only
            rw [ha (.b b) (.inr (by simp [keysL])), hl]
            simp only
            rw [frcL_iff]
            refine ⟨h1, ?_⟩
            simp only [hb, hr]
            exact frcL_iff.2 ⟨h2, rfl⟩
          · exact h.elim
        · exact h.elim
      · exact h.elim
    · exact h.elim
  | nc d x =>
    simp only [eff] at h
    split at h
    all_goals first | exact h.elim | skip
    all_goals
      rename_i he
      refine ⟨_, h, fun σ' ha => ?_⟩
      simp only [eff]
      rw [E ha (fun l hl => hl), he]
  | bin d o x y =>
    obtain ⟨v, hv, hG⟩ := binP_pick (show binP o (ev σ x) (ev σ y) fun v => F [(.s d, .av v)] from h)
    refine ⟨_, hv, fun σ' ha => ?_⟩
    show binP o (ev σ' x) (ev σ' y) _
    rw [E ha (x := x) (fun l hl => by simp [AOp.rd, hl]), E ha (x := y) (fun l hl => by simp [AOp.rd, hl])]
    exact hG _ rfl
  | binB d ng x y =>
    simp only [eff] at h
    split at h
    · rename_i p q he1 he2
      cases ng <;> simp only at h
      all_goals
        refine ⟨_, h, fun σ' ha => ?_⟩
        simp only [eff]
        rw [E ha (x := x) (fun l hl => by simp [AOp.rd, hl]), E ha (x := y) (fun l hl => by simp [AOp.rd, hl]), he1, he2]
    · exact h.elim
  | no d x =>
    simp only [eff] at h
    split at h
    · rename_i t he
      refine ⟨_, h, fun σ' ha => ?_⟩
      simp only [eff]
      rw [E ha (fun l hl => hl), he]
    · exact h.elim
  | fa d x off =>
    simp only [eff] at h
    split at h
    all_goals first | exact h.elim | skip
    all_goals
      rename_i he
      refine ⟨_, h, fun σ' ha => ?_⟩
      simp only [eff]
      rw [E ha (fun l hl => hl), he]
  | fld d x off n ag =>
    simp only [eff] at h
    split at h
    · rename_i l he
      obtain ⟨δ, hF, hG⟩ := ldv_pick h
      refine ⟨δ, hF, fun σ' ha => ?_⟩
      simp only [eff]
      rw [E ha (fun l hl => hl), he]
      exact hG _ rfl
    · exact h.elim
  | ia d sz x i =>
    simp only [eff] at h
    split at h
    · rename_i z els t k n he1 he2
      split at h
      · rename_i hb
        obtain ⟨e, h1, h⟩ := h
        refine ⟨_, h, fun σ' ha => ?_⟩
        simp only [eff]
        rw [E ha (x := x) (fun l hl => by simp [AOp.rd, hl]), E ha (x := i) (fun l hl => by simp [AOp.rd, hl]), he1, he2]
        simp only [hb]
        exact ⟨e, h1, rfl⟩
      · exact h.elim
    · rename_i z els b m t k n he1 he2
      split at h
      · rename_i hb
        obtain ⟨h1, h⟩ := h
        refine ⟨_, h, fun σ' ha => ?_⟩
        simp only [eff]
        rw [E ha (x := x) (fun l hl => by simp [AOp.rd, hl]), E ha (x := i) (fun l hl => by simp [AOp.rd, hl]), he1, he2]
        simp only [hb]
        exact ⟨h1, by first | rfl | trivial⟩
      · exact h.elim
    · exact h.elim
  | ix d x i =>
    simp only [eff] at h
    split at h
    · rename_i l k n he1 he2
      obtain ⟨e, h1, h⟩ := h
      refine ⟨_, h, fun σ' ha => ?_⟩
      simp only [eff]
      rw [E ha (x := x) (fun l hl => by simp [AOp.rd, hl]), E ha (x := i) (fun l hl => by simp [AOp.rd, hl]), he1, he2]
      exact ⟨e, h1, rfl⟩
    · exact h.elim
  | slS d x lo hi =>
    simp only [eff] at h
    split at h
    · rename_i l he
      obtain ⟨p, h, g1⟩ := optI_pick h
      obtain ⟨q, h, g2⟩ := optI_pick h
      refine ⟨_, h.2, fun σ' ha => ?_⟩
      simp only [eff]
      rw [E ha (x := x) (fun l hl => by simp [AOp.rd, hl]), he]
      simp only
      rw [optI_agree fun l hl => ha l (.inl (by simp [AOp.rd, hl]))]
      refine g1 _ ?_
      rw [optI_agree fun l hl => ha l (.inl (by simp [AOp.rd, hl]))]
      exact g2 _ ⟨h.1, rfl⟩
    · exact h.elim
  | slL d sz x lo hi mx =>
    simp only [eff] at h
    split at h
    · rename_i z b n t he
      split at h
      · rename_i hb
        split at h
        · rename_i hi' l hl
          obtain ⟨q, ⟨h1, h⟩, g2⟩ := optI_pick h
          cases t with
          | none => exact h.elim
          | full =>
            refine ⟨_, h, fun σ' ha => ?_⟩
            simp only [eff]
            rw [E ha (x := x) (fun l hl => by simp [AOp.rd, hl]), he]
            simp only [hb]
            rw [ha (.b b) (.inr (by simp [keysL])), hl]
            simp only
            rw [optI_agree fun l hl => ha l (.inl (by simp [AOp.rd, hl]))]
            exact g2 _ ⟨h1, by first | rfl | trivial⟩
          | t k =>
            simp only at h
            split at h
            · rename_i hk
              refine ⟨_, h, fun σ' ha => ?_⟩
              simp only [eff]
              rw [E ha (x := x) (fun l hl => by simp [AOp.rd, hl]), he]
              simp only [hb]
              rw [ha (.b b) (.inr (by simp [keysL])), hl]
              simp only
              rw [optI_agree fun l hl => ha l (.inl (by simp [AOp.rd, hl]))]
              refine g2 _ ⟨h1, ?_⟩
              rw [ha (.t k) (.inr (by simp [keysL])), hk]
              first | exact rfl | trivial
            · exact h.elim
        · exact h.elim
      · exact h.elim
    · rename_i z els t he
      split at h
      · rename_i hb
        obtain ⟨p, h, g1⟩ := optI_pick h
        obtain ⟨q, h, g2⟩ := optI_pick h
        cases mx with
        | none =>
          simp only at h
          obtain ⟨t', h⟩ := h
          refine ⟨_, h.2, fun σ' ha => ?_⟩
          simp only [eff]
          rw [E ha (x := x) (fun l hl => by simp [AOp.rd, hl]), he]
          simp only [hb]
          rw [optI_agree fun l hl => ha l (.inl (by simp [AOp.rd, hl]))]
          refine g1 _ ?_
          rw [optI_agree fun l hl => ha l (.inl (by simp [AOp.rd, hl]))]
          exact g2 _ ⟨t', h.1, by first | rfl | trivial⟩
        | some mx =>
          simp only at h
          obtain ⟨r, h, g3⟩ := optI_pick h
          refine ⟨_, h.2, fun σ' ha => ?_⟩
          simp only [eff]
          rw [E ha (x := x) (fun l hl => by simp [AOp.rd, hl]), he]
          simp only [hb]
          rw [optI_agree fun l hl => ha l (.inl (by simp [AOp.rd, hl]))]
          refine g1 _ ?_
          rw [optI_agree fun l hl => ha l (.inl (by simp [AOp.rd, hl]))]
          refine g2 _ ?_
          simp only
          rw [optI_agree fun l hl => ha l (.inl (by simp [AOp.rd, hl]))]
          exact g3 _ ⟨h.1, by first | rfl | trivial⟩
      · exact h.elim
    · exact h.elim
  | cvi d k x =>
    simp only [eff] at h
    split at h
    · rename_i k' n he
      refine ⟨_, h.2, fun σ' ha => ?_⟩
      simp only [eff]
      rw [E ha (fun l hl => hl), he]
      exact ⟨h.1, by first | rfl | trivial⟩
    · exact h.elim
  | ext d x i =>
    simp only [eff] at h
    split at h
    · rename_i l he
      split at h
      · rename_i v hv
        obtain ⟨h1, h⟩ := frc_iff.1 h
        refine ⟨_, h, fun σ' ha => ?_⟩
        simp only [eff]
        rw [E ha (fun l hl => hl), he]
        simp only [hv]
        exact frc_iff.2 ⟨h1, rfl⟩
      · exact h.elim
    · exact h.elim
  | call d f as_ =>
    simp only [eff] at h
    split at h
    · rename_i f' caps he
      obtain ⟨δ, hF, hG⟩ := callP_pick h
      refine ⟨δ, hF, fun σ' ha => ?_⟩
      simp only [eff]
      rw [E ha (x := f) (fun l hl => by simp [AOp.rd, hl]), he]
      simp only
      rw [evs_agree fun l hl => ha l (.inl (by simp [AOp.rd, hl]))]
      exact hG σ' fun l hl => ha l (.inr hl)
    · exact h.elim
  | app d sz by_ s x =>
    simp only [eff] at h
    split at h
    · rename_i z e1 t1 z' e2 t2 he1 he2
      split at h
      · rename_i hb1 hb2
        split at h
        · exact h.elim
        · refine ⟨_, h.2, fun σ' ha => ?_⟩
          simp only [eff]
          rw [E ha (x := s) (fun l hl => by simp [AOp.rd, hl]), E ha (x := x) (fun l hl => by simp [AOp.rd, hl]), he1, he2]
          simp only [hb1, hb2]
          exact ⟨h.1, by first | rfl | trivial⟩
        · rename_i k
          split at h
          · rename_i hk
            refine ⟨_, h.2, fun σ' ha => ?_⟩
            simp only [eff]
            rw [E ha (x := s) (fun l hl => by simp [AOp.rd, hl]), E ha (x := x) (fun l hl => by simp [AOp.rd, hl]), he1, he2]
            simp only [hb1, hb2]
            rw [ha (.t k) (.inr (by simp [keysL])), hk]
            exact ⟨h.1, by first | rfl | trivial⟩
          · exact h.elim
      · exact h.elim
    · exact h.elim
  | len d x =>
    simp only [eff] at h
    split at h
    · rename_i he
      refine ⟨_, h, fun σ' ha => ?_⟩
      simp only [eff]
      rw [E ha (fun l hl => hl), he]
    · rename_i he
      refine ⟨_, h, fun σ' ha => ?_⟩
      simp only [eff]
      rw [E ha (fun l hl => hl), he]
    · exact h.elim
  | lenS d x =>
    simp only [eff] at h
    split at h
    · rename_i he
      refine ⟨_, h, fun σ' ha => ?_⟩
      simp only [eff]
      rw [E ha (fun l hl => hl), he]
    · exact h.elim
  | mx d x y =>
    simp only [eff] at h
    split at h
    · rename_i p q he1 he2
      refine ⟨_, h, fun σ' ha => ?_⟩
      simp only [eff]
      rw [E ha (x := x) (fun l hl => by simp [AOp.rd, hl]), E ha (x := y) (fun l hl => by simp [AOp.rd, hl]), he1, he2]
    · exact h.elim
  | mkf d f caps =>
    obtain ⟨h1, h⟩ := frcL_iff.1 (show frcL (evs σ caps) fun caps => F [(.s d, .av (.fn f caps))] from h)
    refine ⟨_, h, fun σ' ha => ?_⟩
    show frcL (evs σ' caps) _
    rw [evs_agree fun l hl => ha l (.inl hl), frcL_iff]; exact ⟨h1, rfl⟩
  | mk d sz by_ z x =>
    simp only [eff] at h
    split at h
    · rename_i n he
      refine ⟨_, h.2, fun σ' ha => ?_⟩
      simp only [eff]
      rw [E ha (fun l hl => hl), he]
      exact ⟨h.1, by first | rfl | trivial⟩
    · exact h.elim
  | mkF d sz by_ z x =>
    simp only [eff] at h
    split at h
    · rename_i n he
      refine ⟨_, h.2, fun σ' ha => ?_⟩
      simp only [eff]
      rw [E ha (fun l hl => hl), he]
      exact ⟨h.1, by first | rfl | trivial⟩
    · exact h.elim
  | bslM d sz xs =>
    obtain ⟨r, hr, hG⟩ := bslc_pick (show bslc σ sz xs fun els => F [(.s d, .av (.mx sz [] id els.length .full)), (.b id, .bx (els.flatten.map dcell))] from h)
    exact ⟨_, hr, fun σ' ha => hG σ' (fun l hl => ha l (.inl hl)) _ rfl⟩
  | appM d sz by_ s x =>
    simp only [eff] at h
    split at h
    · rename_i z e1 t1 z' e2 t2 he1 he2
      split at h
      · rename_i hb1 hb2
        split at h
        · exact h.elim
        · refine ⟨_, h.2, fun σ' ha => ?_⟩
          simp only [eff]
          rw [E ha (x := s) (fun l hl => by simp [AOp.rd, hl]), E ha (x := x) (fun l hl => by simp [AOp.rd, hl]), he1, he2]
          simp only [hb1, hb2]
          exact ⟨h.1, by first | rfl | trivial⟩
        · rename_i k
          split at h
          · rename_i hk
            refine ⟨_, h.2, fun σ' ha => ?_⟩
            simp only [eff]
            rw [E ha (x := s) (fun l hl => by simp [AOp.rd, hl]), E ha (x := x) (fun l hl => by simp [AOp.rd, hl]), he1, he2]
            simp only [hb1, hb2]
            rw [ha (.t k) (.inr (by simp [keysL])), hk]
            exact ⟨h.1, by first | rfl | trivial⟩
          · exact h.elim
      · exact h.elim
    · exact h.elim
  | cap d x =>
    simp only [eff] at h
    split at h
    · rename_i he
      refine ⟨_, h, fun σ' ha => ?_⟩
      simp only [eff]
      rw [E ha (fun l hl => hl), he]
    · rename_i he
      refine ⟨_, h, fun σ' ha => ?_⟩
      simp only [eff]
      rw [E ha (fun l hl => hl), he]
    · exact h.elim
  | iaG d cells sz x =>
    simp only [eff] at h
    split at h
    · rename_i n he
      refine ⟨_, h.2, fun σ' ha => ?_⟩
      simp only [eff]
      rw [E ha (fun l hl => hl), he]
      exact ⟨h.1, by first | rfl | trivial⟩
    · exact h.elim
  | eqA d ng ks x y =>
    simp only [eff] at h
    split at h
    · rename_i p q he1 he2
      split at h
      · rename_i b hb
        cases ng <;> simp only at h
        all_goals
          refine ⟨_, h, fun σ' ha => ?_⟩
          simp only [eff]
          rw [E ha (x := x) (fun l hl => by simp [AOp.rd, hl]), E ha (x := y) (fun l hl => by simp [AOp.rd, hl]), he1, he2]
          simp only [hb]
      · exact h.elim
    · exact h.elim
  | appZ d sz by_ z s x =>
    simp only [eff] at h
    split at h
    · rename_i q n he1 he2
      split at h
      · rename_i hb1
        refine ⟨_, h.2, fun σ' ha => ?_⟩
        simp only [eff]
        rw [E ha (x := s) (fun l hl => by simp [AOp.rd, hl]), E ha (x := x) (fun l hl => by simp [AOp.rd, hl]), he1, he2]
        simp only [hb1]
        exact ⟨h.1, by first | rfl | trivial⟩
      · exact h.elim
    · exact h.elim
end Go.Abs
