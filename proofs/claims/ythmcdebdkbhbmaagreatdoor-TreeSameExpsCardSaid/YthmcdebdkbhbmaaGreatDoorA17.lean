/- Less is known: the log at a loop's head. -/
import Derived.Test.YthmcdebdkbhbmaaGreatDoorA16
namespace Go.Abs
open Go

def ρτ (κ : Gh) (ρ : List (Nat × Nat)) (k : Nat) : Nat × Nat × Nat := match Nat.blt k 1000 with
  | true => κ.τ k
  | false => match assoc ρ k with
    | some k' => κ.τ k'
    | none => (0, 0, 0)

def less (κ : Gh) (ρ : List (Nat × Nat)) (n : Nat) : Gh := {
  I := κ.I
  Db := fun b => κ.Db b ∧ b < n
  Dt := fun k => k < n ∧ (k < 1000 → κ.Dt k)
  ι := κ.ι
  τ := ρτ κ ρ }

section
variable {W0 : World} {κ : Gh} {σ σ' : Log} {a : Act} {w : World} {ρ : List (Nat × Nat)} {n : Nat}

theorem tokR_less {t t' : Tok} {z : Nat} {x : Value} (ht : tokR ρ t t') (hb : ∀ k, t' = .t k → k < n) (h2 : tokOK κ z t x) : tokOK (less κ ρ n) z t' x := by
  unfold tokR at ht
  split at ht
  · trivial
  · exact h2
  · rename_i k
    split at ht
    · exact ht.elim
    · rename_i hk
      have hkn : k < n := hb k rfl
      have hk' : ¬ k < 1000 := fun hh => by rw [← Nat.blt_eq] at hh; rw [hh] at hk; cases hk
      exact ⟨⟨hkn, fun hh => absurd hh hk'⟩, fun A m c e l => absurd (h2 A m c e) (by omega)⟩
  · rename_i k' k
    have hkn : k < n := hb k rfl
    split at ht
    · rename_i hk
      subst ht
      refine ⟨⟨hkn, fun _ => h2.1⟩, fun A m c e l => ?_⟩
      simp only [less, ρτ, hk]
      exact h2.2 A m c e l
    · rename_i hk
      have hk' : ¬ k < 1000 := fun hh => by rw [← Nat.blt_eq] at hh; rw [hh] at hk; cases hk
      refine ⟨⟨hkn, fun hh => absurd hh hk'⟩, fun A m c e l => ?_⟩
      simp only [less, ρτ, hk, ht]
      exact h2.2 A m c e l
  · exact ht.elim

theorem RepV.less1 {u v : AV} {x : Value} (hu : RepV κ w u x) (h : wkR1 ρ u v) (hb : below1 n v = true) : RepV (less κ ρ n) w v x := by
  unfold wkR1 at h
  split at h
  · rename_i z e t z' e' t'
    obtain ⟨rfl, rfl, ht⟩ := h
    obtain ⟨h1, h2⟩ := hu.sl_inv
    refine .sl z e t' x h1 (tokR_less ht (fun k e => ?_) h2)
    subst e
    simpa [below1, Nat.blt_eq] using hb
  · rename_i z e b m t z' e' b' m' t'
    obtain ⟨rfl, rfl, rfl, rfl, ht⟩ := h
    obtain ⟨off, cap, h1, h2, h3, h4, h5, rfl⟩ := hu.mx_inv
    have hh : b < n ∧ ∀ k, t' = .t k → k < n := by
      cases t' with
      | none => exact ⟨by simpa [below1, Nat.blt_eq] using hb, fun k e => by cases e⟩
      | full => exact ⟨by simpa [below1, Nat.blt_eq] using hb, fun k e => by cases e⟩
      | t j =>
        simp only [below1] at hb
        split at hb
        · rename_i hj
          exact ⟨by simpa [Nat.blt_eq] using hb, fun k e => by cases e; simpa [Nat.blt_eq] using hj⟩
        · cases hb
    exact RepV.mx (κ := less κ ρ n) z e b m t' off cap ⟨h1, hh.1⟩ h2 h3 h4 (tokR_less ht hh.2 h5)
  · exact .bad x
  · subst h
    cases hu with
    | sc c => exact .sc c
    | ptr b o hd => exact RepV.ptr (κ := less κ ρ n) b o ⟨hd, by simpa [below1, Nat.blt_eq] using hb⟩
    | elp cells o b q hc => exact .elp cells o b q hc
    | sl z e t x' h1 h2 =>
      rename_i _ hnot _
      exact (hnot z e t z e t rfl rfl).elim
    | mx z e b m t off cap =>
      rename_i hnot
      exact (hnot z e b m t z e b m t rfl rfl).elim
    | fn => cases hb
    | agg => cases hb
    | tup => cases hb
    | bad => exact .bad x

theorem wkRL1_spec : ∀ {l m : List AV}, wkRL1 ρ l m → m.length = l.length ∧ ∀ (j : Nat) (u : AV), m[j]? = some u → ∃ v, l[j]? = some v ∧ wkR1 ρ v u
  | [], [], _ => ⟨rfl, fun j u h => by simp at h⟩
  | x :: l, y :: m, h => by
    obtain ⟨h1, h2⟩ := h
    obtain ⟨g1, g2⟩ := wkRL1_spec h2
    refine ⟨by simp [g1], fun j u hj => ?_⟩
    cases j with
    | zero => simp at hj; subst hj; exact ⟨x, rfl, h1⟩
    | succ j => simpa using g2 j u (by simpa using hj)
  | [], _ :: _, h => h.elim
  | _ :: _, [], h => h.elim

theorem wkRL2_spec : ∀ {l m : List AV}, wkRL2 ρ l m → m.length = l.length ∧ ∀ (j : Nat) (u : AV), m[j]? = some u → ∃ v, l[j]? = some v ∧ wkR2 ρ v u
  | [], [], _ => ⟨rfl, fun j u h => by simp at h⟩
  | x :: l, y :: m, h => by
    obtain ⟨h1, h2⟩ := h
    obtain ⟨g1, g2⟩ := wkRL2_spec h2
    refine ⟨by simp [g1], fun j u hj => ?_⟩
    cases j with
    | zero => simp at hj; subst hj; exact ⟨x, rfl, h1⟩
    | succ j => simpa using g2 j u (by simpa using hj)
  | [], _ :: _, h => h.elim
  | _ :: _, [], h => h.elim

theorem belowL1_spec : ∀ {l : List AV}, belowL1 n l = true → ∀ v, v ∈ l → below1 n v = true
  | [], _, v, h => by cases h
  | x :: r, h, v, hv => by
    simp only [belowL1] at h
    split at h
    · rename_i hx
      rcases List.mem_cons.1 hv with rfl | hv
      · exact hx
      · exact belowL1_spec h v hv
    · cases h
theorem belowL2_spec : ∀ {l : List AV}, belowL2 n l = true → ∀ v, v ∈ l → below2 n v = true
  | [], _, v, h => by cases h
  | x :: r, h, v, hv => by
    simp only [belowL2] at h
    split at h
    · rename_i hx
      rcases List.mem_cons.1 hv with rfl | hv
      · exact hx
      · exact belowL2_spec h v hv
    · cases h
theorem oneL_spec : ∀ {l : List AV}, oneL l = true → ∀ v, v ∈ l → one v = true
  | [], _, v, h => by cases h
  | x :: r, h, v, hv => by
    simp only [oneL] at h
    split at h
    · rename_i hx
      rcases List.mem_cons.1 hv with rfl | hv
      · exact hx
      · exact oneL_spec h v hv
    · cases h

theorem wkR1_one {u v : AV} (h : wkR1 ρ u v) (h1 : one u = true) : v = .bad ∨ one v = true := by
  unfold wkR1 at h
  split at h
  · exact .inr rfl
  · exact .inr rfl
  · exact .inl rfl
  · subst h; exact .inr h1

theorem RepV.less2 {u v : AV} {x : Value} (hu : RepV κ w u x) (h : wkR2 ρ u v) (hb : below2 n v = true) : RepV (less κ ρ n) w v x := by
  unfold wkR2 at h
  split at h
  · obtain ⟨rfl, h⟩ := h
    obtain ⟨vs, rfl, hs, hc⟩ := hu.fn_inv
    obtain ⟨g1, g2⟩ := wkRL1_spec h
    refine .fn _ _ vs (by rw [hs, g1]) fun j u hj => ?_
    obtain ⟨v, h1, h2⟩ := g2 j u hj
    exact (hc j v h1).less1 h2 (belowL1_spec hb u (List.mem_of_getElem? hj))
  · rename_i l l'
    obtain ⟨vs, rfl, hl⟩ := hu.agg_inv
    obtain ⟨g1, g2⟩ := wkRL1_spec h
    refine .agg _ vs (by rw [hl.1, g1]) ?_ fun j u hj => ?_
    · intro u hu'
      obtain ⟨j, hj⟩ := List.mem_iff_getElem?.1 hu'
      obtain ⟨v, h1, h2⟩ := g2 j u hj
      rcases wkR1_one h2 (hl.2.1 v (List.mem_of_getElem? h1)) with rfl | h
      · have := belowL1_spec (show belowL1 n l' = true from hb) _ hu'
        simp [below1] at this
      · exact h
    · obtain ⟨v, h1, h2⟩ := g2 j u hj
      exact (hl.2.2 j v h1).less1 h2 (belowL1_spec (show belowL1 n l' = true from hb) u (List.mem_of_getElem? hj))
  · obtain ⟨vs, rfl, hs, hc⟩ := hu.tup_inv
    obtain ⟨g1, g2⟩ := wkRL1_spec h
    refine .tup _ vs (by rw [hs, g1]) fun j u hj => ?_
    obtain ⟨v, h1, h2⟩ := g2 j u hj
    exact (hc j v h1).less1 h2 (belowL1_spec hb u (List.mem_of_getElem? hj))
  · rename_i hn1 hn2 hn3
    by_cases hv : (∃ f c, v = .fn f c) ∨ (∃ l, v = .agg l) ∨ (∃ l, v = .tup l)
    · exfalso
      unfold wkR1 at h
      split at h
      · rcases hv with ⟨_, _, e⟩ | ⟨_, e⟩ | ⟨_, e⟩ <;> cases e
      · rcases hv with ⟨_, _, e⟩ | ⟨_, e⟩ | ⟨_, e⟩ <;> cases e
      · rcases hv with ⟨_, _, e⟩ | ⟨_, e⟩ | ⟨_, e⟩ <;> cases e
      · subst h
        rcases hv with ⟨f, c, e⟩ | ⟨l, e⟩ | ⟨l, e⟩
        · exact hn1 f c f c e e
        · exact hn2 l l e e
        · exact hn3 l l e e
    · have hb' : below1 n v = true := by
        cases v <;> first | exact hb | exact absurd (by simp) hv
      exact hu.less1 h hb'

theorem RepL.less {l m : List AV} {C : Array Value} (hl : RepL κ w l C) (h : wkRL2 ρ l m) (hb : belowL2 n m = true) (h1 : oneL m = true) : RepL (less κ ρ n) w m C := by
  obtain ⟨g1, g2⟩ := wkRL2_spec h
  refine ⟨by rw [hl.1, g1], oneL_spec h1, fun j u hj => ?_⟩
  obtain ⟨v, h1, h2⟩ := g2 j u hj
  exact (hl.2.2 j v h1).less2 h2 (belowL2_spec hb u (List.mem_of_getElem? hj))

theorem RepC.less {l m : List AV} {C : Array Value} {o : Nat} (hl : RepC κ w l C o) (h : wkRL2 ρ l m) (hb : belowL2 n m = true) (h1 : oneL m = true) : RepC (less κ ρ n) w m C o := by
  have g := repC_iff.1 hl
  have g1 := (wkRL2_spec h).1
  refine repC_iff.2 ⟨by rw [g1]; exact g.1, ?_⟩
  rw [g1]
  exact g.2.less h hb h1

theorem leP_s : ∀ {τ : Log}, leP ρ σ τ → belowC n τ = true → ∀ m v, look τ (.s m) = some (.av v) → (∃ u, look σ (.s m) = some (.av u) ∧ wkR2 ρ u v) ∧ below2 n v = true
  | [], _, _, m, v, h => by simp [look] at h
  | (k, c) :: τ, hl, hb, m, v, h => by
    rw [look_cons] at h
    cases k with
    | s k =>
      cases c with
      | av x =>
        simp only [leP] at hl
        simp only [belowC] at hb
        split at hb
        · rename_i hx
          by_cases e : k = m
          · subst e
            simp at h; subst h
            refine ⟨?_, hx⟩
            obtain ⟨h1, _⟩ := hl
            split at h1
            · rename_i u hu; exact ⟨u, hu, h1⟩
            · exact h1.elim
          · simp [e] at h; exact leP_s hl.2 hb m v h
        · cases hb
      | bx => simp [leP] at hl
      | tk => simp [leP] at hl
    | b k =>
      cases c with
      | bx x =>
        simp only [leP] at hl
        simp only [belowC] at hb
        split at hb
        · simp at h; exact leP_s hl.2 hb m v h
        · cases hb
      | av => simp [leP] at hl
      | tk =>
        simp only [leP] at hl
        simp only [belowC] at hb
        simp at h
        exact leP_s hl hb m v h
    | t k =>
      cases c with
      | tk on =>
        simp only [belowC] at hb
        split at hb
        · simp at h
          cases on with
          | true => simp only [leP] at hl; exact leP_s hl.2 hb m v h
          | false => simp only [leP] at hl; exact leP_s hl hb m v h
        · cases hb
      | av => simp [leP] at hl
      | bx => simp [leP] at hl

theorem leP_b : ∀ {τ : Log}, leP ρ σ τ → belowC n τ = true → ∀ m v, look τ (.b m) = some (.bx v) → (∃ u, look σ (.b m) = some (.bx u) ∧ wkRL2 ρ u v) ∧ belowL2 n v = true ∧ oneL v = true ∧ m < n
  | [], _, _, m, v, h => by simp [look] at h
  | (k, c) :: τ, hl, hb, m, v, h => by
    rw [look_cons] at h
    cases k with
    | s k =>
      cases c with
      | av x =>
        simp only [leP] at hl
        simp only [belowC] at hb
        split at hb
        · simp at h; exact leP_b hl.2 hb m v h
        · cases hb
      | bx => simp [leP] at hl
      | tk => simp [leP] at hl
    | b k =>
      cases c with
      | bx x =>
        simp only [leP] at hl
        simp only [belowC] at hb
        split at hb
        · rename_i hx1 hx2 hx3
          by_cases e : k = m
          · subst e
            simp at h; subst h
            refine ⟨?_, hx2, hx3, by simpa [Nat.blt_eq] using hx1⟩
            obtain ⟨h1, _⟩ := hl
            split at h1
            · rename_i u hu; exact ⟨u, hu, h1⟩
            · exact h1.elim
          · simp [e] at h; exact leP_b hl.2 hb m v h
        · cases hb
      | av => simp [leP] at hl
      | tk =>
        simp only [leP] at hl
        simp only [belowC] at hb
        by_cases e : k = m
        · simp [e] at h
        · simp [e] at h; exact leP_b hl hb m v h
    | t k =>
      cases c with
      | tk on =>
        simp only [belowC] at hb
        split at hb
        · simp at h
          cases on with
          | true => simp only [leP] at hl; exact leP_b hl.2 hb m v h
          | false => simp only [leP] at hl; exact leP_b hl hb m v h
        · cases hb
      | av => simp [leP] at hl
      | bx => simp [leP] at hl

/-- what a live token of the younger log stands for -/
def Stands (σ : Log) (ρ : List (Nat × Nat)) (τ : Log) (n m : Nat) : Prop :=
  m < n ∧ ((m < 1000 ∧ look σ (.t m) = some (.tk true) ∧ m ∈ lowToks τ) ∨ (¬ m < 1000 ∧ (assoc ρ m = none ∨ ∃ k, assoc ρ m = some k ∧ look σ (.t k) = some (.tk true))))

theorem leP_t : ∀ {τ : Log}, leP ρ σ τ → belowC n τ = true → ∀ m, look τ (.t m) = some (.tk true) → Stands σ ρ τ n m
  | [], _, _, m, h => by simp [look] at h
  | (k, c) :: τ, hl, hb, m, h => by
    rw [look_cons] at h
    have up : ∀ {q}, (∀ x, x ∈ lowToks τ → x ∈ lowToks (q :: τ)) → Stands σ ρ τ n m → Stands σ ρ (q :: τ) n m := by
      rintro q hq ⟨h1, h2⟩
      refine ⟨h1, ?_⟩
      rcases h2 with ⟨g1, g2, g3⟩ | h2
      · exact .inl ⟨g1, g2, hq m g3⟩
      · exact .inr h2
    cases k with
    | s k =>
      cases c with
      | av x =>
        simp only [leP] at hl
        simp only [belowC] at hb
        split at hb
        · simp at h; exact up (fun x hx => hx) (leP_t hl.2 hb m h)
        · cases hb
      | bx => simp [leP] at hl
      | tk => simp [leP] at hl
    | b k =>
      cases c with
      | bx x =>
        simp only [leP] at hl
        simp only [belowC] at hb
        split at hb
        · simp at h; exact up (fun x hx => hx) (leP_t hl.2 hb m h)
        · cases hb
      | av => simp [leP] at hl
      | tk =>
        simp only [leP] at hl
        simp only [belowC] at hb
        simp at h
        exact up (fun x hx => hx) (leP_t hl hb m h)
    | t k =>
      cases c with
      | tk on =>
        simp only [belowC] at hb
        split at hb
        · rename_i hk
          have hkn : k < n := by simpa [Nat.blt_eq] using hk
          cases on with
          | true =>
            simp only [leP] at hl
            obtain ⟨h1, h2⟩ := hl
            by_cases e : k = m
            · subst e
              refine ⟨hkn, ?_⟩
              split at h1
              · rename_i hlt
                refine .inl ⟨by simpa [Nat.blt_eq] using hlt, ?_, ?_⟩
                · split at h1
                  · assumption
                  · exact h1.elim
                · simp only [lowToks, hlt]; simp
              · rename_i hlt
                refine .inr ⟨(fun hh => by rw [← Nat.blt_eq] at hh; rw [hh] at hlt; cases hlt), ?_⟩
                split at h1
                · rename_i ha; exact .inl ha
                · rename_i k' ha
                  refine .inr ⟨k', ha, ?_⟩
                  split at h1
                  · assumption
                  · exact h1.elim
            · simp [e] at h
              refine up (fun x hx => ?_) (leP_t h2 hb m h)
              simp only [lowToks]
              split
              · simp [hx]
              · exact hx
          | false =>
            simp only [leP] at hl
            by_cases e : k = m
            · simp [e] at h
            · simp [e] at h
              exact up (fun x hx => hx) (leP_t hl hb m h)
        · cases hb
      | av => simp [leP] at hl
      | bx => simp [leP] at hl

theorem assoc_mem : ∀ {ρ : List (Nat × Nat)} {k x : Nat}, assoc ρ k = some x → ∃ i : Nat, ρ[i]? = some (k, x)
  | [], k, x, h => by simp [assoc] at h
  | (k', x') :: ρ, k, x, h => by
    simp only [assoc] at h
    split at h
    · rename_i hb
      have := Nat.eq_of_beq_eq_true hb
      subst this
      cases h
      exact ⟨0, rfl⟩
    · obtain ⟨i, hi⟩ := assoc_mem h
      exact ⟨i + 1, by simpa using hi⟩

theorem Le_sound (h : Le σ n σ') (hs : RepS W0 κ σ a w) : ∃ κ', RepS W0 κ' σ' a w ∧ Step κ σ w κ' σ' w ∧ Bel κ' n := by
  obtain ⟨ρ, ⟨n1, n2, n3, n4⟩, hl⟩ := h
  have hn : 1000 ≤ n := Nat.le_of_ble_eq_true n3
  have hS := leP_s (n := n) hl n4
  have hB := leP_b (n := n) hl n4
  have hT := leP_t (n := n) hl n4
  have inj : ∀ k k' x, assoc ρ k = some x → assoc ρ k' = some x → k = k' := by
    intro k k' x h1 h2
    obtain ⟨i, hi⟩ := assoc_mem h1
    obtain ⟨j, hj⟩ := assoc_mem h2
    have := nodupB_spec n1 i j x (by rw [List.getElem?_map, hi]; rfl) (by rw [List.getElem?_map, hj]; rfl)
    subst this
    rw [hi] at hj
    cases hj
    rfl
  have lown : ∀ k k', k ∈ lowToks σ' → assoc ρ k' = some k → False := by
    intro k k' h1 h2
    have := List.all_eq_true.1 n2 k h1
    obtain ⟨i, hi⟩ := assoc_mem h2
    have hm : (ρ.map (·.2)).contains k = true := List.contains_iff_mem.2 (List.mem_of_getElem? (i := i) (by rw [List.getElem?_map, hi]; rfl))
    rw [hm] at this; cases this
  -- what a live token's room is
  have room : ∀ m, look σ' (.t m) = some (.tk true) → (∀ b o, ¬ inSp (ρτ κ ρ m) b o) ∨ ∃ k, look σ (.t k) = some (.tk true) ∧ ρτ κ ρ m = κ.τ k ∧ ((m < 1000 ∧ k = m) ∨ (¬ m < 1000 ∧ assoc ρ m = some k)) := by
    intro m hm
    obtain ⟨_, h2⟩ := hT m hm
    rcases h2 with ⟨g1, g2, g3⟩ | ⟨g1, g2⟩
    · refine .inr ⟨m, g2, ?_, .inl ⟨g1, rfl⟩⟩
      have : Nat.blt m 1000 = true := by rw [Nat.blt_eq]; exact g1
      simp only [ρτ, this]
    · have hb : Nat.blt m 1000 = false := by
        cases hh : Nat.blt m 1000 with
        | false => rfl
        | true => rw [Nat.blt_eq] at hh; exact absurd hh g1
      rcases g2 with g2 | ⟨k, g2, g3⟩
      · refine .inl fun b o => ?_
        simp only [ρτ, hb, g2]
        rintro ⟨_, _, h3⟩
        simp at h3
      · refine .inr ⟨k, g3, ?_, .inr ⟨g1, g2⟩⟩
        simp only [ρτ, hb, g2]
  have hown : ∀ b o, Own (less κ ρ n) σ' b o → Own κ σ b o := by
    rintro b o (⟨i, l, hl', hi⟩ | ⟨k, hk, hi⟩)
    · obtain ⟨⟨u, hu, g⟩, _⟩ := hB i l hl'
      have e : spb (less κ ρ n) i l = spb κ i u := by simp only [spb, less, (wkRL2_spec g).1]
      exact .inl ⟨i, u, hu, e ▸ hi⟩
    · rcases room k hk with h | ⟨k', h1, h2, _⟩
      · exact absurd hi (h b o)
      · exact .inr ⟨k', h1, by rw [← h2]; exact hi⟩
  refine ⟨less κ ρ n, ⟨?_, ?_, ?_, ?_, ?_, ?_, fun b o ho => hs.sepI b o (hown b o ho), hs.Icell, hs.old, hs.size0, hs.amb, hs.defers, hs.os, hs.tape, hs.output⟩,
    ⟨Chg.refl _ _, fun b o ho => .inl (hown b o ho), fun _ _ h => h, fun _ _ h => .inl h, fun b hb hd => ⟨⟨hd, by omega⟩, rfl⟩, fun k hk hd => ⟨⟨by omega, fun _ => hd⟩, ?_⟩⟩, ⟨hn, fun b hb => hb.2, fun k hk => hk.1⟩⟩
  · intro m v hv
    obtain ⟨⟨u, hu, hw⟩, hb⟩ := hS m v hv
    exact (hs.slots m u hu).less2 hw hb
  · intro b l hl'
    obtain ⟨⟨u, hu, hw⟩, hb, h1, hbn⟩ := hB b l hl'
    obtain ⟨g1, g2, C, ty, g3, g4⟩ := hs.boxes b u hu
    exact ⟨⟨g1, hbn⟩, g2, C, ty, g3, g4.less hw hb h1⟩
  · intro b b' l l' h1 h2 hne x o hi hi'
    obtain ⟨⟨u, hu, g⟩, _⟩ := hB b l h1
    obtain ⟨⟨u', hu', g'⟩, _⟩ := hB b' l' h2
    have e : spb (less κ ρ n) b l = spb κ b u := by simp only [spb, less, (wkRL2_spec g).1]
    have e' : spb (less κ ρ n) b' l' = spb κ b' u' := by simp only [spb, less, (wkRL2_spec g').1]
    rw [e] at hi
    rw [e'] at hi'
    exact hs.binj b b' u u' hu hu' hne x o hi hi'
  · intro k hk
    obtain ⟨h1, h2⟩ := hT k hk
    refine ⟨⟨h1, fun hlt => ?_⟩, ?_⟩
    · rcases h2 with ⟨_, g2, _⟩ | ⟨g1, _⟩
      · exact (hs.toks k g2).1
      · exact absurd hlt g1
    · intro hh
      rcases room k hk with h | ⟨k', g1, g2, _⟩
      · exact absurd ⟨rfl, Nat.le_refl _, hh⟩ (h _ _)
      · have hh' : (κ.τ k').2.1 < (κ.τ k').2.2 := by rw [← g2]; exact hh
        have := (hs.toks k' g1).2 hh'
        show W0.heap.size ≤ (ρτ κ ρ k).1 ∧ _
        rw [g2]
        refine ⟨this.1, ?_⟩
        obtain ⟨C, ty, q1, q2⟩ := this.2
        refine ⟨C, ty, ?_, ?_⟩
        · show w.heap[(ρτ κ ρ k).1]? = _
          rw [g2]; exact q1
        · show (ρτ κ ρ k).2.2 ≤ _
          rw [g2]; exact q2
  · intro k k' hk hk' hne b o hi hi'
    rcases room k hk with h | ⟨j, g1, g2, g3⟩
    · exact h b o hi
    · rcases room k' hk' with h | ⟨j', g1', g2', g3'⟩
      · exact h b o hi'
      · have hi : inSp (ρτ κ ρ k) b o := hi
        have hi' : inSp (ρτ κ ρ k') b o := hi'
        rw [g2] at hi
        rw [g2'] at hi'
        refine hs.tdis j j' g1 g1' ?_ b o hi hi'
        intro e
        subst e
        have low : ∀ q, q < 1000 → look σ' (.t q) = some (.tk true) → q ∈ lowToks σ' := by
          intro q hq hlq
          obtain ⟨_, h2⟩ := hT q hlq
          rcases h2 with ⟨_, _, h3⟩ | ⟨h3, _⟩
          · exact h3
          · exact absurd hq h3
        rcases g3 with ⟨q1, q2⟩ | ⟨q1, q2⟩ <;> rcases g3' with ⟨q1', q2'⟩ | ⟨q1', q2'⟩
        · exact hne (by omega)
        · subst q2; exact lown _ _ (low _ q1 hk) q2'
        · subst q2'; exact lown _ _ (low _ q1' hk') q2
        · exact hne (inj k k' j q2 q2')
  · intro k i l hk hl' x o hi hi'
    obtain ⟨⟨u, hu, g⟩, _⟩ := hB i l hl'
    rcases room k hk with h | ⟨k', h1, h2, _⟩
    · exact h _ o hi
    · have hi : inSp (ρτ κ ρ k) x o := hi
      rw [h2] at hi
      have e : spb (less κ ρ n) i l = spb κ i u := by simp only [spb, less, (wkRL2_spec g).1]
      rw [e] at hi'
      exact hs.tbox k' i u h1 hu x o hi hi'
  · have : Nat.blt k 1000 = true := by rw [Nat.blt_eq]; exact hk
    simp only [less, ρτ, this]
end
end Go.Abs
