/- The run is a walk. -/
import Derived.Test.YthmcdebdkbhbmaaGreatDoorA19
namespace Go.Abs
open Go

section
variable {R : Type} {r : R}

theorem frcX_s {v : AV} {F : AV → Option R} {G : AV → Prop} (h : frcX v F = some r) (k : ∀ v, F v = some r → G v) : frc v G := by
  cases v <;> simp only [frcX] at h <;> first | exact k _ h | cases h
theorem frc1X_s {v : AV} {F : AV → Option R} {G : AV → Prop} (h : frc1X v F = some r) (k : ∀ v, F v = some r → G v) : frc1 v G := by
  cases v <;> simp only [frc1X] at h <;> first | exact k _ h | cases h
theorem frcLX_s : ∀ {l : List AV} {F : List AV → Option R} {G : List AV → Prop}, frcLX l F = some r → (∀ l, F l = some r → G l) → frcL l G
  | [], _, _, h, k => k _ h
  | _ :: _, _, _, h, k => frc1X_s h fun _ h => frcLX_s h fun _ h => k _ h
theorem tst_s {b : Bool} {F : Option R} (h : tst b F = some r) : b = true ∧ F = some r := by
  cases b <;> simp_all [tst]

theorem fitsB_s {k : IntKind} {n : Int} (h : fitsB k n = true) : Fits k n := by
  cases k <;> simp_all [fitsB, Fits, leI]
theorem roomB_s {n b : Nat} (h : roomB n b = true) : Room n b := by
  simp only [roomB, Bool.and_eq_true] at h
  exact ⟨Nat.le_of_ble_eq_true h.1, Nat.le_of_ble_eq_true h.2⟩

theorem binSX_s {o : Bin} {a b : List UInt8} {F : AV → Option R} {G : AV → Prop} (h : binSX o a b F = some r) (k : ∀ v, F v = some r → G v) : binS o a b G := by
  cases o <;> simp only [binSX] at h <;> first | exact k _ h | cases h | (obtain ⟨h1, h2⟩ := tst_s h; exact ⟨Nat.le_of_ble_eq_true h1, k _ h2⟩)
theorem binIX_s {o : Bin} {ik : IntKind} {a b : Int} {F : AV → Option R} {G : AV → Prop} (h : binIX o ik a b F = some r) (k : ∀ v, F v = some r → G v) : binI o ik a b G := by
  cases o <;> simp only [binIX] at h
  case quo =>
    obtain ⟨h1, h2⟩ := tst_s h
    simp only [Bool.and_eq_true, leI, decide_eq_true_eq] at h1
    exact ⟨⟨fitsB_s h1.1.1, h1.1.2, by omega⟩, k _ h2⟩
  case rem =>
    obtain ⟨h1, h2⟩ := tst_s h
    simp only [Bool.and_eq_true, leI, decide_eq_true_eq] at h1
    exact ⟨⟨h1.1, by omega⟩, k _ h2⟩
  all_goals first | exact k _ h | (obtain ⟨h1, h2⟩ := tst_s h; exact ⟨fitsB_s h1, k _ h2⟩)
theorem binX_s {o : Bin} {x y : AV} {F : AV → Option R} {G : AV → Prop} (h : binX o x y F = some r) (k : ∀ v, F v = some r → G v) : binP o x y G := by
  unfold binX at h
  split at h
  · rename_i k1 a k2 b
    simp only [binP]
    cases hk : ikBeq k1 k2 with
    | false => rw [hk] at h; cases h
    | true => rw [hk] at h; exact binIX_s h k
  · exact binSX_s h k
  · cases h
theorem ldvX_s {d : Nat} {ag : Bool} {l : Option (List AV)} {F : Log → Option R} {G : Log → Prop} (h : ldvX d ag l F = some r) (k : ∀ v, F v = some r → G v) : ldv d ag l G := by
  unfold ldvX at h
  split at h
  · cases h
  · split at h
    · exact frcLX_s h fun _ h => k _ h
    · split at h
      · exact frc1X_s h fun _ h => k _ h
      · cases h
theorem bldX_s {σ : Log} : ∀ {ps : List (Nat × Nat × Opd)} {z : List AV} {F : List AV → Option R} {G : List AV → Prop}, bldX σ ps z F = some r → (∀ v, F v = some r → G v) → bld σ ps z G
  | [], _, _, _, h, k => k _ h
  | (o, n, x) :: ps, z, F, G, h, k => by
    simp only [bldX] at h
    simp only [bld]
    refine frcLX_s h fun v h => ?_
    revert h
    cases Nat.beq v.length n with
    | false => intro h; cases h
    | true =>
      cases splice o v z with
      | none => intro h; cases h
      | some z => intro h; exact bldX_s h k
theorem bslX_s {σ : Log} {sz : Nat} : ∀ {xs : List Opd} {F : List (List Data) → Option R} {G : List (List Data) → Prop}, bslX σ sz xs F = some r → (∀ v, F v = some r → G v) → bslc σ sz xs G
  | [], _, _, h, k => k _ h
  | x :: xs, F, G, h, k => by
    simp only [bslX] at h
    simp only [bslc]
    refine frcLX_s h fun v h => ?_
    revert h
    cases cellsD v with
    | none => intro h; cases h
    | some ds =>
      cases hb : Nat.beq ds.length sz with
      | false => intro h; simp [hb] at h
      | true => intro h; simp only [hb] at h; simp only [hb]; exact bslX_s h fun _ h => k _ h
theorem optX_s {σ : Log} {x : Option Opd} {z : Int} {F : Int → Option R} {G : Int → Prop} (h : optX σ x z F = some r) (k : ∀ v, F v = some r → G v) : optI σ x z G := by
  unfold optX at h
  unfold optI
  split at h
  · exact k _ h
  · split at h
    · rename_i he; simp only [he]; exact k _ h
    · cases h

theorem idx_spec : ∀ {bs : List Nat} {k i j : Nat}, idx bs k i = some j → ∃ m, j = i + m ∧ bs[m]? = some k
  | [], _, _, _, h => by cases h
  | x :: r, k, i, j, h => by
    simp only [idx] at h
    split at h
    · rename_i hx
      cases h
      exact ⟨0, rfl, by rw [Nat.eq_of_beq_eq_true hx]; rfl⟩
    · obtain ⟨m, rfl, hm⟩ := idx_spec h
      exact ⟨m + 1, by omega, hm⟩
theorem rb_idx {bs : List Nat} {k j id : Nat} (h : idx bs k 0 = some j) : rb bs id j = k := by
  obtain ⟨m, rfl, hm⟩ := idx_spec h
  simp [rb, hm]

variable {bs ts : List Nat} {id : Nat} {σ : Log}

theorem un1_s {v v' : AV} (h : un1 bs ts v = some v') : wk1 v (ren1 bs ts id v') := by
  cases v with
  | sl z e t =>
    cases t with
    | none => simp only [un1, Option.some.injEq] at h; subst h; exact ⟨rfl, rfl, .inl rfl⟩
    | full => simp only [un1, Option.some.injEq] at h; subst h; exact ⟨rfl, rfl, .inr rfl⟩
    | t k =>
      simp only [un1] at h
      split at h
      · rename_i i hi
        cases h
        exact ⟨rfl, rfl, .inr (by rw [rb_idx hi])⟩
      · cases h; exact ⟨rfl, rfl, .inl rfl⟩
  | ptr b o =>
    simp only [un1] at h
    split at h
    · rename_i i hi
      cases h
      simp only [ren1, rb_idx hi]
      rfl
    · cases h
  | mx z e b n t =>
    cases t with
    | none =>
      simp only [un1] at h
      split at h
      · rename_i i hi
        cases h
        exact ⟨rfl, rfl, (rb_idx hi).symm, rfl, .inl rfl⟩
      · cases h
    | full =>
      simp only [un1] at h
      split at h
      · rename_i i hi
        cases h
        exact ⟨rfl, rfl, (rb_idx hi).symm, rfl, .inr rfl⟩
      · cases h
    | t k =>
      simp only [un1] at h
      split at h
      · rename_i i hi
        split at h
        · rename_i j hj
          cases h
          exact ⟨rfl, rfl, (rb_idx hi).symm, rfl, .inr (by rw [rb_idx hj])⟩
        · cases h
          exact ⟨rfl, rfl, (rb_idx hi).symm, rfl, .inl rfl⟩
      · cases h
  | _ => simp only [un1, Option.some.injEq] at h; subst h; rfl
theorem unL1_s : ∀ {l l' : List AV}, unL1 bs ts l = some l' → wkL1 l (l'.map (ren1 bs ts id))
  | [], _, h => by cases h; trivial
  | x :: xs, l', h => by
    simp only [unL1] at h
    split at h
    · cases h
    · rename_i y hy
      split at h
      · cases h
      · rename_i s hs
        cases h
        exact ⟨un1_s hy, unL1_s hs⟩
theorem un2_s {v v' : AV} (h : un2 bs ts v = some v') : wk2 v (ren2 bs ts id v') := by
  cases v with
  | fn f c =>
    simp only [un2] at h
    split at h
    · cases h
    · rename_i c' hc; cases h; exact ⟨rfl, unL1_s hc⟩
  | agg l =>
    simp only [un2] at h
    split at h
    · cases h
    · rename_i c' hc; cases h; exact unL1_s hc
  | sl z e t =>
    have h1 := un1_s (id := id) (show un1 bs ts (.sl z e t) = some v' from h)
    cases v' <;> first | exact h1 | (simp only [ren1, wk1] at h1; cases h1)
  | ptr b o =>
    have h1 := un1_s (id := id) (show un1 bs ts (.ptr b o) = some v' from h)
    cases v' <;> first | exact h1 | (simp only [ren1, wk1] at h1; cases h1)
  | mx z e b n t =>
    have h1 := un1_s (id := id) (show un1 bs ts (.mx z e b n t) = some v' from h)
    cases v' <;> first | exact h1 | (simp only [ren1, wk1] at h1; cases h1)
  | _ => simp only [un2, un1, Option.some.injEq] at h; subst h; rfl
theorem unL2_s : ∀ {l l' : List AV}, unL2 bs ts l = some l' → wkL2 l (l'.map (ren2 bs ts id))
  | [], _, h => by cases h; trivial
  | x :: xs, l', h => by
    simp only [unL2] at h
    split at h
    · cases h
    · rename_i y hy
      split at h
      · cases h
      · rename_i s hs
        cases h
        exact ⟨un2_s hy, unL2_s hs⟩
theorem un2_tup {v v' : AV} (h : un2 bs ts v = some v') (hv : ∀ l, v ≠ .tup l) : ∀ l, v' ≠ .tup l := by
  intro l e
  subst e
  cases v with
  | tup l => exact hv l rfl
  | sl z e t => cases t <;> simp only [un2, un1] at h <;> (try split at h) <;> cases h
  | mx z e b n t => cases t <;> simp only [un2, un1] at h <;> (try split at h) <;> (try split at h) <;> cases h
  | _ => simp only [un2, un1] at h <;> (try split at h) <;> cases h
theorem un3_s {v v' : AV} (h : un3 bs ts v = some v') : wk3 v (ren bs ts id v') := by
  cases v with
  | tup l =>
    simp only [un3] at h
    split at h
    · cases h
    · rename_i c' hc; cases h; exact unL2_s hc
  | _ =>
    simp only [un3] at h
    have h1 := un2_s (id := id) h
    have h2 := un2_tup h (fun l e => by cases e)
    cases v' <;> first | exact h1 | exact absurd rfl (h2 _)
theorem unH_s : ∀ {xs : List Nat} {H : List (List AV)}, unH σ bs ts xs = some H → boxIs σ bs ts id xs H
  | [], _, h => by cases h; trivial
  | b :: xs, H, h => by
    simp only [unH] at h
    split at h
    · rename_i l hl
      split at h
      · cases h
      · rename_i h' hh
        split at h
        · cases h
        · rename_i H' hH
          cases h
          refine ⟨?_, unH_s hH⟩
          rw [hl]
          exact unL2_s hh
    · cases h
theorem liveB_s : ∀ {l : List Nat}, liveB σ l = true → liveAll σ l
  | [], _ => trivial
  | k :: l, h => by
    simp only [liveB] at h
    split at h
    · rename_i hk
      exact ⟨by rw [hk]; trivial, liveB_s h⟩
    · cases h

variable {call : CallP} {rc : Rec}

theorem callX_s (hrc : ∀ f args H res H', rc f args H = some (res, H') → call f args H res H') {d : Option Nat} {f : FuncId} {args : List AV} {F : Log → Option R} {G : Log → Prop} (h : callX rc σ id d f args F = some r) (k : ∀ v, F v = some r → G v) : callP call σ id d f args G := by
  unfold callX at h
  split at h
  · rename_i res hres
    refine .pure res ?_ ?_ (k _ h)
    · split at hres
      · split at hres
        · rename_i hr
          split at hres <;> cases hres
          exact hrc _ _ _ _ _ hr
        · cases hres
      · cases hres
    · split at hres
      · rename_i h1
        split at hres
        · rename_i hr
          split at hres
          · rename_i h2
            cases hres
            exact ⟨h1, h2⟩
          · cases hres
        · cases hres
      · cases hres
  · dsimp only at h
    split at h
    · rename_i args' H ha hH
      split at h
      · rename_i res H' hr
        obtain ⟨h1, h2⟩ := tst_s h
        simp only [Bool.and_eq_true] at h1
        obtain ⟨⟨⟨⟨⟨⟨⟨⟨⟨⟨c1, c2⟩, c3⟩, c4⟩, c5⟩, c6⟩, c7⟩, c8⟩, c9⟩, c10⟩, c11⟩ := h1
        exact .full _ _ args' H H' res (hrc _ _ _ _ _ hr) ⟨c1, c2, c3, c4, c5, c6, c7, c8, c9, c10, unL2_s ha, unH_s hH, liveB_s c11⟩ (k _ h2)
      · cases h
    · cases h

theorem effX_s (hrc : ∀ f args H res H', rc f args H = some (res, H') → call f args H res H') {o : AOp} {F : Log → Option R} {G : Log → Prop} (h : effX rc σ id o F = some r) (k : ∀ v, F v = some r → G v) : eff call σ id o G := by
  cases o with
  | mv d x => exact frcX_s h fun _ h => k _ h
  | pick d c a b =>
    simp only [effX] at h
    simp only [eff]
    split at h
    · rename_i t ht
      rw [ht]
      cases t with
      | false => exact frcX_s h fun _ h => k _ h
      | true => exact frcX_s h fun _ h => k _ h
    · cases h
  | box d x => exact frcLX_s h fun _ h => k _ h
  | alloc d z => exact k _ h
  | build d z ps => exact bldX_s h fun _ h => frcLX_s h fun _ h => k _ h
  | bsl d sz xs => exact bslX_s h fun _ h => k _ h
  | ld d n ag a =>
    simp only [effX] at h
    simp only [eff]
    split at h
    · rename_i b o he
      rw [he]
      dsimp only
      split at h
      · rename_i l hl; rw [hl]; exact ldvX_s h k
      · cases h
    · rename_i l o he
      rw [he]
      exact ldvX_s h k
    · cases h
  | st a n x =>
    simp only [effX] at h
    simp only [eff]
    split at h
    · rename_i b o he
      rw [he]
      dsimp only
      split at h
      · rename_i l hl
        rw [hl]
        dsimp only
        refine frcLX_s h fun v h => ?_
        revert h
        cases Nat.beq v.length n with
        | false => intro h; cases h
        | true =>
          cases splice o v l with
          | none => intro h; cases h
          | some z => intro h; exact frcLX_s h fun _ h => k _ h
      · cases h
    · cases h
  | nc d x =>
    simp only [effX] at h
    simp only [eff]
    split at h
    · rename_i he; rw [he]; exact k _ h
    · rename_i he; rw [he]; exact k _ h
    · rename_i he; rw [he]; exact k _ h
    · cases h
  | bin d o x y => exact binX_s h fun _ h => k _ h
  | binB d ng x y =>
    simp only [effX] at h
    simp only [eff]
    split at h
    · rename_i a b hx hy
      rw [hx, hy]
      cases ng with
      | false => exact k _ h
      | true => exact k _ h
    · cases h
  | no d x =>
    simp only [effX] at h
    simp only [eff]
    split at h
    · rename_i he; rw [he]; exact k _ h
    · cases h
  | fa d x off =>
    simp only [effX] at h
    simp only [eff]
    split at h
    · rename_i he; rw [he]; exact k _ h
    · rename_i he; rw [he]; exact k _ h
    · cases h
  | fld d x off n ag =>
    simp only [effX] at h
    simp only [eff]
    split at h
    · rename_i he; rw [he]; exact ldvX_s h k
    · cases h
  | ia d sz x i =>
    simp only [effX] at h
    simp only [eff]
    split at h
    · rename_i z els t k' n hx hi
      rw [hx, hi]
      dsimp only
      cases hb : Nat.beq sz z with
      | false => rw [hb] at h; cases h
      | true =>
        rw [hb] at h
        dsimp only at h ⊢
        split at h
        · rename_i e he
          obtain ⟨h1, h2⟩ := tst_s h
          exact ⟨e, ⟨of_decide_eq_true h1, he⟩, k _ h2⟩
        · cases h
    · rename_i z els b m t k' n hx hi
      rw [hx, hi]
      dsimp only
      cases hb : Nat.beq sz z with
      | false => rw [hb] at h; cases h
      | true =>
        rw [hb] at h
        dsimp only at h ⊢
        obtain ⟨h1, h2⟩ := tst_s h
        simp only [Bool.and_eq_true] at h1
        exact ⟨⟨of_decide_eq_true h1.1.1, Nat.le_of_ble_eq_true h1.1.2, by simpa [Nat.blt_eq] using h1.2⟩, k _ h2⟩
    · cases h
  | ix d x i =>
    simp only [effX] at h
    simp only [eff]
    split at h
    · rename_i l k' n hx hi
      rw [hx, hi]
      dsimp only
      split at h
      · rename_i e he
        obtain ⟨h1, h2⟩ := tst_s h
        exact ⟨e, ⟨of_decide_eq_true h1, he⟩, k _ h2⟩
      · cases h
    · cases h
  | slS d x lo hi =>
    simp only [effX] at h
    simp only [eff]
    split at h
    · rename_i l hx
      rw [hx]
      refine optX_s h fun a h => optX_s h fun b h => ?_
      obtain ⟨h1, h2⟩ := tst_s h
      simp only [Bool.and_eq_true, leI, decide_eq_true_eq] at h1
      exact ⟨⟨h1.1.1, h1.1.2, h1.2⟩, k _ h2⟩
    · cases h
  | slL d sz x lo hi mx =>
    simp only [effX] at h
    simp only [eff]
    split at h
    · rename_i z b n t hx
      rw [hx]
      dsimp only
      cases hb : Nat.beq sz z with
      | false => rw [hb] at h; cases h
      | true =>
        rw [hb] at h
        dsimp only at h ⊢
        split at h
        · rename_i hi' l hl
          rw [hl]
          dsimp only
          refine optX_s h fun c h => ?_
          obtain ⟨h1, h2⟩ := tst_s h
          simp only [Bool.and_eq_true, decide_eq_true_eq] at h1
          refine ⟨⟨h1.1, Nat.eq_of_beq_eq_true h1.2⟩, ?_⟩
          cases t with
          | none => cases h2
          | full => exact k _ h2
          | t j =>
            dsimp only at h2 ⊢
            split at h2
            · rename_i hj; rw [hj]; exact k _ h2
            · cases h2
        · cases h
    · rename_i z els t hx
      rw [hx]
      dsimp only
      cases hb : Nat.beq sz z with
      | false => rw [hb] at h; cases h
      | true =>
        rw [hb] at h
        dsimp only at h ⊢
        refine optX_s h fun a h => optX_s h fun b h => ?_
        cases mx with
        | none =>
          obtain ⟨h1, h2⟩ := tst_s h
          simp only [Bool.and_eq_true, leI, decide_eq_true_eq] at h1
          dsimp only
          cases hd : decide (b = (els.length : Int)) with
          | true => rw [hd] at h2; exact ⟨t, ⟨⟨h1.1.1, h1.1.2, h1.2⟩, .inr ⟨rfl, of_decide_eq_true hd⟩⟩, k _ h2⟩
          | false => rw [hd] at h2; exact ⟨.none, ⟨⟨h1.1.1, h1.1.2, h1.2⟩, .inl rfl⟩, k _ h2⟩
        | some m =>
          refine optX_s h fun c h => ?_
          obtain ⟨h1, h2⟩ := tst_s h
          simp only [Bool.and_eq_true, leI, decide_eq_true_eq] at h1
          exact ⟨⟨h1.1.1.1, h1.1.1.2, h1.1.2, h1.2⟩, k _ h2⟩
    · cases h
  | cvi d ik x =>
    simp only [effX] at h
    simp only [eff]
    split at h
    · rename_i k' n hx
      rw [hx]
      obtain ⟨h1, h2⟩ := tst_s h
      exact ⟨fitsB_s h1, k _ h2⟩
    · cases h
  | ext d x i =>
    simp only [effX] at h
    simp only [eff]
    split at h
    · rename_i l hx
      rw [hx]
      dsimp only
      split at h
      · rename_i v hv; rw [hv]; exact frcX_s h fun _ h => k _ h
      · cases h
    · cases h
  | call d f xs =>
    simp only [effX] at h
    simp only [eff]
    split at h
    · rename_i f caps hx
      rw [hx]
      exact callX_s hrc h k
    · cases h
  | app d sz by_ a x =>
    simp only [effX] at h
    simp only [eff]
    split at h
    · rename_i z e1 t1 z' e2 t2 ha hx
      rw [ha, hx]
      dsimp only
      cases h1 : Nat.beq sz z with
      | false => simp [h1] at h
      | true =>
        cases h2 : Nat.beq sz z' with
        | false => simp [h1, h2] at h
        | true =>
          simp only [h1, h2] at h
          dsimp only
          cases t1 with
          | none => cases h
          | full => obtain ⟨g1, g2⟩ := tst_s h; exact ⟨roomB_s g1, k _ g2⟩
          | t kk =>
            dsimp only at h ⊢
            split at h
            · rename_i hk; rw [hk]; obtain ⟨g1, g2⟩ := tst_s h; exact ⟨roomB_s g1, k _ g2⟩
            · cases h
    · cases h
  | len d x =>
    simp only [effX] at h
    simp only [eff]
    split at h
    · rename_i he; rw [he]; exact k _ h
    · rename_i he; rw [he]; exact k _ h
    · cases h
  | lenS d x =>
    simp only [effX] at h
    simp only [eff]
    split at h
    · rename_i he; rw [he]; exact k _ h
    · cases h
  | mx d x y =>
    simp only [effX] at h
    simp only [eff]
    split at h
    · rename_i a b hx hy; rw [hx, hy]; exact k _ h
    · cases h
  | mkf d f caps => exact frcLX_s h fun _ h => k _ h
  | mk d sz by_ z x =>
    simp only [effX] at h
    simp only [eff]
    split at h
    · rename_i n he
      rw [he]
      obtain ⟨h1, h2⟩ := tst_s h
      simp only [Bool.and_eq_true] at h1
      exact ⟨⟨of_decide_eq_true h1.1, roomB_s h1.2⟩, k _ h2⟩
    · cases h
  | mkF d sz by_ z x =>
    simp only [effX] at h
    simp only [eff]
    split at h
    · rename_i n he
      rw [he]
      obtain ⟨h1, h2⟩ := tst_s h
      simp only [Bool.and_eq_true] at h1
      exact ⟨⟨of_decide_eq_true h1.1, roomB_s h1.2⟩, k _ h2⟩
    · cases h
  | bslM d sz xs => exact bslX_s h fun _ h => k _ h
  | appM d sz by_ a x =>
    simp only [effX] at h
    simp only [eff]
    split at h
    · rename_i z e1 t1 z' e2 t2 ha hx
      rw [ha, hx]
      dsimp only
      cases h1 : Nat.beq sz z with
      | false => simp [h1] at h
      | true =>
        cases h2 : Nat.beq sz z' with
        | false => simp [h1, h2] at h
        | true =>
          simp only [h1, h2] at h
          dsimp only
          cases t1 with
          | none => cases h
          | full =>
            obtain ⟨g1, g2⟩ := tst_s h
            simp only [Bool.and_eq_true] at g1
            exact ⟨⟨by simpa [Nat.blt_eq] using g1.1, roomB_s g1.2⟩, k _ g2⟩
          | t kk =>
            dsimp only at h ⊢
            split at h
            · rename_i hk
              rw [hk]
              obtain ⟨g1, g2⟩ := tst_s h
              simp only [Bool.and_eq_true] at g1
              exact ⟨⟨by simpa [Nat.blt_eq] using g1.1, roomB_s g1.2⟩, k _ g2⟩
            · cases h
    · cases h
  | cap d x =>
    simp only [effX] at h
    simp only [eff]
    split at h
    · rename_i he; rw [he]; exact k _ h
    · rename_i he; rw [he]; exact k _ h
    · cases h
  | iaG d cells sz x =>
    simp only [effX] at h
    simp only [eff]
    split at h
    · rename_i n he
      rw [he]
      obtain ⟨h1, h2⟩ := tst_s h
      simp only [Bool.and_eq_true] at h1
      exact ⟨⟨of_decide_eq_true h1.1, Nat.le_of_ble_eq_true h1.2⟩, k _ h2⟩
    · cases h
  | eqA d ng ks x y =>
    simp only [effX] at h
    simp only [eff]
    split at h
    · rename_i l m hx hy
      rw [hx, hy]
      dsimp only
      split at h
      · rename_i b hb
        rw [hb]
        cases ng <;> exact k _ h
      · cases h
    · cases h
  | appZ d sz by_ z a x =>
    simp only [effX] at h
    simp only [eff]
    split at h
    · rename_i q n ha hx
      rw [ha, hx]
      dsimp only
      cases h1 : Nat.beq sz q with
      | false => simp [h1] at h
      | true =>
        simp only [h1] at h
        dsimp only
        obtain ⟨g1, g2⟩ := tst_s h
        simp only [Bool.and_eq_true, leI, decide_eq_true_eq] at g1
        exact ⟨⟨by omega, roomB_s g1.2⟩, k _ g2⟩
    · cases h

theorem guardX_s {g : Option (Nat × Bool)} {A B : Log → Option R} {A' B' : Log → Prop} (h : guardX σ g A B = some r) (hA : ∀ σ, A σ = some r → A' σ) (hB : ∀ σ, B σ = some r → B' σ) : guard σ g A' B' := by
  unfold guardX at h
  unfold guard
  split at h
  · exact hA _ h
  · rename_i n w
    dsimp only
    split at h
    · rename_i t ht
      rw [ht]
      cases t <;> cases w <;> first | exact hA _ h | exact hB _ h
    · rename_i l ht; rw [ht]; exact hB _ h
    · cases h

theorem aopsX_s (hrc : ∀ f args H res H', rc f args H = some (res, H') → call f args H res H') : ∀ {ops : List GOp} {id : Nat} {σ : Log} {F : Log → Option R} {G : Log → Prop}, aopsX rc ops id σ F = some r → (∀ v, F v = some r → G v) → aops call ops id σ G
  | [], _, _, _, _, h, k => k _ h
  | o :: ops, id, σ, F, G, h, k => by
    refine guardX_s h (fun σ h => effX_s hrc h fun δ h => aopsX_s hrc h k) (fun σ h => aopsX_s hrc h k)

theorem aopsDX_s (hrc : ∀ f args H res H', rc f args H = some (res, H') → call f args H res H') : ∀ {ops : List GOp} {ps : List Nat} {j id : Nat} {σ : Log} {fs : List (Nat × List Loc × List Loc)} {F : Log → Option R} {G : Log → Prop}, aopsDX rc ops ps j id σ fs F = some r → (∀ v, F v = some r → G v) → aopsD call ops ps j id σ fs G
  | [], _, _, _, _, _, _, _, h, k => by cases ‹List Nat› <;> exact k _ h
  | _ :: _, [], _, _, _, _, _, _, h, _ => by cases h
  | o :: ops, p :: ps, j, id, σ, fs, F, G, h, k => by
    refine guardX_s h (fun σ h => effX_s hrc h fun δ h => ?_) (fun σ h => ?_)
    · split at h
      · cases h
      · rename_i hc; rw [hc]; exact aopsDX_s hrc h k
    · split at h
      · cases h
      · rename_i hc; rw [hc]; exact aopsDX_s hrc h k

theorem iterX_s {f : Nat → Log → (Ex → Nat → Log → Option R) → Option R} {g : Nat → Log → (Ex → Nat → Log → Prop) → Prop} (hfg : ∀ n σ F G, f n σ F = some r → (∀ e n σ, F e n σ = some r → G e n σ) → g n σ G)
    {F : Ex → Nat → Log → Option R} {G : Ex → Nat → Log → Prop} (k : ∀ e n σ, F e n σ = some r → G e n σ) : ∀ {m n : Nat} {σ : Log}, iterX f F m n σ = some r → iter g G m n σ
  | 0, _, _, h => by cases h
  | m + 1, n, σ, h => by
    refine hfg _ _ _ _ h fun e n σ h => ?_
    cases e with
    | n => exact iterX_s hfg k h
    | e i => exact k _ _ _ h
    | r => exact k _ _ _ h

theorem takeE_s {α : Type} : ∀ {n : Nat} {l e : List α}, takeE n l = some e → e.length = n ∧ e ++ l.drop n = l
  | 0, l, e, h => by simp only [takeE, Option.some.injEq] at h; subst h; simp
  | n + 1, [], e, h => by simp [takeE] at h
  | n + 1, x :: l, e, h => by
    simp only [takeE] at h
    split at h
    · cases h
    · rename_i r hr
      cases h
      obtain ⟨h1, h2⟩ := takeE_s hr
      exact ⟨by simp [h1], by simp [h2]⟩
theorem chunk_s {sz : Nat} : ∀ {n : Nat} {l : List Data} {ch : List (List Data)}, chunk sz n l = some ch → ch.flatten = l ∧ ch.length = n ∧ ∀ e, e ∈ ch → e.length = sz
  | 0, [], ch, h => by simp only [chunk, Option.some.injEq] at h; subst h; simp
  | 0, _ :: _, ch, h => by simp [chunk] at h
  | n + 1, l, ch, h => by
    simp only [chunk] at h
    split at h
    · rename_i e he
      split at h
      · rename_i r hr
        cases h
        obtain ⟨g1, g2⟩ := takeE_s he
        obtain ⟨h1, h2, h3⟩ := chunk_s hr
        refine ⟨by simp [h1, g2], by simp [h2], fun e' he' => ?_⟩
        rcases List.mem_cons.1 he' with rfl | he'
        · exact g1
        · exact h3 e' he'
      · cases h
    · cases h

theorem awpX_s (hrc : ∀ f args H res H', rc f args H = some (res, H') → call f args H res H') : ∀ (c : AC) {nx : Nat} {σ : Log} {F : Ex → Nat → Log → Option R} {G : Ex → Nat → Log → Prop}, awpX rc c nx σ F = some r → (∀ e n σ, F e n σ = some r → G e n σ) → awp call c nx σ G
  | .reg ops, _, _, _, _, h, k => aopsX_s hrc h fun _ h => k _ _ _ h
  | .regD ops pre, _, _, _, _, h, k => aopsDX_s hrc h fun _ h => k _ _ _ h
  | .frz x, nx, σ, F, G, h, k => by
    simp only [awpX] at h
    simp only [awp]
    split at h
    · rename_i sz els b n t hx
      rw [hx]
      dsimp only
      split at h
      · rename_i l hl
        rw [hl]
        split at h
        · rename_i ds hds
          split at h
          · rename_i ch hch
            obtain ⟨h1, h2, h3⟩ := chunk_s hch
            exact ⟨ch, ⟨by rw [h1]; exact hds, h2, h3⟩, k _ _ _ h⟩
          · cases h
        · cases h
      · cases h
    · rename_i hx; rw [hx]; exact k _ _ _ h
    · cases h
  | .seq x y, nx, σ, F, G, h, k => by
    refine awpX_s hrc x h fun e n σ h => ?_
    cases e with
    | n => exact awpX_s hrc y h k
    | e i => exact k _ _ _ h
    | r => exact k _ _ _ h
  | .cond x t e, nx, σ, F, G, h, k => by
    simp only [awpX] at h
    simp only [awp]
    split at h
    · rename_i v hv
      rw [hv]
      cases v with
      | false => exact awpX_s hrc e h k
      | true => exact awpX_s hrc t h k
    · cases h
  | .block n c, nx, σ, F, G, h, k => by
    refine awpX_s hrc c h fun e n σ h => ?_
    cases e with
    | n => exact k _ _ _ h
    | e i =>
      dsimp only at h ⊢
      split at h
      · rename_i hb; rw [hb]; exact k _ _ _ h
      · rename_i hb; rw [hb]; exact k _ _ _ h
    | r => exact k _ _ _ h
  | .loop c, nx, σ, F, G, h, k => by
    simp only [awpX] at h
    exact .runs 1000 (iterX_s (g := fun n σ Q => awp call c n σ Q) (fun n σ F G h k => awpX_s hrc c h k) k h)
  | .exit n, _, _, _, _, h, k => k _ _ _ h
  | .ret, _, _, _, _, h, k => k _ _ _ h
  | .skip, _, _, _, _, h, k => k _ _ _ h
  | .cut, _, _, _, _, h, k => .go (k _ _ _ h)
  | .stuck, _, _, _, _, h, _ => by cases h

theorem resLX_s : ∀ {rs : List (Nat × Nat)} {F : List AV → Option R} {G : List AV → Prop}, resLX σ rs F = some r → (∀ v, F v = some r → G v) → resL σ rs G
  | [], _, _, h, k => k _ h
  | (t, 0) :: rs, F, G, h, k => resLX_s (rs := rs) h fun _ h => k _ h
  | (t, n + 1) :: rs, F, G, h, k => by
    simp only [resLX] at h
    simp only [resL]
    split at h
    · rename_i b hb
      rw [hb]
      show (match look σ (.b b) with
        | some (.bx l) => (match Nat.beq l.length (n + 1) with
          | true => resL σ rs fun r => G (.agg l :: r)
          | false => False)
        | _ => False)
      split at h
      · rename_i l hl
        rw [hl]
        show (match Nat.beq l.length (n + 1) with
          | true => resL σ rs fun r => G (.agg l :: r)
          | false => False)
        split at h
        · rename_i hq; rw [hq]; exact resLX_s h fun _ h => k _ h
        · cases h
      · cases h
    · cases h
end

theorem finX_s {σ : Log} {v res : AV} {nb nt : Nat} {H' : List (List AV)} (h : finX σ v nb nt = some (res, H')) : FinOK σ v nb nt res H' := by
  unfold finX at h
  dsimp only at h
  split at h
  · rename_i res' H'' hv hH
    obtain ⟨h1, h2⟩ := tst_s h
    cases h2
    simp only [Bool.and_eq_true, beq_iff_eq] at h1
    obtain ⟨⟨⟨⟨⟨⟨c1, c2⟩, c3⟩, c4⟩, c5⟩, c6⟩, c7⟩ := h1
    generalize bxAll σ 100 (bx3 (upN nb) v) (bx3 (upN nb) v) = bs at *
    generalize tkH σ bs (tk3 σ (upN nt) v) = ts at *
    have e1 : upN nb ++ bs.drop nb = bs := by rw [← c3, List.take_append_drop]
    have e2 : upN nt ++ ts.drop nt = ts := by rw [← c4, List.take_append_drop]
    refine ⟨⟨bs.drop nb, ts.drop nt, ?_⟩⟩
    rw [e1, e2]
    exact ⟨⟨c1, c2, c5, c6⟩, un3_s hv, unH_s hH, liveB_s c7⟩
  · cases h

theorem bodyX_s {call : CallP} {rc : Rec} (hrc : ∀ f args H res H', rc f args H = some (res, H') → call f args H res H') {c : AC} {rs : List (Nat × Nat)} {args : List AV} {H : List (List AV)} {res : AV} {H' : List (List AV)}
    (h : bodyX rc c rs args H = some (res, H')) : Body call c rs args H res H' := by
  refine awpX_s hrc c h fun e n σ h => ?_
  cases e with
  | e i => cases h
  | n => exact resLX_s h fun l h => by match l, h with | [v], h => exact finX_s h | [], h => exact finX_s h | _ :: _ :: _, h => exact finX_s h
  | r => exact resLX_s h fun l h => by match l, h with | [v], h => exact finX_s h | [], h => exact finX_s h | _ :: _ :: _, h => exact finX_s h

/-- every row of the table is the program's function -/
def TabOK (P : Program) (W0 : World) (T : FuncId → Option Fn) : Prop := ∀ f F, T f = some F → ∃ fn c, ∃ an : Ann, (∀ g cells, an.gl g = some cells → GlobOK W0 g cells) ∧ P.funcs[f]? = some fn ∧ fn.body = some c ∧ callable P f = true ∧ compC P an fn.ntmps c = some F.ac ∧ rsC P fn.results.toList = some F.rs ∧ fn.ntmps = F.nt

theorem runX_s {P : Program} {W0 : World} {T : FuncId → Option Fn} {lib : FuncId → List AV → Option AV} (hm : P.follows .mixedOrders = true) (hT : TabOK P W0 T) (hlib : ∀ f args res, lib f args = some res → Ctr P W0 f args [] res []) :
    ∀ (k : Nat) (f : FuncId) (args : List AV) (H : List (List AV)) (res : AV) (H' : List (List AV)), runX T lib k f args H = some (res, H') → Ctr P W0 f args H res H'
  | 0, _, _, _, _, _, h => by cases h
  | k + 1, f, args, H, res, H', h => by
    simp only [runX] at h
    split at h
    · rename_i res' hr
      cases h
      split at hr
      · exact hlib _ _ _ hr
      · cases hr
    · split at h
      · cases h
      · rename_i F hF
        obtain ⟨h1, h2⟩ := tst_s h
        simp only [Bool.and_eq_true] at h1
        obtain ⟨fn, c, an, a0, a1, a2, a3, a4, a5, a6⟩ := hT f F hF
        exact ctr_of hm a0 (fun f args H res H' h => runX_s hm hT hlib k f args H res H' h) a1 a2 a3 a4 a5 (by rw [a6]; exact h1.1) h1.2 (bodyX_s (fun _ _ _ _ _ h => h) h2)
end Go.Abs
