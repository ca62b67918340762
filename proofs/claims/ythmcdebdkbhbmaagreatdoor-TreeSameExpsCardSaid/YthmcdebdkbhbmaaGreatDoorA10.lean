/- A call: the callee's view of the world, and the way back. -/
import Derived.Test.YthmcdebdkbhbmaaGreatDoorA9
namespace Go.Abs
open Go

theorem inL1_spec {nb nt : Nat} : ∀ {l : List AV}, inL1 nb nt l = true → ∀ v, v ∈ l → in1 nb nt v = true
  | [], _, v, h => by cases h
  | x :: r, h, v, hv => by
    simp only [inL1] at h
    split at h
    · rename_i hx
      rcases List.mem_cons.1 hv with rfl | hv
      · exact hx
      · exact inL1_spec h v hv
    · cases h
theorem inL2_spec {nb nt : Nat} : ∀ {l : List AV}, inL2 nb nt l = true → ∀ v, v ∈ l → in2 nb nt v = true
  | [], _, v, h => by cases h
  | x :: r, h, v, hv => by
    simp only [inL2] at h
    split at h
    · rename_i hx
      rcases List.mem_cons.1 hv with rfl | hv
      · exact hx
      · exact inL2_spec h v hv
    · cases h
theorem inH_spec {nb nt : Nat} : ∀ {l : List (List AV)}, inH nb nt l = true → ∀ v, v ∈ l → inL2 nb nt v = true
  | [], _, v, h => by cases h
  | x :: r, h, v, hv => by
    simp only [inH] at h
    split at h
    · rename_i hx
      rcases List.mem_cons.1 hv with rfl | hv
      · exact hx
      · exact inH_spec h v hv
    · cases h

/-- what is known of two ghost states whose ids are renamed -/
structure Ren (κ κ' : Gh) (fb ft : Nat → Nat) (nb nt : Nat) : Prop where
  I_ : ∀ b o, κ.I b o → κ'.I b o
  db : ∀ b, b < nb → κ.Db b → κ'.Db (fb b) ∧ κ'.ι (fb b) = κ.ι b
  dt : ∀ k, k < nt → κ.Dt k → κ'.Dt (ft k) ∧ κ'.τ (ft k) = κ.τ k

section ren
variable {κ κ' : Gh} {w : World} {bs ts : List Nat} {id nb nt : Nat}

theorem RepV.ren1 (h : Ren κ κ' (rb bs id) (rb ts id) nb nt) {v : AV} {x : Value} (hv : RepV κ w v x) (hi : in1 nb nt v = true) : RepV κ' w (ren1 bs ts id v) x := by
  cases hv with
  | sc c => exact .sc c
  | sl sz els t x hd ht =>
    have hd' := hd.mono (w' := w) h.I_ (fun _ _ _ => rfl)
    cases t with
    | none => exact .sl sz els _ x hd' trivial
    | full => exact .sl sz els _ x hd' ht
    | t k =>
      have hk : k < nt := by simpa [in1, Nat.blt_eq] using hi
      obtain ⟨g1, g2⟩ := h.dt k hk ht.1
      exact .sl sz els _ x hd' ⟨g1, fun a n c e l => g2.trans (ht.2 a n c e l)⟩
  | ptr b o hb =>
    have hk : b < nb := by simpa [in1, Nat.blt_eq] using hi
    obtain ⟨g1, g2⟩ := h.db b hk hb
    rw [← g2]
    exact .ptr _ o g1
  | elp cells o b q hc =>
    refine .elp cells o b q fun j d hj => ?_
    obtain ⟨c, h1, h2, h3⟩ := hc j d hj
    exact ⟨c, h.I_ _ _ h1, h2, h3.mono h.I_ (fun _ _ _ => rfl)⟩
  | mx sz els b n t off cap hd ho hn hh ht =>
    have hh' := hh.mono (w' := w) h.I_ (fun _ _ _ => rfl)
    cases t with
    | none =>
      have hk : b < nb := by simpa [in1, Nat.blt_eq] using hi
      obtain ⟨g1, g2⟩ := h.db b hk hd
      rw [← g2] at ho hh' ⊢
      exact .mx sz els _ n _ off cap g1 ho hn hh' trivial
    | full =>
      have hk : b < nb := by simpa [in1, Nat.blt_eq] using hi
      obtain ⟨g1, g2⟩ := h.db b hk hd
      rw [← g2] at ho hh' ht ⊢
      exact .mx sz els _ n _ off cap g1 ho hn hh' ht
    | t k =>
      have hkk : k < nt ∧ b < nb := by
        simp only [in1] at hi
        split at hi
        · rename_i h1; exact ⟨by simpa [Nat.blt_eq] using h1, by simpa [Nat.blt_eq] using hi⟩
        · cases hi
      obtain ⟨g1, g2⟩ := h.db b hkk.2 hd
      obtain ⟨q1, q2⟩ := h.dt k hkk.1 ht.1
      rw [← g2] at ho hh' ht ⊢
      exact .mx sz els _ n _ off cap g1 ho hn hh' ⟨q1, fun a n c e l => q2.trans (ht.2 a n c e l)⟩
  | fn => cases hi
  | agg => cases hi
  | tup => cases hi
  | bad => cases hi

theorem one_ren1 {v : AV} : one (ren1 bs ts id v) = one v := by
  cases v <;> try rfl
  all_goals (rename_i t; cases t <;> rfl)

theorem one_ren2 {v : AV} : one (ren2 bs ts id v) = one v := by
  cases v <;> try rfl
  all_goals (rename_i t; cases t <;> rfl)

theorem RepV.ren2 (h : Ren κ κ' (rb bs id) (rb ts id) nb nt) {v : AV} {x : Value} (hv : RepV κ w v x) (hi : in2 nb nt v = true) : RepV κ' w (ren2 bs ts id v) x := by
  cases hv with
  | fn f caps vs hs hc =>
    refine .fn f _ vs (by simpa using hs) fun j v hj => ?_
    rw [List.getElem?_map] at hj
    cases hu : caps[j]? with
    | none => simp [hu] at hj
    | some u =>
      simp [hu] at hj
      subst hj
      exact (hc j u hu).ren1 h (inL1_spec hi u (List.mem_of_getElem? hu))
  | agg l vs hs h1 hc =>
    refine .agg _ vs (by simpa using hs) ?_ fun j v hj => ?_
    · intro v hv
      obtain ⟨u, hu, rfl⟩ := List.mem_map.1 hv
      rw [one_ren1]; exact h1 u hu
    · rw [List.getElem?_map] at hj
      cases hu : l[j]? with
      | none => simp [hu] at hj
      | some u =>
        simp [hu] at hj
        subst hj
        exact (hc j u hu).ren1 h (inL1_spec hi u (List.mem_of_getElem? hu))
  | sc c => exact RepV.ren1 h (.sc c) hi
  | sl sz els t x hd ht => exact RepV.ren1 h (.sl sz els t x hd ht) hi
  | ptr b o hb => exact RepV.ren1 h (.ptr b o hb) hi
  | elp cells o b q hc => exact RepV.ren1 h (.elp cells o b q hc) hi
  | mx sz els b n t off cap hd ho hn hh ht => exact RepV.ren1 h (.mx sz els b n t off cap hd ho hn hh ht) hi
  | tup => cases hi
  | bad => cases hi

theorem RepV.ren (h : Ren κ κ' (rb bs id) (rb ts id) nb nt) {v : AV} {x : Value} (hv : RepV κ w v x) (hi : inR nb nt v = true) : RepV κ' w (ren bs ts id v) x := by
  by_cases ht : ∃ l, v = .tup l
  · obtain ⟨l, rfl⟩ := ht
    obtain ⟨vs, rfl, hs, hc⟩ := hv.tup_inv
    refine .tup _ vs (by simpa using hs) fun j v hj => ?_
    rw [List.getElem?_map] at hj
    cases hu : l[j]? with
    | none => simp [hu] at hj
    | some u =>
      simp [hu] at hj
      subst hj
      exact (hc j u hu).ren2 h (inL2_spec hi u (List.mem_of_getElem? hu))
  · have e1 : Abs.ren bs ts id v = Abs.ren2 bs ts id v := by cases v <;> first | rfl | exact absurd ⟨_, rfl⟩ ht
    have e2 : inR nb nt v = in2 nb nt v := by cases v <;> first | rfl | exact absurd ⟨_, rfl⟩ ht
    rw [e1]; rw [e2] at hi
    exact hv.ren2 h hi

theorem RepL.ren2 (h : Ren κ κ' (rb bs id) (rb ts id) nb nt) {l : List AV} {C : Array Value} (hl : RepL κ w l C) (hi : inL2 nb nt l = true) : RepL κ' w (l.map (Abs.ren2 bs ts id)) C := by
  refine ⟨by simpa using hl.1, ?_, fun j v hj => ?_⟩
  · intro v hv
    obtain ⟨u, hu, rfl⟩ := List.mem_map.1 hv
    rw [one_ren2]; exact hl.2.1 u hu
  · rw [List.getElem?_map] at hj
    cases hu : l[j]? with
    | none => simp [hu] at hj
    | some u =>
      simp [hu] at hj
      subst hj
      exact (hl.2.2 j u hu).ren2 h (inL2_spec hi u (List.mem_of_getElem? hu))

theorem RepC.ren2 (h : Ren κ κ' (rb bs id) (rb ts id) nb nt) {l : List AV} {C : Array Value} {o : Nat} (hl : RepC κ w l C o) (hi : inL2 nb nt l = true) : RepC κ' w (l.map (Abs.ren2 bs ts id)) C o := by
  have h1 := repC_iff.1 hl
  refine repC_iff.2 ⟨by simpa using h1.1, ?_⟩
  rw [List.length_map]
  exact h1.2.ren2 h hi

end ren

section wk
variable {κ : Gh} {w : World}
theorem RepV.wk1 {v u : AV} {x : Value} (hv : RepV κ w v x) (h : wk1 v u) : RepV κ w u x ∧ one u = one v := by
  unfold Abs.wk1 at h
  split at h
  · obtain ⟨rfl, rfl, ht⟩ := h
    obtain ⟨h1, h2⟩ := hv.sl_inv
    rcases ht with rfl | rfl
    · exact ⟨.sl _ _ _ _ h1 trivial, rfl⟩
    · exact ⟨hv, rfl⟩
  · obtain ⟨rfl, rfl, rfl, rfl, ht⟩ := h
    obtain ⟨off, cap, h1, h2, h3, h4, h5, rfl⟩ := hv.mx_inv
    rcases ht with rfl | rfl
    · exact ⟨.mx _ _ _ _ _ off cap h1 h2 h3 h4 trivial, rfl⟩
    · exact ⟨hv, rfl⟩
  · subst h; exact ⟨hv, rfl⟩

theorem wkL1_spec : ∀ {l m : List AV}, wkL1 l m → m.length = l.length ∧ ∀ (j : Nat) (u : AV), m[j]? = some u → ∃ v, l[j]? = some v ∧ wk1 v u
  | [], [], _ => ⟨rfl, fun j u h => by simp at h⟩
  | x :: l, y :: m, h => by
    obtain ⟨h1, h2⟩ := h
    obtain ⟨g1, g2⟩ := wkL1_spec h2
    refine ⟨by simp [g1], fun j u hj => ?_⟩
    cases j with
    | zero => simp at hj; subst hj; exact ⟨x, rfl, h1⟩
    | succ j => simpa using g2 j u (by simpa using hj)
  | [], _ :: _, h => h.elim
  | _ :: _, [], h => h.elim

theorem RepV.wk2 {v u : AV} {x : Value} (hv : RepV κ w v x) (h : wk2 v u) : RepV κ w u x ∧ one u = one v := by
  unfold Abs.wk2 at h
  split at h
  · obtain ⟨rfl, h⟩ := h
    obtain ⟨vs, rfl, hs, hc⟩ := hv.fn_inv
    obtain ⟨g1, g2⟩ := wkL1_spec h
    refine ⟨.fn _ _ vs (by rw [hs, g1]) fun j u hj => ?_, rfl⟩
    obtain ⟨v, h1, h2⟩ := g2 j u hj
    exact ((hc j v h1).wk1 h2).1
  · obtain ⟨vs, rfl, hl⟩ := hv.agg_inv
    obtain ⟨g1, g2⟩ := wkL1_spec h
    refine ⟨.agg _ vs (by rw [hl.1, g1]) ?_ fun j u hj => ?_, rfl⟩
    · intro u hu
      obtain ⟨j, hj⟩ := List.mem_iff_getElem?.1 hu
      obtain ⟨v, h1, h2⟩ := g2 j u hj
      rw [((hl.2.2 j v h1).wk1 h2).2]
      exact hl.2.1 v (List.mem_of_getElem? h1)
    · obtain ⟨v, h1, h2⟩ := g2 j u hj
      exact ((hl.2.2 j v h1).wk1 h2).1
  · exact hv.wk1 h

theorem wkL2_spec : ∀ {l m : List AV}, wkL2 l m → m.length = l.length ∧ ∀ (j : Nat) (u : AV), m[j]? = some u → ∃ v, l[j]? = some v ∧ wk2 v u
  | [], [], _ => ⟨rfl, fun j u h => by simp at h⟩
  | x :: l, y :: m, h => by
    obtain ⟨h1, h2⟩ := h
    obtain ⟨g1, g2⟩ := wkL2_spec h2
    refine ⟨by simp [g1], fun j u hj => ?_⟩
    cases j with
    | zero => simp at hj; subst hj; exact ⟨x, rfl, h1⟩
    | succ j => simpa using g2 j u (by simpa using hj)
  | [], _ :: _, h => h.elim
  | _ :: _, [], h => h.elim

theorem RepL.wk {l m : List AV} {C : Array Value} (hl : RepL κ w l C) (h : wkL2 l m) : RepL κ w m C := by
  obtain ⟨g1, g2⟩ := wkL2_spec h
  refine ⟨by rw [hl.1, g1], ?_, fun j u hj => ?_⟩
  · intro u hu
    obtain ⟨j, hj⟩ := List.mem_iff_getElem?.1 hu
    obtain ⟨v, h1, h2⟩ := g2 j u hj
    rw [((hl.2.2 j v h1).wk2 h2).2]
    exact hl.2.1 v (List.mem_of_getElem? h1)
  · obtain ⟨v, h1, h2⟩ := g2 j u hj
    exact ((hl.2.2 j v h1).wk2 h2).1
end wk

theorem RepC.wk {κ : Gh} {w : World} {l m : List AV} {C : Array Value} {o : Nat} (hl : RepC κ w l C o) (h : wkL2 l m) : RepC κ w m C o := by
  have h1 := repC_iff.1 hl
  have h2 := (wkL2_spec h).1
  refine repC_iff.2 ⟨by rw [h2]; exact h1.1, ?_⟩
  rw [h2]
  exact h1.2.wk h

/- the callee's spelling, got from the caller's -/
section unren
variable {κ κc : Gh} {w : World} {bs ts : List Nat} {id : Nat}
structure Un (κ κc : Gh) (bs ts : List Nat) : Prop where
  I_ : ∀ b o, κ.I b o → κc.I b o
  db : ∀ b x, bs[b]? = some x → κ.Db x → κc.Db b ∧ κc.ι b = κ.ι x
  dt : ∀ k x, ts[k]? = some x → κ.Dt x → κc.Dt k ∧ κc.τ k = κ.τ x

theorem RepV.un1 (h : Un κ κc bs ts) {v : AV} {x : Value} (hi : in1 bs.length ts.length v = true) (hv : RepV κ w (Abs.ren1 bs ts id v) x) : RepV κc w v x := by
  cases v with
  | sc c => rw [hv.sc_inv]; exact .sc c
  | sl sz els t =>
    cases t with
    | none =>
      obtain ⟨h1, _⟩ := hv.sl_inv
      exact .sl sz els _ x (h1.mono h.I_ fun _ _ _ => rfl) trivial
    | full =>
      obtain ⟨h1, h2⟩ := hv.sl_inv
      exact .sl sz els _ x (h1.mono h.I_ fun _ _ _ => rfl) h2
    | t k =>
      have hk : k < ts.length := by simpa [in1, Nat.blt_eq] using hi
      have e : ts[k]? = some ts[k] := List.getElem?_eq_getElem hk
      simp only [Abs.ren1, rb, e] at hv
      obtain ⟨h1, h2⟩ := hv.sl_inv
      obtain ⟨g1, g2⟩ := h.dt k _ e h2.1
      exact .sl sz els _ x (h1.mono h.I_ fun _ _ _ => rfl) ⟨g1, fun a n c e l => g2.trans (h2.2 a n c e l)⟩
  | ptr b o =>
    have hk : b < bs.length := by simpa [in1, Nat.blt_eq] using hi
    have e : bs[b]? = some bs[b] := List.getElem?_eq_getElem hk
    simp only [Abs.ren1, rb, e] at hv
    obtain ⟨h1, h2⟩ := hv.ptr_inv
    obtain ⟨g1, g2⟩ := h.db b _ e h1
    rw [h2, ← g2]
    exact .ptr b o g1
  | elp cells o =>
    obtain ⟨b, q, e, hc⟩ := hv.elp_inv
    rw [e]
    refine .elp cells o b q fun j d hj => ?_
    obtain ⟨c, h1, h2, h3⟩ := hc j d hj
    exact ⟨c, h.I_ _ _ h1, h2, h3.mono h.I_ fun _ _ _ => rfl⟩
  | mx sz els b n t =>
    cases t with
    | none =>
      have hk : b < bs.length := by simpa [in1, Nat.blt_eq] using hi
      have e : bs[b]? = some bs[b] := List.getElem?_eq_getElem hk
      simp only [Abs.ren1, rb, e] at hv
      obtain ⟨off, cap, h1, h2, h3, h4, h5, rfl⟩ := hv.mx_inv
      obtain ⟨g1, g2⟩ := h.db b _ e h1
      have h4 := h4.mono (w' := w) h.I_ fun _ _ _ => rfl
      rw [← g2] at h2 h4 ⊢
      exact .mx sz els b n _ off cap g1 h2 h3 h4 trivial
    | full =>
      have hk : b < bs.length := by simpa [in1, Nat.blt_eq] using hi
      have e : bs[b]? = some bs[b] := List.getElem?_eq_getElem hk
      simp only [Abs.ren1, rb, e] at hv
      obtain ⟨off, cap, h1, h2, h3, h4, h5, rfl⟩ := hv.mx_inv
      obtain ⟨g1, g2⟩ := h.db b _ e h1
      have h4 := h4.mono (w' := w) h.I_ fun _ _ _ => rfl
      rw [← g2] at h2 h4 h5 ⊢
      exact .mx sz els b n _ off cap g1 h2 h3 h4 h5
    | t k =>
      have hkk : k < ts.length ∧ b < bs.length := by
        simp only [in1] at hi
        split at hi
        · rename_i h1; exact ⟨by simpa [Nat.blt_eq] using h1, by simpa [Nat.blt_eq] using hi⟩
        · cases hi
      have e : bs[b]? = some bs[b] := List.getElem?_eq_getElem hkk.2
      have e' : ts[k]? = some ts[k] := List.getElem?_eq_getElem hkk.1
      simp only [Abs.ren1, rb, e, e'] at hv
      obtain ⟨off, cap, h1, h2, h3, h4, h5, rfl⟩ := hv.mx_inv
      obtain ⟨g1, g2⟩ := h.db b _ e h1
      obtain ⟨q1, q2⟩ := h.dt k _ e' h5.1
      have h4 := h4.mono (w' := w) h.I_ fun _ _ _ => rfl
      rw [← g2] at h2 h4 h5 ⊢
      exact .mx sz els b n _ off cap g1 h2 h3 h4 ⟨q1, fun a n c e l => q2.trans (h5.2 a n c e l)⟩
  | fn => cases hi
  | agg => cases hi
  | tup => cases hi
  | bad => cases hi

theorem RepV.un2 (h : Un κ κc bs ts) {v : AV} {x : Value} (hi : in2 bs.length ts.length v = true) (hv : RepV κ w (Abs.ren2 bs ts id v) x) : RepV κc w v x := by
  cases v with
  | fn f caps =>
    obtain ⟨vs, e, hs, hc⟩ := hv.fn_inv
    rw [e]
    refine .fn f caps vs (by simpa using hs) fun j u hj => ?_
    exact (hc j _ (by rw [List.getElem?_map, hj]; rfl)).un1 h (inL1_spec hi u (List.mem_of_getElem? hj))
  | agg l =>
    obtain ⟨vs, e, hl⟩ := hv.agg_inv
    rw [e]
    refine .agg l vs (by simpa using hl.1) ?_ fun j u hj => ?_
    · intro u hu
      have := hl.2.1 _ (List.mem_map_of_mem (f := Abs.ren1 bs ts id) hu)
      rwa [one_ren1] at this
    · exact (hl.2.2 j _ (by rw [List.getElem?_map, hj]; rfl)).un1 h (inL1_spec hi u (List.mem_of_getElem? hj))
  | sc c => exact RepV.un1 (id := id) h hi hv
  | sl z e t => exact RepV.un1 (id := id) h hi hv
  | ptr b o => exact RepV.un1 (id := id) h hi hv
  | elp c o => exact RepV.un1 (id := id) h hi hv
  | mx z e b n t => exact RepV.un1 (id := id) h hi hv
  | tup => cases hi
  | bad => cases hi

theorem RepL.un (h : Un κ κc bs ts) {l : List AV} {C : Array Value} (hi : inL2 bs.length ts.length l = true) (hl : RepL κ w (l.map (Abs.ren2 bs ts id)) C) : RepL κc w l C := by
  refine ⟨by simpa using hl.1, ?_, fun j u hj => ?_⟩
  · intro u hu
    have := hl.2.1 _ (List.mem_map_of_mem (f := Abs.ren2 bs ts id) hu)
    rwa [one_ren2] at this
  · exact (hl.2.2 j _ (by rw [List.getElem?_map, hj]; rfl)).un2 h (inL2_spec hi u (List.mem_of_getElem? hj))

theorem RepC.un (h : Un κ κc bs ts) {l : List AV} {C : Array Value} {o : Nat} (hi : inL2 bs.length ts.length l = true) (hl : RepC κ w (l.map (Abs.ren2 bs ts id)) C o) : RepC κc w l C o := by
  have h1 := repC_iff.1 hl
  simp only [List.length_map] at h1
  exact repC_iff.2 ⟨h1.1, h1.2.un h hi⟩

end unren

theorem nodupB_spec : ∀ {l : List Nat}, nodupB l = true → ∀ (i j x : Nat), l[i]? = some x → l[j]? = some x → i = j
  | [], _, i, j, x, h, _ => by simp at h
  | y :: r, h, i, j, x, hi, hj => by
    simp only [nodupB] at h
    split at h
    · cases h
    · rename_i hc
      have hn : ∀ k, r[k]? = some y → False := fun k hk => by
        have : r.contains y = true := List.contains_iff_mem.2 (List.mem_of_getElem? hk)
        rw [hc] at this; cases this
      cases i with
      | zero =>
        cases j with
        | zero => rfl
        | succ j => simp at hi hj; subst hi; exact (hn j hj).elim
      | succ i =>
        cases j with
        | zero => simp at hi hj; subst hj; exact (hn i hi).elim
        | succ j => rw [nodupB_spec h i j x (by simpa using hi) (by simpa using hj)]

theorem boxIs_spec {σ : Log} {bs0 ts : List Nat} {id : Nat} : ∀ {bs : List Nat} {H : List (List AV)}, boxIs σ bs0 ts id bs H → H.length = bs.length ∧
    ∀ (i : Nat) (h : List AV), H[i]? = some h → ∃ b l, bs[i]? = some b ∧ look σ (.b b) = some (.bx l) ∧ wkL2 l (h.map (ren2 bs0 ts id))
  | [], [], _ => ⟨rfl, fun i h hi => by simp at hi⟩
  | b :: bs, h :: H, hh => by
    obtain ⟨h1, h2⟩ := hh
    obtain ⟨g1, g2⟩ := boxIs_spec h2
    refine ⟨by simp [g1], fun i h' hi => ?_⟩
    cases i with
    | zero =>
      simp at hi; subst hi
      split at h1
      · rename_i l hl; exact ⟨b, l, rfl, hl, h1⟩
      · exact h1.elim
    | succ i => simpa using g2 i h' (by simpa using hi)
  | [], _ :: _, h => h.elim
  | _ :: _, [], h => h.elim

theorem liveAll_spec {σ : Log} : ∀ {ts : List Nat}, liveAll σ ts → ∀ k, k ∈ ts → look σ (.t k) = some (.tk true)
  | [], _, k, h => by cases h
  | x :: r, h, k, hk => by
    obtain ⟨h1, h2⟩ := h
    rcases List.mem_cons.1 hk with rfl | hk
    · split at h1
      · assumption
      · exact h1.elim
    · exact liveAll_spec h2 k hk

/- the look of the logs that calls lay -/
theorem look_initS : ∀ (l : List AV) (n m : Nat), look (initS n l) (.s m) = if n ≤ m then (l[m - n]?).map .av else none
  | [], n, m => by simp [initS, look]
  | v :: l, n, m => by
    rw [initS, look_cons, look_initS l (n + 1) m]
    by_cases h : n = m
    · subst h; simp
    · have e : (Loc.s n = Loc.s m) = False := by simp [h]
      simp only [e, if_false]
      by_cases h2 : n ≤ m
      · rw [if_pos h2, if_pos (by omega), show m - n = (m - (n + 1)) + 1 by omega]; simp
      · rw [if_neg h2, if_neg (by omega)]
theorem look_initS_b : ∀ (l : List AV) (n m : Nat), look (initS n l) (.b m) = none
  | [], n, m => rfl
  | v :: l, n, m => by rw [initS, look_cons, look_initS_b l]; simp
theorem look_initS_t : ∀ (l : List AV) (n m : Nat), look (initS n l) (.t m) = none
  | [], n, m => rfl
  | v :: l, n, m => by rw [initS, look_cons, look_initS_t l]; simp
theorem look_initB : ∀ (l : List (List AV)) (n m : Nat), look (initB n l) (.b m) = if n ≤ m then (l[m - n]?).map .bx else none
  | [], n, m => by simp [initB, look]
  | v :: l, n, m => by
    rw [initB, look_cons, look_initB l (n + 1) m]
    by_cases h : n = m
    · subst h; simp
    · have e : (Loc.b n = Loc.b m) = False := by simp [h]
      simp only [e, if_false]
      by_cases h2 : n ≤ m
      · rw [if_pos h2, if_pos (by omega), show m - n = (m - (n + 1)) + 1 by omega]; simp
      · rw [if_neg h2, if_neg (by omega)]
theorem look_initB_s : ∀ (l : List (List AV)) (n m : Nat), look (initB n l) (.s m) = none
  | [], n, m => rfl
  | v :: l, n, m => by rw [initB, look_cons, look_initB_s l]; simp
theorem look_initB_t : ∀ (l : List (List AV)) (n m : Nat), look (initB n l) (.t m) = none
  | [], n, m => rfl
  | v :: l, n, m => by rw [initB, look_cons, look_initB_t l]; simp
theorem look_initT : ∀ (l : List Nat) (m : Nat), look (initT l) (.t m) = if m ∈ l then some (.tk true) else none
  | [], m => by simp [initT, look]
  | k :: l, m => by
    rw [initT, look_cons, look_initT l m]
    by_cases h : k = m
    · subst h; simp
    · have h' : ¬ m = k := fun e => h e.symm
      simp [h, h']
theorem look_initT_s : ∀ (l : List Nat) (m : Nat), look (initT l) (.s m) = none
  | [], m => rfl
  | k :: l, m => by rw [initT, look_cons, look_initT_s l]; simp
theorem look_initT_b : ∀ (l : List Nat) (m : Nat), look (initT l) (.b m) = none
  | [], m => rfl
  | k :: l, m => by rw [initT, look_cons, look_initT_b l]; simp

def allToks (args : List AV) (H : List (List AV)) : List Nat := args.flatMap toks ++ H.flatMap fun h => h.flatMap toks2

theorem look_init_s (args : List AV) (H : List (List AV)) (n : Nat) : look (initLog args H) (.s n) = (args[n]?).map .av := by
  unfold initLog
  rw [look_append, look_append, look_initS, look_initB_s, look_initT_s]
  simp
  cases args[n]? <;> rfl
theorem look_init_b (args : List AV) (H : List (List AV)) (n : Nat) : look (initLog args H) (.b n) = (H[n]?).map .bx := by
  unfold initLog
  rw [look_append, look_append, look_initS_b, look_initB, look_initT_b]
  simp
  cases H[n]? <;> rfl
theorem look_init_t (args : List AV) (H : List (List AV)) (n : Nat) : look (initLog args H) (.t n) = if n ∈ allToks args H then some (.tk true) else none := by
  unfold initLog
  rw [look_append, look_append, look_initS_t, look_initB_t, look_initT]
  rfl
end Go.Abs
