/- A call: the callee's view of the world, and the way back. -/
import Derived.Test.YthhfalbeafocoaaGreatDoorMa
import Derived.MapKept
import Derived.LaidEqlPtr
import Derived.Laws.RangeString
namespace Go.Abs
open Go
theorem inL1_spec {nb nt : Nat} : ∀ {l : List AV}, inL1 nb nt l = true → ∀ v, v ∈ l → in1 nb nt v = true
  | [], _, v, h => by cases h
  | x :: r, h, v, hv => by
    simp only [inL1] at h
    split at h
    · rename_i hx
      rcases List.mem_cons.1 hv with rfl | hv
      · exact hx
      · exact inL1_spec h v hv
    · cases h
theorem inL2_spec {nb nt : Nat} : ∀ {l : List AV}, inL2 nb nt l = true → ∀ v, v ∈ l → in2 nb nt v = true
  | [], _, v, h => by cases h
  | x :: r, h, v, hv => by
    simp only [inL2] at h
    split at h
    · rename_i hx
      rcases List.mem_cons.1 hv with rfl | hv
      · exact hx
      · exact inL2_spec h v hv
    · cases h
theorem inH_spec {nb nt : Nat} : ∀ {l : List (List AV)}, inH nb nt l = true → ∀ v, v ∈ l → inL2 nb nt v = true
  | [], _, v, h => by cases h
  | x :: r, h, v, hv => by
    simp only [inH] at h
    split at h
    · rename_i hx
      rcases List.mem_cons.1 hv with rfl | hv
      · exact hx
      · exact inH_spec h v hv
    · cases h

/-- what is known of two ghost states whose ids are renamed -/
structure Ren (κ κ' : Gh) (fb ft : Nat → Nat) (nb nt : Nat) : Prop where
  I_ : ∀ b o, κ.I b o → κ'.I b o
  db : ∀ b, b < nb → κ.Db b → κ'.Db (fb b) ∧ κ'.ι (fb b) = κ.ι b
  dt : ∀ k, k < nt → κ.Dt k → κ'.Dt (ft k) ∧ κ'.τ (ft k) = κ.τ k

section ren
variable {κ κ' : Gh} {w : World} {bs ts : List Nat} {id nb nt : Nat}
theorem RepV.ren1 (h : Ren κ κ' (rb bs id) (rb ts id) nb nt) {v : AV} {x : Value} (hv : RepV κ w v x) (hi : in1 nb nt v = true) : RepV κ' w (ren1 bs ts id v) x := by
  cases hv with
  | sc c => exact .sc c
  | sl sz els t x hd ht =>
    have hd' := hd.mono (w' := w) h.I_ (fun _ _ _ => rfl)
    cases t with
    | none => exact .sl sz els _ x hd' trivial
    | full => exact .sl sz els _ x hd' ht
    | t k =>
      have hk : k < nt := by simpa [in1, Nat.blt_eq] using hi
      obtain ⟨g1, g2⟩ := h.dt k hk ht.1
      exact .sl sz els _ x hd' ⟨g1, fun a n c e l => g2.trans (ht.2 a n c e l)⟩
  | ptr b o hb =>
    have hk : b < nb := by simpa [in1, Nat.blt_eq] using hi
    obtain ⟨g1, g2⟩ := h.db b hk hb
    rw [← g2]
    exact .ptr _ o g1
  | elp cells o b q hc =>
    refine .elp cells o b q fun j d hj => ?_
    obtain ⟨c, h1, h2, h3⟩ := hc j d hj
    exact ⟨c, h.I_ _ _ h1, h2, h3.mono h.I_ (fun _ _ _ => rfl)⟩
  | mx sz els b n t off cap hd ho hn hh ht =>
    have hh' := hh.mono (w' := w) h.I_ (fun _ _ _ => rfl)
    cases t with
    | none =>
      have hk : b < nb := by simpa [in1, Nat.blt_eq] using hi
      obtain ⟨g1, g2⟩ := h.db b hk hd
      rw [← g2] at ho hh' ⊢
      exact .mx sz els _ n _ off cap g1 ho hn hh' trivial
    | full =>
      have hk : b < nb := by simpa [in1, Nat.blt_eq] using hi
      obtain ⟨g1, g2⟩ := h.db b hk hd
      rw [← g2] at ho hh' ht ⊢
      exact .mx sz els _ n _ off cap g1 ho hn hh' ht
    | t k =>
      have hkk : k < nt ∧ b < nb := by
        simp only [in1] at hi
        split at hi
        · rename_i h1; exact ⟨by simpa [Nat.blt_eq] using h1, by simpa [Nat.blt_eq] using hi⟩
        · cases hi
      obtain ⟨g1, g2⟩ := h.db b hkk.2 hd
      obtain ⟨q1, q2⟩ := h.dt k hkk.1 ht.1
      rw [← g2] at ho hh' ht ⊢
      exact .mx sz els _ n _ off cap g1 ho hn hh' ⟨q1, fun a n c e l => q2.trans (ht.2 a n c e l)⟩
  | mr b hb =>
    have hk : b < nb := by simpa [in1, Nat.blt_eq] using hi
    obtain ⟨g1, g2⟩ := h.db b hk hb
    rw [← g2]
    exact .mr _ g1
  | cs sz b o n c t cap hd hn hc ht =>
    cases t with
    | none =>
      have hk : b < nb := by simpa [in1, Nat.blt_eq] using hi
      obtain ⟨g1, g2⟩ := h.db b hk hd
      rw [← g2]
      exact .cs sz _ o n c _ cap g1 hn hc trivial
    | full =>
      have hk : b < nb := by simpa [in1, Nat.blt_eq] using hi
      obtain ⟨g1, g2⟩ := h.db b hk hd
      rw [← g2] at ht ⊢
      exact .cs sz _ o n c _ cap g1 hn hc ht
    | t k =>
      have hkk : k < nt ∧ b < nb := by
        simp only [in1] at hi
        split at hi
        · rename_i h1; exact ⟨by simpa [Nat.blt_eq] using h1, by simpa [Nat.blt_eq] using hi⟩
        · cases hi
      obtain ⟨g1, g2⟩ := h.db b hkk.2 hd
      obtain ⟨q1, q2⟩ := h.dt k hkk.1 ht.1
      rw [← g2] at ht ⊢
      exact .cs sz _ o n c _ cap g1 hn hc ⟨q1, fun a n c e l => q2.trans (ht.2 a n c e l)⟩
  | fn => cases hi
  | agg => cases hi
  | tup => cases hi
  | bad => cases hi

theorem one_ren1 {v : AV} : one (ren1 bs ts id v) = one v := by
  cases v <;> try rfl
  all_goals (rename_i t; cases t <;> rfl)

theorem BoxR.map {κ κ' : Gh} {w : World} {p : Nat × Nat} {es : MP} (hI : ∀ b o, κ.I b o → κ'.I b o) (hl : BoxR κ w p [.mpv es]) : BoxR κ' w p [.mpv es] := by
  rcases hl with ⟨h0, _⟩ | ⟨es', ob, h1, h2, h3, h4⟩
  · cases h0
  · cases h1
    exact .inr ⟨es, ob, rfl, h2, h3, h4.mono hI fun _ _ _ => rfl⟩
theorem one_ren2 {v : AV} : one (ren2 bs ts id v) = one v := by
  cases v <;> try rfl
  all_goals (rename_i t; cases t <;> rfl)

theorem RepV.ren2 (h : Ren κ κ' (rb bs id) (rb ts id) nb nt) {v : AV} {x : Value} (hv : RepV κ w v x) (hi : in2 nb nt v = true) : RepV κ' w (ren2 bs ts id v) x := by
  cases hv with
  | fn f caps vs hs hc =>
    refine .fn f _ vs (by simpa using hs) fun j v hj => ?_
    rw [List.getElem?_map] at hj
    cases hu : caps[j]? with
    | none => simp [hu] at hj
    | some u =>
      simp [hu] at hj
      subst hj
      exact (hc j u hu).ren1 h (inL1_spec hi u (List.mem_of_getElem? hu))
  | agg l vs hs h1 hc =>
    refine .agg _ vs (by simpa using hs) ?_ fun j v hj => ?_
    · intro v hv
      obtain ⟨u, hu, rfl⟩ := List.mem_map.1 hv
      rw [one_ren1]; exact h1 u hu
    · rw [List.getElem?_map] at hj
      cases hu : l[j]? with
      | none => simp [hu] at hj
      | some u =>
        simp [hu] at hj
        subst hj
        exact (hc j u hu).ren1 h (inL1_spec hi u (List.mem_of_getElem? hu))
  | sc c => exact RepV.ren1 h (.sc c) hi
  | sl sz els t x hd ht => exact RepV.ren1 h (.sl sz els t x hd ht) hi
  | ptr b o hb => exact RepV.ren1 h (.ptr b o hb) hi
  | elp cells o b q hc => exact RepV.ren1 h (.elp cells o b q hc) hi
  | mx sz els b n t off cap hd ho hn hh ht => exact RepV.ren1 h (.mx sz els b n t off cap hd ho hn hh ht) hi
  | mr b hb => exact RepV.ren1 h (.mr b hb) hi
  | cs sz b o n c t cap hd hn hc ht => exact RepV.ren1 h (.cs sz b o n c t cap hd hn hc ht) hi
  | tup => cases hi
  | bad => cases hi

theorem RepV.ren (h : Ren κ κ' (rb bs id) (rb ts id) nb nt) {v : AV} {x : Value} (hv : RepV κ w v x) (hi : inR nb nt v = true) : RepV κ' w (ren bs ts id v) x := by
  by_cases ht : ∃ l, v = .tup l
  · obtain ⟨l, rfl⟩ := ht
    obtain ⟨vs, rfl, hs, hc⟩ := hv.tup_inv
    refine .tup _ vs (by simpa using hs) fun j v hj => ?_
    rw [List.getElem?_map] at hj
    cases hu : l[j]? with
    | none => simp [hu] at hj
    | some u =>
      simp [hu] at hj
      subst hj
      exact (hc j u hu).ren2 h (inL2_spec hi u (List.mem_of_getElem? hu))
  · have e1 : Abs.ren bs ts id v = Abs.ren2 bs ts id v := by cases v <;> first | rfl | exact absurd ⟨_, rfl⟩ ht
    have e2 : inR nb nt v = in2 nb nt v := by cases v <;> first | rfl | exact absurd ⟨_, rfl⟩ ht
    rw [e1]; rw [e2] at hi
    exact hv.ren2 h hi

theorem RepL.ren2 (h : Ren κ κ' (rb bs id) (rb ts id) nb nt) {l : List AV} {C : Array Value} (hl : RepL κ w l C) (hi : inL2 nb nt l = true) : RepL κ' w (l.map (Abs.ren2 bs ts id)) C := by
  refine ⟨by simpa using hl.1, ?_, fun j v hj => ?_⟩
  · intro v hv
    obtain ⟨u, hu, rfl⟩ := List.mem_map.1 hv
    rw [one_ren2]; exact hl.2.1 u hu
  · rw [List.getElem?_map] at hj
    cases hu : l[j]? with
    | none => simp [hu] at hj
    | some u =>
      simp [hu] at hj
      subst hj
      exact (hl.2.2 j u hu).ren2 h (inL2_spec hi u (List.mem_of_getElem? hu))

theorem RepC.ren2 (h : Ren κ κ' (rb bs id) (rb ts id) nb nt) {l : List AV} {C : Array Value} {o : Nat} (hl : RepC κ w l C o) (hi : inL2 nb nt l = true) : RepC κ' w (l.map (Abs.ren2 bs ts id)) C o := by
  have h1 := repC_iff.1 hl
  refine repC_iff.2 ⟨by simpa using h1.1, ?_⟩
  rw [List.length_map]
  exact h1.2.ren2 h hi

end ren
section wk
variable {κ : Gh} {w : World}
theorem RepV.wk1 {v u : AV} {x : Value} (hv : RepV κ w v x) (h : wk1 v u) : RepV κ w u x ∧ one u = one v := by
  unfold Abs.wk1 at h
  split at h
  · obtain ⟨rfl, rfl, ht⟩ := h
    obtain ⟨h1, h2⟩ := hv.sl_inv
    rcases ht with rfl | rfl
    · exact ⟨.sl _ _ _ _ h1 trivial, rfl⟩
    · exact ⟨hv, rfl⟩
  · obtain ⟨rfl, rfl, rfl, rfl, ht⟩ := h
    obtain ⟨off, cap, h1, h2, h3, h4, h5, rfl⟩ := hv.mx_inv
    rcases ht with rfl | rfl
    · exact ⟨.mx _ _ _ _ _ off cap h1 h2 h3 h4 trivial, rfl⟩
    · exact ⟨hv, rfl⟩
  · obtain ⟨rfl, rfl, rfl, rfl, rfl, ht⟩ := h
    obtain ⟨cap, h1, h2, h3, h4, rfl⟩ := hv.cs_inv
    rcases ht with rfl | rfl
    · exact ⟨.cs _ _ _ _ _ _ cap h1 h2 h3 trivial, rfl⟩
    · exact ⟨hv, rfl⟩
  · subst h; exact ⟨hv, rfl⟩

theorem wkL1_spec : ∀ {l m : List AV}, wkL1 l m → m.length = l.length ∧ ∀ (j : Nat) (u : AV), m[j]? = some u → ∃ v, l[j]? = some v ∧ wk1 v u
  | [], [], _ => ⟨rfl, fun j u h => by simp at h⟩
  | x :: l, y :: m, h => by
    obtain ⟨h1, h2⟩ := h
    obtain ⟨g1, g2⟩ := wkL1_spec h2
    refine ⟨by simp [g1], fun j u hj => ?_⟩
    cases j with
    | zero => simp at hj; subst hj; exact ⟨x, rfl, h1⟩
    | succ j => simpa using g2 j u (by simpa using hj)
  | [], _ :: _, h => h.elim
  | _ :: _, [], h => h.elim

theorem RepV.wk2 {v u : AV} {x : Value} (hv : RepV κ w v x) (h : wk2 v u) : RepV κ w u x ∧ one u = one v := by
  unfold Abs.wk2 at h
  split at h
  · obtain ⟨rfl, h⟩ := h
    obtain ⟨vs, rfl, hs, hc⟩ := hv.fn_inv
    obtain ⟨g1, g2⟩ := wkL1_spec h
    refine ⟨.fn _ _ vs (by rw [hs, g1]) fun j u hj => ?_, rfl⟩
    obtain ⟨v, h1, h2⟩ := g2 j u hj
    exact ((hc j v h1).wk1 h2).1
  · obtain ⟨vs, rfl, hl⟩ := hv.agg_inv
    obtain ⟨g1, g2⟩ := wkL1_spec h
    refine ⟨.agg _ vs (by rw [hl.1, g1]) ?_ fun j u hj => ?_, rfl⟩
    · intro u hu
      obtain ⟨j, hj⟩ := List.mem_iff_getElem?.1 hu
      obtain ⟨v, h1, h2⟩ := g2 j u hj
      rw [((hl.2.2 j v h1).wk1 h2).2]
      exact hl.2.1 v (List.mem_of_getElem? h1)
    · obtain ⟨v, h1, h2⟩ := g2 j u hj
      exact ((hl.2.2 j v h1).wk1 h2).1
  · exact hv.wk1 h

theorem wkL2_spec : ∀ {l m : List AV}, wkL2 l m → m.length = l.length ∧ ∀ (j : Nat) (u : AV), m[j]? = some u → ∃ v, l[j]? = some v ∧ wk2 v u
  | [], [], _ => ⟨rfl, fun j u h => by simp at h⟩
  | x :: l, y :: m, h => by
    obtain ⟨h1, h2⟩ := h
    obtain ⟨g1, g2⟩ := wkL2_spec h2
    refine ⟨by simp [g1], fun j u hj => ?_⟩
    cases j with
    | zero => simp at hj; subst hj; exact ⟨x, rfl, h1⟩
    | succ j => simpa using g2 j u (by simpa using hj)
  | [], _ :: _, h => h.elim
  | _ :: _, [], h => h.elim

theorem RepL.wk {l m : List AV} {C : Array Value} (hl : RepL κ w l C) (h : wkL2 l m) : RepL κ w m C := by
  obtain ⟨g1, g2⟩ := wkL2_spec h
  refine ⟨by rw [hl.1, g1], ?_, fun j u hj => ?_⟩
  · intro u hu
    obtain ⟨j, hj⟩ := List.mem_iff_getElem?.1 hu
    obtain ⟨v, h1, h2⟩ := g2 j u hj
    rw [((hl.2.2 j v h1).wk2 h2).2]
    exact hl.2.1 v (List.mem_of_getElem? h1)
  · obtain ⟨v, h1, h2⟩ := g2 j u hj
    exact ((hl.2.2 j v h1).wk2 h2).1
end wk
theorem RepC.wk {κ : Gh} {w : World} {l m : List AV} {C : Array Value} {o : Nat} (hl : RepC κ w l C o) (h : wkL2 l m) : RepC κ w m C o := by
  have h1 := repC_iff.1 hl
  have h2 := (wkL2_spec h).1
  refine repC_iff.2 ⟨by rw [h2]; exact h1.1, ?_⟩
  rw [h2]
  exact h1.2.wk h

theorem BoxR.ren2 {κ κ' : Gh} {w : World} {bs ts : List Nat} {id nb nt : Nat} (h : Ren κ κ' (rb bs id) (rb ts id) nb nt) {l : List AV} {p : Nat × Nat} (hl : BoxR κ w p l) (hi : inL2 nb nt l = true) : BoxR κ' w p (l.map (Abs.ren2 bs ts id)) := by
  cases hm : isM l with
  | false =>
    obtain ⟨C, ty, h1, h2⟩ := hl.row hm
    exact .of h1 (h2.ren2 h hi)
  | true =>
    obtain ⟨es, rfl⟩ := isM_iff.1 hm
    exact hl.map h.I_

/- the callee's spelling, got from the caller's -/
section unren
variable {κ κc : Gh} {w : World} {bs ts : List Nat} {id : Nat}
structure Un (κ κc : Gh) (bs ts : List Nat) : Prop where
  I_ : ∀ b o, κ.I b o → κc.I b o
  db : ∀ b x, bs[b]? = some x → κ.Db x → κc.Db b ∧ κc.ι b = κ.ι x
  dt : ∀ k x, ts[k]? = some x → κ.Dt x → κc.Dt k ∧ κc.τ k = κ.τ x

theorem RepV.un1 (h : Un κ κc bs ts) {v : AV} {x : Value} (hi : in1 bs.length ts.length v = true) (hv : RepV κ w (Abs.ren1 bs ts id v) x) : RepV κc w v x := by
  cases v with
  | sc c => rw [hv.sc_inv]; exact .sc c
  | sl sz els t =>
    cases t with
    | none =>
      obtain ⟨h1, _⟩ := hv.sl_inv
      exact .sl sz els _ x (h1.mono h.I_ fun _ _ _ => rfl) trivial
    | full =>
      obtain ⟨h1, h2⟩ := hv.sl_inv
      exact .sl sz els _ x (h1.mono h.I_ fun _ _ _ => rfl) h2
    | t k =>
      have hk : k < ts.length := by simpa [in1, Nat.blt_eq] using hi
      have e : ts[k]? = some ts[k] := List.getElem?_eq_getElem hk
      simp only [Abs.ren1, rb, e] at hv
      obtain ⟨h1, h2⟩ := hv.sl_inv
      obtain ⟨g1, g2⟩ := h.dt k _ e h2.1
      exact .sl sz els _ x (h1.mono h.I_ fun _ _ _ => rfl) ⟨g1, fun a n c e l => g2.trans (h2.2 a n c e l)⟩
  | ptr b o =>
    have hk : b < bs.length := by simpa [in1, Nat.blt_eq] using hi
    have e : bs[b]? = some bs[b] := List.getElem?_eq_getElem hk
    simp only [Abs.ren1, rb, e] at hv
    obtain ⟨h1, h2⟩ := hv.ptr_inv
    obtain ⟨g1, g2⟩ := h.db b _ e h1
    rw [h2, ← g2]
    exact .ptr b o g1
  | elp cells o =>
    obtain ⟨b, q, e, hc⟩ := hv.elp_inv
    rw [e]
    refine .elp cells o b q fun j d hj => ?_
    obtain ⟨c, h1, h2, h3⟩ := hc j d hj
    exact ⟨c, h.I_ _ _ h1, h2, h3.mono h.I_ fun _ _ _ => rfl⟩
  | mx sz els b n t =>
    cases t with
    | none =>
      have hk : b < bs.length := by simpa [in1, Nat.blt_eq] using hi
      have e : bs[b]? = some bs[b] := List.getElem?_eq_getElem hk
      simp only [Abs.ren1, rb, e] at hv
      obtain ⟨off, cap, h1, h2, h3, h4, h5, rfl⟩ := hv.mx_inv
      obtain ⟨g1, g2⟩ := h.db b _ e h1
      have h4 := h4.mono (w' := w) h.I_ fun _ _ _ => rfl
      rw [← g2] at h2 h4 ⊢
      exact .mx sz els b n _ off cap g1 h2 h3 h4 trivial
    | full =>
      have hk : b < bs.length := by simpa [in1, Nat.blt_eq] using hi
      have e : bs[b]? = some bs[b] := List.getElem?_eq_getElem hk
      simp only [Abs.ren1, rb, e] at hv
      obtain ⟨off, cap, h1, h2, h3, h4, h5, rfl⟩ := hv.mx_inv
      obtain ⟨g1, g2⟩ := h.db b _ e h1
      have h4 := h4.mono (w' := w) h.I_ fun _ _ _ => rfl
      rw [← g2] at h2 h4 h5 ⊢
      exact .mx sz els b n _ off cap g1 h2 h3 h4 h5
    | t k =>
      have hkk : k < ts.length ∧ b < bs.length := by
        simp only [in1] at hi
        split at hi
        · rename_i h1; exact ⟨by simpa [Nat.blt_eq] using h1, by simpa [Nat.blt_eq] using hi⟩
        · cases hi
      have e : bs[b]? = some bs[b] := List.getElem?_eq_getElem hkk.2
      have e' : ts[k]? = some ts[k] := List.getElem?_eq_getElem hkk.1
      simp only [Abs.ren1, rb, e, e'] at hv
      obtain ⟨off, cap, h1, h2, h3, h4, h5, rfl⟩ := hv.mx_inv
      obtain ⟨g1, g2⟩ := h.db b _ e h1
      obtain ⟨q1, q2⟩ := h.dt k _ e' h5.1
      have h4 := h4.mono (w' := w) h.I_ fun _ _ _ => rfl
      rw [← g2] at h2 h4 h5 ⊢
      exact .mx sz els b n _ off cap g1 h2 h3 h4 ⟨q1, fun a n c e l => q2.trans (h5.2 a n c e l)⟩
  | mr b =>
    have hk : b < bs.length := by simpa [in1, Nat.blt_eq] using hi
    have e : bs[b]? = some bs[b] := List.getElem?_eq_getElem hk
    simp only [Abs.ren1, rb, e] at hv
    obtain ⟨h1, h2⟩ := hv.mr_inv
    obtain ⟨g1, g2⟩ := h.db b _ e h1
    rw [h2, ← g2]
    exact .mr b g1
  | cs sz b o n c t =>
    cases t with
    | none =>
      have hk : b < bs.length := by simpa [in1, Nat.blt_eq] using hi
      have e : bs[b]? = some bs[b] := List.getElem?_eq_getElem hk
      simp only [Abs.ren1, rb, e] at hv
      obtain ⟨cap, h1, h2, h3, h4, rfl⟩ := hv.cs_inv
      obtain ⟨g1, g2⟩ := h.db b _ e h1
      rw [← g2]
      exact .cs sz b o n c _ cap g1 h2 h3 trivial
    | full =>
      have hk : b < bs.length := by simpa [in1, Nat.blt_eq] using hi
      have e : bs[b]? = some bs[b] := List.getElem?_eq_getElem hk
      simp only [Abs.ren1, rb, e] at hv
      obtain ⟨cap, h1, h2, h3, h4, rfl⟩ := hv.cs_inv
      obtain ⟨g1, g2⟩ := h.db b _ e h1
      rw [← g2] at h4 ⊢
      exact .cs sz b o n c _ cap g1 h2 h3 h4
    | t k =>
      have hkk : k < ts.length ∧ b < bs.length := by
        simp only [in1] at hi
        split at hi
        · rename_i h1; exact ⟨by simpa [Nat.blt_eq] using h1, by simpa [Nat.blt_eq] using hi⟩
        · cases hi
      have e : bs[b]? = some bs[b] := List.getElem?_eq_getElem hkk.2
      have e' : ts[k]? = some ts[k] := List.getElem?_eq_getElem hkk.1
      simp only [Abs.ren1, rb, e, e'] at hv
      obtain ⟨cap, h1, h2, h3, h4, rfl⟩ := hv.cs_inv
      obtain ⟨g1, g2⟩ := h.db b _ e h1
      obtain ⟨q1, q2⟩ := h.dt k _ e' h4.1
      rw [← g2] at h4 ⊢
      exact .cs sz b o n c _ cap g1 h2 h3 ⟨q1, fun a n c e l => q2.trans (h4.2 a n c e l)⟩
  | mpv es => cases hv
  | fn => cases hi
  | agg => cases hi
  | tup => cases hi
  | bad => cases hi

theorem RepV.un2 (h : Un κ κc bs ts) {v : AV} {x : Value} (hi : in2 bs.length ts.length v = true) (hv : RepV κ w (Abs.ren2 bs ts id v) x) : RepV κc w v x := by
  cases v with
  | fn f caps =>
    obtain ⟨vs, e, hs, hc⟩ := hv.fn_inv
    rw [e]
    refine .fn f caps vs (by simpa using hs) fun j u hj => ?_
    exact (hc j _ (by rw [List.getElem?_map, hj]; rfl)).un1 h (inL1_spec hi u (List.mem_of_getElem? hj))
  | agg l =>
    obtain ⟨vs, e, hl⟩ := hv.agg_inv
    rw [e]
    refine .agg l vs (by simpa using hl.1) ?_ fun j u hj => ?_
    · intro u hu
      have := hl.2.1 _ (List.mem_map_of_mem (f := Abs.ren1 bs ts id) hu)
      rwa [one_ren1] at this
    · exact (hl.2.2 j _ (by rw [List.getElem?_map, hj]; rfl)).un1 h (inL1_spec hi u (List.mem_of_getElem? hj))
  | sc c => exact RepV.un1 (id := id) h hi hv
  | sl z e t => exact RepV.un1 (id := id) h hi hv
  | ptr b o => exact RepV.un1 (id := id) h hi hv
  | elp c o => exact RepV.un1 (id := id) h hi hv
  | mx z e b n t => exact RepV.un1 (id := id) h hi hv
  | mr b => exact RepV.un1 (id := id) h hi hv
  | cs sz b o n c t => exact RepV.un1 (id := id) h hi hv
  | mpv es => cases hv
  | tup => cases hi
  | bad => cases hi

theorem RepL.un (h : Un κ κc bs ts) {l : List AV} {C : Array Value} (hi : inL2 bs.length ts.length l = true) (hl : RepL κ w (l.map (Abs.ren2 bs ts id)) C) : RepL κc w l C := by
  refine ⟨by simpa using hl.1, ?_, fun j u hj => ?_⟩
  · intro u hu
    have := hl.2.1 _ (List.mem_map_of_mem (f := Abs.ren2 bs ts id) hu)
    rwa [one_ren2] at this
  · exact (hl.2.2 j _ (by rw [List.getElem?_map, hj]; rfl)).un2 h (inL2_spec hi u (List.mem_of_getElem? hj))

theorem RepC.un (h : Un κ κc bs ts) {l : List AV} {C : Array Value} {o : Nat} (hi : inL2 bs.length ts.length l = true) (hl : RepC κ w (l.map (Abs.ren2 bs ts id)) C o) : RepC κc w l C o := by
  have h1 := repC_iff.1 hl
  simp only [List.length_map] at h1
  exact repC_iff.2 ⟨h1.1, h1.2.un h hi⟩

theorem ren2_mpv {v : AV} {es : MP} (h : Abs.ren2 bs ts id v = .mpv es) : v = .mpv es := by
  cases v with
  | sl z e t => cases t <;> cases h
  | mx z e b n t => cases t <;> cases h
  | cs z b o n c t => cases t <;> cases h
  | mpv es' => exact h
  | sc | ptr | elp | fn | agg | tup | mr | bad => cases h
theorem isM_ren {l : List AV} : isM (l.map (Abs.ren2 bs ts id)) = isM l := by
  cases h : isM l with
  | true => obtain ⟨es, rfl⟩ := isM_iff.1 h; rfl
  | false =>
    cases h2 : isM (l.map (Abs.ren2 bs ts id)) with
    | false => rfl
    | true =>
      obtain ⟨es, he⟩ := isM_iff.1 h2
      cases l with
      | nil => cases he
      | cons v r =>
        cases r with
        | nil =>
          simp only [List.map_cons, List.map_nil, List.cons.injEq, and_true] at he
          rw [ren2_mpv he] at h
          cases h
        | cons u r => simp at he
theorem BoxR.un (h : Un κ κc bs ts) {l : List AV} {p : Nat × Nat} (hi : inL2 bs.length ts.length l = true) (hl : BoxR κ w p (l.map (Abs.ren2 bs ts id))) : BoxR κc w p l := by
  cases hm : isM l with
  | false =>
    obtain ⟨C, ty, h1, h2⟩ := hl.row (by rw [isM_ren]; exact hm)
    exact .of h1 (h2.un h hi)
  | true =>
    obtain ⟨es, rfl⟩ := isM_iff.1 hm
    rcases hl with ⟨h0, _⟩ | ⟨es', ob, h1, h2, h3, h4⟩
    · cases h0
    · cases h1
      exact .inr ⟨es, ob, rfl, h2, h3, h4.mono h.I_ fun _ _ _ => rfl⟩

end unren
theorem BoxR.wk {κ : Gh} {w : World} {l m : List AV} {p : Nat × Nat} (hl : BoxR κ w p l) (h : wkL2 l m) : BoxR κ w p m := by
  cases hm : isM l with
  | false =>
    obtain ⟨C, ty, h1, h2⟩ := hl.row hm
    exact .of h1 (h2.wk h)
  | true =>
    obtain ⟨es, rfl⟩ := isM_iff.1 hm
    have hm2 : m = [.mpv es] := by
      cases m with
      | nil => exact h.elim
      | cons v r =>
        obtain ⟨h1, h2⟩ := h
        cases r with
        | nil =>
          have hv : AV.mpv es = v := by cases v <;> exact h1
          rw [hv]
        | cons u r => exact h2.elim
    rw [hm2]; exact hl

theorem nodupB_spec : ∀ {l : List Nat}, nodupB l = true → ∀ (i j x : Nat), l[i]? = some x → l[j]? = some x → i = j
  | [], _, i, j, x, h, _ => by simp at h
  | y :: r, h, i, j, x, hi, hj => by
    simp only [nodupB] at h
    split at h
    · cases h
    · rename_i hc
      have hn : ∀ k, r[k]? = some y → False := fun k hk => by
        have : r.contains y = true := List.contains_iff_mem.2 (List.mem_of_getElem? hk)
        rw [hc] at this; cases this
      cases i with
      | zero =>
        cases j with
        | zero => rfl
        | succ j => simp at hi hj; subst hi; exact (hn j hj).elim
      | succ i =>
        cases j with
        | zero => simp at hi hj; subst hj; exact (hn i hi).elim
        | succ j => rw [nodupB_spec h i j x (by simpa using hi) (by simpa using hj)]

theorem boxIs_spec {σ : Log} {bs0 ts : List Nat} {id : Nat} : ∀ {bs : List Nat} {H : List (List AV)}, boxIs σ bs0 ts id bs H → H.length = bs.length ∧
    ∀ (i : Nat) (h : List AV), H[i]? = some h → ∃ b l, bs[i]? = some b ∧ look σ (.b b) = some (.bx l) ∧ wkL2 l (h.map (ren2 bs0 ts id))
  | [], [], _ => ⟨rfl, fun i h hi => by simp at hi⟩
  | b :: bs, h :: H, hh => by
    obtain ⟨h1, h2⟩ := hh
    obtain ⟨g1, g2⟩ := boxIs_spec h2
    refine ⟨by simp [g1], fun i h' hi => ?_⟩
    cases i with
    | zero =>
      simp at hi; subst hi
      split at h1
      · rename_i l hl; exact ⟨b, l, rfl, hl, h1⟩
      · exact h1.elim
    | succ i => simpa using g2 i h' (by simpa using hi)
  | [], _ :: _, h => h.elim
  | _ :: _, [], h => h.elim

theorem liveAll_spec {σ : Log} : ∀ {ts : List Nat}, liveAll σ ts → ∀ k, k ∈ ts → look σ (.t k) = some (.tk true)
  | [], _, k, h => by cases h
  | x :: r, h, k, hk => by
    obtain ⟨h1, h2⟩ := h
    rcases List.mem_cons.1 hk with rfl | hk
    · split at h1
      · assumption
      · exact h1.elim
    · exact liveAll_spec h2 k hk

/- the look of the logs that calls lay -/
theorem look_initS : ∀ (l : List AV) (n m : Nat), look (initS n l) (.s m) = if n ≤ m then (l[m - n]?).map .av else none
  | [], n, m => by simp [initS, look]
  | v :: l, n, m => by
    rw [initS, look_cons, look_initS l (n + 1) m]
    by_cases h : n = m
    · subst h; simp
    · have e : (Loc.s n = Loc.s m) = False := by simp [h]
      simp only [e, if_false]
      by_cases h2 : n ≤ m
      · rw [if_pos h2, if_pos (by omega), show m - n = (m - (n + 1)) + 1 by omega]; simp
      · rw [if_neg h2, if_neg (by omega)]
theorem look_initS_b : ∀ (l : List AV) (n m : Nat), look (initS n l) (.b m) = none
  | [], n, m => rfl
  | v :: l, n, m => by rw [initS, look_cons, look_initS_b l]; simp
theorem look_initS_t : ∀ (l : List AV) (n m : Nat), look (initS n l) (.t m) = none
  | [], n, m => rfl
  | v :: l, n, m => by rw [initS, look_cons, look_initS_t l]; simp
theorem look_initB : ∀ (l : List (List AV)) (n m : Nat), look (initB n l) (.b m) = if n ≤ m then (l[m - n]?).map .bx else none
  | [], n, m => by simp [initB, look]
  | v :: l, n, m => by
    rw [initB, look_cons, look_initB l (n + 1) m]
    by_cases h : n = m
    · subst h; simp
    · have e : (Loc.b n = Loc.b m) = False := by simp [h]
      simp only [e, if_false]
      by_cases h2 : n ≤ m
      · rw [if_pos h2, if_pos (by omega), show m - n = (m - (n + 1)) + 1 by omega]; simp
      · rw [if_neg h2, if_neg (by omega)]
theorem look_initB_s : ∀ (l : List (List AV)) (n m : Nat), look (initB n l) (.s m) = none
  | [], n, m => rfl
  | v :: l, n, m => by rw [initB, look_cons, look_initB_s l]; simp
theorem look_initB_t : ∀ (l : List (List AV)) (n m : Nat), look (initB n l) (.t m) = none
  | [], n, m => rfl
  | v :: l, n, m => by rw [initB, look_cons, look_initB_t l]; simp
theorem look_initT : ∀ (l : List Nat) (m : Nat), look (initT l) (.t m) = if m ∈ l then some (.tk true) else none
  | [], m => by simp [initT, look]
  | k :: l, m => by
    rw [initT, look_cons, look_initT l m]
    by_cases h : k = m
    · subst h; simp
    · have h' : ¬ m = k := fun e => h e.symm
      simp [h, h']
theorem look_initT_s : ∀ (l : List Nat) (m : Nat), look (initT l) (.s m) = none
  | [], m => rfl
  | k :: l, m => by rw [initT, look_cons, look_initT_s l]; simp
theorem look_initT_b : ∀ (l : List Nat) (m : Nat), look (initT l) (.b m) = none
  | [], m => rfl
  | k :: l, m => by rw [initT, look_cons, look_initT_b l]; simp

def allToks (args : List AV) (H : List (List AV)) : List Nat := args.flatMap toks ++ H.flatMap fun h => h.flatMap toks2

theorem look_init_s (args : List AV) (H : List (List AV)) (n : Nat) : look (initLog args H) (.s n) = (args[n]?).map .av := by
  unfold initLog
  rw [look_append, look_append, look_initS, look_initB_s, look_initT_s]
  simp
  cases args[n]? <;> rfl
theorem look_init_b (args : List AV) (H : List (List AV)) (n : Nat) : look (initLog args H) (.b n) = (H[n]?).map .bx := by
  unfold initLog
  rw [look_append, look_append, look_initS_b, look_initB, look_initT_b]
  simp
  cases H[n]? <;> rfl
theorem look_init_t (args : List AV) (H : List (List AV)) (n : Nat) : look (initLog args H) (.t n) = if n ∈ allToks args H then some (.tk true) else none := by
  unfold initLog
  rw [look_append, look_append, look_initS_t, look_initB_t, look_initT]
  rfl
end Go.Abs

namespace Go.Abs
open Go
theorem toks1_in {nb nt : Nat} {v : AV} (h : in1 nb nt v = true) : ∀ k, k ∈ toks1 v → k < nt := by
  intro k hk
  cases v <;> try (simp [toks1] at hk; done)
  · rename_i z e t
    cases t with
    | none => simp [toks1] at hk
    | full => simp [toks1] at hk
    | t j => simp [toks1] at hk; subst hk; simpa [in1, Nat.blt_eq] using h
  · rename_i z e b n t
    cases t with
    | none => simp [toks1] at hk
    | full => simp [toks1] at hk
    | t j =>
      simp [toks1] at hk; subst hk
      simp only [in1] at h
      split at h
      · rename_i h1; simpa [Nat.blt_eq] using h1
      · cases h
  · rename_i z b o n c t
    cases t with
    | none => simp [toks1] at hk
    | full => simp [toks1] at hk
    | t j =>
      simp [toks1] at hk; subst hk
      simp only [in1] at h
      split at h
      · rename_i h1; simpa [Nat.blt_eq] using h1
      · cases h

theorem toks2_in {nb nt : Nat} {v : AV} (h : in2 nb nt v = true) : ∀ k, k ∈ toks2 v → k < nt := by
  intro k hk
  cases v with
  | fn f c =>
    obtain ⟨u, hu, hk⟩ := List.mem_flatMap.1 hk
    exact toks1_in (inL1_spec h u hu) k hk
  | agg l =>
    obtain ⟨u, hu, hk⟩ := List.mem_flatMap.1 hk
    exact toks1_in (inL1_spec h u hu) k hk
  | sc c => exact toks1_in (show in1 nb nt (.sc c) = true from h) k hk
  | sl z e t => exact toks1_in (show in1 nb nt (.sl z e t) = true from h) k hk
  | ptr b o => exact toks1_in (show in1 nb nt (.ptr b o) = true from h) k hk
  | elp c o => exact toks1_in (show in1 nb nt (.elp c o) = true from h) k hk
  | mx z e b n t => exact toks1_in (show in1 nb nt (.mx z e b n t) = true from h) k hk
  | cs z b o n c t => exact toks1_in (show in1 nb nt (.cs z b o n c t) = true from h) k hk
  | mr b => cases hk
  | mpv es => cases hk
  | tup => cases h
  | bad => cases h

theorem toks_in {nb nt : Nat} {v : AV} (h : inR nb nt v = true) : ∀ k, k ∈ toks v → k < nt := by
  intro k hk
  cases v with
  | tup l =>
    obtain ⟨u, hu, hk⟩ := List.mem_flatMap.1 hk
    exact toks2_in (inL2_spec h u hu) k hk
  | sc c => exact toks2_in (show in2 nb nt (.sc c) = true from h) k hk
  | sl z e t => exact toks2_in (show in2 nb nt (.sl z e t) = true from h) k hk
  | ptr b o => exact toks2_in (show in2 nb nt (.ptr b o) = true from h) k hk
  | elp c o => exact toks2_in (show in2 nb nt (.elp c o) = true from h) k hk
  | mx z e b n t => exact toks2_in (show in2 nb nt (.mx z e b n t) = true from h) k hk
  | cs z b o n c t => exact toks2_in (show in2 nb nt (.cs z b o n c t) = true from h) k hk
  | fn f c => exact toks2_in (show in2 nb nt (.fn f c) = true from h) k hk
  | agg l => exact toks2_in (show in2 nb nt (.agg l) = true from h) k hk
  | mr b => cases hk
  | mpv es => cases hk
  | bad => cases h

theorem inR_of_in2 {nb nt : Nat} {v : AV} (h : in2 nb nt v = true) : inR nb nt v = true := by
  cases v <;> first | exact h | cases h

theorem allToks_in {nb nt nb' : Nat} {args : List AV} {H : List (List AV)} (h : ∀ v, v ∈ args → inR nb nt v = true) (hH : inH nb' nt H = true) : ∀ k, k ∈ allToks args H → k < nt := by
  intro k hk
  rcases List.mem_append.1 hk with hk | hk
  · obtain ⟨u, hu, hk⟩ := List.mem_flatMap.1 hk
    exact toks_in (h u hu) k hk
  · obtain ⟨l, hl, hk⟩ := List.mem_flatMap.1 hk
    obtain ⟨u, hu, hk⟩ := List.mem_flatMap.1 hk
    exact toks2_in (inL2_spec (inH_spec hH l hl) u hu) k hk

theorem look_newBoxes {bs ts : List Nat} {id : Nat} : ∀ {H : List (List AV)} {n : Nat} {b : Nat},
    (∀ c, look (newBoxes bs ts id n H) (.b b) = some c → ∃ i h, H[i]? = some h ∧ b = rb bs id (n + i) ∧ c = .bx (h.map (ren2 bs ts id))) ∧
    (look (newBoxes bs ts id n H) (.b b) = none → ∀ i, i < H.length → rb bs id (n + i) ≠ b)
  | [], n, b => ⟨fun c h => by simp [newBoxes, look] at h, fun _ i hi => by simp at hi⟩
  | h :: H, n, b => by
    have ih := look_newBoxes (bs := bs) (ts := ts) (id := id) (H := H) (n := n + 1) (b := b)
    rw [newBoxes, look_cons]
    by_cases hb : rb bs id n = b
    · have e : (Loc.b (rb bs id n) = Loc.b b) = True := by
        simp only [Loc.b.injEq, eq_iff_iff, iff_true]; exact hb
      simp only [e, if_true]
      exact ⟨fun c hc => by cases hc; exact ⟨0, h, rfl, hb.symm, rfl⟩, fun hc => by cases hc⟩
    · have e : (Loc.b (rb bs id n) = Loc.b b) = False := by
        simp only [Loc.b.injEq, eq_iff_iff, iff_false]; exact hb
      simp only [e, if_false]
      refine ⟨fun c hc => ?_, fun hc i hi => ?_⟩
      · obtain ⟨i, h', h1, h2, h3⟩ := ih.1 c hc
        exact ⟨i + 1, h', by simpa using h1, by rw [h2]; congr 1; omega, h3⟩
      · cases i with
        | zero => exact hb
        | succ i =>
          have := ih.2 hc i (by simpa using hi)
          rwa [show n + 1 + i = n + (i + 1) by omega] at this

theorem look_newBoxes_s {bs ts : List Nat} {id : Nat} : ∀ {H : List (List AV)} {n m : Nat}, look (newBoxes bs ts id n H) (.s m) = none
  | [], _, _ => rfl
  | h :: H, n, m => by rw [newBoxes, look_cons, look_newBoxes_s]; simp
theorem look_newBoxes_t {bs ts : List Nat} {id : Nat} : ∀ {H : List (List AV)} {n m : Nat}, look (newBoxes bs ts id n H) (.t m) = none
  | [], _, _ => rfl
  | h :: H, n, m => by rw [newBoxes, look_cons, look_newBoxes_t]; simp

theorem look_onToks {ts : List Nat} {id : Nat} : ∀ {L : List Nat} {k : Nat}, look (onToks ts id L) (.t k) = none ∨ (look (onToks ts id L) (.t k) = some (.tk true) ∧ ∃ j, j ∈ L ∧ k = rb ts id j)
  | [], _ => .inl rfl
  | j :: L, k => by
    rw [onToks, look_cons]
    by_cases hb : rb ts id j = k
    · rw [if_pos (by rw [hb])]
      exact .inr ⟨rfl, j, by simp, hb.symm⟩
    · have e : (Loc.t (rb ts id j) = Loc.t k) = False := by
        simp only [Loc.t.injEq, eq_iff_iff, iff_false]; exact hb
      simp only [e, if_false]
      rcases look_onToks (ts := ts) (id := id) (L := L) (k := k) with h | ⟨h, i, hi, he⟩
      · exact .inl h
      · exact .inr ⟨h, i, by simp [hi], he⟩
theorem look_onToks_s {ts : List Nat} {id : Nat} : ∀ {L : List Nat} {k : Nat}, look (onToks ts id L) (.s k) = none
  | [], _ => rfl
  | j :: L, k => by rw [onToks, look_cons, look_onToks_s]; simp
theorem look_onToks_b {ts : List Nat} {id : Nat} : ∀ {L : List Nat} {k : Nat}, look (onToks ts id L) (.b k) = none
  | [], _ => rfl
  | j :: L, k => by rw [onToks, look_cons, look_onToks_b]; simp
theorem look_offToks : ∀ {L : List Nat} {k : Nat}, look (offToks L) (.t k) = if k ∈ L then some (.tk false) else none
  | [], _ => rfl
  | j :: L, k => by
    rw [offToks, look_cons, look_offToks]
    by_cases h : j = k
    · subst h; simp
    · have h' : ¬ k = j := fun e => h e.symm
      simp [h, h']
theorem look_offToks_s : ∀ {L : List Nat} {k : Nat}, look (offToks L) (.s k) = none
  | [], _ => rfl
  | j :: L, k => by rw [offToks, look_cons, look_offToks_s]; simp
theorem look_offToks_b : ∀ {L : List Nat} {k : Nat}, look (offToks L) (.b k) = none
  | [], _ => rfl
  | j :: L, k => by rw [offToks, look_cons, look_offToks_b]; simp

theorem Chg.mono {O O' : Nat → Nat → Prop} {w w' : World} (h : Chg O w w') (hO : ∀ b o, O b o → O' b o) : Chg O' w w' :=
  ⟨h.os, h.tape, h.output, h.size, fun b hb hn => h.same b hb fun o ho => hn o (hO b o ho), fun b C ty fz hC => by
    obtain ⟨C', h1, h2, h3⟩ := h.cells b C ty fz hC
    exact ⟨C', h1, h2, fun o hn => h3 o fun ho => hn (hO b o ho)⟩, h.maps⟩

section
variable {P : Program} {W0 : World} {κ : Gh} {σ : Log} {a : Act} {w : World} {id : Nat} {F : Log → Prop} {call : CallP} {d : Option Nat}
/-- the callee's ghost -/
def sub' (κ : Gh) (bs ts : List Nat) : Gh := { I := κ.I, Db := fun b => b < bs.length, Dt := fun k => k < ts.length, ι := fun i => κ.ι (bs.getD i 0), τ := fun j => κ.τ (ts.getD j 0) }

/-- the caller's, behind the call -/
def back (κ κ' : Gh) (nb nt id : Nat) : Gh := {
  I := κ'.I
  Db := fun x => κ.Db x ∨ ∃ j, nb ≤ j ∧ j < nb + 100 ∧ κ'.Db j ∧ x = id + (j - nb)
  Dt := fun x => κ.Dt x ∨ ∃ j, nt ≤ j ∧ j < nt + 100 ∧ κ'.Dt j ∧ x = id + (j - nt)
  ι := fun x => if id ≤ x ∧ x < id + 100 then κ'.ι (nb + (x - id)) else κ.ι x
  τ := fun x => if id ≤ x ∧ x < id + 100 then κ'.τ (nt + (x - id)) else κ.τ x }

theorem callG (hs : RepS W0 κ σ a w) (hf : Fresh κ id) {f : FuncId} {args : List AV} {vals : Array Value} (hsz : vals.size = args.length) (hv : ∀ (j : Nat) (v : AV), args[j]? = some v → RepV κ w v (vals.getD j undef))
    (hN : ∀ d', d = some d' → d' < a.tmps.size) {bs ts : List Nat} {args' : List AV} {H H' : List (List AV)} {res : AV} (hc : Ctr P W0 f args' H res H')
    (n1 : nodupB bs = true) (n2 : nodupB ts = true) (n3 : bs.length ≤ H'.length) (n4 : H'.length ≤ bs.length + 50) (n5 : bs.length + ts.length ≤ 900) (n6 : ts.length = tokN args' H)
    (i1 : inL2 bs.length ts.length args' = true) (i2 : inH bs.length ts.length H = true) (i3 : inR H'.length (ts.length + 50) res = true) (i4 : inH H'.length (ts.length + 50) H' = true)
    (w1 : wkL2 args (args'.map (ren2 bs ts id))) (w2 : boxIs σ bs ts id bs H) (w3 : liveAll σ ts)
    (hF : F (dstL d (ren bs ts id res) ++ newBoxes bs ts id 0 H' ++ onToks ts id (toks res ++ (H'.flatMap fun h => h.flatMap toks2)) ++ offToks ts)) :
    callable P f = true ∧ Calls P f vals w fun e w' => ∃ v, e = .returned v ∧ After W0 κ σ a w id F (a.put d v) w' := by
  obtain ⟨hcl, hc⟩ := hc
  refine ⟨hcl, ?_⟩
  obtain ⟨b1, b2⟩ := boxIs_spec w2
  have l1 := liveAll_spec w3
  obtain ⟨g1, g2⟩ := wkL2_spec w1
  have hbs : ∀ (i x : Nat), bs[i]? = some x → ∃ h l, H[i]? = some h ∧ look σ (.b x) = some (.bx l) ∧ wkL2 l (h.map (ren2 bs ts id)) := by
    intro i x hx
    have hi : i < H.length := by rw [b1]; exact (List.getElem?_eq_some_iff.1 hx).1
    obtain ⟨b, l, h1, h2, h3⟩ := b2 i _ (List.getElem?_eq_getElem hi)
    rw [hx] at h1; cases h1
    exact ⟨_, l, List.getElem?_eq_getElem hi, h2, h3⟩
  have gD : ∀ (l : List Nat) (i x : Nat), l[i]? = some x → l.getD i 0 = x := fun l i x h => by rw [List.getD_eq_getElem?_getD, h]; rfl
  have un : Un κ (sub' κ bs ts) bs ts := ⟨fun _ _ h => h, fun b x hx _ => ⟨(List.getElem?_eq_some_iff.1 hx).1, by simp only [sub', gD _ _ _ hx]⟩, fun k x hx _ => ⟨(List.getElem?_eq_some_iff.1 hx).1, by simp only [sub', gD _ _ _ hx]⟩⟩
  have htin : ∀ k, k ∈ allToks args' H → k < ts.length := allToks_in (fun v hv => inR_of_in2 (inL2_spec i1 v hv)) i2
  have hspb : ∀ (i x : Nat) (h m : List AV), bs[i]? = some x → wkL2 m (h.map (ren2 bs ts id)) → spb (sub' κ bs ts) i h = spb κ x m := by
    intro i x h m hx hw
    have hl := (wkL2_spec hw).1
    rw [List.length_map] at hl
    simp only [spb, sub', gD _ _ _ hx, hl]
  have hownc : ∀ b o, Own (sub' κ bs ts) (initLog args' H) b o → (∃ (i x : Nat) (m : List AV), bs[i]? = some x ∧ look σ (.b x) = some (.bx m) ∧ inSp (spb κ x m) b o) ∨ (∃ (k x : Nat), ts[k]? = some x ∧ inSp (κ.τ x) b o) := by
    rintro b o (⟨i, l, hl, hi⟩ | ⟨k, hk, hi⟩)
    · rw [look_init_b] at hl
      cases hh : H[i]? with
      | none => simp [hh] at hl
      | some h =>
        obtain ⟨x, m, h1, hm, h3⟩ := b2 i h hh
        simp [hh] at hl
        subst hl
        exact .inl ⟨i, x, m, h1, hm, hspb i x _ m h1 h3 ▸ hi⟩
    · rw [look_init_t] at hk
      by_cases hm : k ∈ allToks args' H
      · have hlt := htin k hm
        have hx : ts[k]? = some ts[k] := List.getElem?_eq_getElem hlt
        refine .inr ⟨k, ts[k], hx, ?_⟩
        simpa only [sub', gD _ _ _ hx] using hi
      · simp [hm] at hk
  have hownκ : ∀ b o, Own (sub' κ bs ts) (initLog args' H) b o → Own κ σ b o := by
    intro b o h
    rcases hownc b o h with ⟨i, x, m, hx, hm, hi⟩ | ⟨k, x, hx, hi⟩
    · exact .inl ⟨x, m, hm, hi⟩
    · exact .inr ⟨x, l1 x (List.mem_of_getElem? hx), hi⟩
  have pre : RepS W0 (sub' κ bs ts) (initLog args' H) ⟨vals, []⟩ w := by
    refine ⟨?_, ?_, ?_, ?_, ?_, ?_, fun b o ho => hs.sepI b o (hownκ b o ho), hs.Icell, hs.old, hs.size0, hs.amb, rfl, hs.os, hs.tape, hs.output⟩
    · intro n v h
      rw [look_init_s] at h
      cases hn : args'[n]? with
      | none => simp [hn] at h
      | some u =>
        simp [hn] at h
        subst h
        obtain ⟨v, hv1, hv2⟩ := g2 n _ (by rw [List.getElem?_map, hn]; rfl)
        exact ((hv n v hv1).wk2 hv2).1.un2 un (inL2_spec i1 u (List.mem_of_getElem? hn))
    · intro b l h
      rw [look_init_b] at h
      cases hn : H[b]? with
      | none => simp [hn] at h
      | some u =>
        simp [hn] at h
        subst h
        obtain ⟨x, m, h1, h2, h3⟩ := b2 b u hn
        obtain ⟨k1, k2, k3⟩ := hs.boxes x m h2
        refine ⟨(List.getElem?_eq_some_iff.1 h1).1, ?_, ?_⟩
        · simp only [sub', gD _ _ _ h1]; exact k2
        · have := (k3.wk h3).un un (inH_spec i2 u (List.mem_of_getElem? hn))
          simpa only [sub', gD _ _ _ h1] using this
    · intro b b' l l' h h' hne y o hi
      rw [look_init_b] at h h'
      cases hn : H[b]? with
      | none => simp [hn] at h
      | some u =>
        cases hn' : H[b']? with
        | none => simp [hn'] at h'
        | some u' =>
          obtain ⟨x, m, h1, h2, h3⟩ := b2 b u hn
          obtain ⟨x', m', h1', h2', h3'⟩ := b2 b' u' hn'
          simp [hn] at h
          simp [hn'] at h'
          subst h; subst h'
          rw [hspb b x _ m h1 h3] at hi
          rw [hspb b' x' _ m' h1' h3']
          exact hs.binj x x' m m' h2 h2' (fun e => hne (nodupB_spec n1 b b' x h1 (e ▸ h1'))) y o hi
    · intro k h
      rw [look_init_t] at h
      by_cases hm : k ∈ allToks args' H
      · have hlt := htin k hm
        have hx : ts[k]? = some ts[k] := List.getElem?_eq_getElem hlt
        refine ⟨hlt, ?_⟩
        simp only [sub', gD _ _ _ hx]
        exact (hs.toks _ (l1 _ (List.mem_of_getElem? hx))).2
      · simp [hm] at h
    · intro k k' h h' hne b o hi
      rw [look_init_t] at h h'
      by_cases hm : k ∈ allToks args' H
      · by_cases hm' : k' ∈ allToks args' H
        · have hk1 := htin k hm
          have hk2 := htin k' hm'
          have hx : ts[k]? = some ts[k] := List.getElem?_eq_getElem hk1
          have hx' : ts[k']? = some ts[k'] := List.getElem?_eq_getElem hk2
          simp only [sub', gD _ _ _ hx, gD _ _ _ hx'] at hi ⊢
          exact hs.tdis _ _ (l1 _ (List.mem_of_getElem? hx)) (l1 _ (List.mem_of_getElem? hx')) (fun e => hne (nodupB_spec n2 k k' _ hx (e ▸ hx'))) b o hi
        · simp [hm'] at h'
      · simp [hm] at h
    · intro k i l h h' y o hi
      rw [look_init_t] at h
      rw [look_init_b] at h'
      by_cases hm : k ∈ allToks args' H
      · have hk1 := htin k hm
        have hx : ts[k]? = some ts[k] := List.getElem?_eq_getElem hk1
        cases hn : H[i]? with
        | none => simp [hn] at h'
        | some u =>
          obtain ⟨x, m, h1, h2, h3⟩ := b2 i u hn
          simp [hn] at h'
          subst h'
          rw [hspb i x _ m h1 h3]
          simp only [sub', gD _ _ _ hx] at hi
          exact hs.tbox _ x m (l1 _ (List.mem_of_getElem? hx)) h2 y o hi
      · simp [hm] at h
  refine (hc (sub' κ bs ts) w vals (by rw [hsz, ← g1, List.length_map]) (fun b hb => by rw [b1]; exact hb) (fun k hk => by rw [← n6]; exact hk) pre).mono ?_
  rintro e w' ⟨v, κ', rfl, r, st⟩
  refine ⟨v, rfl, ?_⟩
  -- the way back
  have notin : ∀ x, κ.Db x → ¬ (id ≤ x ∧ x < id + 100) := fun x hx h => hf.db x h.1 h.2 hx
  have notint : ∀ x, κ.Dt x → ¬ (id ≤ x ∧ x < id + 100) := fun x hx h => hf.dt x h.1 h.2 hx
  have ext : Ext κ w (back κ κ' bs.length ts.length id) w' := by
    refine ⟨st.I_, fun b o hI => st.chg.cell pre hI, fun b hb => ⟨.inl hb, ?_⟩, fun k hk => ⟨.inl hk, ?_⟩⟩
    · simp only [back, if_neg (notin b hb)]
    · simp only [back, if_neg (notint k hk)]
  have hbox : ∀ (i x : Nat), bs[i]? = some x → κ.Db x ∧ κ'.ι i = κ.ι x := by
    intro i x hx
    obtain ⟨_, l, _, hl, _⟩ := hbs i x hx
    have hi := (List.getElem?_eq_some_iff.1 hx).1
    refine ⟨(hs.boxes x l hl).1, ?_⟩
    have := (st.low i (by omega) hi).2
    simpa only [sub', gD _ _ _ hx] using this
  have htok : ∀ (i x : Nat), ts[i]? = some x → κ.Dt x ∧ κ'.τ i = κ.τ x := by
    intro i x hx
    have hi := (List.getElem?_eq_some_iff.1 hx).1
    refine ⟨(hs.toks x (l1 x (List.mem_of_getElem? hx))).1, ?_⟩
    have := (st.lowt i (by omega) hi).2
    simpa only [sub', gD _ _ _ hx] using this
  have rn : Ren κ' (back κ κ' bs.length ts.length id) (rb bs id) (rb ts id) H'.length (ts.length + 50) := by
    refine ⟨fun _ _ h => h, ?_, ?_⟩
    · intro b hb hd
      cases hx : bs[b]? with
      | some x =>
        obtain ⟨h1, h2⟩ := hbox b x hx
        have e : rb bs id b = x := by simp only [rb, hx]
        rw [e]
        exact ⟨.inl h1, by simp only [back, if_neg (notin x h1)]; exact h2.symm⟩
      | none =>
        have hge : bs.length ≤ b := List.getElem?_eq_none_iff.1 hx
        have e : rb bs id b = id + (b - bs.length) := by simp only [rb, hx]
        rw [e]
        refine ⟨.inr ⟨b, hge, by omega, hd, rfl⟩, ?_⟩
        simp only [back]
        rw [if_pos ⟨by omega, by omega⟩]
        congr 1; omega
    · intro b hb hd
      cases hx : ts[b]? with
      | some x =>
        obtain ⟨h1, h2⟩ := htok b x hx
        have e : rb ts id b = x := by simp only [rb, hx]
        rw [e]
        exact ⟨.inl h1, by simp only [back, if_neg (notint x h1)]; exact h2.symm⟩
      | none =>
        have hge : ts.length ≤ b := List.getElem?_eq_none_iff.1 hx
        have e : rb ts id b = id + (b - ts.length) := by simp only [rb, hx]
        rw [e]
        refine ⟨.inr ⟨b, hge, by omega, hd, rfl⟩, ?_⟩
        simp only [back]
        rw [if_pos ⟨by omega, by omega⟩]
        congr 1; omega
  have hLin : ∀ k, k ∈ (toks res ++ (H'.flatMap fun h => h.flatMap toks2)) → k < ts.length + 50 := by
    have := allToks_in (args := [res]) (H := H') (nb := H'.length) (nb' := H'.length) (nt := ts.length + 50) (by intro v hv; simp at hv; subst hv; exact i3) i4
    simpa [allToks] using this
  have hfint : ∀ k, look (finLog res H') (.t k) = some (.tk true) ↔ k ∈ (toks res ++ (H'.flatMap fun h => h.flatMap toks2)) := by
    intro k
    unfold finLog
    rw [look_init_t]
    have e : allToks [res] H' = toks res ++ (H'.flatMap fun h => h.flatMap toks2) := by simp [allToks]
    rw [e]
    by_cases hm : k ∈ (toks res ++ (H'.flatMap fun h => h.flatMap toks2))
    · rw [if_pos hm]; exact ⟨fun _ => hm, fun _ => rfl⟩
    · rw [if_neg hm]; exact ⟨fun h => (by cases h), fun h => absurd h hm⟩
  have hfinb : ∀ k, look (finLog res H') (.b k) = (H'[k]?).map .bx := fun k => look_init_b [res] H' k
  let δ' := newBoxes bs ts id 0 H' ++ onToks ts id (toks res ++ (H'.flatMap fun h => h.flatMap toks2)) ++ offToks ts
  have ls : ∀ n, look (δ' ++ σ) (.s n) = look σ (.s n) := by
    intro n
    simp only [δ']
    rw [look_append, look_append, look_append, look_newBoxes_s, look_onToks_s, look_offToks_s]
  have lb : ∀ b l, look (δ' ++ σ) (.b b) = some (.bx l) → (∃ i h, H'[i]? = some h ∧ b = rb bs id i ∧ l = h.map (ren2 bs ts id)) ∨ (look σ (.b b) = some (.bx l) ∧ ∀ i, i < H'.length → rb bs id i ≠ b) := by
    intro b l h
    simp only [δ'] at h
    rw [look_append, look_append, look_append, look_onToks_b, look_offToks_b] at h
    obtain ⟨q1, q2⟩ := look_newBoxes (bs := bs) (ts := ts) (id := id) (H := H') (n := 0) (b := b)
    cases hx : look (newBoxes bs ts id 0 H') (.b b) with
    | some c =>
      rw [hx] at h
      obtain ⟨i, h', h1, h2, h3⟩ := q1 c hx
      simp only [Option.some.injEq] at h
      rw [h3] at h
      simp only [Cell.bx.injEq] at h
      exact .inl ⟨i, h', h1, by simpa using h2, h.symm⟩
    | none =>
      rw [hx] at h
      exact .inr ⟨h, fun i hi => by simpa using q2 hx i hi⟩
  have lt : ∀ k, look (δ' ++ σ) (.t k) = some (.tk true) → (∃ j, j ∈ (toks res ++ (H'.flatMap fun h => h.flatMap toks2)) ∧ k = rb ts id j) ∨ (look σ (.t k) = some (.tk true) ∧ k ∉ ts) := by
    intro k h
    simp only [δ'] at h
    rw [look_append, look_append, look_append, look_newBoxes_t, look_offToks] at h
    rcases look_onToks (ts := ts) (id := id) (L := (toks res ++ (H'.flatMap fun h => h.flatMap toks2))) (k := k) with h1 | ⟨h1, j, h2, h3⟩
    · rw [h1] at h
      by_cases hm : k ∈ ts
      · simp [hm] at h
      · simp [hm] at h; exact .inr ⟨h, hm⟩
    · exact .inl ⟨j, h2, h3⟩
  have oldb : ∀ b l, look σ (.b b) = some (.bx l) → (∀ i, i < H'.length → rb bs id i ≠ b) → ∀ y o, inSp (spb κ b l) y o → ¬ Own (sub' κ bs ts) (initLog args' H) y o := by
    intro b l hl hno y o hy ho
    rcases hownc _ o ho with ⟨i, x, m, hx, hm, hi⟩ | ⟨k, x, hx, hi⟩
    · refine hs.binj x b m l hm hl (fun this => ?_) y o hi hy
      subst this
      have hi' := (List.getElem?_eq_some_iff.1 hx).1
      exact hno i (by omega) (by simp only [rb, hx])
    · exact hs.tbox x b l (l1 x (List.mem_of_getElem? hx)) hl y o hi hy
  have oldt : ∀ k, look σ (.t k) = some (.tk true) → k ∉ ts → ∀ b o, inSp (κ.τ k) b o → ¬ Own (sub' κ bs ts) (initLog args' H) b o := by
    intro k hk hno b o hi ho
    rcases hownc _ o ho with ⟨i, x, m, hx, hm, hi'⟩ | ⟨j, x, hx, hi'⟩
    · exact hs.tbox k x m hk hm b o hi hi'
    · exact hs.tdis k x hk (l1 x (List.mem_of_getElem? hx)) (fun e => hno (e ▸ List.mem_of_getElem? hx)) b o hi hi'
  have hbdb : ∀ b l, look σ (.b b) = some (.bx l) → κ.Db b ∧ (κ.ι b).1 < w.heap.size := by
    intro b l hl
    obtain ⟨h1, _, h3⟩ := hs.boxes b l hl
    exact ⟨h1, h3.lt⟩
  have htlt : ∀ k, look σ (.t k) = some (.tk true) → ∀ b o, inSp (κ.τ k) b o → b < w.heap.size := by
    rintro k hk b o ⟨h1, h2, h3⟩
    obtain ⟨_, C, ty, h4, _⟩ := (hs.toks k hk).2 (Nat.lt_of_le_of_lt h2 h3)
    exact h1 ▸ lt_of_heap h4
  have ιn : ∀ (i : Nat) (h : List AV), H'[i]? = some h → (back κ κ' bs.length ts.length id).Db (rb bs id i) ∧ (back κ κ' bs.length ts.length id).ι (rb bs id i) = κ'.ι i := by
    intro i h hi
    have hlook : look (finLog res H') (.b i) = some (.bx h) := by rw [hfinb, hi]; rfl
    exact rn.db i (List.getElem?_eq_some_iff.1 hi).1 (r.boxes i h hlook).1
  have ιo : ∀ b, κ.Db b → (back κ κ' bs.length ts.length id).ι b = κ.ι b := fun b hb => by simp only [back, if_neg (notin b hb)]
  have τn : ∀ j, j ∈ (toks res ++ (H'.flatMap fun h => h.flatMap toks2)) → (back κ κ' bs.length ts.length id).Dt (rb ts id j) ∧ (back κ κ' bs.length ts.length id).τ (rb ts id j) = κ'.τ j := by
    intro j hj
    exact rn.dt j (hLin j hj) (r.toks j ((hfint j).2 hj)).1
  have τo : ∀ k, κ.Dt k → (back κ κ' bs.length ts.length id).τ k = κ.τ k := fun k hk => by simp only [back, if_neg (notint k hk)]
  have spn : ∀ (i : Nat) (h : List AV), H'[i]? = some h → spb (back κ κ' bs.length ts.length id) (rb bs id i) (h.map (ren2 bs ts id)) = spb κ' i h := fun i h hi => by
    simp only [spb, (ιn i h hi).2, List.length_map]
  have spo : ∀ b l, κ.Db b → spb (back κ κ' bs.length ts.length id) b l = spb κ b l := fun b l hb => by simp only [spb, ιo b hb]
  have ownB : ∀ (i : Nat) (h : List AV), H'[i]? = some h → ∀ b o, inSp (spb κ' i h) b o → Own κ' (finLog res H') b o := fun i h hi b o hh => .inl ⟨i, h, by rw [hfinb, hi]; rfl, hh⟩
  have ownT : ∀ j, j ∈ (toks res ++ (H'.flatMap fun h => h.flatMap toks2)) → ∀ b o, inSp (κ'.τ j) b o → Own κ' (finLog res H') b o := fun j hj b o hi => .inr ⟨j, (hfint j).2 hj, hi⟩
  have own'' : ∀ b o, Own (back κ κ' bs.length ts.length id) (δ' ++ σ) b o → Own κ' (finLog res H') b o ∨ (Own κ σ b o ∧ ¬ Own (sub' κ bs ts) (initLog args' H) b o ∧ b < w.heap.size) := by
    rintro b o (⟨i, l, hl, hi⟩ | ⟨k, hk, hi⟩)
    · rcases lb i l hl with ⟨j, h, h1, h2, h3⟩ | ⟨h1, h2⟩
      · rw [h2, h3, spn j h h1] at hi
        exact .inl (ownB j h h1 b o hi)
      · rw [spo i l (hbdb i l h1).1] at hi
        exact .inr ⟨.inl ⟨i, l, h1, hi⟩, oldb i l h1 h2 b o hi, hi.1 ▸ (hbdb i l h1).2⟩
    · rcases lt k hk with ⟨j, h1, h2⟩ | ⟨h1, h2⟩
      · rw [h2, (τn j h1).2] at hi
        exact .inl (ownT j h1 b o hi)
      · rw [τo k (hs.toks k h1).1] at hi
        exact .inr ⟨.inr ⟨k, h1, hi⟩, oldt k h1 h2 b o hi, htlt k h1 b o hi⟩
  have R : RepS W0 (back κ κ' bs.length ts.length id) (δ' ++ σ) a w' := by
    refine ⟨?_, ?_, ?_, ?_, ?_, ?_, ?_, r.Icell, r.old, r.size0, r.amb, hs.defers, r.os, r.tape, r.output⟩
    · intro n u h
      rw [ls] at h
      exact (hs.slots n u h).mono ext
    · intro b l h
      rcases lb b l h with ⟨j, h', h1, h2, h3⟩ | ⟨h1, h2⟩
      · obtain ⟨k1, k2⟩ := ιn j h' h1
        obtain ⟨_, q2, q3⟩ := r.boxes j h' (by rw [hfinb, h1]; rfl)
        subst h2; subst h3
        rw [k2]
        exact ⟨k1, q2, q3.ren2 rn (inH_spec i4 h' (List.mem_of_getElem? h1))⟩
      · obtain ⟨q1, q2, q3⟩ := hs.boxes b l h1
        rw [ιo b q1]
        rcases q3 with ⟨_, C, ty, q3, q4⟩ | ⟨es, ob, e1, e2, e3, e4⟩
        case inr =>
          refine ⟨.inl q1, q2, .inr ⟨es, ob, e1, e2, ?_, e4.mono ext.I_ ext.cell⟩⟩
          rw [st.chg.same _ (lt_of_heap e3) (fun o ho => oldb b l h1 h2 _ 0 ⟨rfl, by simp only [spb, e2]; omega, by subst e1; simp only [spb, e2]; simp⟩ (pre.ownMap ho e3 e4.noRow))]
          exact e3
        obtain ⟨C', p1, p2, p3⟩ := st.chg.cells _ C ty _ q3
        refine ⟨.inl q1, q2, .of (C := C') (ty := ty) p1 ⟨by rw [p2]; exact q4.1, q4.2.1, fun j v hj => ?_⟩⟩
        have := (q4.2.2 j v hj).mono ext
        have e : C'[(κ.ι b).2 + j]? = C[(κ.ι b).2 + j]? := p3 _ (oldb b l h1 h2 _ _ ⟨rfl, Nat.le_add_right _ _, Nat.add_lt_add_left (List.getElem?_eq_some_iff.1 hj).1 _⟩)
        rwa [Array.getD_eq_getD_getElem?, e, ← Array.getD_eq_getD_getElem?]
    · intro b b' l l' h h' hne y o hi hi'
      rcases lb b l h with ⟨j, m, h1, h2, h3⟩ | ⟨h1, h2⟩ <;> rcases lb b' l' h' with ⟨j', m', h1', h2', h3'⟩ | ⟨h1', h2'⟩
      · rw [h2, h3, spn j m h1] at hi
        rw [h2', h3', spn j' m' h1'] at hi'
        exact r.binj j j' m m' (by rw [hfinb, h1]; rfl) (by rw [hfinb, h1']; rfl) (fun e => hne (by rw [h2, h2', e])) y o hi hi'
      · rw [h2, h3, spn j m h1] at hi
        rw [spo b' l' (hbdb b' l' h1').1] at hi'
        rcases st.own _ _ (ownB j m h1 y o hi) with g | g
        · exact oldb b' l' h1' h2' y o hi' g
        · have := (hbdb b' l' h1').2; have := hi'.1; simp only [spb] at this; omega
      · rw [h2', h3', spn j' m' h1'] at hi'
        rw [spo b l (hbdb b l h1).1] at hi
        rcases st.own _ _ (ownB j' m' h1' y o hi') with g | g
        · exact oldb b l h1 h2 y o hi g
        · have := (hbdb b l h1).2; have := hi.1; simp only [spb] at this; omega
      · rw [spo b l (hbdb b l h1).1] at hi
        rw [spo b' l' (hbdb b' l' h1').1] at hi'
        exact hs.binj b b' l l' h1 h1' hne y o hi hi'
    · intro k h
      rcases lt k h with ⟨j, h1, h2⟩ | ⟨h1, h2⟩
      · obtain ⟨k1, k2⟩ := τn j h1
        rw [h2, k2]
        exact ⟨k1, (r.toks j ((hfint j).2 h1)).2⟩
      · obtain ⟨q1, q2⟩ := hs.toks k h1
        rw [τo k q1]
        refine ⟨.inl q1, fun hh => ?_⟩
        obtain ⟨q3, C, ty, q4, q5⟩ := q2 hh
        obtain ⟨C', p1, p2, _⟩ := st.chg.cells _ C ty _ q4
        exact ⟨q3, C', ty, p1, by omega⟩
    · intro k k' h h' hne b o hi hi'
      rcases lt k h with ⟨j, h1, h2⟩ | ⟨h1, h2⟩ <;> rcases lt k' h' with ⟨j', h1', h2'⟩ | ⟨h1', h2'⟩
      · rw [h2, (τn j h1).2] at hi
        rw [h2', (τn j' h1').2] at hi'
        exact r.tdis j j' ((hfint j).2 h1) ((hfint j').2 h1') (fun e => hne (by rw [h2, h2', e])) b o hi hi'
      · rw [h2, (τn j h1).2] at hi
        rw [τo k' (hs.toks k' h1').1] at hi'
        rcases st.own _ _ (ownT j h1 b o hi) with g | g
        · exact oldt k' h1' h2' b o hi' g
        · have := htlt k' h1' b o hi'; omega
      · rw [h2', (τn j' h1').2] at hi'
        rw [τo k (hs.toks k h1).1] at hi
        rcases st.own _ _ (ownT j' h1' b o hi') with g | g
        · exact oldt k h1 h2 b o hi g
        · have := htlt k h1 b o hi; omega
      · rw [τo k (hs.toks k h1).1] at hi
        rw [τo k' (hs.toks k' h1').1] at hi'
        exact hs.tdis k k' h1 h1' hne b o hi hi'
    · intro k i l h h' y o hi hi'
      rcases lt k h with ⟨j, h1, h2⟩ | ⟨h1, h2⟩ <;> rcases lb i l h' with ⟨j', m', h1', h2', h3'⟩ | ⟨h1', h2'⟩
      · rw [h2, (τn j h1).2] at hi
        rw [h2', h3', spn j' m' h1'] at hi'
        exact r.tbox j j' m' ((hfint j).2 h1) (by rw [hfinb, h1']; rfl) y o hi hi'
      · rw [h2, (τn j h1).2] at hi
        rw [spo i l (hbdb i l h1').1] at hi'
        rcases st.own _ _ (ownT j h1 _ o hi) with g | g
        · exact oldb i l h1' h2' y o hi' g
        · have := (hbdb i l h1').2; have := hi'.1; simp only [spb] at this; omega
      · rw [τo k (hs.toks k h1).1] at hi
        rw [h2', h3', spn j' m' h1'] at hi'
        rcases st.own _ _ (ownB j' m' h1' y o hi') with g | g
        · exact oldt k h1 h2 _ o hi g
        · have := htlt k h1 _ o hi; omega
      · rw [τo k (hs.toks k h1).1] at hi
        rw [spo i l (hbdb i l h1').1] at hi'
        exact hs.tbox k i l h1 h1' y o hi hi'
    · intro b o ho hI
      rcases own'' b o ho with g | ⟨g1, g2, g3⟩
      · exact r.sepI b o g hI
      · rcases st.In b o hI with q | q | q
        · exact hs.sepI b o g1 q
        · exact g2 q
        · omega
  have S : Step κ σ w (back κ κ' bs.length ts.length id) (δ' ++ σ) w' := by
    refine ⟨st.chg.mono hownκ, ?_, st.I_, ?_, fun b _ hb => ⟨.inl hb, ιo b hb⟩, fun k _ hk => ⟨.inl hk, τo k hk⟩⟩
    · intro b o ho
      rcases own'' b o ho with g | ⟨g1, _, _⟩
      · rcases st.own b o g with q | q
        · exact .inl (hownκ b o q)
        · exact .inr q
      · exact .inl g1
    · intro b o hI
      rcases st.In b o hI with q | q | q
      · exact .inl q
      · exact .inr (.inl (hownκ b o q))
      · exact .inr (.inr q)
  have G : Grow κ (back κ κ' bs.length ts.length id) id := by
    refine ⟨?_, ?_⟩
    · rintro b (hb | ⟨j, h1, h2, _, rfl⟩)
      · exact .inl hb
      · exact .inr ⟨by omega, by omega⟩
    · rintro b (hb | ⟨j, h1, h2, _, rfl⟩)
      · exact .inl hb
      · exact .inr ⟨by omega, by omega⟩
  have hres : RepV (back κ κ' bs.length ts.length id) w' (Abs.ren bs ts id res) v := by
    have := r.slots 0 res (by unfold finLog; rw [look_init_s]; rfl)
    exact RepV.ren rn (by simpa using this) i3
  cases d with
  | none =>
    refine ⟨δ', _, ?_, R, S, rfl, G⟩
    simpa [dstL, δ'] using hF
  | some d =>
    refine ⟨(.s d, .av (Abs.ren bs ts id res)) :: δ', _, ?_, R.put (hN d rfl) hres, S.trans Step.put, put_size, G⟩
    simpa [dstL, δ'] using hF
end
end Go.Abs

namespace Go.Abs
open Go
theorem wk1_refl {v : AV} : wk1 v v := by
  cases v <;> simp [wk1]

theorem ren1_closed {v : AV} {id : Nat} (h : in1 0 0 v = true) : ren1 [] [] id v = v := by
  cases v <;> try rfl
  · rename_i z e t
    cases t <;> first | rfl | (simp [in1, Nat.blt_eq] at h)
  · simp [in1, Nat.blt_eq] at h
  · rename_i z e b n t
    cases t <;> simp only [in1] at h <;> (try split at h) <;> simp_all [Nat.blt_eq]
  · simp [in1, Nat.blt_eq] at h
  · rename_i z b o n c t
    cases t <;> simp only [in1] at h <;> (try split at h) <;> simp_all [Nat.blt_eq]

theorem wk1_erase {v : AV} {id : Nat} (h : in1 0 0 (erase v) = true) : wk1 v (ren1 [] [] id (erase v)) := by
  rw [ren1_closed h]
  cases v <;> simp [erase, wk1]

theorem wkL1_map {f : AV → AV} : ∀ {l : List AV}, (∀ v, v ∈ l → wk1 v (f v)) → wkL1 l (l.map f)
  | [], _ => trivial
  | x :: l, h => ⟨h x (by simp), wkL1_map fun v hv => h v (by simp [hv])⟩

theorem wk2_erase {v : AV} {id : Nat} (h : in2 0 0 (eraseA v) = true) : wk2 v (ren2 [] [] id (eraseA v)) := by
  cases v with
  | agg l =>
    have e : ren2 [] [] id (eraseA (.agg l)) = .agg (l.map fun v => ren1 [] [] id (erase v)) := by simp [eraseA, ren2]
    rw [e]
    refine wkL1_map fun v hv => wk1_erase (inL1_spec (show inL1 0 0 (l.map erase) = true from h) _ (List.mem_map_of_mem (f := erase) hv))
  | fn f c =>
    have e : ren2 [] [] id (eraseA (.fn f c)) = .fn f (c.map (ren1 [] [] id)) := rfl
    rw [e]
    refine ⟨rfl, wkL1_map fun v hv => ?_⟩
    rw [ren1_closed (inL1_spec (show inL1 0 0 c = true from h) v hv)]
    exact wk1_refl
  | sc c => exact rfl
  | sl z e t => exact ⟨rfl, rfl, .inl rfl⟩
  | ptr b o => simp [in2, eraseA, erase, in1, Nat.blt_eq] at h
  | elp c o => exact rfl
  | mx z e b n t => cases t <;> simp only [in2, eraseA, erase, in1] at h <;> (try split at h) <;> simp_all [Nat.blt_eq]
  | mr b => simp [in2, eraseA, erase, in1, Nat.blt_eq] at h
  | cs z b o n c t => cases t <;> simp only [in2, eraseA, erase, in1] at h <;> (try split at h) <;> simp_all [Nat.blt_eq]
  | mpv es => exact rfl
  | tup => cases h
  | bad => cases h

theorem wkL2_erase {id : Nat} : ∀ {l : List AV}, inL2 0 0 (l.map eraseA) = true → wkL2 l ((l.map eraseA).map (ren2 [] [] id))
  | [], _ => trivial
  | x :: l, h => by
    have h1 := inL2_spec h (eraseA x) (by simp)
    refine ⟨wk2_erase h1, wkL2_erase ?_⟩
    simp only [List.map_cons, inL2, h1] at h
    exact h

theorem tokN_zero {l : List AV} (h : inL2 0 0 l = true) : tokN l [] = 0 := by
  have : allToks l [] = [] := by
    cases hh : allToks l [] with
    | nil => rfl
    | cons k r =>
      have := allToks_in (args := l) (H := []) (nb := 0) (nb' := 0) (nt := 0) (fun v hv => inR_of_in2 (inL2_spec h v hv)) rfl k (by rw [hh]; simp)
      omega
  unfold tokN
  unfold allToks at this
  rw [this]; rfl

section
variable {P : Program} {W0 : World} {κ : Gh} {σ : Log} {a : Act} {w : World} {id : Nat} {F : Log → Prop} {call : CallP} {o : Oper} {Q : Exit → Act → World → Prop}
theorem callP_sound (hcall : ∀ f args H res H', call f args H res H' → Ctr P W0 f args H res H') (hs : RepS W0 κ σ a w) (hf : Fresh κ id) {d : Option Nat} {f : FuncId} {args : List AV} {vals : Array Value} (hsz : vals.size = args.length)
    (hv : ∀ (j : Nat) (v : AV), args[j]? = some v → RepV κ w v (vals.getD j undef)) (hN : ∀ d', d = some d' → d' < a.tmps.size) (h : callP call σ id d f args F) :
    callable P f = true ∧ Calls P f vals w fun e w' => ∃ v, e = .returned v ∧ After W0 κ σ a w id F (a.put d v) w' := by
  rcases h with ⟨res, hc, ⟨h1, h2⟩, hF⟩ | ⟨bs, ts, args', H, H', res, hc, ⟨n1, n2, n3, n4, n5, n6, i1, i2, i3, i4, w1, w2, w3⟩, hF⟩
  · refine callG (bs := []) (ts := []) (H := []) (H' := []) hs hf hsz hv hN (hcall _ _ _ _ _ hc) rfl rfl (Nat.le_refl _) (by simp) (by simp) (tokN_zero h1).symm h1 rfl h2 rfl (wkL2_erase h1) trivial trivial ?_
    simpa [newBoxes, offToks] using hF
  · exact callG hs hf hsz hv hN (hcall _ _ _ _ _ hc) n1 n2 (Nat.le_of_ble_eq_true n3) (Nat.le_of_ble_eq_true n4) (Nat.le_of_ble_eq_true n5) (Nat.eq_of_beq_eq_true n6) i1 i2 i3 i4 w1 w2 w3 hF

theorem run_callFunc' {f : FuncId} (h : callable P f = true) (args : Array Value) : (callFunc f args).run P w = .ok (.enter f args) w := by
  unfold callable at h
  split at h
  · rename_i fn hfn
    simp only [Bool.and_eq_true, Bool.not_eq_true'] at h
    obtain ⟨h1, h2⟩ := h
    have e1 : ¬ fn.name = "runtime.NumGoroutine" := by simpa using h1
    have e2 : ¬ fn.body = none := by
      cases hbb : fn.body <;> simp [hbb] at h2 ⊢
    simp only [callFunc, Sem.run_bind]
    have hp : (program : Go.Sem Program).run P w = .ok P w := rfl
    rw [hp]
    simp [hfn, e1, e2]
  · cases h

theorem s_call (hcall : ∀ f args H res H', call f args H res H' → Ctr P W0 f args H res H') (hs : RepS W0 κ σ a w) (hf : Fresh κ id) {c : Call} {fo : Operand} {f' : Opd} {ys : List Opd} {ts : List TypeId} {z : Option Nat}
    (ho : o.op = .call c) (hc : c.callee = .value fo) (hx : opdC z fo = some f') (hy : opdsC P c.args.toList ts = some ys) (hN : ∀ d', o.dst = some d' → d' < a.tmps.size)
    (h : eff call σ id (.call o.dst f' ys) F) : o.wp P a w (After W0 κ σ a w id F) Q := by
  have hr := opd_rep hs hx
  simp only [eff] at h
  split at h
  · rename_i f caps he
    rw [he] at hr
    obtain ⟨vs, e, hvs, hcv⟩ := hr.fn_inv
    obtain ⟨g1, g2⟩ := opdsC_spec hy
    have hlen : (c.args.map a.eval).size = (evs σ ys).length := by rw [Array.size_map, evs_length, ← g1, Array.length_toList]
    obtain ⟨h1, h2⟩ := callP_sound (P := P) (vals := c.args.map a.eval ++ vs) hcall hs hf (by rw [Array.size_append, List.length_append, hlen, hvs]) (by
      intro j v hj
      rw [Array.getD_eq_getD_getElem?]
      by_cases hjl : j < (evs σ ys).length
      · rw [List.getElem?_append_left hjl] at hj
        have := evs_rep hs g2 g1 j v hj
        rw [Array.getElem?_append_left (by rw [hlen]; exact hjl)]
        rw [Array.getD_eq_getD_getElem?] at this
        simpa using this
      · rw [List.getElem?_append_right (by omega)] at hj
        have := hcv _ v hj
        rw [Array.getElem?_append_right (by rw [hlen]; omega), hlen]
        rwa [Array.getD_eq_getD_getElem?] at this) hN h
    unfold Oper.wp
    have hrun : (execOp a.eval o).run P w = .ok (.enter f (c.args.map a.eval ++ vs)) w := by
      simp only [execOp, ho, resolve, hc, e, Deferred.ofValue, Sem.run_bind, Sem.run_pure, Result.andThen_ok, invoke, Array.empty_append]
      exact run_callFunc' h1 _
    rw [hrun]
    refine h2.mono ?_
    rintro e' w' ⟨v, rfl, hA⟩
    exact hA
  · exact h.elim

def compO (P : Program) (o : Oper) : Option AOp :=
  match o.op, o.dst with
  | .move x, some d => match opdC (elemSz P o.type) x with | some x => some (.mv d x) | none => none
  | .assign x, some d => match opdC (elemSz P o.type) x with | some x => some (.mv d x) | none => none
  | .pick c x y, some d => match opdC none c, opdC (elemSz P o.type) x, opdC (elemSz P o.type) y with
    | some c, some x, some y => some (.pick d c x y)
    | _, _, _ => none
  | .box t x, some d => match opdC (elemSz P t) x with | some x => some (.box d x) | none => none
  | .alloc t, some d => match zcells P t with | some l => some (.alloc d l) | none => none
  | .build t ps, some d => match P.underlying t with
    | some (.struct fs) => match sizesOK P fs, zcells P t, bldC P fs ps.toList with
      | true, some z, some l => some (.build d z l)
      | _, _, _ => none
    | _ => none
  | .buildSlice t n ps, some d => match P.underlying t with
    | some (.slice e) => match P.info? e with
      | some ie => match ie.zero, decide (n * ie.size ≤ 2 ^ 24 ∧ 0 < n ∧ 0 < ie.size), partsC (elemSz P e) 0 ps.toList with
        | some _, true, some xs => if xs.length = n then some (.bsl d ie.size xs) else none
        | _, _, _ => none
      | none => none
    | _ => none
  | .load t x, some d => match aggOf P t, (P.info? t).map (·.size), opdC none x with
    | some ag, some n, some x => some (.ld d n ag x)
    | _, _, _ => none
  | .store t x y, none => match (P.info? t).map (·.size), opdC none x, opdC (elemSz P t) y with
    | some n, some x, some y => some (.st x n y)
    | _, _, _ => none
  | .nilCheck x, some d => match opdC none x with | some x => some (.nc d x) | none => none
  | .binOp b t1 x y _, some d => match opdC none x, opdC none y with
    | some x, some y => match P.underlying t1 with
      | some .bool => match negC b with | some ng => some (.binB d ng x y) | none => none
      | _ => match compB b with | some b => some (.bin d b x y) | none => none
    | _, _ => none
  | .unOp .not _ x, some d => match opdC none x with | some x => some (.no d x) | none => none
  | .fieldAddr t x i, some d => match P.underlying t with
    | some (.struct fs) => match fs[i]? with
      | some f => match (P.info? f.type).map (·.size), opdC none x with
        | some n, some x => if n = 0 then none else some (.fa d x f.offset)
        | _, _ => none
      | none => none
    | _ => none
  | .field t x i, some d => match P.underlying t with
    | some (.struct fs) => match fs[i]? with
      | some f => match (P.info? f.type).map (·.size), aggOf P f.type, opdC none x with
        | some n, some ag, some x => some (.fld d x f.offset n ag)
        | _, _, _ => none
      | none => none
    | _ => none
  | .indexAddr t x y, some d => match P.underlying t with
    | some (.slice e) => match (P.info? e).map (·.size), opdC none x, opdC none y with
      | some n, some x, some y => some (.ia d n x y)
      | _, _, _ => none
    | _ => none
  | .index t x y, some d => match P.underlying t with
    | some .string => match opdC none x, opdC none y with
      | some x, some y => some (.ix d x y)
      | _, _ => none
    | _ => none
  | .slice t x lo hi mx, some d => match P.underlying t with
    | some .string => match opdC none x, optC lo, optC hi, mx with
      | some x, some lo, some hi, none => some (.slS d x lo hi)
      | _, _, _, _ => none
    | some (.slice e) => match (P.info? e).map (·.size), opdC none x, optC lo with
      | some n, some x, some lo' => match optC hi, optC mx with
        | some hi', some mx' => if mx.isSome = true ∧ hi.isSome = false then none else some (.slL d n x lo' hi' mx')
        | _, _ => none
      | _, _, _ => none
    | _ => none
  | .convert t1 t2 x, some d => match P.underlying t1, P.underlying t2, opdC none x with
    | some (.int _), some (.int k), some x => some (.cvi d k x)
    | _, _, _ => none
  | .extract x i, some d => match opdC none x with | some x => some (.ext d x i) | none => none
  | .makeFunc (.func f) ⟨[]⟩ cs, some d => match opdsC P cs.toList [] with | some ys => some (.mkf d f ys) | none => none
  | .call c, dst => match c.callee with
    | .value f => match opdC none f, opdsC P c.args.toList c.argTypes.toList with
      | some f, some ys => some (.call dst f ys)
      | _, _ => none
    | .builtin .len => match dst, c with
      | some d, { callee := _, args := ⟨[x]⟩, argTypes := ⟨[t]⟩ } => match P.underlying t, opdC none x with
        | some .string, some x => some (.lenS d x)
        | some (.slice _), some x => some (.len d x)
        | _, _ => none
      | _, _ => none
    | .builtin .append => match dst, c with
      | some d, { callee := _, args := ⟨[x, y]⟩, argTypes := ⟨[t, t']⟩ } => if t = t' then match P.underlying t with
        | some (.slice e) => match P.info? e with
          | some ie => match ie.zero, opdC (elemSz P t) x, opdC (elemSz P t) y with
            | some z, some x, some y => if z.cells.size = ie.size ∧ 0 < ie.size then some (.app d ie.size ie.bytes x y) else none
            | _, _, _ => none
          | none => none
        | _ => none
        else none
      | _, _ => none
    | .builtin .max => match dst, c with
      | some d, { callee := _, args := ⟨[x, y]⟩, argTypes := _ } => match opdC none x, opdC none y with
        | some x, some y => some (.mx d x y)
        | _, _ => none
      | _, _ => none
    | _ => none
  | _, _ => none

theorem eff_sound (hcall : ∀ f args H res H', call f args H res H' → Ctr P W0 f args H res H') (hs : RepS W0 κ σ a w) (hf : Fresh κ id) {g : AOp} (hg : compO P o = some g) (hN : ∀ d', o.dst = some d' → d' < a.tmps.size)
    (h : eff call σ id g F) : o.wp P a w (After W0 κ σ a w id F) Q := by
  unfold compO at hg
  split at hg
  · rename_i x d ho hd
    split at hg <;> first | cases hg | skip
    exact s_mv hs (.inl ho) hd (by assumption) (hN d hd) h
  · rename_i x d ho hd
    split at hg <;> first | cases hg | skip
    exact s_mv hs (.inr ho) hd (by assumption) (hN d hd) h
  · rename_i c x y d ho hd
    split at hg <;> first | cases hg | skip
    exact s_pick hs ho hd (by assumption) (by assumption) (by assumption) (hN d hd) h
  · rename_i t x d ho hd
    split at hg <;> first | cases hg | skip
    exact s_box hs hf ho hd (by assumption) (hN d hd) h
  · rename_i t d ho hd
    split at hg <;> first | cases hg | skip
    exact s_alloc hs hf ho hd (by assumption) (hN d hd) h
  · rename_i t ps d ho hd
    split at hg <;> first | cases hg | skip
    rename_i fs hu
    split at hg <;> first | cases hg | skip
    exact s_build hs ho hd hu (by assumption) (by assumption) (by assumption) (hN d hd) h
  · rename_i t n ps d ho hd
    split at hg <;> first | cases hg | skip
    rename_i e hu
    split at hg <;> first | cases hg | skip
    rename_i ie hie
    split at hg <;> first | cases hg | skip
    rename_i zv xs hz hdec hps
    split at hg <;> first | cases hg | skip
    rename_i hlen
    obtain ⟨h1, h2, h3⟩ := of_decide_eq_true hdec
    exact s_bsl hs ho hd hu hie hz rfl h1 h2 h3 hps hlen (hN d hd) h
  · rename_i t x d ho hd
    split at hg <;> first | cases hg | skip
    exact s_ld hs ho hd (by assumption) (by assumption) (by assumption) (hN d hd) h
  · rename_i t x y ho hd
    split at hg <;> first | cases hg | skip
    exact s_st hs ho hd (by assumption) (by assumption) (by assumption) h
  · rename_i x d ho hd
    split at hg <;> first | cases hg | skip
    exact s_nc hs ho hd (by assumption) (hN d hd) h
  · rename_i b t1 x y t2 d ho hd
    split at hg <;> first | cases hg | skip
    split at hg
    · split at hg <;> first | cases hg | skip
      exact s_binB hs ho hd (by assumption) (by assumption) (by assumption) (by assumption) (hN d hd) h
    · split at hg <;> first | cases hg | skip
      exact s_bin hs ho hd (by assumption) (by assumption) (by assumption) (hN d hd) h
  · rename_i t x d ho hd
    split at hg <;> first | cases hg | skip
    exact s_no hs ho hd (by assumption) (hN d hd) h
  · rename_i t x i d ho hd
    split at hg <;> first | cases hg | skip
    rename_i fs hu
    split at hg <;> first | cases hg | skip
    rename_i f hfi
    split at hg <;> first | cases hg | skip
    split at hg <;> first | cases hg | skip
    exact s_fa hs ho hd (by assumption) hu hfi (by assumption) (by assumption) (hN d hd) h
  · rename_i t x i d ho hd
    split at hg <;> first | cases hg | skip
    rename_i fs hu
    split at hg <;> first | cases hg | skip
    rename_i f hfi
    split at hg <;> first | cases hg | skip
    exact s_fld hs ho hd (by assumption) hu hfi (by assumption) (by assumption) (hN d hd) h
  · rename_i t x y d ho hd
    split at hg <;> first | cases hg | skip
    rename_i e hu
    split at hg <;> first | cases hg | skip
    exact s_ia hs ho hd (by assumption) (by assumption) hu (by assumption) (hN d hd) h
  · rename_i t x y d ho hd
    split at hg <;> first | cases hg | skip
    rename_i hu
    split at hg <;> first | cases hg | skip
    exact s_ix hs ho hd (by assumption) (by assumption) hu (hN d hd) h
  · rename_i t x lo hi mx d ho hd
    split at hg <;> first | cases hg | skip
    · rename_i hu
      split at hg <;> first | cases hg | skip
      exact s_slS hs ho hd (by assumption) (by assumption) (by assumption) hu (hN d hd) h
    · rename_i e hu
      split at hg <;> first | cases hg | skip
      split at hg <;> first | cases hg | skip
      split at hg <;> first | cases hg | skip
      rename_i hm
      exact s_slL hs hf ho hd (by assumption) (by assumption) (by assumption) (by assumption) (fun hh => by
        cases hi with
        | some _ => rfl
        | none => exact absurd ⟨hh, rfl⟩ hm) hu (by assumption) (hN d hd) h
  · rename_i t1 t2 x d ho hd
    split at hg <;> first | cases hg | skip
    exact s_cvi hs ho hd (by assumption) (by assumption) (by assumption) (hN d hd) h
  · rename_i x i d ho hd
    split at hg <;> first | cases hg | skip
    exact s_ext hs ho hd (by assumption) (hN d hd) h
  · rename_i f cs d ho hd
    split at hg <;> first | cases hg | skip
    exact s_mkf hs ho hd (by assumption) (hN d hd) h
  · rename_i c ho
    split at hg
    · rename_i fo hc
      split at hg <;> first | cases hg | skip
      exact s_call hcall hs hf ho hc (by assumption) (by assumption) hN h
    · rename_i hc
      split at hg <;> first | cases hg | skip
      rename_i d cal x t hd
      simp only at hc
      subst hc
      split at hg <;> first | cases hg | skip
      · exact s_lenS hs ho hd (by assumption) (by assumption) (hN d hd) h
      · exact s_len hs ho hd (by assumption) (by assumption) (hN d hd) h
    · rename_i hc
      split at hg <;> first | cases hg | skip
      rename_i d cal x y t t' hd
      simp only at hc
      subst hc
      split at hg <;> first | cases hg | skip
      rename_i htt
      subst htt
      split at hg <;> first | cases hg | skip
      rename_i e hu
      split at hg <;> first | cases hg | skip
      rename_i ie hie
      split at hg <;> first | cases hg | skip
      rename_i zv x' y' hz hx hy
      split at hg <;> first | cases hg | skip
      rename_i hh
      exact s_app hs hf ho hd hx hy hu hie rfl rfl hz hh.1 hh.2 (hN d hd) h
    · rename_i hc
      split at hg <;> first | cases hg | skip
      rename_i d cal x y tss hd
      simp only at hc
      subst hc
      split at hg <;> first | cases hg | skip
      exact s_mx hs ho hd (by assumption) (by assumption) (hN d hd) h
    · cases hg
  · cases hg
end
end Go.Abs

namespace Go.Abs
open Go
theorem ev_agree {σ σ' : Log} {x : Opd} (h : ∀ l, l ∈ opdR x → look σ' l = look σ l) : ev σ' x = ev σ x := by
  cases x with
  | t n => simp only [ev]; rw [h (.s n) (by simp [opdR])]
  | c v => rfl

theorem evs_agree {σ σ' : Log} : ∀ {xs : List Opd}, (∀ l, l ∈ opdsR xs → look σ' l = look σ l) → evs σ' xs = evs σ xs
  | [], _ => rfl
  | x :: r, h => by
    simp only [evs]
    rw [ev_agree fun l hl => h l (by simp [opdsR, hl]), evs_agree fun l hl => h l (by simp [opdsR, hl])]

theorem mem_keys {δ : Log} {l : Loc} : l ∈ keysL δ ↔ look δ l ≠ none := by
  induction δ with
  | nil => simp [keysL, look]
  | cons x r ih =>
    obtain ⟨k, c⟩ := x
    rw [keysL, look_cons, List.mem_cons, ih]
    by_cases h : k = l
    · simp [h]
    · have : ¬ l = k := fun e => h e.symm
      simp [h, this]

theorem optI_agree {σ σ' : Log} {x : Option Opd} {z : Int} {K : Int → Prop} (h : ∀ l, l ∈ optR x → look σ' l = look σ l) : optI σ' x z K = optI σ x z K := by
  cases x with
  | none => rfl
  | some x => simp only [optI]; rw [ev_agree h]

theorem optI_pick {σ : Log} {x : Option Opd} {z : Int} {K : Int → Prop} (h : optI σ x z K) : ∃ n, K n ∧ ∀ G : Int → Prop, G n → optI σ x z G := by
  cases x with
  | none => exact ⟨z, h, fun G g => g⟩
  | some x =>
    simp only [optI] at h ⊢
    split at h
    · rename_i n he; exact ⟨n, h, fun G g => g⟩
    · exact h.elim

theorem bld_pick {σ : Log} : ∀ {ps : List (Nat × Nat × Opd)} {z : List AV} {F : List AV → Prop}, bld σ ps z F → ∃ r, F r ∧ ∀ σ', (∀ l, l ∈ opdsR (ps.map fun p => p.2.2) → look σ' l = look σ l) → ∀ G : List AV → Prop, G r → bld σ' ps z G
  | [], z, F, h => ⟨z, h, fun _ _ G g => g⟩
  | (o, n, x) :: ps, z, F, h => by
    simp only [bld] at h
    obtain ⟨h1, h⟩ := frcL_iff.1 h
    split at h
    · rename_i hb
      split at h
      · rename_i z' hz
        obtain ⟨r, hr, hG⟩ := bld_pick h
        refine ⟨r, hr, fun σ' ha G g => ?_⟩
        simp only [bld]
        have e : ev σ' x = ev σ x := ev_agree fun l hl => ha l (by simp [opdsR, hl])
        rw [e, frcL_iff]
        refine ⟨h1, ?_⟩
        simp only [hb, hz]
        exact hG σ' (fun l hl => ha l (by simp only [List.map_cons, opdsR]; exact List.mem_append_right _ hl)) G g
      · exact h.elim
    · exact h.elim

theorem bslc_pick {σ : Log} {sz : Nat} : ∀ {ps : List Opd} {F : List (List Data) → Prop}, bslc σ sz ps F → ∃ r, F r ∧ ∀ σ', (∀ l, l ∈ opdsR ps → look σ' l = look σ l) → ∀ G : List (List Data) → Prop, G r → bslc σ' sz ps G
  | [], F, h => ⟨[], h, fun _ _ G g => g⟩
  | x :: ps, F, h => by
    simp only [bslc] at h
    obtain ⟨h1, h⟩ := frcL_iff.1 h
    split at h
    · exact h.elim
    · rename_i ds hds
      split at h
      · rename_i hb
        obtain ⟨r, hr, hG⟩ := bslc_pick h
        refine ⟨ds :: r, hr, fun σ' ha G g => ?_⟩
        simp only [bslc]
        have e : ev σ' x = ev σ x := ev_agree fun l hl => ha l (by simp [opdsR, hl])
        rw [e, frcL_iff]
        refine ⟨h1, ?_⟩
        simp only [hb, hds]
        exact hG σ' (fun l hl => ha l (by simp only [opdsR]; exact List.mem_append_right _ hl)) _ g
      · exact h.elim

theorem bslA_pick {σ : Log} {sz : Nat} : ∀ {ps : List Opd} {F : List AV → Prop}, bslA σ sz ps F → ∃ r, F r ∧ ∀ σ', (∀ l, l ∈ opdsR ps → look σ' l = look σ l) → ∀ G : List AV → Prop, G r → bslA σ' sz ps G
  | [], F, h => ⟨[], h, fun _ _ G g => g⟩
  | x :: ps, F, h => by
    simp only [bslA] at h
    obtain ⟨h1, h⟩ := frcL_iff.1 h
    split at h
    · rename_i hb
      obtain ⟨r, hr, hG⟩ := bslA_pick h
      refine ⟨flat (ev σ x) ++ r, hr, fun σ' ha G g => ?_⟩
      simp only [bslA]
      have e : ev σ' x = ev σ x := ev_agree fun l hl => ha l (by simp [opdsR, hl])
      rw [e, frcL_iff]
      refine ⟨h1, ?_⟩
      simp only [hb]
      exact hG σ' (fun l hl => ha l (by simp only [opdsR]; exact List.mem_append_right _ hl)) _ g
    · exact h.elim
theorem ysl_agree {σ σ' : Log} {sz : Nat} {v : AV} (h : ∀ l, l ∈ bxR v → look σ' l = look σ l) : ysl σ' sz v = ysl σ sz v := by
  cases v with
  | cs z b o m c t => simp only [ysl]; rw [h (.b b) (by simp [bxR])]
  | _ => rfl

theorem ldv_pick {d : Nat} {ag : Bool} {l : Option (List AV)} {F : Log → Prop} (h : ldv d ag l F) : ∃ δ, F δ ∧ ∀ G : Log → Prop, G δ → ldv d ag l G := by
  cases l with
  | none => exact h.elim
  | some l =>
    cases ag with
    | true =>
      obtain ⟨h1, h⟩ := frcL_iff.1 (show frcL l fun l => F [(.s d, .av (.agg l))] from h)
      exact ⟨_, h, fun G g => frcL_iff.2 ⟨h1, g⟩⟩
    | false =>
      simp only [ldv] at h ⊢
      split at h
      · obtain ⟨h1, h⟩ := frc1_iff.1 h
        exact ⟨_, h, fun G g => frc1_iff.2 ⟨h1, g⟩⟩
      · exact h.elim

theorem binI_pick {o : Bin} {k : IntKind} {a b : Int} {F : AV → Prop} (h : binI o k a b F) : ∃ v, F v ∧ ∀ G : AV → Prop, G v → binI o k a b G := by
  cases o <;> first | exact ⟨_, h, fun G g => g⟩ | exact ⟨_, h.2, fun G g => ⟨h.1, g⟩⟩

theorem binS_pick {o : Bin} {a b : List UInt8} {F : AV → Prop} (h : binS o a b F) : ∃ v, F v ∧ ∀ G : AV → Prop, G v → binS o a b G := by
  cases o <;> first | exact (show False from h).elim | exact ⟨_, h, fun G g => g⟩ | exact ⟨_, h.2, fun G g => ⟨h.1, g⟩⟩

theorem binP_pick {o : Bin} {x y : AV} {F : AV → Prop} (h : binP o x y F) : ∃ v, F v ∧ ∀ G : AV → Prop, G v → binP o x y G := by
  unfold binP at h
  split at h
  · rename_i k a k' b
    split at h
    · rename_i hk
      obtain ⟨v, h1, h2⟩ := binI_pick h
      refine ⟨v, h1, fun G g => ?_⟩
      simp only [binP, hk]
      exact h2 G g
    · exact h.elim
  · obtain ⟨v, h1, h2⟩ := binS_pick h
    exact ⟨v, h1, fun G g => h2 G g⟩
  · exact h.elim

theorem boxIs_agree {σ σ' : Log} {bs0 ts : List Nat} {id : Nat} : ∀ {bs : List Nat} {H : List (List AV)}, (∀ b, b ∈ bs → look σ' (.b b) = look σ (.b b)) → boxIs σ bs0 ts id bs H → boxIs σ' bs0 ts id bs H
  | [], [], _, h => h
  | b :: bs, h :: H, ha, hh => by
    obtain ⟨h1, h2⟩ := hh
    refine ⟨?_, boxIs_agree (fun b hb => ha b (by simp [hb])) h2⟩
    rw [ha b (by simp)]; exact h1
  | [], _ :: _, _, h => h.elim
  | _ :: _, [], _, h => h.elim

theorem liveAll_agree {σ σ' : Log} : ∀ {ts : List Nat}, (∀ b, b ∈ ts → look σ' (.t b) = look σ (.t b)) → liveAll σ ts → liveAll σ' ts
  | [], _, _ => trivial
  | b :: ts, ha, h => by
    obtain ⟨h1, h2⟩ := h
    refine ⟨?_, liveAll_agree (fun b hb => ha b (by simp [hb])) h2⟩
    rw [ha b (by simp)]; exact h1

theorem rb_mem {bs ts : List Nat} {id : Nat} : ∀ {H : List (List AV)} {n i : Nat}, i < H.length → Loc.b (rb bs id (n + i)) ∈ keysL (newBoxes bs ts id n H)
  | [], n, i, h => by simp at h
  | h :: H, n, i, hi => by
    simp only [newBoxes, keysL]
    cases i with
    | zero => simp
    | succ i =>
      have := rb_mem (bs := bs) (ts := ts) (id := id) (H := H) (n := n + 1) (i := i) (by simpa using hi)
      rw [show n + 1 + i = n + (i + 1) by omega] at this
      exact List.mem_cons_of_mem _ this

theorem off_mem : ∀ {ts : List Nat} {k : Nat}, k ∈ ts → Loc.t k ∈ keysL (offToks ts)
  | [], k, h => by cases h
  | x :: ts, k, h => by
    simp only [offToks, keysL]
    rcases List.mem_cons.1 h with rfl | h
    · simp
    · exact List.mem_cons_of_mem _ (off_mem h)

theorem keys_append {δ δ' : Log} {l : Loc} : l ∈ keysL (δ ++ δ') ↔ l ∈ keysL δ ∨ l ∈ keysL δ' := by
  induction δ with
  | nil => simp [keysL]
  | cons x r ih =>
    obtain ⟨k, c⟩ := x
    simp only [List.cons_append, keysL, List.mem_cons, ih, or_assoc]

theorem callP_pick {call : CallP} {σ : Log} {id : Nat} {d : Option Nat} {f : FuncId} {args : List AV} {F : Log → Prop} (h : callP call σ id d f args F) :
    ∃ δ, F δ ∧ ∀ σ', (∀ l, l ∈ keysL δ → look σ' l = look σ l) → callP call σ' id d f args (· = δ) := by
  rcases h with ⟨res, hc, hh, hF⟩ | ⟨bs, ts, args', H, H', res, hc, ⟨n1, n2, n3, n4, n5, n6, i1, i2, i3, i4, w1, w2, w3⟩, hF⟩
  · exact ⟨_, hF, fun σ' _ => .pure res hc hh rfl⟩
  · refine ⟨_, hF, fun σ' ha => .full bs ts args' H H' res hc ⟨n1, n2, n3, n4, n5, n6, i1, i2, i3, i4, w1, boxIs_agree ?_ w2, liveAll_agree ?_ w3⟩ rfl⟩
    · intro b hb
      refine ha _ (keys_append.2 (.inl (keys_append.2 (.inl (keys_append.2 (.inr ?_))))))
      obtain ⟨i, hi⟩ := List.mem_iff_getElem?.1 hb
      have hil := (List.getElem?_eq_some_iff.1 hi).1
      have := rb_mem (bs := bs) (ts := ts) (id := id) (H := H') (n := 0) (i := i) (Nat.lt_of_lt_of_le hil (Nat.le_of_ble_eq_true n3))
      simpa [rb, hi] using this
    · intro k hk
      exact ha _ (keys_append.2 (.inr (off_mem hk)))

theorem eff_pick {call : CallP} {σ : Log} {id : Nat} {o : AOp} {F : Log → Prop} (h : eff call σ id o F) :
    ∃ δ, F δ ∧ ∀ σ', (∀ l, l ∈ o.rd σ ∨ l ∈ keysL δ → look σ' l = look σ l) → eff call σ' id o (· = δ) := by
  have E : ∀ {σ' : Log} {x : Opd} {R : List Loc} {δ : Log}, (∀ l, l ∈ R ∨ l ∈ keysL δ → look σ' l = look σ l) → (∀ l, l ∈ opdR x → l ∈ R) → ev σ' x = ev σ x :=
    fun ha hx => ev_agree fun l hl => ha l (.inl (hx l hl))
  cases o with
  | mv d x =>
    obtain ⟨h1, h⟩ := frc_iff.1 (show frc (ev σ x) fun v => F [(.s d, .av v)] from h)
    refine ⟨_, h, fun σ' ha => ?_⟩
    simp only [eff]
    rw [E ha (fun l hl => hl), frc_iff]; exact ⟨h1, rfl⟩
  | pick d c a b =>
    simp only [eff] at h
    split at h
    · rename_i t ht
      cases t with
      | true =>
        obtain ⟨h1, h⟩ := frc_iff.1 h
        refine ⟨_, h, fun σ' ha => ?_⟩
        simp only [eff]
        rw [E ha (x := c) (fun l hl => by simp [AOp.rd, hl]), E ha (x := a) (fun l hl => by simp [AOp.rd, hl]), ht]
        exact frc_iff.2 ⟨h1, rfl⟩
      | false =>
        obtain ⟨h1, h⟩ := frc_iff.1 h
        refine ⟨_, h, fun σ' ha => ?_⟩
        simp only [eff]
        rw [E ha (x := c) (fun l hl => by simp [AOp.rd, hl]), E ha (x := b) (fun l hl => by simp [AOp.rd, hl]), ht]
        exact frc_iff.2 ⟨h1, rfl⟩
    · exact h.elim
  | box d x =>
    obtain ⟨h1, h⟩ := frcL_iff.1 (show frcL (flat (ev σ x)) fun l => F [(.s d, .av (.ptr id 0)), (.b id, .bx l)] from h)
    refine ⟨_, h, fun σ' ha => ?_⟩
    show frcL (flat (ev σ' x)) _
    rw [E ha (fun l hl => hl), frcL_iff]; exact ⟨h1, rfl⟩
  | alloc d z => exact ⟨_, h, fun σ' _ => rfl⟩
  | build d z ps =>
    obtain ⟨r, hr, hG⟩ := bld_pick (show bld σ ps z fun z => frcL z fun z => F [(.s d, .av (.agg z))] from h)
    obtain ⟨h1, h⟩ := frcL_iff.1 hr
    exact ⟨_, h, fun σ' ha => hG σ' (fun l hl => ha l (.inl hl)) _ (frcL_iff.2 ⟨h1, rfl⟩)⟩
  | bsl d sz xs =>
    obtain ⟨r, hr, hG⟩ := bslc_pick (show bslc σ sz xs fun els => F [(.s d, .av (.sl sz els .full))] from h)
    exact ⟨_, hr, fun σ' ha => hG σ' (fun l hl => ha l (.inl hl)) _ rfl⟩
  | ld d n ag a =>
    simp only [eff] at h
    split at h
    · rename_i b o' he
      split at h
      · rename_i l hl
        cases hm : isM l with
        | true => simp only [hm] at h
        | false =>
        simp only [hm] at h
        obtain ⟨δ, hF, hG⟩ := ldv_pick h
        refine ⟨δ, hF, fun σ' ha => ?_⟩
        simp only [eff]
        rw [E ha (x := a) (fun l hl => by simp [AOp.rd, hl]), he]
        simp only
        rw [ha (.b b) (.inl (by simp [AOp.rd, he])), hl]
        simp only [hm]
        exact hG _ rfl
      · exact h.elim
    · rename_i l o' he
      obtain ⟨δ, hF, hG⟩ := ldv_pick h
      refine ⟨δ, hF, fun σ' ha => ?_⟩
      simp only [eff]
      rw [E ha (x := a) (fun l hl => by simp [AOp.rd, hl]), he]
      exact hG _ rfl
    · exact h.elim
  | st a n x =>
    simp only [eff] at h
    split at h
    · rename_i b o' he
      split at h
      · rename_i l hl
        cases hm : isM l with
        | true => simp only [hm] at h
        | false =>
        simp only [hm] at h
        obtain ⟨h1, h⟩ := frcL_iff.1 h
        split at h
        · rename_i hb
          split at h
          · rename_i r hr
            obtain ⟨h2, h⟩ := frcL_iff.1 h
            refine ⟨_, h, fun σ' ha => ?_⟩
            simp only [eff]
            rw [E ha (x := a) (fun l hl => by simp [AOp.rd, hl]), E ha (x := x) (fun l hl => by simp [AOp.rd, hl]), he]
            simp only
            rw [ha (.b b) (.inr (by simp [keysL])), hl]
            simp only [hm]
            rw [frcL_iff]
            refine ⟨h1, ?_⟩
            simp only [hb, hr]
            exact frcL_iff.2 ⟨h2, rfl⟩
          · exact h.elim
        · exact h.elim
      · exact h.elim
    · exact h.elim
  | nc d x =>
    simp only [eff] at h
    split at h
    all_goals first | exact h.elim | skip
    all_goals
      rename_i he
      refine ⟨_, h, fun σ' ha => ?_⟩
      simp only [eff]
      rw [E ha (fun l hl => hl), he]
  | bin d o x y =>
    obtain ⟨v, hv, hG⟩ := binP_pick (show binP o (ev σ x) (ev σ y) fun v => F [(.s d, .av v)] from h)
    refine ⟨_, hv, fun σ' ha => ?_⟩
    show binP o (ev σ' x) (ev σ' y) _
    rw [E ha (x := x) (fun l hl => by simp [AOp.rd, hl]), E ha (x := y) (fun l hl => by simp [AOp.rd, hl])]
    exact hG _ rfl
  | binB d ng x y =>
    simp only [eff] at h
    split at h
    · rename_i p q he1 he2
      cases ng <;> simp only at h
      all_goals
        refine ⟨_, h, fun σ' ha => ?_⟩
        simp only [eff]
        rw [E ha (x := x) (fun l hl => by simp [AOp.rd, hl]), E ha (x := y) (fun l hl => by simp [AOp.rd, hl]), he1, he2]
    · exact h.elim
  | no d x =>
    simp only [eff] at h
    split at h
    · rename_i t he
      refine ⟨_, h, fun σ' ha => ?_⟩
      simp only [eff]
      rw [E ha (fun l hl => hl), he]
    · exact h.elim
  | fa d x off =>
    simp only [eff] at h
    split at h
    all_goals first | exact h.elim | skip
    all_goals
      rename_i he
      refine ⟨_, h, fun σ' ha => ?_⟩
      simp only [eff]
      rw [E ha (fun l hl => hl), he]
  | fld d x off n ag =>
    simp only [eff] at h
    split at h
    · rename_i l he
      obtain ⟨δ, hF, hG⟩ := ldv_pick h
      refine ⟨δ, hF, fun σ' ha => ?_⟩
      simp only [eff]
      rw [E ha (fun l hl => hl), he]
      exact hG _ rfl
    · exact h.elim
  | ia d sz x i =>
    simp only [eff] at h
    split at h
    · rename_i z els t k n he1 he2
      split at h
      · rename_i hb
        obtain ⟨e, h1, h⟩ := h
        refine ⟨_, h, fun σ' ha => ?_⟩
        simp only [eff]
        rw [E ha (x := x) (fun l hl => by simp [AOp.rd, hl]), E ha (x := i) (fun l hl => by simp [AOp.rd, hl]), he1, he2]
        simp only [hb]
        exact ⟨e, h1, rfl⟩
      · exact h.elim
    · rename_i z els b m t k n he1 he2
      split at h
      · rename_i hb
        obtain ⟨h1, h⟩ := h
        refine ⟨_, h, fun σ' ha => ?_⟩
        simp only [eff]
        rw [E ha (x := x) (fun l hl => by simp [AOp.rd, hl]), E ha (x := i) (fun l hl => by simp [AOp.rd, hl]), he1, he2]
        simp only [hb]
        exact ⟨h1, by first | rfl | trivial⟩
      · exact h.elim
    · rename_i z b o m c t k n he1 he2
      split at h
      · rename_i hb
        obtain ⟨h1, h⟩ := h
        refine ⟨_, h, fun σ' ha => ?_⟩
        simp only [eff]
        rw [E ha (x := x) (fun l hl => by simp [AOp.rd, hl]), E ha (x := i) (fun l hl => by simp [AOp.rd, hl]), he1, he2]
        simp only [hb]
        exact ⟨h1, by first | rfl | trivial⟩
      · exact h.elim
    · exact h.elim
  | ix d x i =>
    simp only [eff] at h
    split at h
    · rename_i l k n he1 he2
      obtain ⟨e, h1, h⟩ := h
      refine ⟨_, h, fun σ' ha => ?_⟩
      simp only [eff]
      rw [E ha (x := x) (fun l hl => by simp [AOp.rd, hl]), E ha (x := i) (fun l hl => by simp [AOp.rd, hl]), he1, he2]
      exact ⟨e, h1, rfl⟩
    · exact h.elim
  | slS d x lo hi =>
    simp only [eff] at h
    split at h
    · rename_i l he
      obtain ⟨p, h, g1⟩ := optI_pick h
      obtain ⟨q, h, g2⟩ := optI_pick h
      refine ⟨_, h.2, fun σ' ha => ?_⟩
      simp only [eff]
      rw [E ha (x := x) (fun l hl => by simp [AOp.rd, hl]), he]
      simp only
      rw [optI_agree fun l hl => ha l (.inl (by simp [AOp.rd, hl]))]
      refine g1 _ ?_
      rw [optI_agree fun l hl => ha l (.inl (by simp [AOp.rd, hl]))]
      exact g2 _ ⟨h.1, rfl⟩
    · exact h.elim
  | slL d sz x lo hi mx =>
    simp only [eff] at h
    split at h
    · rename_i z b n t he
      split at h
      · rename_i hb
        split at h
        · rename_i hi' l hl
          obtain ⟨q, ⟨h1, h⟩, g2⟩ := optI_pick h
          cases t with
          | none => exact h.elim
          | full =>
            refine ⟨_, h, fun σ' ha => ?_⟩
            simp only [eff]
            rw [E ha (x := x) (fun l hl => by simp [AOp.rd, hl]), he]
            simp only [hb]
            rw [ha (.b b) (.inr (by simp [keysL])), hl]
            simp only
            rw [optI_agree fun l hl => ha l (.inl (by simp [AOp.rd, hl]))]
            exact g2 _ ⟨h1, by first | rfl | trivial⟩
          | t k =>
            simp only at h
            split at h
            · rename_i hk
              refine ⟨_, h, fun σ' ha => ?_⟩
              simp only [eff]
              rw [E ha (x := x) (fun l hl => by simp [AOp.rd, hl]), he]
              simp only [hb]
              rw [ha (.b b) (.inr (by simp [keysL])), hl]
              simp only
              rw [optI_agree fun l hl => ha l (.inl (by simp [AOp.rd, hl]))]
              refine g2 _ ⟨h1, ?_⟩
              rw [ha (.t k) (.inr (by simp [keysL])), hk]
              first | exact rfl | trivial
            · exact h.elim
        · exact h.elim
      · exact h.elim
    · rename_i z els t he
      split at h
      · rename_i hb
        obtain ⟨p, h, g1⟩ := optI_pick h
        obtain ⟨q, h, g2⟩ := optI_pick h
        cases mx with
        | none =>
          simp only at h
          obtain ⟨t', h⟩ := h
          refine ⟨_, h.2, fun σ' ha => ?_⟩
          simp only [eff]
          rw [E ha (x := x) (fun l hl => by simp [AOp.rd, hl]), he]
          simp only [hb]
          rw [optI_agree fun l hl => ha l (.inl (by simp [AOp.rd, hl]))]
          refine g1 _ ?_
          rw [optI_agree fun l hl => ha l (.inl (by simp [AOp.rd, hl]))]
          exact g2 _ ⟨t', h.1, by first | rfl | trivial⟩
        | some mx =>
          simp only at h
          obtain ⟨r, h, g3⟩ := optI_pick h
          refine ⟨_, h.2, fun σ' ha => ?_⟩
          simp only [eff]
          rw [E ha (x := x) (fun l hl => by simp [AOp.rd, hl]), he]
          simp only [hb]
          rw [optI_agree fun l hl => ha l (.inl (by simp [AOp.rd, hl]))]
          refine g1 _ ?_
          rw [optI_agree fun l hl => ha l (.inl (by simp [AOp.rd, hl]))]
          refine g2 _ ?_
          simp only
          rw [optI_agree fun l hl => ha l (.inl (by simp [AOp.rd, hl]))]
          exact g3 _ ⟨h.1, by first | rfl | trivial⟩
      · exact h.elim
    · rename_i z b o n c t he
      split at h
      · rename_i hb
        obtain ⟨p, h, g1⟩ := optI_pick h
        obtain ⟨q, h, g2⟩ := optI_pick h
        cases mx with
        | none =>
          simp only at h
          refine ⟨_, h.2, fun σ' ha => ?_⟩
          simp only [eff]
          rw [E ha (x := x) (fun l hl => by simp [AOp.rd, hl]), he]
          simp only [hb]
          rw [optI_agree fun l hl => ha l (.inl (by simp [AOp.rd, hl]))]
          refine g1 _ ?_
          rw [optI_agree fun l hl => ha l (.inl (by simp [AOp.rd, hl]))]
          exact g2 _ ⟨h.1, by first | rfl | trivial⟩
        | some mx => exact h.elim
      · exact h.elim
    · exact h.elim
  | cvi d k x =>
    simp only [eff] at h
    split at h
    · rename_i k' n he
      refine ⟨_, h.2, fun σ' ha => ?_⟩
      simp only [eff]
      rw [E ha (fun l hl => hl), he]
      exact ⟨h.1, by first | rfl | trivial⟩
    · exact h.elim
  | ext d x i =>
    simp only [eff] at h
    split at h
    · rename_i l he
      split at h
      · rename_i v hv
        obtain ⟨h1, h⟩ := frc_iff.1 h
        refine ⟨_, h, fun σ' ha => ?_⟩
        simp only [eff]
        rw [E ha (fun l hl => hl), he]
        simp only [hv]
        exact frc_iff.2 ⟨h1, rfl⟩
      · exact h.elim
    · exact h.elim
  | call d f as_ =>
    simp only [eff] at h
    split at h
    · rename_i f' caps he
      obtain ⟨δ, hF, hG⟩ := callP_pick h
      refine ⟨δ, hF, fun σ' ha => ?_⟩
      simp only [eff]
      rw [E ha (x := f) (fun l hl => by simp [AOp.rd, hl]), he]
      simp only
      rw [evs_agree fun l hl => ha l (.inl (by simp [AOp.rd, hl]))]
      exact hG σ' fun l hl => ha l (.inr hl)
    · exact h.elim
  | app d sz by_ s x =>
    simp only [eff] at h
    split at h
    · rename_i z e1 t1 z' e2 t2 he1 he2
      split at h
      · rename_i hb1 hb2
        split at h
        · exact h.elim
        · refine ⟨_, h.2, fun σ' ha => ?_⟩
          simp only [eff]
          rw [E ha (x := s) (fun l hl => by simp [AOp.rd, hl]), E ha (x := x) (fun l hl => by simp [AOp.rd, hl]), he1, he2]
          simp only [hb1, hb2]
          exact ⟨h.1, by first | rfl | trivial⟩
        · rename_i k
          split at h
          · rename_i hk
            refine ⟨_, h.2, fun σ' ha => ?_⟩
            simp only [eff]
            rw [E ha (x := s) (fun l hl => by simp [AOp.rd, hl]), E ha (x := x) (fun l hl => by simp [AOp.rd, hl]), he1, he2]
            simp only [hb1, hb2]
            rw [ha (.t k) (.inr (by simp [keysL])), hk]
            exact ⟨h.1, by first | rfl | trivial⟩
          · exact h.elim
      · exact h.elim
    · exact h.elim
  | len d x =>
    simp only [eff] at h
    split at h
    · rename_i he
      refine ⟨_, h, fun σ' ha => ?_⟩
      simp only [eff]
      rw [E ha (fun l hl => hl), he]
    · rename_i he
      refine ⟨_, h, fun σ' ha => ?_⟩
      simp only [eff]
      rw [E ha (fun l hl => hl), he]
    · rename_i he
      refine ⟨_, h, fun σ' ha => ?_⟩
      simp only [eff]
      rw [E ha (fun l hl => hl), he]
    · exact h.elim
  | lenS d x =>
    simp only [eff] at h
    split at h
    · rename_i he
      refine ⟨_, h, fun σ' ha => ?_⟩
      simp only [eff]
      rw [E ha (fun l hl => hl), he]
    · exact h.elim
  | mx d x y =>
    simp only [eff] at h
    split at h
    · rename_i p q he1 he2
      refine ⟨_, h, fun σ' ha => ?_⟩
      simp only [eff]
      rw [E ha (x := x) (fun l hl => by simp [AOp.rd, hl]), E ha (x := y) (fun l hl => by simp [AOp.rd, hl]), he1, he2]
    · exact h.elim
  | mkf d f caps =>
    obtain ⟨h1, h⟩ := frcL_iff.1 (show frcL (evs σ caps) fun caps => F [(.s d, .av (.fn f caps))] from h)
    refine ⟨_, h, fun σ' ha => ?_⟩
    show frcL (evs σ' caps) _
    rw [evs_agree fun l hl => ha l (.inl hl), frcL_iff]; exact ⟨h1, rfl⟩
  | mk d sz by_ z x =>
    simp only [eff] at h
    split at h
    · rename_i n he
      refine ⟨_, h.2, fun σ' ha => ?_⟩
      simp only [eff]
      rw [E ha (fun l hl => hl), he]
      exact ⟨h.1, by first | rfl | trivial⟩
    · exact h.elim
  | mkF d sz by_ z x =>
    simp only [eff] at h
    split at h
    · rename_i n he
      refine ⟨_, h.2, fun σ' ha => ?_⟩
      simp only [eff]
      rw [E ha (fun l hl => hl), he]
      exact ⟨h.1, by first | rfl | trivial⟩
    · exact h.elim
  | bslM d sz xs =>
    obtain ⟨r, hr, hG⟩ := bslA_pick (show bslA σ sz xs fun vs => F [(.s d, .av (.cs sz id 0 xs.length xs.length .full)), (.b id, .bx vs)] from h)
    exact ⟨_, hr, fun σ' ha => hG σ' (fun l hl => ha l (.inl hl)) _ rfl⟩
  | appM d sz by_ s x =>
    simp only [eff] at h
    split at h
    · rename_i z e1 t1 z' e2 t2 he1 he2
      split at h
      · rename_i hb1 hb2
        split at h
        · exact h.elim
        · refine ⟨_, h.2, fun σ' ha => ?_⟩
          simp only [eff]
          rw [E ha (x := s) (fun l hl => by simp [AOp.rd, hl]), E ha (x := x) (fun l hl => by simp [AOp.rd, hl]), he1, he2]
          simp only [hb1, hb2]
          exact ⟨h.1, by first | rfl | trivial⟩
        · rename_i k
          split at h
          · rename_i hk
            refine ⟨_, h.2, fun σ' ha => ?_⟩
            simp only [eff]
            rw [E ha (x := s) (fun l hl => by simp [AOp.rd, hl]), E ha (x := x) (fun l hl => by simp [AOp.rd, hl]), he1, he2]
            simp only [hb1, hb2]
            rw [ha (.t k) (.inr (by simp [keysL])), hk]
            exact ⟨h.1, by first | rfl | trivial⟩
          · exact h.elim
      · exact h.elim
    · exact h.elim
  | cap d x =>
    simp only [eff] at h
    split at h
    · rename_i he
      refine ⟨_, h, fun σ' ha => ?_⟩
      simp only [eff]
      rw [E ha (fun l hl => hl), he]
    · rename_i he
      refine ⟨_, h, fun σ' ha => ?_⟩
      simp only [eff]
      rw [E ha (fun l hl => hl), he]
    · exact h.elim
  | iaG d cells sz x =>
    simp only [eff] at h
    split at h
    · rename_i n he
      refine ⟨_, h.2, fun σ' ha => ?_⟩
      simp only [eff]
      rw [E ha (fun l hl => hl), he]
      exact ⟨h.1, by first | rfl | trivial⟩
    · exact h.elim
  | eqA d ng ks x y =>
    simp only [eff] at h
    split at h
    · rename_i p q he1 he2
      split at h
      · rename_i b hb
        cases ng <;> simp only at h
        all_goals
          refine ⟨_, h, fun σ' ha => ?_⟩
          simp only [eff]
          rw [E ha (x := x) (fun l hl => by simp [AOp.rd, hl]), E ha (x := y) (fun l hl => by simp [AOp.rd, hl]), he1, he2]
          simp only [hb]
      · exact h.elim
    · exact h.elim
  | appZ d sz by_ z s x =>
    simp only [eff] at h
    split at h
    · rename_i q n he1 he2
      split at h
      · rename_i hb1
        refine ⟨_, h.2, fun σ' ha => ?_⟩
        simp only [eff]
        rw [E ha (x := s) (fun l hl => by simp [AOp.rd, hl]), E ha (x := x) (fun l hl => by simp [AOp.rd, hl]), he1, he2]
        simp only [hb1]
        exact ⟨h.1, by first | rfl | trivial⟩
      · exact h.elim
    · exact h.elim
  | mkM d => exact ⟨_, h, fun σ' _ => rfl⟩
  | lkM d z x k =>
    simp only [eff] at h
    split at h
    · rename_i b n he1 he2
      split at h
      · rename_i es hl
        cases hf : findM n es with
        | some ds =>
          simp only [hf] at h
          refine ⟨_, h, fun σ' ha => ?_⟩
          simp only [eff]
          rw [E ha (x := x) (fun l hl => by simp [AOp.rd, hl]), E ha (x := k) (fun l hl => by simp [AOp.rd, hl]), he1, he2]
          simp only
          rw [ha (.b b) (.inl (by simp [AOp.rd, he1])), hl]
          simp only [hf]
        | none =>
          simp only [hf] at h
          refine ⟨_, h, fun σ' ha => ?_⟩
          simp only [eff]
          rw [E ha (x := x) (fun l hl => by simp [AOp.rd, hl]), E ha (x := k) (fun l hl => by simp [AOp.rd, hl]), he1, he2]
          simp only
          rw [ha (.b b) (.inl (by simp [AOp.rd, he1])), hl]
          simp only [hf]
      · exact h.elim
    · exact h.elim
  | upM x k v =>
    simp only [eff] at h
    split at h
    · rename_i b n he1 he2
      split at h
      · rename_i es hl
        split at h
        · rename_i l hv
          obtain ⟨h1, h⟩ := frcL_iff.1 h
          split at h
          · rename_i ds hc
            refine ⟨_, h, fun σ' ha => ?_⟩
            simp only [eff]
            rw [E ha (x := x) (fun l hl => by simp [AOp.rd, hl]), E ha (x := k) (fun l hl => by simp [AOp.rd, hl]), E ha (x := v) (fun l hl => by simp [AOp.rd, hl]), he1, he2]
            simp only
            rw [ha (.b b) (.inr (by simp [keysL])), hl]
            simp only [hv]
            rw [frcL_iff]
            refine ⟨h1, ?_⟩
            simp only [hc]
          · exact h.elim
        · exact h.elim
      · exact h.elim
    · exact h.elim
  | appC d sz by_ s x =>
    simp only [eff] at h
    split at h
    · exact h.elim
    · rename_i m V hy
      have Y : ∀ {σ' : Log} {δ : Log}, (∀ l, l ∈ (AOp.appC d sz by_ s x).rd σ ∨ l ∈ keysL δ → look σ' l = look σ l) → ysl σ' sz (ev σ' x) = some (m, V) ∧ ev σ' s = ev σ s := by
        intro σ' δ ha
        have ex : ev σ' x = ev σ x := E ha (fun l hl => by simp [AOp.rd, hl])
        exact ⟨by rw [ex, ysl_agree fun l hl => ha l (.inl (by simp [AOp.rd, hl])), hy], E ha (fun l hl => by simp [AOp.rd, hl])⟩
      split at h
      · rename_i z e1 he
        split at h
        · rename_i hb
          refine ⟨_, h.2, fun σ' ha => ?_⟩
          obtain ⟨y1, y2⟩ := Y ha
          simp only [eff, y1, y2, he, hb]
          exact ⟨h.1, by first | rfl | trivial⟩
        · exact h.elim
      · rename_i z b o n c t he
        split at h
        · rename_i hb
          split at h
          · rename_i l hl
            have B : ∀ {σ' : Log} {δ : Log}, (∀ l, l ∈ (AOp.appC d sz by_ s x).rd σ ∨ l ∈ keysL δ → look σ' l = look σ l) → look σ' (.b b) = some (.bx l) := fun ha => by
              rw [ha (.b b) (.inl (by simp [AOp.rd, he, bxR])), hl]
            split at h
            · exact h.elim
            · rename_i hm
              split at h
              · rename_i hle
                split at h
                · rename_i l' hsp
                  refine ⟨_, h.2, fun σ' ha => ?_⟩
                  obtain ⟨y1, y2⟩ := Y ha
                  simp only [eff, y1, y2, he, hb, B ha, hm, hle, hsp]
                  exact ⟨h.1, by first | rfl | trivial⟩
                · exact h.elim
              · rename_i hle
                split at h
                · exact h.elim
                · rename_i l0 hsb
                  cases t with
                  | none => exact h.elim
                  | full =>
                    refine ⟨_, h.2, fun σ' ha => ?_⟩
                    obtain ⟨y1, y2⟩ := Y ha
                    simp only [eff, y1, y2, he, hb, B ha, hm, hle, hsb]
                    exact ⟨h.1, by first | rfl | trivial⟩
                  | t k =>
                    simp only at h
                    split at h
                    · rename_i hk
                      refine ⟨_, h.2, fun σ' ha => ?_⟩
                      obtain ⟨y1, y2⟩ := Y ha
                      simp only [eff, y1, y2, he, hb, B ha, hm, hle, hsb]
                      rw [ha (.t k) (.inr (by simp [keysL])), hk]
                      exact ⟨h.1, by first | rfl | trivial⟩
                    · exact h.elim
          · exact h.elim
        · exact h.elim
      · exact h.elim
  | clrC sz z x =>
    simp only [eff] at h
    split at h
    · rename_i q b o n c t he
      split at h
      · rename_i hb
        split at h
        · rename_i l hl
          split at h
          · exact h.elim
          · rename_i hm
            split at h
            · rename_i l' hsp
              refine ⟨_, h.2, fun σ' ha => ?_⟩
              simp only [eff]
              rw [E ha (fun l hl => hl), he]
              simp only [hb]
              rw [ha (.b b) (.inr (by simp [keysL])), hl]
              simp only [hm, hsp]
              exact ⟨h.1, by first | rfl | trivial⟩
            · exact h.elim
        · exact h.elim
      · exact h.elim
    · exact h.elim
  | eqP d fn neg x y =>
    simp only [eff] at h
    split at h
    · rename_i b o b' o' he1 he2
      split at h
      · rename_i hb
        refine ⟨_, h, fun σ' ha => ?_⟩
        simp only [eff]
        rw [E ha (x := x) (fun l hl => by simp [AOp.rd, hl]), E ha (x := y) (fun l hl => by simp [AOp.rd, hl]), he1, he2]
        simp only [hb]
      · exact h.elim
    all_goals first
      | exact h.elim
      | (rename_i he1 he2
         refine ⟨_, h, fun σ' ha => ?_⟩
         simp only [eff]
         rw [E ha (x := x) (fun l hl => by simp [AOp.rd, hl]), E ha (x := y) (fun l hl => by simp [AOp.rd, hl]), he1, he2]
         first | done | trivial | rfl)
  | rngS d x =>
    simp only [eff] at h
    split at h
    · rename_i l he
      refine ⟨_, h, fun σ' ha => ?_⟩
      simp only [eff]
      rw [E ha (fun l hl => hl), he]
    · exact h.elim
  | nxtS d x =>
    simp only [eff] at h
    split at h
    · rename_i b he
      split at h
      · rename_i l p hl
        split at h
        · rename_i hp
          refine ⟨_, h.2, fun σ' ha => ?_⟩
          simp only [eff]
          rw [E ha (fun l hl => hl), he]
          simp only
          rw [ha (.b b) (.inr (by simp [keysL])), hl]
          simp only [hp]
          exact ⟨h.1, by first | rfl | trivial⟩
        · rename_i c hp
          refine ⟨_, h.2, fun σ' ha => ?_⟩
          simp only [eff]
          rw [E ha (fun l hl => hl), he]
          simp only
          rw [ha (.b b) (.inr (by simp [keysL])), hl]
          simp only [hp]
          exact ⟨h.1, by first | rfl | trivial⟩
      · exact h.elim
    · exact h.elim
end Go.Abs

namespace Go.Abs
open Go Go.MapKept
/-- an entry's value -/
def EntV (I : Nat → Nat → Prop) (w : World) (ds : List Data) (v : Value) : Prop := ∃ cs, v = .agg cs ∧ cs.size = ds.length ∧ ∀ (j : Nat) (d : Data), ds[j]? = some d → RepD I w d (cs.getD j undef)
theorem findNow_rep {I : Nat → Nat → Prop} {w : World} {n : Int} : ∀ {es : List (Int × List Data)} {E : List MapEntry} (i : Nat), RepM I w es E →
    (∃ ds, findM n es = some ds ∧ ∃ j e, Instr.findNow (.int .i64) (.int .i64 n) E i = some (some (i + j, e.val)) ∧ E[j]? = some e ∧ e.key = .int .i64 n ∧ EntV I w ds e.val ∧
      ∀ x v, EntV I w x v → RepM I w (insM n x es) (E.modify j fun e => { e with key := .int .i64 n, val := v })) ∨
    (findM n es = none ∧ Instr.findNow (.int .i64) (.int .i64 n) E i = some none ∧ ∀ x v b, EntV I w x v → RepM I w (insM n x es) (E ++ [{ key := .int .i64 n, val := v, born := b }]))
  | [], [], i, _ => .inr ⟨rfl, rfl, fun x v b h => ⟨⟨rfl, h⟩, trivial⟩⟩
  | (m, ds) :: r, e :: s, i, ⟨⟨h1, h2⟩, h3⟩ => by
    by_cases hn : n = m
    · subst hn
      refine .inl ⟨ds, by simp [findM], 0, e, ?_, rfl, h1, h2, fun x v h => ?_⟩
      · simp [Instr.findNow, h1, Instr.sameNow]
      · simp only [insM, decide_true]
        exact ⟨⟨rfl, h⟩, h3⟩
    · have hb : (n == m) = false := by simpa using hn
      rcases findNow_rep (n := n) (i + 1) h3 with ⟨ds', g1, j, e', g2, g3, g4, g5, g6⟩ | ⟨g1, g2, g3⟩
      · refine .inl ⟨ds', by simp [findM, hn, g1], j + 1, e', ?_, by simpa using g3, g4, g5, fun x v h => ?_⟩
        · simp only [Instr.findNow, h1, Instr.sameNow, if_true, hb]
          rw [g2, Nat.add_assoc, Nat.add_comm 1 j]
        · simp only [insM, hn, decide_false]
          exact ⟨⟨h1, h2⟩, g6 x v h⟩
      · refine .inr ⟨by simp [findM, hn, g1], ?_, fun x v b h => ?_⟩
        · simp only [Instr.findNow, h1, Instr.sameNow, if_true, hb]
          exact g2
        · simp only [insM, hn, decide_false]
          exact ⟨⟨h1, h2⟩, g3 x v b h⟩

theorem chg_setMap {O : Nat → Nat → Prop} {w : World} {r : Nat} {ob ob' : Obj} (hb : w.heap[r]? = some ob) (hn0 : noRow ob) (hn' : noRow ob') (ho : O r 0) : Chg O w { w with heap := w.heap.setIfInBounds r ob' } := {
  os := rfl
  tape := rfl
  output := rfl
  size := by simp
  same b hb' hn := (heap_set hb).2 b fun e => hn 0 (e ▸ ho)
  cells b C ty fz h := by
    have hne : b ≠ r := fun e => by subst e; rw [hb] at h; cases h; exact hn0
    exact ⟨C, ((heap_set hb).2 b hne).trans h, rfl, fun _ _ => rfl⟩
  maps b ob h hn := by
    by_cases e : b = r
    · subst e; exact ⟨_, (heap_set hb).1, hn'⟩
    · exact ⟨ob, ((heap_set hb).2 b e).trans h, hn⟩ }

/-- a map is written -/
theorem RepS.storeM {W0 : World} {κ : Gh} {σ : Log} {a : Act} {w : World} (hs : RepS W0 κ σ a w) {b : Nat} {es es' : MP} (hb : look σ (.b b) = some (.bx [.mpv es]))
    {ob ob' : Obj} (hn0 : noRow ob) (hp : (κ.ι b).2 = 0) (hg : w.heap[(κ.ι b).1]? = some ob) (hm : RepMP κ.I w es' ob') :
    RepS W0 κ ((.b b, .bx [.mpv es']) :: σ) a { w with heap := w.heap.setIfInBounds (κ.ι b).1 ob' } ∧ Step κ σ w κ ((.b b, .bx [.mpv es']) :: σ) { w with heap := w.heap.setIfInBounds (κ.ι b).1 ob' } := by
  have hO : Own κ σ (κ.ι b).1 0 := .inl ⟨b, _, hb, rfl, by simp only [spb, hp]; omega, by simp only [spb, hp]; simp⟩
  have hchg : Chg (Own κ σ) w { w with heap := w.heap.setIfInBounds (κ.ι b).1 ob' } := chg_setMap hg hn0 hm.noRow hO
  have hsz : ({ w with heap := w.heap.setIfInBounds (κ.ι b).1 ob' } : World).heap.size = w.heap.size := by simp
  have hheap : ∀ k, k ≠ (κ.ι b).1 → ({ w with heap := w.heap.setIfInBounds (κ.ι b).1 ob' } : World).heap[k]? = w.heap[k]? := fun k h => (heap_set hg).2 k h
  have hnew : ({ w with heap := w.heap.setIfInBounds (κ.ι b).1 ob' } : World).heap[(κ.ι b).1]? = some ob' := (heap_set hg).1
  have hout : ({ w with heap := w.heap.setIfInBounds (κ.ι b).1 ob' } : World).os = w.os ∧ ({ w with heap := w.heap.setIfInBounds (κ.ι b).1 ob' } : World).tape = w.tape ∧ ({ w with heap := w.heap.setIfInBounds (κ.ι b).1 ob' } : World).output = w.output := ⟨rfl, rfl, rfl⟩
  generalize ({ w with heap := w.heap.setIfInBounds (κ.ι b).1 ob' } : World) = w' at hchg hsz hheap hnew hout ⊢
  have e : Ext κ w κ w' := ⟨fun _ _ h => h, fun b o h => hchg.cell hs h, fun _ h => ⟨h, rfl⟩, fun _ h => ⟨h, rfl⟩⟩
  have hB : ∀ {b' m}, look ((.b b, .bx [.mpv es']) :: σ) (.b b') = some (.bx m) → (b' = b ∧ m = [.mpv es']) ∨ (b' ≠ b ∧ look σ (.b b') = some (.bx m)) := by
    intro b' m h
    rw [look_cons] at h
    by_cases hh : b = b'
    · subst hh; simp at h; exact .inl ⟨rfl, h.symm⟩
    · have : (Loc.b b = Loc.b b') = False := by simp [hh]
      simp only [this, if_false] at h
      exact .inr ⟨fun x => hh x.symm, h⟩
  have hB' : ∀ {b' m}, look ((.b b, .bx [.mpv es']) :: σ) (.b b') = some (.bx m) → ∃ m', look σ (.b b') = some (.bx m') ∧ spb κ b' m = spb κ b' m' := by
    intro b' m h
    rcases hB h with ⟨rfl, rfl⟩ | ⟨_, h⟩
    · exact ⟨_, hb, rfl⟩
    · exact ⟨m, h, rfl⟩
  have ht : ∀ k, look ((.b b, .bx [.mpv es']) :: σ) (.t k) = look σ (.t k) := fun k => by simp [look_cons]
  have hss : ∀ k, look ((.b b, .bx [.mpv es']) :: σ) (.s k) = look σ (.s k) := fun k => by simp [look_cons]
  have hown' : ∀ b' o, Own κ ((.b b, .bx [.mpv es']) :: σ) b' o → Own κ σ b' o := by
    rintro b' o (⟨id, m, hm, hi⟩ | ⟨k, hk, hi⟩)
    · obtain ⟨m', hm', hsp⟩ := hB' hm; exact .inl ⟨id, m', hm', hsp ▸ hi⟩
    · rw [ht] at hk; exact .inr ⟨k, hk, hi⟩
  refine ⟨⟨fun n v h => by rw [hss] at h; exact (hs.slots n v h).mono e, ?_, ?_, ?_, ?_, ?_, fun b' o ho => hs.sepI b' o (hown' b' o ho), fun b' o h => by rw [hsz]; exact hs.Icell b' o h, hs.old, by rw [hsz]; exact hs.size0, hchg.amb hs, hs.defers, hout.1.trans hs.os, hout.2.1.trans hs.tape, hout.2.2.trans hs.output⟩,
    ⟨hchg, fun b' o h => .inl (hown' b' o h), fun _ _ h => h, fun _ _ h => .inl h, fun _ _ h => ⟨h, rfl⟩, fun _ _ h => ⟨h, rfl⟩⟩⟩
  · intro b' m h
    rcases hB h with ⟨rfl, rfl⟩ | ⟨hn, h⟩
    · obtain ⟨h1, h2, _⟩ := hs.boxes b' _ hb
      exact ⟨h1, h2, .inr ⟨es', ob', rfl, hp, hnew, hm.mono e.I_ e.cell⟩⟩
    · obtain ⟨h1, h2, hbx⟩ := hs.boxes b' m h
      by_cases hx : (κ.ι b').1 = (κ.ι b).1
      · exfalso
        rcases hbx with ⟨_, C, ty', h3, h4⟩ | ⟨es1, ob1, e1, e2, e3, _⟩
        · rw [hx, hg] at h3; cases h3; exact hn0
        · subst e1
          refine hs.binj b' b _ _ h hb hn (κ.ι b).1 0 ⟨hx, by simp only [spb, e2]; omega, by simp only [spb, e2]; simp⟩ ⟨rfl, by simp only [spb, hp]; omega, by simp only [spb, hp]; simp⟩
      · exact ⟨h1, h2, hbx.mono e (hheap _ hx)⟩
  · intro b1 b2 m1 m2 h1 h2 hne x o hi hi'
    obtain ⟨m1', h1', e1⟩ := hB' h1
    obtain ⟨m2', h2', e2⟩ := hB' h2
    rw [e1] at hi
    rw [e2] at hi'
    exact hs.binj b1 b2 m1' m2' h1' h2' hne x o hi hi'
  · intro k h
    rw [ht] at h
    obtain ⟨h1, h2⟩ := hs.toks k h
    refine ⟨h1, fun hh => ?_⟩
    obtain ⟨h3, C', ty', h4, h5⟩ := h2 hh
    have hx : (κ.τ k).1 ≠ (κ.ι b).1 := fun hx => by rw [hx, hg] at h4; cases h4; exact hn0
    exact ⟨h3, C', ty', by rw [hheap _ hx]; exact h4, h5⟩
  · intro k k' h h'; rw [ht] at h h'; exact hs.tdis k k' h h'
  · intro k id m h h' x o hi hi'
    rw [ht] at h
    obtain ⟨m', hm', e1⟩ := hB' h'
    rw [e1] at hi'
    exact hs.tbox k id m' h hm' x o hi hi'

section ops
variable {P : Program} {W0 : World} {κ : Gh} {σ : Log} {a : Act} {w : World} {id : Nat} {F : Log → Prop} {call : CallP} {o : Oper} {Q : Exit → Act → World → Prop} {d : Nat}
theorem s_mkM (hs : RepS W0 κ σ a w) (hf : Fresh κ id) {t : TypeId} (ho : o.op = .makeMap t none) (hd : o.dst = some d) (hN : d < a.tmps.size) (h : eff call σ id (.mkM d) F) : o.wp P a w (After W0 κ σ a w id F) Q := by
  have hid : ¬ κ.Db id := hf.db id (Nat.le_refl _) (by omega)
  obtain ⟨r1, r2, _⟩ := hs.boxO (id := id) (l := [.mpv (.m [])]) (ob := .map #[] 0) hid fun κ' e => .inr ⟨.m [], .map #[] 0, rfl, rfl, heap_alloc_new, trivial⟩
  refine wp_value (x := .map (some w.heap.size)) (w' := w.alloc (.map #[] 0)) ?_ ?_
  · simp [execOp, ho, Instr.makeMap, Result.andThen]
  · rw [hd]
    refine ⟨_, { κ with Db := fun b => κ.Db b ∨ b = id, ι := fun b => if b = id then (w.heap.size, 0) else κ.ι b }, h, ?_, ?_, put_size, ⟨fun b hb => ?_, fun k hk => .inl hk⟩⟩
    · refine r1.put hN ?_
      have := RepV.mr (κ := { κ with Db := fun b => κ.Db b ∨ b = id, ι := fun b => if b = id then (w.heap.size, 0) else κ.ι b }) (w := w.alloc (.map #[] 0)) id (.inr rfl)
      simpa using this
    · exact r2.trans Step.put
    · rcases (show κ.Db b ∨ b = id from hb) with hb | rfl
      · exact .inl hb
      · exact .inr ⟨Nat.le_refl _, by omega⟩

theorem dcells_repL {ds : List Data} {cs : Array Value} (h1 : cs.size = ds.length) (h2 : ∀ (j : Nat) (d : Data), ds[j]? = some d → RepD κ.I w d (cs.getD j undef)) : RepV κ w (.agg (ds.map dcell)) (.agg cs) := by
  refine .agg _ cs (by simpa using h1) ?_ fun j v hj => ?_
  · intro v hv
    obtain ⟨d, _, rfl⟩ := List.mem_map.1 hv
    cases d <;> rfl
  · rw [List.getElem?_map] at hj
    cases hd : ds[j]? with
    | none => rw [hd] at hj; cases hj
    | some dd =>
      rw [hd] at hj
      simp only [Option.map_some, Option.some.injEq] at hj
      subst hj
      exact (dcell_rep (h2 j dd hd)).1

theorem s_lkM (hs : RepS W0 κ σ a w) {x k : Operand} {x' k' : Opd} {t kt e : TypeId} {i : TypeInfo} {z : List Data} {v0 : Value} (ho : o.op = .lookup t x k true) (hd : o.dst = some d) (hx : opdC none x = some x') (hk : opdC none k = some k')
    (ht : P.underlying t = some (.map kt e)) (hkt : P.underlying kt = some (.int .i64)) (hi : P.info? e = some i) (hv0 : i.zero = some v0) (hz : ∀ (κ : Gh) (w : World), RepV κ w (.agg (z.map dcell)) v0) (hN : d < a.tmps.size)
    (h : eff call σ id (.lkM d z x' k') F) : o.wp P a w (After W0 κ σ a w id F) Q := by
  simp only [eff] at h
  split at h
  · rename_i b n he1 he2
    have hrx := opd_rep hs hx
    have hrk := opd_rep hs hk
    rw [he1] at hrx
    rw [he2] at hrk
    obtain ⟨_, hpx⟩ := hrx.mr_inv
    have hpk := hrk.sc_inv
    split at h
    · rename_i es hl
      obtain ⟨_, _, hB⟩ := hs.boxes b _ hl
      rcases hB with ⟨h0, _⟩ | ⟨es', ob, e1, e2, e3, e4⟩
      · cases h0
      cases e1
      obtain ⟨E, c, rfl⟩ : ∃ E c, ob = .map E c := by cases ob <;> first | exact e4.elim | exact ⟨_, _, rfl⟩
      replace e4 : RepM κ.I w es E.toList := e4
      have hkey : IsKey (.int .i64) (.int .i64 n) := rfl
      have pair : ∀ {u : AV} {y : Value} {bb : Bool}, RepV κ w u y → RepV κ w (.tup [u, .sc (.b bb)]) (.tuple #[y, .bool bb]) := by
        intro u y bb hu
        refine .tup _ #[y, .bool bb] rfl fun j v hj => ?_
        match j, hj with
        | 0, hj => simp at hj; subst hj; exact hu
        | 1, hj => simp at hj; subst hj; exact .sc (.b bb)
      rcases findNow_rep (n := n) 0 e4 with ⟨ds, g1, j, e', g2, g3, g4, ⟨cs, g5, g6, g7⟩, _⟩ | ⟨g1, g2, _⟩
      · simp only [g1] at h
        refine wp_value (x := .tuple #[.agg cs, .bool true]) (w' := w) ?_ ?_
        · simp [execOp, ho, hpx, hpk, Sc.val, Instr.lookup, run_underlying ht, MapKept.run_getObj_map e3, MapKept.run_checkKey hkt hkey, MapKept.run_findKey hkt g2, Result.andThen, g5]
        · rw [hd]
          exact .put hs hN (pair (dcells_repL g6 g7)) h
      · simp only [g1] at h
        refine wp_value (x := .tuple #[v0, .bool false]) (w' := w) ?_ ?_
        · simp [execOp, ho, hpx, hpk, Sc.val, Instr.lookup, run_underlying ht, MapKept.run_getObj_map e3, MapKept.run_checkKey hkt hkey, MapKept.run_findKey hkt g2, Result.andThen, zeroValue, run_typeInfo w hi, hv0]
        · rw [hd]
          exact .put hs hN (pair (hz κ w)) h
    · exact h.elim
  · exact h.elim

theorem s_upM (hs : RepS W0 κ σ a w) {x k v : Operand} {x' k' v' : Opd} {t kt e : TypeId} (ho : o.op = .mapUpdate t x k v) (hd : o.dst = none) (hx : opdC none x = some x') (hk : opdC none k = some k') (hv : opdC none v = some v')
    (ht : P.underlying t = some (.map kt e)) (hkt : P.underlying kt = some (.int .i64))
    (h : eff call σ id (.upM x' k' v') F) : o.wp P a w (After W0 κ σ a w id F) Q := by
  simp only [eff] at h
  split at h
  · rename_i b n he1 he2
    have hrx := opd_rep hs hx
    have hrk := opd_rep hs hk
    have hrv := opd_rep hs hv
    rw [he1] at hrx
    rw [he2] at hrk
    obtain ⟨_, hpx⟩ := hrx.mr_inv
    have hpk := hrk.sc_inv
    split at h
    · rename_i es hl
      split at h
      · rename_i l hvl
        rw [hvl] at hrv
        obtain ⟨vs, hpv, hL⟩ := hrv.agg_inv
        obtain ⟨_, h⟩ := frcL_iff.1 h
        split at h
        · rename_i ds hds
          obtain ⟨c1, c2⟩ := cellsD_spec hds
          have hent : EntV κ.I w ds (.agg vs) := by
            refine ⟨vs, rfl, by rw [hL.1, c1], fun j dd hj => ?_⟩
            have hjl : j < l.length := by rw [← c1]; exact (List.getElem?_eq_some_iff.1 hj).1
            obtain ⟨dd', g1, g2⟩ := c2 j l[j] (List.getElem?_eq_getElem hjl)
            rw [hj] at g1
            cases g1
            exact cellD_rep (hL.2.2 j _ (List.getElem?_eq_getElem hjl)) g2
          obtain ⟨_, _, hB⟩ := hs.boxes b _ hl
          rcases hB with ⟨h0, _⟩ | ⟨es', ob, e1, e2, e3, e4⟩
          · cases h0
          cases e1
          obtain ⟨E, c, rfl⟩ : ∃ E c, ob = .map E c := by cases ob <;> first | exact e4.elim | exact ⟨_, _, rfl⟩
          replace e4 : RepM κ.I w es E.toList := e4
          have hkey : IsKey (.int .i64) (.int .i64 n) := rfl
          rcases findNow_rep (n := n) 0 e4 with ⟨ds0, g1, j, e', g2, g3, g4, _, g6⟩ | ⟨g1, g2, g6⟩
          · have hm := g6 ds (.agg vs) hent
            obtain ⟨r1, r2⟩ := hs.storeM hl (ob := .map E c) (es' := .m (insM n ds es)) (ob' := .map (E.modify j fun e => { e with key := .int .i64 n, val := .agg vs }) c) trivial e2 e3 (show RepM _ _ _ _ by simpa using hm)
            refine wp_skip' (w' := { w with heap := w.heap.setIfInBounds (κ.ι b).1 (.map (E.modify j fun e => { e with key := .int .i64 n, val := .agg vs }) c) }) ?_ ?_
            · have g3' : E[j]? = some e' := by simpa using g3
              simp [execOp, ho, hpx, hpk, hpv, Sc.val, Instr.mapUpdate, run_underlying ht, MapKept.run_getObj_map e3, MapKept.run_checkKey hkt hkey, MapKept.run_findKey hkt g2, Result.andThen, g3', g4, MapKept.run_keyThatStays hkey, MapKept.run_setObj_map _ e3]
            · rw [hd]
              exact ⟨_, κ, h, r1, r2, rfl, Grow.refl _ _⟩
          · have hm := g6 ds (.agg vs) c hent
            obtain ⟨r1, r2⟩ := hs.storeM hl (ob := .map E c) (es' := .m (insM n ds es)) (ob' := .map (E.push { key := .int .i64 n, val := .agg vs, born := c }) (c + 1)) trivial e2 e3 (show RepM _ _ _ _ by simpa using hm)
            refine wp_skip' (w' := { w with heap := w.heap.setIfInBounds (κ.ι b).1 (.map (E.push { key := .int .i64 n, val := .agg vs, born := c }) (c + 1)) }) ?_ ?_
            · simp [execOp, ho, hpx, hpk, hpv, Sc.val, Instr.mapUpdate, run_underlying ht, MapKept.run_getObj_map e3, MapKept.run_checkKey hkt hkey, MapKept.run_findKey hkt g2, Result.andThen, MapKept.run_setObj_map _ e3]
            · rw [hd]
              exact ⟨_, κ, h, r1, r2, rfl, Grow.refl _ _⟩
        · exact h.elim
      · exact h.elim
    · exact h.elim
  · exact h.elim
end ops
end Go.Abs

namespace Go.Abs
open Go
section ops
variable {P : Program} {W0 : World} {κ : Gh} {σ : Log} {a : Act} {w : World} {id : Nat} {F : Log → Prop} {call : CallP} {o : Oper} {Q : Exit → Act → World → Prop} {d : Nat} {z : Option Nat}
theorem Ext.drawn {dr : Nat} : Ext κ w κ { w with drawn := dr } := ⟨fun _ _ h => h, fun _ _ _ => rfl, fun _ h => ⟨h, rfl⟩, fun _ h => ⟨h, rfl⟩⟩

/-- a box gives up all its cells -/
theorem RepS.husk (hs : RepS W0 κ σ a w) {b : Nat} (h1 : κ.Db b) (h2 : W0.heap.size ≤ (κ.ι b).1) {C : Array Value} {ty : TypeId} (h3 : w.heap[(κ.ι b).1]? = some (.cells C ty (0, 0))) (h4 : (κ.ι b).2 ≤ C.size) :
    RepS W0 κ ((.b b, .bx []) :: σ) a w ∧ Step κ σ w κ ((.b b, .bx []) :: σ) w := by
  have hB : ∀ {b' m}, look ((.b b, .bx []) :: σ) (.b b') = some (.bx m) → (b' = b ∧ m = []) ∨ (b' ≠ b ∧ look σ (.b b') = some (.bx m)) := by
    intro b' m h
    rw [look_cons] at h
    by_cases hh : b = b'
    · subst hh; simp at h; exact .inl ⟨rfl, by first | exact h | exact h.symm⟩
    · have : (Loc.b b = Loc.b b') = False := by simp [hh]
      simp only [this, if_false] at h
      exact .inr ⟨fun x => hh x.symm, h⟩
  have hno : ∀ x o, ¬ inSp (spb κ b []) x o := by rintro x o ⟨_, g2, g3⟩; simp only [spb, List.length_nil] at g2 g3; omega
  have ht : ∀ k, look ((.b b, .bx []) :: σ) (.t k) = look σ (.t k) := fun k => by simp [look_cons]
  have hss : ∀ k, look ((.b b, .bx []) :: σ) (.s k) = look σ (.s k) := fun k => by simp [look_cons]
  have hown' : ∀ b' o, Own κ ((.b b, .bx []) :: σ) b' o → Own κ σ b' o := by
    rintro b' o (⟨id, m, hm, hi⟩ | ⟨k, hk, hi⟩)
    · rcases hB hm with ⟨rfl, rfl⟩ | ⟨_, hm⟩
      · exact (hno _ _ hi).elim
      · exact .inl ⟨id, m, hm, hi⟩
    · rw [ht] at hk; exact .inr ⟨k, hk, hi⟩
  refine ⟨⟨fun n v h => by rw [hss] at h; exact hs.slots n v h, ?_, ?_, fun k h => by rw [ht] at h; exact hs.toks k h, fun k k' h h' => by rw [ht] at h h'; exact hs.tdis k k' h h', ?_, fun b' o ho => hs.sepI b' o (hown' b' o ho), hs.Icell, hs.old, hs.size0, hs.amb, hs.defers, hs.os, hs.tape, hs.output⟩,
    ⟨.refl _ _, fun b' o h => .inl (hown' b' o h), fun _ _ h => h, fun _ _ h => .inl h, fun _ _ h => ⟨h, rfl⟩, fun _ _ h => ⟨h, rfl⟩⟩⟩
  · intro b' m h
    rcases hB h with ⟨rfl, rfl⟩ | ⟨_, h⟩
    · exact ⟨h1, h2, .inl ⟨rfl, C, ty, h3, by simpa using h4, by simp, by simp⟩⟩
    · exact hs.boxes b' m h
  · intro b1 b2 m1 m2 g1 g2 hne x o hi hi'
    rcases hB g1 with ⟨rfl, rfl⟩ | ⟨_, g1⟩
    · exact (hno _ _ hi).elim
    · rcases hB g2 with ⟨rfl, rfl⟩ | ⟨_, g2⟩
      · exact (hno _ _ hi').elim
      · exact hs.binj b1 b2 m1 m2 g1 g2 hne x o hi hi'
  · intro k id m h h' x o hi hi'
    rw [ht] at h
    rcases hB h' with ⟨rfl, rfl⟩ | ⟨_, h'⟩
    · exact (hno _ _ hi').elim
    · exact hs.tbox k id m h h' x o hi hi'

/-- a live token whose room begins with these cells: they become the box of a slice -/
theorem cs_step {κ1 : Gh} {σ1 : Log} {w1 : World} (hs : RepS W0 κ1 σ1 a w1) {k id : Nat} (hk : look σ1 (.t k) = some (.tk true)) (hid : ¬ κ1.Db id) (hidt : ¬ κ1.Dt id) {g p sz cap n : Nat} {L : List AV}
    (hτ : κ1.τ k = (g, p, p + cap * sz)) (hL : L.length = n * sz) (hpos : 0 < n * sz) (hcap : n ≤ cap) {C : Array Value} {ty : TypeId} (hg : w1.heap[g]? = some (.cells C ty (0, 0))) (hR : RepC κ1 w1 L C p) :
    ∃ κ2, RepS W0 κ2 ((.b id, .bx L) :: (.t id, .tk true) :: (.t k, .tk false) :: σ1) a w1 ∧ Step κ1 σ1 w1 κ2 ((.b id, .bx L) :: (.t id, .tk true) :: (.t k, .tk false) :: σ1) w1 ∧
      RepV κ2 w1 (.cs sz id 0 n n (.t id)) (.slice (some ⟨g, p, none⟩) n cap) ∧ (∀ b, κ2.Db b → κ1.Db b ∨ b = id) ∧ (∀ b, κ2.Dt b → κ1.Dt b ∨ b = id) ∧ (∀ b, κ1.Db b → κ2.Db b) ∧ (∀ b, κ1.Db b → κ2.ι b = κ1.ι b) := by
  have hfit : p + L.length ≤ p + cap * sz := by
    rw [hL]
    exact Nat.add_le_add_left (Nat.mul_le_mul_right _ hcap) _
  obtain ⟨r, s, e⟩ := hs.split hk hid hidt hτ (by rw [hL]; exact hpos) hfit hg hR
  refine ⟨_, r, s, ?_, fun b hb => hb, fun b hb => hb, fun b hb => .inl hb, fun b hb => (e.db b hb).2⟩
  have := RepV.cs (κ := { κ1 with Db := fun b => κ1.Db b ∨ b = id, ι := fun b => if b = id then (g, p) else κ1.ι b, Dt := fun j => κ1.Dt j ∨ j = id, τ := fun j => if j = id then (g, p + L.length, p + cap * sz) else κ1.τ j })
    (w := w1) sz id 0 n n (.t id) cap (.inr rfl) (Nat.le_refl _) hcap ⟨.inr rfl, by
      intro A m c ev _
      simp only [if_true, Value.slice.injEq, Option.some.injEq] at ev
      obtain ⟨rfl, rfl, rfl⟩ := ev
      simp only [if_true, hL, Nat.add_zero]⟩
  simpa using this

/-- the cells of a new row become the box of a slice, the rest its spare room -/
theorem cs_grown (hs : RepS W0 κ σ a w) (off : Option Nat) (hoff : ∀ k, off = some k → look σ (.t k) = some (.tk true)) {i0 i1 : Nat} (h0 : ¬ κ.Dt i0) (h1 : ¬ κ.Db i1) (h1t : ¬ κ.Dt i1) (hne : i1 ≠ i0) {sz n newCap : Nat} (hpos : 0 < n * sz)
    {l : List AV} {L : List Value} (hl : l.length = n * sz) (hL : L.length = n * sz) (hrep : ∀ (j : Nat) (v : AV), l[j]? = some v → RepV κ w v (L.getD j undef) ∧ one v = true) (hcap : n ≤ newCap) {Z : Array Value} (hZ : Z.size = (newCap - n) * sz) (dr : Nat) (e : TypeId) :
    ∃ κ2, RepS W0 κ2 ((.b i1, .bx l) :: (.t i1, .tk true) :: (.t i0, .tk false) :: (((.t i0, .tk true) :: (match off with | some k => [(.t k, .tk false)] | none => [])) ++ σ)) a (({ w with drawn := dr } : World).alloc (.cells (L.toArray ++ Z) e)) ∧
      Step κ σ w κ2 ((.b i1, .bx l) :: (.t i1, .tk true) :: (.t i0, .tk false) :: (((.t i0, .tk true) :: (match off with | some k => [(.t k, .tk false)] | none => [])) ++ σ)) (({ w with drawn := dr } : World).alloc (.cells (L.toArray ++ Z) e)) ∧
      RepV κ2 (({ w with drawn := dr } : World).alloc (.cells (L.toArray ++ Z) e)) (.cs sz i1 0 n n (.t i1)) (.slice (some ⟨w.heap.size, 0, none⟩) n newCap) ∧ (∀ b, κ2.Db b → κ.Db b ∨ b = i1) ∧ (∀ b, κ2.Dt b → κ.Dt b ∨ b = i0 ∨ b = i1) ∧ (∀ b, κ.Db b → κ2.Db b) ∧ (∀ b, κ.Db b → κ2.ι b = κ.ι b) := by
  have hsize : (L.toArray ++ Z).size = newCap * sz := by
    simp only [Array.size_append, List.size_toArray, hZ, hL, ← Nat.add_mul]
    congr 1; omega
  obtain ⟨r1, r2, r3⟩ := (hs.drawn dr).rowTok off hoff h0 (L.toArray ++ Z) e 0 (newCap * sz) (by omega) _ rfl
  have hmul : n * sz ≤ newCap * sz := Nat.mul_le_mul_right _ hcap
  obtain ⟨κ2, q1, q2, q3, q4, q5, qd, qi⟩ := cs_step (id := i1) (sz := sz) (cap := newCap) (n := n) (p := 0) (g := w.heap.size) (L := l) r1 (k := i0) (by simp [look_cons]) h1 (fun hh => hh.elim h1t hne) (by simp) hl hpos hcap
    (heap_alloc_new (w := { w with drawn := dr })) ⟨by rw [hsize, hl]; omega, fun v hv => by
        obtain ⟨j, hj⟩ := List.mem_iff_getElem?.1 hv
        exact (hrep j v hj).2, fun j v hj => by
        have hjl : j < n * sz := by rw [← hl]; exact (List.getElem?_eq_some_iff.1 hj).1
        have := (((hrep j v hj).1).mono (Ext.drawn (dr := dr))).mono r3
        rw [Nat.zero_add, Array.getD_eq_getD_getElem?, Array.getElem?_append_left (by simpa [hL] using hjl), List.getElem?_toArray, ← List.getD_eq_getElem?_getD]
        exact this⟩
  exact ⟨κ2, q1, ((Step.drawn dr).trans r2).trans q2, q3, fun b hb => q4 b hb, fun b hb => (q5 b hb).elim (fun h => h.elim .inl fun h => .inr (.inl h)) fun h => .inr (.inr h), fun b hb => qd b hb, fun b hb => qi b hb⟩

theorem bslA_spec {sz : Nat} : ∀ {xs : List Opd} {F : List AV → Prop}, bslA σ sz xs F → ∃ vs, F vs ∧ vs.length = xs.length * sz ∧ (∀ u, u ∈ vs → one u = true) ∧
    ∀ (i : Nat) (x : Opd), xs[i]? = some x → (flat (ev σ x)).length = sz ∧ (∀ u, u ∈ flat (ev σ x) → one u = true) ∧ ∀ j, j < sz → vs[i * sz + j]? = (flat (ev σ x))[j]?
  | [], F, h => ⟨[], h, by simp, by simp, fun i x hi => by simp at hi⟩
  | y :: r, F, h => by
    simp only [bslA] at h
    obtain ⟨h1, h⟩ := frcL_iff.1 h
    split at h
    · rename_i hb
      have hlen := Nat.eq_of_beq_eq_true hb
      obtain ⟨vs, hF, g1, g2, g3⟩ := bslA_spec h
      refine ⟨_, hF, by rw [List.length_append, hlen, g1, List.length_cons, Nat.succ_mul, Nat.add_comm], fun u hu => ?_, fun i x hi => ?_⟩
      · rcases List.mem_append.1 hu with hu | hu
        · exact h1 u hu
        · exact g2 u hu
      · cases i with
        | zero =>
          simp at hi; subst hi
          refine ⟨hlen, h1, fun j hj => ?_⟩
          rw [Nat.zero_mul, Nat.zero_add, List.getElem?_append_left (by rw [hlen]; exact hj)]
        | succ i =>
          obtain ⟨k1, k2, k3⟩ := g3 i x (by simpa using hi)
          refine ⟨k1, k2, fun j hj => ?_⟩
          rw [List.getElem?_append_right (by rw [hlen, Nat.succ_mul]; omega), hlen, show (i + 1) * sz + j - sz = i * sz + j by rw [Nat.succ_mul]; omega]
          exact k3 j hj
    · exact h.elim

theorem s_bslM (hs : RepS W0 κ σ a w) (hf : Fresh κ id) {t e : TypeId} {n sz : Nat} {ps : Array (Nat × Operand)} {xs : List Opd} {ie : TypeInfo} {zv : Value} (ho : o.op = .buildSlice t n ps) (hd : o.dst = some d)
    (hu : P.underlying t = some (.slice e)) (hie : P.info? e = some ie) (hz : ie.zero = some zv) (hsz : ie.size = sz) (hsmall : n * sz ≤ 2 ^ 24) (hn0 : 0 < n) (hsz0 : 0 < sz)
    (hps : PartsOK κ σ a w ps.toList xs) (hlen : xs.length = n) (hN : d < a.tmps.size) (h : eff call σ id (.bslM d sz xs) F) : o.wp P a w (After W0 κ σ a w id F) Q := by
  obtain ⟨vs, hF, hvl', hv1, hvs⟩ := bslA_spec (show bslA σ sz xs fun vs => F [(.s d, .av (.cs sz id 0 xs.length xs.length .full)), (.b id, .bx vs)] from h)
  obtain ⟨p1, p2, p3⟩ := hps
  have hcellsz : ∀ v, v ∈ (ps.toList.map fun p => a.eval p.2) → v.cells.size = sz := by
    intro v hv
    obtain ⟨i, hi⟩ := List.mem_iff_getElem?.1 hv
    obtain ⟨x, hx, hr⟩ := p3 i v hi
    obtain ⟨g2, g4, _⟩ := hvs i x hx
    rw [(flat_rep hr g4).1, g2]
  have hvl : (ps.toList.map fun p => a.eval p.2).length = n := by rw [List.length_map, ← p2, hlen]
  obtain ⟨r, f1, f2, _, f4⟩ := fill_dense (sz := sz) (ps.toList.map fun p => a.eval p.2) 0 ((Array.range (n * sz)).map (zv.cells[· % zv.cells.size]!)) hcellsz (by simp [hvl, ← hlen, p2])
  have hmul : n * sz ≠ 0 := Nat.mul_ne_zero (by omega) (by omega)
  have hrun := run_buildSlice (P := P) w t e n (ps.map fun x => (x.1, a.eval x.2)) r ie zv hu hie hz (by rw [hsz]; omega) (by rw [hsz]; exact hmul) (by
    rw [hsz, Array.toList_map]
    rw [p1]; exact f1)
  have hsize : r.size = n * sz := by rw [f2]; simp
  have hR : RepL κ w vs r := by
    refine ⟨by rw [hsize, hvl', hlen], hv1, fun k v hk => ?_⟩
    have hkl : k < n * sz := by rw [← hlen, ← hvl']; exact (List.getElem?_eq_some_iff.1 hk).1
    have hi : k / sz < n := (Nat.div_lt_iff_lt_mul hsz0).2 hkl
    have hj : k % sz < sz := Nat.mod_lt _ hsz0
    have hix : k / sz < xs.length := by omega
    obtain ⟨g2, g4, g5⟩ := hvs (k / sz) xs[k / sz] (List.getElem?_eq_getElem hix)
    have e1 := g5 (k % sz) hj
    rw [Nat.div_add_mod' k sz, hk] at e1
    have hil : k / sz < (ps.toList.map fun p => a.eval p.2).length := by rw [hvl]; exact hi
    have q1 := f4 (k / sz) (k % sz) _ (List.getElem?_eq_getElem hil) hj
    obtain ⟨x, hx, hr⟩ := p3 (k / sz) _ (List.getElem?_eq_getElem hil)
    rw [List.getElem?_eq_getElem hix] at hx
    cases hx
    have := (flat_rep hr g4).2.2 (k % sz) v e1.symm
    rw [Array.getD_eq_getD_getElem?] at this ⊢
    have q2 := q1
    simp only [Nat.zero_add] at q2
    rw [Nat.div_add_mod' k sz] at q2
    rw [q2]
    exact this
  refine wp_value (x := .slice (some ⟨w.heap.size, 0, none⟩) n n) (w' := w.alloc (.cells r e)) ?_ ?_
  · simp only [execOp, ho, Sem.run_bind]
    rw [hrun]; simp
  · obtain ⟨h1, h2, h3⟩ := hs.box (hf.db id (Nat.le_refl _) (by omega)) hR e
    rw [hd]
    refine ⟨_, _, hF, h1.put hN ?_, h2.trans Step.put, put_size, ⟨?_, fun k hk => .inl hk⟩⟩
    · have := RepV.cs (κ := { κ with Db := fun b => κ.Db b ∨ b = id, ι := fun b => if b = id then (w.heap.size, 0) else κ.ι b }) (w := w.alloc (.cells r e)) sz id 0 xs.length xs.length .full xs.length (.inr rfl) (Nat.le_refl _) (Nat.le_refl _) (fun A m c ev => by cases ev; rfl)
      simpa [hlen] using this
    · rintro b (hb | rfl)
      · exact .inl hb
      · exact .inr ⟨Nat.le_refl _, by omega⟩

/-- the elements that are appended -/
theorem ysl_rep (hs : RepS W0 κ σ a w) {v : AV} {x : Value} (hv : RepV κ w v x) {sz m : Nat} {V : List AV} (hsz : 0 < sz) (hm : 0 < m) (h : ysl σ sz v = some (m, V)) :
    ∃ b2 o2 cap2, ∃ L2 : List Value, x = .slice (some ⟨b2, o2, none⟩) m cap2 ∧ L2.length = m * sz ∧ V.length = m * sz ∧ (∀ j u, L2[j]? = some u → w.cell? ((⟨b2, o2, none⟩ : Addr).add j) = some u) ∧
      (∀ (j : Nat) (v : AV), V[j]? = some v → RepV κ w v (L2.getD j undef) ∧ one v = true) := by
  unfold ysl at h
  split at h
  · rename_i z e t
    split at h
    · rename_i hb
      cases h
      have := Nat.eq_of_beq_eq_true hb
      subst this
      obtain ⟨hD, _⟩ := hv.sl_inv
      rcases hD.flat hsz with ⟨A2, hv2, hn2⟩ | ⟨b2, o2, cap2, L2, hv2, hcap2, f2, hI2, hc2⟩
      · rw [hn2] at hm; simp at hm
      · obtain ⟨c1, c2⟩ := flat_cells f2
        refine ⟨b2, o2, cap2, L2, hv2, f2.len, by rw [c1, f2.len], fun j u hj => ?_, c2⟩
        have hjl : j < e.length * sz := by rw [← f2.len]; exact (List.getElem?_eq_some_iff.1 hj).1
        rw [addr_add, hc2 j hjl, hj]
    · cases h
  · rename_i z b q n c t
    split at h
    · rename_i hb
      have := Nat.eq_of_beq_eq_true hb
      subst this
      split at h
      · rename_i l hl
        split at h
        · cases h
        · rename_i hmm
          split at h
          · rename_i V' hsub
            cases h
            obtain ⟨cap, _, h2, h3, _, hx⟩ := hv.cs_inv
            obtain ⟨_, _, hB⟩ := hs.boxes b l hl
            obtain ⟨C, ty, hg, hR⟩ := hB.row hmm
            obtain ⟨s1, s2, s3⟩ := sub_spec hsub
            have hfit : (κ.ι b).2 + q + m * sz ≤ C.size := by have := hR.1; omega
            refine ⟨_, _, cap, (List.range (m * sz)).map fun j => C.getD ((κ.ι b).2 + q + j) undef, hx, by simp, s1, fun j u hj => ?_, fun j v hj => ?_⟩
            · have hjl : j < m * sz := by simpa using (List.getElem?_eq_some_iff.1 hj).1
              rw [addr_add, cell?_of_cells hg]
              rw [List.getElem?_map, List.getElem?_range hjl] at hj
              simp only [Option.map_some, Option.some.injEq] at hj
              rw [← hj, Array.getD_eq_getD_getElem?, Array.getElem?_eq_getElem (by omega)]
              rfl
            · have hjl : j < m * sz := by rw [← s1]; exact (List.getElem?_eq_some_iff.1 hj).1
              rw [s3 j hjl] at hj
              refine ⟨?_, hR.2.1 v (List.mem_of_getElem? hj)⟩
              have := hR.2.2 (q + j) v hj
              rw [List.getD_eq_getElem?_getD, List.getElem?_map, List.getElem?_range hjl]
              simp only [Option.map_some, Option.getD_some]
              rw [Nat.add_assoc]
              exact this
          · cases h
      · cases h
    · cases h
  · cases h

theorem getD_app {l1 : List AV} {L1 : List Value} {l2 : List AV} {L2 : List Value} {κ : Gh} {w : World} (hl : l1.length = L1.length) (h1 : ∀ (j : Nat) (v : AV), l1[j]? = some v → RepV κ w v (L1.getD j undef) ∧ one v = true)
    (h2 : ∀ (j : Nat) (v : AV), l2[j]? = some v → RepV κ w v (L2.getD j undef) ∧ one v = true) : ∀ (j : Nat) (v : AV), (l1 ++ l2)[j]? = some v → RepV κ w v ((L1 ++ L2).getD j undef) ∧ one v = true := by
  intro j v hj
  by_cases hjl : j < l1.length
  · rw [List.getElem?_append_left hjl] at hj
    rw [List.getD_eq_getElem?_getD, List.getElem?_append_left (by rw [← hl]; exact hjl), ← List.getD_eq_getElem?_getD]
    exact h1 j v hj
  · rw [List.getElem?_append_right (by omega)] at hj
    rw [List.getD_eq_getElem?_getD, List.getElem?_append_right (by omega), ← List.getD_eq_getElem?_getD, ← hl]
    exact h2 _ v hj

theorem s_appC (hs : RepS W0 κ σ a w) (hf : Fresh κ id) {t e : TypeId} {sz by_ : Nat} {x y : Operand} {x' y' : Opd} {z1 z2 : Option Nat} {ie : TypeInfo} {zv : Value}
    (ho : o.op = .call { callee := .builtin .append, args := #[x, y], argTypes := #[t, t] }) (hd : o.dst = some d) (hx : opdC z1 x = some x') (hy : opdC z2 y = some y')
    (hu : P.underlying t = some (.slice e)) (hie : P.info? e = some ie) (hsz : ie.size = sz) (hby : ie.bytes = by_) (hz : ie.zero = some zv) (hzs : zv.cells.size = sz) (hsz0 : 0 < sz)
    (hN : d < a.tmps.size) (h : eff call σ id (.appC d sz by_ x' y') F) : o.wp P a w (After W0 κ σ a w id F) Q := by
  have hrx := opd_rep hs hx
  have hry := opd_rep hs hy
  have hexec : ∀ v1 v2, a.eval x = v1 → a.eval y = v2 → ∀ r w', (Builtin.append_ #[t, t] o.type #[v1, v2]).run P w = .ok r w' → (execOp a.eval o).run P w = .ok (.value r) w' := by
    intro v1 v2 h1 h2 r w' hr
    simp [execOp, ho, resolve, invoke, builtin, h1, h2, hr]
  simp only [eff] at h
  subst hsz
  split at h
  · exact h.elim
  · rename_i m V hys
    -- the walk where a new row is made, no token given up
    have grown : ∀ (n : Nat) (l1 : List AV) (L1 : List Value) (Z : Array Value) (newCap : Nat), 0 < m → V.length = m * ie.size → l1.length = n * ie.size → L1.length = n * ie.size → (∀ (j : Nat) (v : AV), l1[j]? = some v → RepV κ w v (L1.getD j undef) ∧ one v = true) →
        ∀ L2 : List Value, L2.length = m * ie.size → (∀ (j : Nat) (v : AV), V[j]? = some v → RepV κ w v (L2.getD j undef) ∧ one v = true) → n + m ≤ newCap → Z.size = (newCap - (n + m)) * ie.size → ∀ dr : Nat,
        (execOp a.eval o).run P w = .ok (.value (.slice (some ⟨w.heap.size, 0, none⟩) (n + m) newCap)) (({ w with drawn := dr } : World).alloc (.cells (L1.toArray ++ L2.toArray ++ Z) e)) →
        F [(.s d, .av (.cs ie.size (id + 1) 0 (n + m) (n + m) (.t (id + 1)))), (.b (id + 1), .bx (l1 ++ V)), (.t (id + 1), .tk true), (.t id, .tk false), (.t id, .tk true)] → o.wp P a w (After W0 κ σ a w id F) Q := by
      intro n l1 L1 Z newCap hm hVl hl1 hL1 hr1 L2 hL2 hr2 hcap hZ dr hrun hF
      have hap : (L1.toArray ++ L2.toArray ++ Z) = ((L1 ++ L2).toArray ++ Z) := by simp
      obtain ⟨κ2, q1, q2, q3, q4, q5, _, _⟩ := cs_grown (sz := ie.size) (n := n + m) (newCap := newCap) (l := l1 ++ V) (L := L1 ++ L2) (Z := Z) hs none (by simp) (i0 := id) (i1 := id + 1) (hf.dt id (Nat.le_refl _) (by omega)) (hf.db (id + 1) (by omega) (by omega)) (hf.dt (id + 1) (by omega) (by omega)) (by omega)
        (Nat.mul_pos (by omega) hsz0) (by rw [List.length_append, hl1, hVl, Nat.add_mul]) (by rw [List.length_append, hL1, hL2, Nat.add_mul]) (getD_app (by rw [hl1, hL1]) hr1 hr2) hcap hZ dr e
      rw [hap] at hrun
      refine wp_value hrun ?_
      rw [hd]
      refine ⟨_, κ2, hF, q1.put hN q3, q2.trans Step.put, put_size, ⟨fun b hb => ?_, fun k hk => ?_⟩⟩
      · rcases q4 b hb with h | h
        · exact .inl h
        · exact .inr ⟨by omega, by omega⟩
      · rcases q5 k hk with h | h | h
        · exact .inl h
        · exact .inr ⟨by omega, by omega⟩
        · exact .inr ⟨by omega, by omega⟩
    split at h
    · -- an immutable slice without room
      rename_i zz e1 he1
      rw [he1] at hrx
      split at h
      · rename_i hb
        have hq := Nat.eq_of_beq_eq_true hb
        subst hq
        obtain ⟨⟨hm, hRoom⟩, hF⟩ := h
        obtain ⟨b2, o2, cap2, L2, hv2, hL2, hVl, hnews', hr2⟩ := ysl_rep hs hry hsz0 hm hys
        have hnews : ∀ j u, L2[j]? = some u → w.cell? ((⟨b2, o2, none⟩ : Addr).add j) = some u := hnews'
        obtain ⟨hD1, hT1⟩ := hrx.sl_inv
        have h63 : e1.length + m ≤ 9223372036854775807 := hRoom.1
        have hbb := hRoom.2
        rw [← hby] at hbb
        rcases hD1.flat hsz0 with ⟨A1, hv1, hn1⟩ | ⟨b1, o1, cap1, L1, hv1, hcap1, f1, hI1, hc1⟩
        · have he1 : e1.length = 0 := by rw [hn1]; rfl
          have hr := run_append_nil' (P := P) w t o.type e ie zv A1 hu hie hz ⟨b2, o2, none⟩ m cap2 L2 hL2 hnews (by omega) (by omega) (by rw [he1, Nat.zero_add] at hbb; omega)
          refine grown e1.length _ [] (Builtin.zeroCells zv.cells (grownCap w m 0 e - m)) (grownCap w m 0 e) hm hVl (by rw [hn1]; simp) (by rw [he1]; simp) (by rw [hn1]; simp) L2 hL2 hr2 (by rw [he1, Nat.zero_add]; exact grownCap_ge _ _ _ _) (by rw [size_zeroCells, hzs, he1, Nat.zero_add]) (w.drawn + 1) ?_ hF
          refine hexec _ _ hv1 hv2 _ _ ?_
          rw [hr]
          simp only [he1, Nat.zero_add]
          congr 2
          simp
        · have hholds : ∀ j u, L1[j]? = some u → w.cell? ((⟨b1, o1, none⟩ : Addr).add j) = some u := by
            intro j u hj
            have hjl : j < e1.length * ie.size := by rw [← f1.len]; exact (List.getElem?_eq_some_iff.1 hj).1
            rw [addr_add, hc1 j hjl, hj]
          have hcf : e1.length = cap1 := hT1 _ _ _ hv1
          obtain ⟨c1, c2⟩ := flat_cells f1
          have hr := run_append_grow (P := P) w t o.type e ie zv hu hie hz ⟨b1, o1, none⟩ e1.length cap1 L1 f1.len hholds ⟨b2, o2, none⟩ m cap2 L2 hL2 hnews (by omega) (by omega) (growslice_fits (by omega) hbb)
          refine grown e1.length _ L1 (Builtin.zeroCells zv.cells (grownCap w (e1.length + m) cap1 e - (e1.length + m))) (grownCap w (e1.length + m) cap1 e) hm hVl (by rw [c1, f1.len]) f1.len c2 L2 hL2 hr2 (grownCap_ge _ _ _ _) (by rw [size_zeroCells, hzs]) (w.drawn + 1) ?_ hF
          exact hexec _ _ hv1 hv2 _ _ hr
      · exact h.elim
    · rename_i zz b q n c tk he1
      rw [he1] at hrx
      split at h
      · rename_i hb
        have hq := Nat.eq_of_beq_eq_true hb
        subst hq
        obtain ⟨cap, hDb, hnc, hcc, hT, hv1⟩ := hrx.cs_inv
        split at h
        · rename_i l hl
          split at h
          · exact h.elim
          · rename_i hmm
            obtain ⟨_, hW, hB⟩ := hs.boxes b l hl
            obtain ⟨C, ty, hg, hR⟩ := hB.row hmm
            split at h
            · -- in place, within the box
              rename_i hle
              have hle := Nat.le_of_ble_eq_true hle
              split at h
              · rename_i l' hsp
                obtain ⟨hm, hF⟩ := h
                obtain ⟨b2, o2, cap2, L2, hv2, hL2, hVl, hnews, hr2⟩ := ysl_rep hs hry hsz0 hm hys
                have hVL : RepL κ w V L2.toArray := ⟨by simp [hL2, hVl], fun v hv => by
                    obtain ⟨j, hj⟩ := List.mem_iff_getElem?.1 hv
                    exact (hr2 j v hj).2, fun j v hj => by simpa [List.getD_eq_getElem?_getD, Array.getD_eq_getD_getElem?] using (hr2 j v hj).1⟩
                obtain ⟨k1, k2, k3, k4⟩ := repC_splice hR hVL hsp
                have hone : ∀ u ∈ L2, u.oneCell' = true := by simpa using hVL.one
                simp only [List.toList_toArray] at k1 k2 k4
                rw [← Nat.add_assoc] at k1 k2 k4
                have hr := run_append_room' (P := P) (w := w) t o.type e ie hu hie (κ.ι b).1 ((κ.ι b).2 + q) n cap C ty hg ⟨b2, o2, none⟩ m cap2 L2 hL2 hnews hone (by omega) k2
                obtain ⟨s1, s2, s3⟩ := hs.store hl hg (arr_splice_size k2) k3 k1 (fun x hx => k4 x fun hh => hx ⟨rfl, hh⟩)
                refine wp_value (hexec _ _ hv1 hv2 _ _ hr) ?_
                rw [hd]
                refine ⟨_, κ, hF, s1.put hN ?_, s2.trans Step.put, put_size, Grow.refl _ _⟩
                exact .cs ie.size b q (n + m) c tk cap hDb hle hcc (hT.mono s3.dt)
              · exact h.elim
            · rename_i hle
              have hle : c < n + m := by
                rcases Nat.lt_or_ge c (n + m) with h | h
                · exact h
                · have := Nat.ble_eq_true_of_le h
                  rw [this] at hle; cases hle
              split at h
              · exact h.elim
              · rename_i l0 hsub
                obtain ⟨u1, u2, u3⟩ := sub_spec hsub
                have hfit : (κ.ι b).2 + q + n * ie.size ≤ C.size := by have := hR.1; omega
                -- the cells that the slice has
                have hL1 : ((List.range (n * ie.size)).map fun j => C.getD ((κ.ι b).2 + q + j) undef).length = n * ie.size := by simp
                have hget1 : ∀ j, j < n * ie.size → ((List.range (n * ie.size)).map fun j => C.getD ((κ.ι b).2 + q + j) undef)[j]? = C[(κ.ι b).2 + q + j]? := by
                  intro j hjl
                  rw [List.getElem?_map, List.getElem?_range hjl, Array.getElem?_eq_getElem (by omega)]
                  simp [Array.getD, show (κ.ι b).2 + q + j < C.size by omega]
                have hr1 : ∀ (j : Nat) (v : AV), l0[j]? = some v → RepV κ w v (((List.range (n * ie.size)).map fun j => C.getD ((κ.ι b).2 + q + j) undef).getD j undef) ∧ one v = true := by
                  intro j v hj
                  have hjl : j < n * ie.size := by rw [← u1]; exact (List.getElem?_eq_some_iff.1 hj).1
                  rw [u3 j hjl] at hj
                  refine ⟨?_, hR.2.1 v (List.mem_of_getElem? hj)⟩
                  have := hR.2.2 (q + j) v hj
                  rw [Array.getD_eq_getD_getElem?, ← Nat.add_assoc] at this
                  rw [List.getD_eq_getElem?_getD, hget1 j hjl]
                  exact this
                have hholds : ∀ j u, ((List.range (n * ie.size)).map fun j => C.getD ((κ.ι b).2 + q + j) undef)[j]? = some u → w.cell? ((⟨(κ.ι b).1, (κ.ι b).2 + q, none⟩ : Addr).add j) = some u := by
                  intro j u hj
                  have hjl : j < n * ie.size := by rw [← hL1]; exact (List.getElem?_eq_some_iff.1 hj).1
                  rw [addr_add, cell?_of_cells hg, ← hget1 j hjl, hj]
                generalize ((List.range (n * ie.size)).map fun j => C.getD ((κ.ι b).2 + q + j) undef) = L1 at hL1 hr1 hholds hget1
                cases tk with
                | none => exact h.elim
                | full =>
                  obtain ⟨⟨hm, hRoom⟩, hF⟩ := h
                  obtain ⟨b2, o2, cap2, L2, hv2, hL2, hVl, hnews, hr2⟩ := ysl_rep hs hry hsz0 hm hys
                  have hcf : c = cap := hT _ _ _ rfl
                  have h63 : n + m ≤ 9223372036854775807 := hRoom.1
                  have hbb := hRoom.2
                  rw [← hby] at hbb
                  have hr := run_append_grow (P := P) w t o.type e ie zv hu hie hz ⟨(κ.ι b).1, (κ.ι b).2 + q, none⟩ n cap L1 hL1 hholds ⟨b2, o2, none⟩ m cap2 L2 hL2 hnews (by omega) (by omega) (growslice_fits (by omega) hbb)
                  exact grown n _ L1 (Builtin.zeroCells zv.cells (grownCap w (n + m) cap e - (n + m))) (grownCap w (n + m) cap e) hm hVl u1 hL1 hr1 L2 hL2 hr2 (grownCap_ge _ _ _ _) (by rw [size_zeroCells, hzs]) (w.drawn + 1) (hexec _ _ hv1 hv2 _ _ hr) hF
                | t k =>
                  simp only at h
                  split at h
                  · rename_i hk
                    obtain ⟨⟨hnc', hm, hRoom⟩, hF⟩ := h
                    subst hnc'
                    obtain ⟨b2, o2, cap2, L2, hv2, hL2, hVl, hnews, hr2⟩ := ysl_rep hs hry hsz0 hm hys
                    have h63 : n + m ≤ 9223372036854775807 := hRoom.1
                    have hbb := hRoom.2
                    rw [← hby] at hbb
                    have hdt0 := hf.dt id (Nat.le_refl _) (by omega)
                    have hdt1 := hf.dt (id + 1) (by omega) (by omega)
                    have hdt2 := hf.dt (id + 2) (by omega) (by omega)
                    have hdb1 := hf.db (id + 1) (by omega) (by omega)
                    by_cases hroom : n + m ≤ cap
                    · have hτ : κ.τ k = ((κ.ι b).1, (κ.ι b).2 + q + n * ie.size, (κ.ι b).2 + q + cap * ie.size) := hT.2 _ _ _ rfl (by omega)
                      have hmul : n * ie.size + m * ie.size ≤ cap * ie.size := by rw [← Nat.add_mul]; exact Nat.mul_le_mul_right _ hroom
                      have hpos : 0 < m * ie.size := Nat.mul_pos hm hsz0
                      obtain ⟨hblk, cur, te, hg', hfit'⟩ := (hs.toks k hk).2 (by rw [hτ]; simp only; omega)
                      rw [hτ] at hblk hg' hfit'
                      simp only at hblk hg' hfit'
                      rw [hg] at hg'
                      cases hg'
                      have hone : ∀ u ∈ L2, u.oneCell' = true := by
                        intro u hu
                        obtain ⟨j, hj, rfl⟩ := List.mem_iff_getElem.1 hu
                        have hjV : j < V.length := by rw [hVl, ← hL2]; exact hj
                        have := hr2 j V[j] (List.getElem?_eq_getElem hjV)
                        rw [List.getD_eq_getElem?_getD, List.getElem?_eq_getElem hj] at this
                        exact (one_cells this.1 this.2).2
                      have hr := run_append_room' (P := P) (w := w) t o.type e ie hu hie (κ.ι b).1 ((κ.ι b).2 + q) n cap C ty hg ⟨b2, o2, none⟩ m cap2 L2 hL2 hnews hone hroom (by rw [hL2]; omega)
                      have hsplice := fun j => arr_splice (C := C) (vs := L2) (o := (κ.ι b).2 + q + n * ie.size) (by rw [hL2]; omega) j
                      have hsplsz := arr_splice_size (C := C) (vs := L2) (o := (κ.ι b).2 + q + n * ie.size) (by rw [hL2]; omega)
                      obtain ⟨s1, s2, s3⟩ := hs.spare hk (g := (κ.ι b).1) (arr := (C.toList.take ((κ.ι b).2 + q + n * ie.size) ++ L2 ++ C.toList.drop ((κ.ι b).2 + q + n * ie.size + L2.length)).toArray) hg hsplsz (by
                        intro j hj
                        rw [hsplice j, if_neg]
                        intro hh
                        apply hj
                        rw [hτ]
                        exact ⟨rfl, hh.1, by simp only; omega⟩)
                      have hheap := setRow_heap w (κ.ι b).1 C (C.toList.take ((κ.ι b).2 + q + n * ie.size) ++ L2 ++ C.toList.drop ((κ.ι b).2 + q + n * ie.size + L2.length)).toArray ty (0, 0) hg
                      generalize (C.toList.take ((κ.ι b).2 + q + n * ie.size) ++ L2 ++ C.toList.drop ((κ.ι b).2 + q + n * ie.size + L2.length)).toArray = arr at hr s1 s2 s3 hsplice hsplsz hheap
                      have hsp0 : ((κ.ι b).2 + q < (κ.ι b).2 + q + cap * ie.size) → W0.heap.size ≤ (κ.ι b).1 ∧ ∃ C ty, (w.setRow (κ.ι b).1 arr).heap[(κ.ι b).1]? = some (.cells C ty (0, 0)) ∧ (κ.ι b).2 + q + cap * ie.size ≤ C.size :=
                        fun _ => ⟨hblk, arr, ty, hheap, by rw [hsplsz]; exact hfit'⟩
                      obtain ⟨m1, m2, m3⟩ := s1.merge hl (some k) (fun k' e => by cases e; exact hk) hdt0 ((κ.ι b).1, (κ.ι b).2 + q, (κ.ι b).2 + q + cap * ie.size) (by
                          rintro x o' ⟨g1, g2, g3⟩
                          simp only at g1 g2 g3
                          by_cases hlt : o' < (κ.ι b).2 + q + n * ie.size
                          · exact .inl ⟨g1, by simp only [spb]; omega, by simp only [spb]; omega⟩
                          · exact .inr ⟨k, rfl, by rw [hτ]; exact ⟨g1, by simp only; omega, g3⟩⟩) hsp0 _ rfl
                      obtain ⟨r1, r2, r3⟩ := m1.retok (some id) (fun k' e => by cases e; simp [look_cons]) (id := id + 2) (fun hh => hh.elim hdt2 (by omega)) (fun k' e => by cases e; omega) (fun _ _ => False) ((κ.ι b).1, (κ.ι b).2 + q, (κ.ι b).2 + q + cap * ie.size)
                        (fun _ _ h => h.elim) hsp0 (by
                          intro x o' hh
                          have hin : inSp ((fun j => if j = id then ((κ.ι b).1, (κ.ι b).2 + q, (κ.ι b).2 + q + cap * ie.size) else κ.τ j) id) x o' := by simpa using hh
                          exact ⟨m1.sepI x o' (.inr ⟨id, by simp [look_cons], hin⟩), id, rfl, hin⟩) _ rfl
                      have hext : ∀ {v : AV} {x : Value}, RepV κ w v x → RepV _ _ v x := fun hv => ((hv.mono s3).mono m3).mono r3
                      have hmulnm : (n + m) * ie.size = n * ie.size + m * ie.size := Nat.add_mul _ _ _
                      obtain ⟨κ2, q1, q2, q3, q4, q5, qd, qi⟩ := cs_step (id := id + 1) (sz := ie.size) (cap := cap) (n := n + m) (p := (κ.ι b).2 + q) (g := (κ.ι b).1) (L := l0 ++ V) r1 (k := id + 2) (by simp [look_cons]) hdb1
                        (fun hh => hh.elim (fun hh => hh.elim hdt1 (by omega)) (by omega)) (by simp) (by rw [List.length_append, u1, hVl, hmulnm]) (Nat.mul_pos (by omega) hsz0) hroom hheap
                        ⟨by rw [List.length_append, u1, hVl, hsplsz]; omega, fun v hv => by
                          rcases List.mem_append.1 hv with hv | hv
                          · obtain ⟨j, hj⟩ := List.mem_iff_getElem?.1 hv; exact (hr1 j v hj).2
                          · obtain ⟨j, hj⟩ := List.mem_iff_getElem?.1 hv; exact (hr2 j v hj).2, fun j v hj => by
                          have := hext (getD_app (by rw [u1, hL1]) hr1 hr2 j v hj).1
                          have hjl : j < n * ie.size + m * ie.size := by
                            have := (List.getElem?_eq_some_iff.1 hj).1
                            rw [List.length_append, u1, hVl] at this; exact this
                          rw [Array.getD_eq_getD_getElem?, hsplice]
                          rw [List.getD_eq_getElem?_getD] at this
                          by_cases hj1 : j < n * ie.size
                          · rw [if_neg (by omega), ← hget1 j hj1]
                            rw [List.getElem?_append_left (by rw [hL1]; exact hj1)] at this
                            exact this
                          · rw [if_pos (by rw [hL2]; omega)]
                            rw [List.getElem?_append_right (by rw [hL1]; omega), hL1] at this
                            rw [show (κ.ι b).2 + q + j - ((κ.ι b).2 + q + n * ie.size) = j - n * ie.size by omega]
                            exact this⟩
                      refine wp_value (hexec _ _ hv1 hv2 _ _ hr) ?_
                      rw [hd]
                      have qi' : κ2.ι b = κ.ι b := qi b hDb
                      obtain ⟨v1, v2⟩ := q1.husk (b := b) (qd b hDb) (by rw [qi']; exact hW) (C := arr) (ty := ty) (by rw [qi']; exact hheap) (by rw [qi', hsplsz]; omega)
                      refine ⟨_, κ2, hF, v1.put hN q3, ((((s2.trans m2).trans r2).trans q2).trans v2).trans Step.put, put_size, ⟨fun b' hb' => ?_, fun k' hk' => ?_⟩⟩
                      · rcases q4 b' hb' with h | h
                        · exact .inl h
                        · exact .inr ⟨by omega, by omega⟩
                      · rcases q5 k' hk' with h | h
                        · rcases h with h | h
                          · rcases h with h | h
                            · exact .inl h
                            · exact .inr ⟨by omega, by omega⟩
                          · exact .inr ⟨by omega, by omega⟩
                        · exact .inr ⟨by omega, by omega⟩
                    · have hr := run_append_grow (P := P) w t o.type e ie zv hu hie hz ⟨(κ.ι b).1, (κ.ι b).2 + q, none⟩ n cap L1 hL1 hholds ⟨b2, o2, none⟩ m cap2 L2 hL2 hnews (by omega) (by omega) (growslice_fits (by omega) hbb)
                      obtain ⟨m1, m2, m3⟩ := hs.merge hl (some k) (fun k' e => by cases e; exact hk) hdt0 (0, 0, 0) (by rintro x o' ⟨_, g2, g3⟩; simp only at g2 g3; omega) (fun hh => by simp at hh) _ rfl
                      have hap : ∀ Z : Array Value, (L1.toArray ++ L2.toArray ++ Z) = ((L1 ++ L2).toArray ++ Z) := fun Z => by simp
                      have qh : ∀ k, k < w.heap.size → w.heap[k]? = some (.cells C ty (0, 0)) → (({ w with drawn := w.drawn + 1 } : World).alloc (.cells ((L1 ++ L2).toArray ++ Builtin.zeroCells zv.cells (grownCap w (n + m) cap e - (n + m))) e)).heap[k]? = some (.cells C ty (0, 0)) := fun k hk h => (heap_alloc_lt (w := { w with drawn := w.drawn + 1 }) hk).trans h
                      obtain ⟨κ2, q1, q2, q3, q4, q5, qd, qi⟩ := cs_grown (sz := ie.size) (n := n + m) (newCap := grownCap w (n + m) cap e) (l := l0 ++ V) (L := L1 ++ L2) (Z := Builtin.zeroCells zv.cells (grownCap w (n + m) cap e - (n + m))) m1 (some id) (fun k' e => by cases e; simp [look_cons]) (i0 := id + 2) (i1 := id + 1)
                        (fun hh => hh.elim hdt2 (by omega)) hdb1 (fun hh => hh.elim hdt1 (by omega)) (by omega) (Nat.mul_pos (by omega) hsz0) (by rw [List.length_append, u1, hVl, Nat.add_mul]) (by rw [List.length_append, hL1, hL2, Nat.add_mul])
                        (fun j v hj => by
                          have := getD_app (by rw [u1, hL1]) hr1 hr2 j v hj
                          exact ⟨this.1.mono m3, this.2⟩) (grownCap_ge _ _ _ _) (by rw [size_zeroCells, hzs]) (w.drawn + 1) e
                      rw [hap] at hr
                      refine wp_value (hexec _ _ hv1 hv2 _ _ hr) ?_
                      rw [hd]
                      have qi' : κ2.ι b = κ.ι b := qi b hDb
                      obtain ⟨v1, v2⟩ := q1.husk (b := b) (qd b hDb) (by rw [qi']; exact hW) (C := C) (ty := ty) (by rw [qi']; exact qh _ (lt_of_heap hg) hg) (by rw [qi']; omega)
                      refine ⟨_, κ2, hF, v1.put hN q3, ((m2.trans q2).trans v2).trans Step.put, put_size, ⟨fun b' hb' => ?_, fun k' hk' => ?_⟩⟩
                      · rcases q4 b' hb' with h | h
                        · exact .inl h
                        · exact .inr ⟨by omega, by omega⟩
                      · rcases q5 k' hk' with h | h | h
                        · rcases h with h | h
                          · exact .inl h
                          · exact .inr ⟨by omega, by omega⟩
                        · exact .inr ⟨by omega, by omega⟩
                        · exact .inr ⟨by omega, by omega⟩
                  · exact h.elim
        · exact h.elim
      · exact h.elim
    · exact h.elim
end ops
end Go.Abs

namespace Go.Abs
open Go
section ops
variable {P : Program} {W0 : World} {κ : Gh} {σ : Log} {a : Act} {w : World} {id : Nat} {F : Log → Prop} {call : CallP} {o : Oper} {Q : Exit → Act → World → Prop} {d : Nat} {z : Option Nat}
/-- pointers to what has a size, and functions -/
def okP (P : Program) (t : TypeId) : Option Bool := match P.underlying t with
  | some (.pointer e) => (match P.info? e with
    | some i => (match decide (i.size ≠ 0) with | true => some false | false => none)
    | none => none)
  | some (.func _ _ _) => some true
  | _ => none

theorem s_eqP (hs : RepS W0 κ σ a w) {b : BinOp} {fn ng : Bool} {t1 t2 : TypeId} {x y : Operand} {x' y' : Opd} {z1 z2 : Option Nat} (ho : o.op = .binOp b t1 x y t2) (hd : o.dst = some d) (hx : opdC z1 x = some x') (hy : opdC z2 y = some y')
    (hb : negC b = some ng) (hu : okP P t1 = some fn) (hN : d < a.tmps.size) (h : eff call σ id (.eqP d fn ng x' y') F) : o.wp P a w (After W0 κ σ a w id F) Q := by
  have hrx := opd_rep hs hx
  have hry := opd_rep hs hy
  -- from the equality to the operation
  have fin : ∀ (vx vy : Value) (r : Bool), a.eval x = vx → a.eval y = vy → (∀ op, (eqGuard op t1 x y vx vy).run P w = .ok () w) → binOp .eql t1 vx vy = (do pure (.bool (← Op.equal t1 vx vy))) → binOp .neq t1 vx vy = (do pure (.bool (!(← Op.equal t1 vx vy)))) →
      (∀ d : Nat, (Op.equalIn (d + 1) t1 vx vy).run P w = .ok r w) → F [(.s d, .av (.sc (.b (xor r ng))))] → o.wp P a w (After W0 κ σ a w id F) Q := by
    intro vx vy r ex ey hgu h1 h2 h3 hF
    have h4 : (Op.equal t1 vx vy).run P w = .ok r w := h3 9999
    refine wp_value (x := .bool (xor r ng)) (w' := w) ?_ (by rw [hd]; exact .put hs hN (.sc (.b (xor r ng))) hF)
    cases b <;> simp only [negC] at hb <;> cases hb
    · simp [execOp, ho, ex, ey, hgu, h1, h4]
    · simp [execOp, ho, ex, ey, hgu, h2, h4]
  have hptr : fn = false → ∃ e i, P.underlying t1 = some (.pointer e) ∧ P.info? e = some i ∧ i.size ≠ 0 := by
    intro hf
    unfold okP at hu
    split at hu
    · rename_i e he
      split at hu
      · rename_i i hi
        split at hu
        · rename_i hdec; exact ⟨e, i, he, hi, of_decide_eq_true hdec⟩
        · cases hu
      · cases hu
    · cases hu; cases hf
    · cases hu
  have hfun : fn = true → ∃ p q r, P.underlying t1 = some (.func p q r) := by
    intro hf
    unfold okP at hu
    split at hu
    · split at hu
      · split at hu
        · cases hu; cases hf
        · cases hu
      · cases hu
    · rename_i p q r he; exact ⟨p, q, r, he⟩
    · cases hu
  simp only [eff] at h
  split at h
  · rename_i b1 o1 b2 o2 he1 he2
    rw [he1] at hrx
    rw [he2] at hry
    obtain ⟨_, ex⟩ := hrx.ptr_inv
    obtain ⟨_, ey⟩ := hry.ptr_inv
    obtain ⟨e, i, u1, u2, u3⟩ := hptr rfl
    split at h
    · rename_i hbb
      have := Nat.eq_of_beq_eq_true hbb
      subst this
      refine fin _ _ (Nat.beq o1 o2) ex ey (fun op => by cases op <;> simp [eqGuard]) rfl rfl (fun d => ?_) h
      cases ho' : Nat.beq o1 o2 with
      | true =>
        have := Nat.eq_of_beq_eq_true ho'
        subst this
        simp [Op.equalIn, run_underlying u1, sizeOf, typeInfo, u2, u3, run_sameAddr_same]
      | false =>
        have hne : ¬ o1 = o2 := fun e => by subst e; simp at ho'
        simp [Op.equalIn, run_underlying u1, sizeOf, typeInfo, u2, u3, sameAddr, hne]
    · exact h.elim
  · rename_i b1 o1 he1 he2
    rw [he1] at hrx
    rw [he2] at hry
    obtain ⟨_, ex⟩ := hrx.ptr_inv
    have ey := hry.sc_inv
    obtain ⟨e, i, u1, u2, u3⟩ := hptr rfl
    refine fin _ _ false ex ey (fun op => by cases op <;> simp [eqGuard, Sc.val]) rfl rfl (fun d => ?_) (by simpa using h)
    simp [Op.equalIn, run_underlying u1, Sc.val]
  · rename_i b1 o1 he1 he2
    rw [he1] at hrx
    rw [he2] at hry
    obtain ⟨_, _, ex, _⟩ := hrx.elp_inv
    have ey := hry.sc_inv
    obtain ⟨e, i, u1, u2, u3⟩ := hptr rfl
    refine fin _ _ false ex ey (fun op => by cases op <;> simp [eqGuard, Sc.val]) rfl rfl (fun d => ?_) (by simpa using h)
    simp [Op.equalIn, run_underlying u1, Sc.val]
  · rename_i he1 he2
    rw [he1] at hrx
    rw [he2] at hry
    have ex := hrx.sc_inv
    have ey := hry.sc_inv
    obtain ⟨e, i, u1, u2, u3⟩ := hptr rfl
    refine fin _ _ true ex ey (fun op => by cases op <;> simp [eqGuard, Sc.val]) rfl rfl (fun d => ?_) (by simpa using h)
    simp [Op.equalIn, run_underlying u1, Sc.val]
  · rename_i f1 c1 he1 he2
    rw [he1] at hrx
    rw [he2] at hry
    obtain ⟨vs, ex, _⟩ := hrx.fn_inv
    have ey := hry.sc_inv
    obtain ⟨p, q, r, u1⟩ := hfun rfl
    refine fin _ _ false ex ey (fun op => by cases op <;> simp [eqGuard, Sc.val]) rfl rfl (fun d => ?_) (by simpa using h)
    simp [Op.equalIn, run_underlying u1, Sc.val]
  · rename_i he1 he2
    rw [he1] at hrx
    rw [he2] at hry
    have ex := hrx.sc_inv
    have ey := hry.sc_inv
    obtain ⟨p, q, r, u1⟩ := hfun rfl
    refine fin _ _ true ex ey (fun op => by cases op <;> simp [eqGuard, Sc.val]) rfl rfl (fun d => ?_) (by simpa using h)
    simp [Op.equalIn, run_underlying u1, Sc.val]
  · exact h.elim

theorem getElem?_zeroCells (z : Array Value) (n j : Nat) : (Builtin.zeroCells z n)[j]? = if j < n * z.size then some (z[j % z.size]!) else none := by
  simp only [Builtin.zeroCells, Array.getElem?_map]
  by_cases h : j < n * z.size
  · rw [if_pos h, Array.getElem?_eq_getElem (by simpa using h)]
    simp
  · rw [if_neg h, Array.getElem?_eq_none (by simpa using h)]
    rfl

theorem s_clrC (hs : RepS W0 κ σ a w) {t e : TypeId} {x : Operand} {x' : Opd} {sz : Nat} {zl : List AV} {i : TypeInfo} {v : Value} (ho : o.op = .call { callee := .builtin .clear, args := #[x], argTypes := #[t] }) (hd : o.dst = none) (hx : opdC z x = some x')
    (hu : P.underlying t = some (.slice e)) (hi : P.info? e = some i) (hiv : i.zero = some v) (hsz : i.size = sz) (hz : ∀ (κ : Gh) (w : World), RepL κ w zl v.cells) (hvs : v.cells.size = sz)
    (h : eff call σ id (.clrC sz zl x') F) : o.wp P a w (After W0 κ σ a w id F) Q := by
  have hr := opd_rep hs hx
  simp only [eff] at h
  split at h
  · rename_i q b off n c tk he
    rw [he] at hr
    split at h
    · rename_i hb
      have := Nat.eq_of_beq_eq_true hb
      subst this
      split at h
      · rename_i l hl
        split at h
        · exact h.elim
        · rename_i hmm
          split at h
          · rename_i l' hsp
            obtain ⟨hn, hF⟩ := h
            obtain ⟨cap, hDb, hnc, hcc, hT, hv1⟩ := hr.cs_inv
            obtain ⟨_, hW, hB⟩ := hs.boxes b l hl
            obtain ⟨C, ty, hg, hR⟩ := hB.row hmm
            have hzl : zl.length = sz := by rw [← (hz κ w).1, hvs]
            have hL : RepL κ w (List.replicate n zl).flatten (Builtin.zeroCells v.cells n) := by
              refine ⟨by rw [size_zeroCells]; simp [hvs, hzl], ?_, fun j u hj => ?_⟩
              · intro u hu'
                obtain ⟨l, hl, hul⟩ := List.mem_flatten.1 hu'
                rw [List.eq_of_mem_replicate hl] at hul
                exact (hz κ w).2.1 u hul
              · rw [flatten_replicate_get, hzl] at hj
                split at hj
                · rename_i hlt
                  have h1 := (hz κ w).2.2 _ u hj
                  have hszp : 0 < sz := by
                    rcases Nat.eq_zero_or_pos sz with h | h
                    · subst h; simp at hlt
                    · exact h
                  have hm : j % sz < v.cells.size := by rw [hvs]; exact Nat.mod_lt _ hszp
                  rw [Array.getD_eq_getD_getElem?, getElem?_zeroCells, hvs, if_pos hlt]
                  simpa [Array.getD, hm] using h1
                · cases hj
            obtain ⟨k1, k2, k3, k4⟩ := repC_splice hR hL hsp
            obtain ⟨s1, s2, s3⟩ := hs.store hl hg (arr_splice_size k2) k3 k1 (fun x hx => k4 x fun hh => hx ⟨rfl, hh⟩)
            have hrun := run_storeCells_at P (κ.ι b).1 ((κ.ι b).2 + off) ty (Builtin.zeroCells v.cells n).toList 0 C w hg (by simpa using k2) hL.one
            simp only [Nat.add_zero] at hrun
            refine wp_value (x := .tuple #[]) (w' := w.setRow (κ.ι b).1 (C.toList.take ((κ.ι b).2 + off) ++ (Builtin.zeroCells v.cells n).toList ++ C.toList.drop ((κ.ι b).2 + off + (Builtin.zeroCells v.cells n).toList.length)).toArray) ?_ ?_
            · generalize (w.setRow (κ.ι b).1 (C.toList.take ((κ.ι b).2 + off) ++ (Builtin.zeroCells v.cells n).toList ++ C.toList.drop ((κ.ι b).2 + off + (Builtin.zeroCells v.cells n).toList.length)).toArray) = w' at hrun ⊢
              obtain ⟨n', rfl⟩ : ∃ n', n = n' + 1 := ⟨n - 1, by omega⟩
              simp [execOp, ho, hv1, resolve, invoke, builtin, Builtin.clear_, run_underlying hu, zeroValue, typeInfo, hi, hiv, hrun]
            · rw [hd]
              exact ⟨_, κ, hF, s1, s2, rfl, Grow.refl _ _⟩
          · exact h.elim
      · exact h.elim
    · exact h.elim
  · exact h.elim
theorem run_next_end' {r : Nat} {t : ByteArray} {pos : Nat} (ty : TypeId) (h : w.heap[r]? = some (.stringIter t pos)) (h' : ¬ pos < t.size) :
    (Instr.next (.pointer (some ⟨r, 0, none⟩)) true ty).run P w = .ok (.tuple #[.bool false]) w := by
  simp [Instr.next, getObj, Sem.run, h, h']
theorem run_next_ascii' {r : Nat} {t : ByteArray} {pos : Nat} (ty : TypeId) (h : w.heap[r]? = some (.stringIter t pos)) (h' : pos < t.size) (ha : (t[pos]'h').toNat < 128) :
    (Instr.next (.pointer (some ⟨r, 0, none⟩)) true ty).run P w = .ok (.tuple #[.bool true, .int .i64 pos, .int .i32 (t[pos]'h').toNat]) { w with heap := w.heap.setIfInBounds r (.stringIter t (pos + 1)) } := by
  have hr : r < w.heap.size := lt_of_heap h
  simp only [Instr.next, getObj, setObj, Sem.run_bind, Sem.run, h, Result.andThen, h', if_true, decode_ascii t pos h' ha]
  simp [goInt, Sem.run, h, hr]
/-- a range over a string begins -/
theorem s_rngS (hs : RepS W0 κ σ a w) (hf : Fresh κ id) {t : TypeId} {x : Operand} {x' : Opd} (ho : o.op = .range t x) (hd : o.dst = some d) (hx : opdC z x = some x') (ht : P.underlying t = some .string) (hN : d < a.tmps.size)
    (h : eff call σ id (.rngS d x') F) : o.wp P a w (After W0 κ σ a w id F) Q := by
  have hr := opd_rep hs hx
  simp only [eff] at h
  split at h
  · rename_i l he
    rw [he] at hr
    have ex := hr.sc_inv
    simp only [Sc.val] at ex
    have hid : ¬ κ.Db id := hf.db id (Nat.le_refl _) (by omega)
    obtain ⟨r1, r2, _⟩ := hs.boxO (id := id) (l := [.mpv (.it l 0)]) (ob := .stringIter ⟨l.toArray⟩ 0) hid fun κ' e => .inr ⟨.it l 0, _, rfl, rfl, heap_alloc_new, rfl, rfl⟩
    refine wp_value (x := .pointer (some ⟨w.heap.size, 0, none⟩)) (w' := w.alloc (.stringIter ⟨l.toArray⟩ 0)) ?_ ?_
    · simp [execOp, ho, ex, Instr.range, run_underlying ht, newObj, Sem.run, Result.andThen]
    · rw [hd]
      refine ⟨_, { κ with Db := fun b => κ.Db b ∨ b = id, ι := fun b => if b = id then (w.heap.size, 0) else κ.ι b }, h, ?_, r2.trans Step.put, put_size, ⟨fun b hb => ?_, fun k hk => .inl hk⟩⟩
      · refine r1.put hN ?_
        have := RepV.ptr (κ := { κ with Db := fun b => κ.Db b ∨ b = id, ι := fun b => if b = id then (w.heap.size, 0) else κ.ι b }) (w := w.alloc (.stringIter ⟨l.toArray⟩ 0)) id 0 (.inr rfl)
        simpa using this
      · rcases (show κ.Db b ∨ b = id from hb) with hb | rfl
        · exact .inl hb
        · exact .inr ⟨Nat.le_refl _, by omega⟩
  · exact h.elim

/-- its next round -/
theorem s_nxtS (hs : RepS W0 κ σ a w) {x : Operand} {x' : Opd} (ho : o.op = .next x true) (hd : o.dst = some d) (hx : opdC z x = some x') (hN : d < a.tmps.size)
    (h : eff call σ id (.nxtS d x') F) : o.wp P a w (After W0 κ σ a w id F) Q := by
  have hr := opd_rep hs hx
  simp only [eff] at h
  split at h
  · rename_i b he
    rw [he] at hr
    obtain ⟨_, ex⟩ := hr.ptr_inv
    split at h
    · rename_i l p hl
      obtain ⟨_, _, hB⟩ := hs.boxes b _ hl
      rcases hB with ⟨h0, _⟩ | ⟨es', ob, e1, e2, e3, e4⟩
      · cases h0
      cases e1
      obtain ⟨rfl⟩ : ob = .stringIter ⟨l.toArray⟩ p := by cases ob <;> first | exact e4.elim | (obtain ⟨rfl, rfl⟩ := e4; rfl)
      rw [e2] at ex
      split at h
      · rename_i hp
        obtain ⟨hle, hF⟩ := h
        obtain ⟨r1, r2⟩ := hs.storeM hl (ob := .stringIter ⟨l.toArray⟩ p) (es' := .it l p) (ob' := .stringIter ⟨l.toArray⟩ p) trivial e2 e3 ⟨rfl, rfl⟩
        have hsame : ({ w with heap := w.heap.setIfInBounds (κ.ι b).1 (.stringIter ⟨l.toArray⟩ p) } : World) = w := by
          have : w.heap.setIfInBounds (κ.ι b).1 (.stringIter ⟨l.toArray⟩ p) = w.heap := by
            apply Array.ext_getElem?
            intro i
            rw [Array.getElem?_setIfInBounds]
            by_cases hi : (κ.ι b).1 = i
            · subst hi; rw [if_pos rfl, if_pos (lt_of_heap e3)]; exact e3.symm
            · rw [if_neg hi]
          rw [this]
        rw [hsame] at r1 r2
        refine wp_value (x := .tuple #[.bool false]) (w' := w) ?_ ?_
        · have hn := run_next_end' (P := P) (w := w) o.type e3 (by simpa [ByteArray.size] using hle)
          simp only [execOp, ho, ex]
          simp [hn, Result.andThen]
        · rw [hd]
          refine ⟨_, κ, hF, r1.put hN ?_, r2.trans Step.put, put_size, Grow.refl _ _⟩
          exact .tup _ #[.bool false] rfl fun j v hj => by
            match j, hj with
            | 0, hj => simp at hj; subst hj; exact .sc (.b false)
      · rename_i c hp
        obtain ⟨hc, hF⟩ := h
        have hpl : p < l.length := (List.getElem?_eq_some_iff.1 hp).1
        obtain ⟨r1, r2⟩ := hs.storeM hl (ob := .stringIter ⟨l.toArray⟩ p) (es' := .it l (p + 1)) (ob' := .stringIter ⟨l.toArray⟩ (p + 1)) trivial e2 e3 ⟨rfl, rfl⟩
        have hpl' : p < (⟨l.toArray⟩ : ByteArray).size := by simpa [ByteArray.size] using hpl
        have hcc : (⟨l.toArray⟩ : ByteArray)[p]'hpl' = c := by
          have : l[p] = c := by rw [List.getElem?_eq_getElem hpl] at hp; exact Option.some.inj hp
          rw [← this]; rfl
        have hn := run_next_ascii' (P := P) (w := w) o.type e3 hpl' (by rw [hcc]; exact hc)
        rw [hcc] at hn
        refine wp_value (x := .tuple #[.bool true, .int .i64 p, .int .i32 c.toNat]) (w' := { w with heap := w.heap.setIfInBounds (κ.ι b).1 (.stringIter ⟨l.toArray⟩ (p + 1)) }) ?_ ?_
        · generalize ({ w with heap := w.heap.setIfInBounds (κ.ι b).1 (.stringIter ⟨l.toArray⟩ (p + 1)) } : World) = w' at hn ⊢
          simp only [execOp, ho, ex]
          simp [hn, Result.andThen]
        · rw [hd]
          refine ⟨_, κ, hF, r1.put hN ?_, r2.trans Step.put, put_size, Grow.refl _ _⟩
          exact .tup _ #[.bool true, .int .i64 p, .int .i32 c.toNat] rfl fun j v hj => by
            match j, hj with
            | 0, hj => simp at hj; subst hj; exact .sc (.b true)
            | 1, hj => simp at hj; subst hj; exact .sc (.i .i64 p)
            | 2, hj => simp at hj; subst hj; exact .sc (.i .i32 c.toNat)
    · exact h.elim
  · exact h.elim
end ops
end Go.Abs

namespace Go.Abs
open Go
structure Ann where
  opn : List Nat
  gl : Nat → Option (List Data)
  frz : Nat → List Nat
  cut : Nat → Bool := fun _ => false
  cs : List Nat := []
  tk : List Nat := []

/-- a constant spelt as a pattern says: which slices have which size -/
def constLike : List AV → List Value → Option (List AV)
  | [], [] => some []
  | p :: ps, v :: vs => match constC (match p with | .sl z _ _ => some z | _ => none) v, constLike ps vs with
    | some x, some xs => some (x :: xs)
    | _, _ => none
  | _, _ => none

theorem constLike_spec {κ : Gh} {w : World} : ∀ {ps : List AV} {vs : List Value} {xs : List AV}, constLike ps vs = some xs → xs.length = vs.length ∧ (∀ x, x ∈ xs → one x = true) ∧ ∀ (i : Nat) (x : AV), xs[i]? = some x → RepV κ w x (vs.getD i undef)
  | [], [], xs, h => by simp only [constLike] at h; cases h; exact ⟨rfl, by simp, by simp⟩
  | p :: ps, v :: vs, xs, h => by
    simp only [constLike] at h
    split at h
    · rename_i x xs' hx hxs
      cases h
      obtain ⟨h1, h2, h3⟩ := constLike_spec (κ := κ) (w := w) hxs
      obtain ⟨g1, g2⟩ := constC_rep (κ := κ) (w := w) hx
      refine ⟨by simp [h1], fun y hy => ?_, fun i y hy => ?_⟩
      · rcases List.mem_cons.1 hy with rfl | hy
        · exact g2
        · exact h2 y hy
      · cases i with
        | zero => simp at hy; subst hy; simpa using g1
        | succ i => simpa using h3 i y (by simpa using hy)
    · cases h
  | [], _ :: _, xs, h => by simp [constLike] at h
  | _ :: _, [], xs, h => by simp [constLike] at h

def special (P : Program) (an : Ann) (o : Oper) : Option AOp :=
  match o.op, o.dst with
  | .makeSlice t (.tmp i) (.tmp j), some d => match Nat.beq i j, P.underlying t, an.opn.contains d with
    | true, some (.slice e), true => match P.info? e, zcells P e with
      | some ie, some zl => if zl.length = ie.size then some (.mk d ie.size ie.bytes zl (.t i)) else none
      | _, _ => none
    | true, some (.slice e), false => match P.info? e, zcells P e with
      | some ie, some zl => match cellsD zl with
        | some zd => if zl.length = ie.size then some (.mkF d ie.size ie.bytes zd (.t i)) else none
        | none => none
      | _, _ => none
    | _, _, _ => none
  | .buildSlice t 1 ⟨[(0, .const (.agg cs))]⟩, some d => match P.underlying t with
    | some (.slice e) => match P.info? e, zcells P e with
      | some ie, some zl => match ie.zero, decide (1 * ie.size ≤ 2 ^ 24 ∧ 0 < ie.size), constLike zl cs.toList with
        | some _, true, some xs => some (.bsl d ie.size [.c (.agg xs)])
        | _, _, _ => none
      | _, _ => none
    | _ => none
  | .buildSlice t n ps, some d => match an.cs.contains d, P.underlying t with
    | true, some (.slice e) => match P.info? e with
      | some ie => match ie.zero, decide (n * ie.size ≤ 2 ^ 24 ∧ 0 < n ∧ 0 < ie.size), partsC (elemSz P e) 0 ps.toList with
        | some _, true, some xs => if xs.length = n then some (.bslM d ie.size xs) else none
        | _, _, _ => none
      | none => none
    | _, _ => none
  | .call { callee := .builtin .clear, args := ⟨[x]⟩, argTypes := ⟨[t]⟩ }, none => match P.underlying t with
    | some (.slice e) => match P.info? e, zcells P e, opdC none x with
      | some ie, some zl, some x => if zl.length = ie.size then some (.clrC ie.size zl x) else none
      | _, _, _ => none
    | _ => none
  | .indexAddr t (.global g) y, some d => match P.underlying t, an.gl g, opdC none y with
    | some (.array n e), some cells, some y => match (P.info? e).map (·.size) with
      | some sz => if cells.length = n * sz ∧ 0 < sz then some (.iaG d cells sz y) else none
      | none => none
    | _, _, _ => none
  | .unOp .xor _ x, some d => match opdC none x with
    | some x => some (.bin d .xor (.c (.sc (.i .i64 (-1)))) x)
    | none => none
  | .call { callee := .builtin .cap, args := ⟨[x]⟩, argTypes := ⟨[t]⟩ }, some d => match P.underlying t, opdC none x with
    | some (.slice _), some x => some (.cap d x)
    | _, _ => none
  | .call { callee := .builtin .append, args := ⟨[x, y]⟩, argTypes := ⟨[t, t']⟩ }, some d => match P.underlying t, P.underlying t' with
    | some (.slice e), some (.int _) => match P.info? e, zcells P e, opdC (elemSz P t) x, opdC none y with
      | some ie, some zl, some x, some y => match cellsD zl with
        | some zd => if zl.length = ie.size ∧ 0 < ie.size then some (.appZ d ie.size ie.bytes zd x y) else none
        | none => none
      | _, _, _, _ => none
    | some (.slice e), _ => match an.cs.contains d with
     | true => if t = t' then match P.info? e with
          | some ie => match ie.zero, opdC (elemSz P t) x, opdC (elemSz P t) y with
            | some z, some x, some y => if z.cells.size = ie.size ∧ 0 < ie.size then some (.appC d ie.size ie.bytes x y) else none
            | _, _, _ => none
          | none => none
        else none
     | false => match an.opn.contains d with
      | true => if t = t' then match P.info? e with
          | some ie => match ie.zero, opdC (elemSz P t) x, opdC (elemSz P t) y with
            | some z, some x, some y => if z.cells.size = ie.size ∧ 0 < ie.size then some (.appM d ie.size ie.bytes x y) else none
            | _, _, _ => none
          | none => none
        else none
      | false => none
    | _, _ => none
  | .binOp b t x y _, some d => match P.underlying t with
    | some (.struct fs) => match negC b, opdC none x, opdC none y, okEq P fs.toList 0, P.stoodInHeld t, P.eqGuardType P.depth t with
      | some ng, some x, some y, some ks, false, false => some (.eqA d ng ks x y)
      | _, _, _, _, _, _ => none
    | some _ => match okP P t, negC b, opdC none x, opdC none y with
      | some fn, some ng, some x, some y => some (.eqP d fn ng x y)
      | _, _, _, _ => none
    | none => none
  | .makeMap t none, some d => match P.underlying t with
    | some (.map _ _) => some (.mkM d)
    | _ => none
  | .range t x, some d => match P.underlying t, opdC none x with
    | some .string, some x => some (.rngS d x)
    | _, _ => none
  | .next x true, some d => match opdC none x with
    | some x => some (.nxtS d x)
    | none => none
  | .lookup t x k true, some d => match P.underlying t with
    | some (.map kt e) => match P.underlying kt, P.info? e, zcells P e, opdC none x, opdC none k with
      | some (.int .i64), some ie, some zl, some x, some k => match ie.zero, cellsD zl with
        | some (.agg _), some zd => some (.lkM d zd x k)
        | _, _ => none
      | _, _, _, _, _ => none
    | _ => none
  | .mapUpdate t x k v, none => match P.underlying t with
    | some (.map kt _) => match P.underlying kt, opdC none x, opdC none k, opdC none v with
      | some (.int .i64), some x, some k, some v => some (.upM x k v)
      | _, _, _, _ => none
    | _ => none
  | _, _ => none

def compO2 (P : Program) (an : Ann) (o : Oper) : Option AOp := match special P an o with
  | some g => some g
  | none => compO P o

section
variable {P : Program} {W0 : World} {κ : Gh} {σ : Log} {a : Act} {w : World} {id : Nat} {F : Log → Prop} {call : CallP} {o : Oper} {Q : Exit → Act → World → Prop}
theorem eff_sound2 {an : Ann} (hG : ∀ g cells, an.gl g = some cells → GlobOK W0 g cells) (hcall : ∀ f args H res H', call f args H res H' → Ctr P W0 f args H res H') (hs : RepS W0 κ σ a w) (hf : Fresh κ id) {g : AOp} (hg : compO2 P an o = some g) (hN : ∀ d', o.dst = some d' → d' < a.tmps.size)
    (h : eff call σ id g F) : o.wp P a w (After W0 κ σ a w id F) Q := by
  unfold compO2 at hg
  split at hg
  · rename_i g' hsp
    cases hg
    unfold special at hsp
    split at hsp
    · rename_i t i j d ho hd
      split at hsp <;> first | cases hsp | skip
      rename_i e hij hu hop
      split at hsp <;> first | cases hsp | skip
      rename_i ie zl hie hzl
      split at hsp <;> first | cases hsp | skip
      rename_i hlen
      have hij' := Nat.eq_of_beq_eq_true hij
      subst hij'
      obtain ⟨i', v, h1, h2, h3⟩ := zcells_ok hzl
      rw [hie] at h1
      cases h1
      exact s_mk (z := none) hs hf ho hd rfl hu hie h2 rfl rfl h3 (by rw [← hlen]; exact (h3 κ w).1) (hN d hd) h
      rename_i e hij hu hop
      split at hsp <;> first | cases hsp | skip
      rename_i ie zl hie hzl
      split at hsp <;> first | cases hsp | skip
      rename_i zd hzd
      split at hsp <;> first | cases hsp | skip
      rename_i hlen
      have hij' := Nat.eq_of_beq_eq_true hij
      subst hij'
      obtain ⟨i', v, h1, h2, h3⟩ := zcells_ok hzl
      rw [hie] at h1
      cases h1
      exact s_mkF (z := none) hs ho hd rfl hu hie h2 rfl rfl h3 (by rw [← hlen]; exact (h3 κ w).1) hzd (hN d hd) h
    · rename_i t cs d ho hd
      split at hsp <;> first | (cases hsp; done) | skip
      rename_i e hu
      split at hsp <;> first | (cases hsp; done) | skip
      rename_i ie zl hie hzl
      split at hsp <;> first | (cases hsp; done) | skip
      rename_i zv xs hz hdec hxs
      cases hsp
      obtain ⟨q1, q2⟩ := of_decide_eq_true hdec
      refine s_bslG hs ho hd hu hie hz rfl q1 (by omega) q2 ⟨rfl, rfl, fun i v hi => ?_⟩ rfl (hN d hd) h
      cases i with
      | zero =>
        simp at hi
        subst hi
        refine ⟨_, rfl, ?_⟩
        obtain ⟨h1, h2, h3⟩ := constLike_spec (κ := κ) (w := w) hxs
        exact RepV.agg xs cs (by simpa using h1.symm) h2 (fun i x hx => by simpa using h3 i x hx)
      | succ i => simp at hi
    · rename_i t n ps d _ ho hd
      split at hsp <;> first | (cases hsp; done) | skip
      rename_i e hcs hu
      split at hsp <;> first | (cases hsp; done) | skip
      rename_i ie hie
      split at hsp <;> first | (cases hsp; done) | skip
      rename_i zv xs hz hdec hps
      split at hsp <;> first | (cases hsp; done) | skip
      rename_i hlen
      cases hsp
      obtain ⟨h1, h2, h3⟩ := of_decide_eq_true hdec
      exact s_bslM hs hf ho hd hu hie hz rfl h1 h2 h3 (partsC_spec hs hps) hlen (hN d hd) h
    · rename_i x t ho hd
      split at hsp <;> first | (cases hsp; done) | skip
      rename_i e hu
      split at hsp <;> first | (cases hsp; done) | skip
      rename_i ie zl x' hie hzl hx
      split at hsp <;> first | (cases hsp; done) | skip
      rename_i hlen
      cases hsp
      obtain ⟨i', v, h1, h2, h3⟩ := zcells_ok hzl
      rw [hie] at h1
      cases h1
      exact s_clrC hs ho hd hx hu hie h2 rfl h3 (by rw [← hlen]; exact (h3 κ w).1) h
    · rename_i t gl y d ho hd
      split at hsp <;> first | cases hsp | skip
      rename_i n e cells y' hu hgl hy
      split at hsp <;> first | cases hsp | skip
      rename_i sz hsz
      split at hsp <;> first | cases hsp | skip
      rename_i hh
      exact s_iaG hs ho hd hy hu hsz hh.1 hh.2 (hG _ _ hgl) (hN d hd) h
    · rename_i t x d ho hd
      split at hsp <;> first | cases hsp | skip
      rename_i x' hx
      exact s_inv hs ho hd hx (hN d hd) h
    · rename_i x t d ho hd
      split at hsp <;> first | cases hsp | skip
      rename_i e x' hu hx
      exact s_cap hs ho hd hx hu (hN d hd) h
    · rename_i x y t t' d ho hd
      split at hsp <;> first | (cases hsp; done) | skip
      · rename_i e kn hu hun
        split at hsp <;> first | (cases hsp; done) | skip
        rename_i ie zl x' y' hie hzl hx hy
        split at hsp <;> first | (cases hsp; done) | skip
        rename_i zd hzd
        split at hsp <;> first | (cases hsp; done) | skip
        rename_i hh
        cases hsp
        obtain ⟨i', v, h1, h2, h3⟩ := zcells_ok hzl
        rw [hie] at h1
        cases h1
        exact s_appZ hs hf ho hd hx hy hu hun hie h2 rfl rfl h3 (by rw [← hh.1]; exact (h3 κ w).1) hzd hh.2 (hN d hd) h
      · rename_i e hu _
        split at hsp
        · split at hsp <;> first | (cases hsp; done) | skip
          rename_i htt
          subst htt
          split at hsp <;> first | (cases hsp; done) | skip
          rename_i ie hie
          split at hsp <;> first | (cases hsp; done) | skip
          rename_i zv x' y' hz hx hy
          split at hsp <;> first | (cases hsp; done) | skip
          rename_i hh
          cases hsp
          exact s_appC hs hf ho hd hx hy hu hie rfl rfl hz hh.1 hh.2 (hN d hd) h
        · split at hsp <;> first | (cases hsp; done) | skip
          split at hsp <;> first | (cases hsp; done) | skip
          rename_i htt
          subst htt
          split at hsp <;> first | (cases hsp; done) | skip
          rename_i ie hie
          split at hsp <;> first | (cases hsp; done) | skip
          rename_i zv x' y' hz hx hy
          split at hsp <;> first | (cases hsp; done) | skip
          rename_i hh
          cases hsp
          exact s_appM hs hf ho hd hx hy hu hie rfl rfl hz hh.1 hh.2 (hN d hd) h
    · rename_i b t x y t2 d ho hd
      split at hsp <;> first | (cases hsp; done) | skip
      rename_i fs hu
      split at hsp <;> first | (cases hsp; done) | skip
      rename_i ng x' y' ks h1 h2 h3 h4 h5 h6
      cases hsp
      exact s_eqA hs ho hd h2 h3 h1 hu h4 h5 h6 (hN d hd) h
      split at hsp <;> first | (cases hsp; done) | skip
      rename_i fn ng x' y' h1 h2 h3 h4
      cases hsp
      exact s_eqP hs ho hd h3 h4 h2 h1 (hN d hd) h
    · rename_i t d ho hd
      split at hsp <;> first | (cases hsp; done) | skip
      cases hsp
      exact s_mkM hs hf ho hd (hN d hd) h
    · rename_i t x d ho hd
      split at hsp <;> first | (cases hsp; done) | skip
      rename_i x' hu hx
      cases hsp
      exact s_rngS hs hf ho hd hx hu (hN d hd) h
    · rename_i x d ho hd
      split at hsp <;> first | (cases hsp; done) | skip
      rename_i x' hx
      cases hsp
      exact s_nxtS hs ho hd hx (hN d hd) h
    · rename_i t x k d ho hd
      split at hsp <;> first | (cases hsp; done) | skip
      rename_i kt e hu
      split at hsp <;> first | (cases hsp; done) | skip
      rename_i ie zl x' k' hkt hie hzl hx hk
      split at hsp <;> first | (cases hsp; done) | skip
      rename_i cs zd hz hzd
      cases hsp
      obtain ⟨i', v, h1, h2, h3⟩ := zcells_ok hzl
      rw [hie] at h1
      cases h1
      rw [hz] at h2
      cases h2
      obtain ⟨c1, c2⟩ := cellsD_spec hzd
      refine s_lkM hs ho hd hx hk hu hkt hie hz (fun κ w => ?_) (hN d hd) h
      have hL := h3 κ w
      refine dcells_repL (by rw [c1]; exact hL.1) fun j dd hj => ?_
      have hjl : j < zl.length := by rw [← c1]; exact (List.getElem?_eq_some_iff.1 hj).1
      obtain ⟨dd', g1, g2⟩ := c2 j zl[j] (List.getElem?_eq_getElem hjl)
      rw [hj] at g1
      cases g1
      exact cellD_rep (hL.2.2 j _ (List.getElem?_eq_getElem hjl)) g2
    · rename_i t x k v ho hd
      split at hsp <;> first | (cases hsp; done) | skip
      rename_i kt e hu
      split at hsp <;> first | (cases hsp; done) | skip
      rename_i x' k' v' hkt hx hk hv
      cases hsp
      exact s_upM hs ho hd hx hk hv hu hkt h
    · cases hsp
  · exact eff_sound hcall hs hf hg hN h
end
end Go.Abs

namespace Go.Abs
open Go
def dstOK (d : Option Nat) (N : Nat) : Bool := match d with | some d => Nat.blt d N | none => true

def guardC (ops : Array Oper) : Option (Nat × Bool) → Option (Option (Nat × Bool))
  | none => some none
  | some (j, wt) => match (ops[j]?).bind (·.dst) with
    | some s => some (some (s, wt))
    | none => none

def compG (P : Program) (an : Ann) (N : Nat) (ops : Array Oper) (o : Oper) : Option GOp := match compO2 P an o, guardC ops o.guard with
  | some g, some gd => if dstOK o.dst N = true ∧ g.dst = o.dst then some ⟨gd, g⟩ else none
  | _, _ => none

theorem compG_spec {P : Program} {an : Ann} {N : Nat} {ops : Array Oper} {o : Oper} {g : GOp} (h : compG P an N ops o = some g) :
    compO2 P an o = some g.o ∧ (∀ d, o.dst = some d → d < N) ∧ g.o.dst = o.dst ∧
      ((o.guard = none ∧ g.g = none) ∨ ∃ j wt s, o.guard = some (j, wt) ∧ (ops[j]?).bind (·.dst) = some s ∧ g.g = some (s, wt)) := by
  unfold compG at h
  split at h
  · rename_i g' gd hg hgd
    split at h
    · rename_i hd
      cases h
      refine ⟨hg, fun d hd' => ?_, hd.2, ?_⟩
      · have := hd.1
        rw [hd'] at this
        simpa [dstOK, Nat.blt_eq] using this
      · cases hgu : o.guard with
        | none => rw [hgu] at hgd; simp [guardC] at hgd; exact .inl ⟨rfl, hgd.symm⟩
        | some p =>
          obtain ⟨j, wt⟩ := p
          rw [hgu] at hgd
          simp only [guardC] at hgd
          split at hgd
          · rename_i s hs
            cases hgd
            exact .inr ⟨j, wt, s, rfl, hs, rfl⟩
          · cases hgd
    · cases h
  · cases h

/-- is it wanted, as the log has it -/
def guardV (σ : Log) (g : Option (Nat × Bool)) : Option Bool := match g with
  | none => some true
  | some (n, w) => match ev σ (.t n) with
    | .sc (.b t) => some (t == w)
    | .tup _ => some false
    | _ => none

theorem guard_pick {σ : Log} {g : Option (Nat × Bool)} {A B : Log → Prop} (h : guard σ g A B) :
    ∃ σ', Same σ σ' ∧ ((guardV σ g = some true ∧ A σ') ∨ (guardV σ g = some false ∧ B σ')) := by
  unfold guard at h
  split at h
  · exact ⟨σ, fun _ => rfl, .inl ⟨rfl, h⟩⟩
  · rename_i n wt
    split at h
    · rename_i t ht
      have hl : ∀ b, t = b → look σ (.s n) = some (.av (.sc (.b b))) := by
        intro b hb
        subst hb
        simp only [ev] at ht
        split at ht
        · rename_i v hv; rw [hv, ht]
        · cases ht
      cases t with
      | true =>
        refine ⟨(.s n, .av (.sc (.b true))) :: σ, known (hl true rfl), ?_⟩
        cases wt with
        | true => exact .inl ⟨by simp only [guardV, ht]; rfl, h⟩
        | false => exact .inr ⟨by simp only [guardV, ht]; rfl, h⟩
      | false =>
        refine ⟨(.s n, .av (.sc (.b false))) :: σ, known (hl false rfl), ?_⟩
        cases wt with
        | true => exact .inr ⟨by simp only [guardV, ht]; rfl, h⟩
        | false => exact .inl ⟨by simp only [guardV, ht]; rfl, h⟩
    · rename_i l hl
      exact ⟨σ, fun _ => rfl, .inr ⟨by simp only [guardV, hl], h⟩⟩
    · exact h.elim

section
variable {P : Program} {W0 : World} {κ : Gh} {σ : Log} {a : Act} {w : World} {id : Nat} {call : CallP} {Q : Exit → Act → World → Prop} {N : Nat} {ops : Array Oper} {an : Ann}
theorem guard_real (hs : RepS W0 κ σ a w) {o : Oper} {g : GOp} (hg : compG P an N ops o = some g) {b : Bool} (hb : guardV σ g.g = some b) : Region.wanted o (yielded ops a.tmps) = b := by
  obtain ⟨_, _, _, h⟩ := compG_spec hg
  rcases h with ⟨h1, h2⟩ | ⟨j, wt, s, h1, h2, h3⟩
  · rw [h2] at hb
    simp only [guardV, Option.some.injEq] at hb
    simp [Region.wanted, h1, hb]
  · rw [h3] at hb
    simp only [guardV] at hb
    have hy : yielded ops a.tmps j = match a.tmps[s]? with | some (.bool b) => some b | _ => none := by
      unfold yielded
      rw [h2]
      rfl
    have hev : ∀ v, ev σ (.t s) = v → v ≠ .bad → RepV κ w v (a.tmps.getD s undef) := by
      intro v hv hn
      simp only [ev] at hv
      split at hv
      · rename_i u hu; rw [← hv]; exact hs.slots s u hu
      · exact absurd hv.symm hn
    split at hb
    · rename_i t ht
      have := (hev _ ht (by simp)).sc_inv
      simp only [Sc.val] at this
      have hs' : a.tmps[s]? = some (.bool t) := by
        rw [Array.getD_eq_getD_getElem?] at this
        cases hh : a.tmps[s]? with
        | none => rw [hh] at this; simp [undef] at this
        | some x => rw [hh] at this; simp at this; rw [this]
      cases hb
      simp [Region.wanted, h1, hy, hs']
    · rename_i l hl
      obtain ⟨vs, hv, _⟩ := (hev _ hl (by simp)).tup_inv
      cases hb
      have hs' : (match a.tmps[s]? with | some (Value.bool b) => some b | _ => none) = none := by
        rw [Array.getD_eq_getD_getElem?] at hv
        cases hh : a.tmps[s]? with
        | none => rfl
        | some x => rw [hh] at hv; simp at hv; rw [hv]
      simp [Region.wanted, h1, hy, hs']
    · cases hb

theorem undef_rep : RepV κ w (.tup []) undef := .tup [] #[] rfl fun j v h => by simp at h

theorem skip_rep (hs : RepS W0 κ σ a w) {d : Option Nat} (hd : ∀ d', d = some d' → d' < a.tmps.size) :
    RepS W0 κ (dstL d (.tup []) ++ σ) (a.put d undef) w ∧ Step κ σ w κ (dstL d (.tup []) ++ σ) w := by
  cases d with
  | none => exact ⟨hs, Step.refl _ _ _⟩
  | some d => exact ⟨hs.put (hd d rfl) undef_rep, Step.put⟩

/-- all ids are below n -/
structure Bel (κ : Gh) (n : Nat) : Prop where
  ge : 1000 ≤ n
  db : ∀ b, κ.Db b → b < n
  dt : ∀ k, κ.Dt k → k < n

theorem Bel.fresh {n : Nat} (h : Bel κ n) : Fresh κ n :=
  ⟨h.ge, fun b h1 _ hb => by have := h.db b hb; omega, fun b h1 _ hb => by have := h.dt b hb; omega⟩

theorem Bel.grow {κ' : Gh} {n : Nat} (h : Bel κ n) (g : Grow κ κ' n) : Bel κ' (n + 100) :=
  ⟨by have := h.ge; omega, fun b hb => by rcases g.db b hb with q | q; (have := h.db b q; omega); omega, fun b hb => by rcases g.dt b hb with q | q; (have := h.dt b q; omega); omega⟩

theorem Bel.more {n m : Nat} (h : Bel κ n) (hm : n ≤ m) : Bel κ m := ⟨Nat.le_trans h.ge hm, fun b hb => Nat.lt_of_lt_of_le (h.db b hb) hm, fun b hb => Nat.lt_of_lt_of_le (h.dt b hb) hm⟩

def compL (P : Program) (an : Ann) (N : Nat) (ops : Array Oper) : List Oper → Option (List GOp)
  | [] => some []
  | o :: r => match compG P an N ops o with
    | none => none
    | some g => match compL P an N ops r with
      | none => none
      | some gs => some (g :: gs)

theorem compL_spec : ∀ {l : List Oper} {gs : List GOp}, compL P an N ops l = some gs → gs.length = l.length ∧ ∀ (i : Nat) (o : Oper), l[i]? = some o → ∃ g, gs[i]? = some g ∧ compG P an N ops o = some g
  | [], gs, h => by simp [compL] at h; subst h; simp
  | o :: l, gs, h => by
    simp only [compL] at h
    split at h
    · cases h
    · rename_i g hg
      split at h
      · cases h
      · rename_i gs' hgs
        cases h
        obtain ⟨h1, h2⟩ := compL_spec hgs
        refine ⟨by simp [h1], fun i o' hi => ?_⟩
        cases i with
        | zero => simp at hi; subst hi; exact ⟨g, rfl, hg⟩
        | succ i => simpa using h2 i o' (by simpa using hi)

/-- in the text's order -/
theorem aops_sound (hG : ∀ g cells, an.gl g = some cells → GlobOK W0 g cells) (hcall : ∀ f args H res H', call f args H res H' → Ctr P W0 f args H res H') : ∀ (gs : List GOp) (l : List Oper) (k : Nat) (σ : Log) (κ : Gh) (a : Act) (w : World) (id : Nat) (K : Log → Prop),
    compL P an N ops l = some gs → (∀ j, l[j]? = ops[k + j]?) → RepS W0 κ σ a w → Bel κ id → a.tmps.size = N → aops call gs id σ K →
    (∀ σ' κ' a' w', K σ' → RepS W0 κ' σ' a' w' → Step κ σ w κ' σ' w' → a'.tmps.size = N → Bel κ' (id + 100 * gs.length) → Q .normal a' w') →
    wpOps P ops Q (List.range' k l.length) a w
  | [], l, k, σ, κ, a, w, id, K, hl, hk, hs, hb, hN, h, hQ => by
    have := (compL_spec hl).1
    have hl0 : l = [] := List.eq_nil_of_length_eq_zero (by simpa using this.symm)
    subst hl0
    exact hQ σ κ a w h hs (Step.refl _ _ _) hN (by simpa using hb)
  | g :: gs, [], k, σ, κ, a, w, id, K, hl, hk, hs, hb, hN, h, hQ => by simp [compL] at hl
  | g :: gs, o :: l, k, σ, κ, a, w, id, K, hl, hk, hs, hb, hN, h, hQ => by
    have ho : ops[k]? = some o := by have := hk 0; simpa using this.symm
    simp only [compL] at hl
    split at hl
    · cases hl
    · rename_i g' hg
      split at hl
      · cases hl
      · rename_i gs' hgs
        cases hl
        obtain ⟨c1, c2, c3, _⟩ := compG_spec hg
        rw [List.length_cons, List.range'_succ, wpOps_cons]
        simp only [aops] at h
        obtain ⟨σ1, hsame, h⟩ := guard_pick h
        have hs1 := hs.same hsame
        have hd : ∀ d', o.dst = some d' → d' < a.tmps.size := fun d' h' => by rw [hN]; exact c2 d' h'
        have next : ∀ (σ' : Log) (κ' : Gh) (a' : Act) (w' : World), RepS W0 κ' σ' a' w' → Step κ σ1 w κ' σ' w' → a'.tmps.size = N → Bel κ' (id + 100) → aops call gs (id + 100) σ' K → wpOps P ops Q (List.range' (k + 1) l.length) a' w' := by
          intro σ' κ' a' w' r s n b hh
          refine aops_sound hG hcall gs l (k + 1) σ' κ' a' w' (id + 100) K hgs (fun j => by have := hk (j + 1); rw [show k + 1 + j = k + (j + 1) by omega]; simpa using this) r b n hh ?_
          intro σ'' κ'' a'' w'' hK r' s' n' b'
          refine hQ σ'' κ'' a'' w'' hK r' ?_ n' (b'.more (by simp; omega))
          exact Step.trans (Step.same (σ := σ1) (σ' := σ') (τ := σ) (τ' := σ') (fun l => (hsame l).symm) (fun _ => rfl) s) s'
        unfold wpOp
        rw [ho]
        simp only
        rcases h with ⟨hv, h⟩ | ⟨hv, h⟩
        · rw [guard_real hs hg hv, if_pos rfl]
          refine .inl ((Oper.wp_mono ?_ (eff_sound2 (Q := Q) hG hcall hs1 hb.fresh c1 hd h)))
          rintro a' w' ⟨δ, κ', hF, r, s, n, gr⟩
          exact next _ κ' a' w' r s (n.trans hN) (hb.grow gr) hF
        · rw [guard_real hs hg hv]
          simp only [Bool.false_eq_true, if_false]
          rw [c3] at h
          obtain ⟨r, s⟩ := skip_rep hs1 hd
          exact next _ κ _ w r s (put_size.trans hN) (hb.more (by omega)) h

/- whatever order -/
def lay (δ : Nat → Log) (σ : Log) (l : List Nat) : Log := l.foldl (fun s i => δ i ++ s) σ

theorem lay_congr {δ : Nat → Log} {loc : Loc} : ∀ {l : List Nat} {σ σ' : Log}, look σ loc = look σ' loc → look (lay δ σ l) loc = look (lay δ σ' l) loc
  | [], σ, σ', h => h
  | i :: l, σ, σ', h => by
    simp only [lay, List.foldl_cons]
    refine lay_congr (l := l) ?_
    rw [look_append, look_append, h]

theorem lay_filter {δ : Nat → Log} {loc : Loc} {p : Nat → Bool} : ∀ {l : List Nat} {σ : Log}, (∀ i, i ∈ l → p i = false → look (δ i) loc = none) → look (lay δ σ l) loc = look (lay δ σ (l.filter p)) loc
  | [], σ, _ => rfl
  | i :: l, σ, h => by
    have ih : ∀ σ, look (lay δ σ l) loc = look (lay δ σ (l.filter p)) loc := fun σ => lay_filter fun j hj => h j (by simp [hj])
    by_cases hp : p i = true
    · rw [List.filter_cons_of_pos hp]
      simp only [lay, List.foldl_cons]
      exact ih _
    · have hp' : p i = false := by simpa using hp
      rw [List.filter_cons_of_neg hp]
      have : look (lay δ σ (i :: l)) loc = look (lay δ (δ i ++ σ) l) loc := rfl
      rw [this]
      have e : look (δ i ++ σ) loc = look σ loc := by rw [look_append, h i (by simp) hp']
      rw [lay_congr e]
      exact ih σ

theorem lay_snoc {δ : Nat → Log} {σ : Log} {l : List Nat} {i : Nat} : lay δ σ (l ++ [i]) = δ i ++ lay δ σ l := by
  simp [lay, List.foldl_append]

/-- does operation i write there -/
def wr (δ : Nat → Log) (loc : Loc) (i : Nat) : Bool := (look (δ i) loc).isSome

theorem wr_none {δ : Nat → Log} {loc : Loc} {i : Nat} (h : wr δ loc i = false) : look (δ i) loc = none := by
  unfold wr at h
  cases hh : look (δ i) loc with
  | none => rfl
  | some c => rw [hh] at h; cases h

theorem filter_range_lt (n i : Nat) (hi : i ≤ n) : List.range i = (List.range n).filter (fun k => decide (k < i)) := by
  induction n with
  | zero => have : i = 0 := by omega
            subst this; rfl
  | succ n ih =>
    rw [List.range_succ, List.filter_append]
    by_cases h : i ≤ n
    · rw [← ih h]
      have : ¬ n < i := by omega
      simp [this]
    · have : i = n + 1 := by omega
      subst this
      have h1 : (List.range n).filter (fun k => decide (k < n + 1)) = List.range n := List.filter_eq_self.2 fun k hk => by
        have := List.mem_range.1 hk; simp; omega
      rw [h1, List.range_succ]; simp

/-- the log when the operations of S have run -/
def runS (δ : Nat → Log) (σ : Log) (n : Nat) (S : Nat → Bool) : Log := lay δ σ ((List.range n).filter S)

theorem look_runS (δ : Nat → Log) (σ : Log) (n : Nat) (S : Nat → Bool) (loc : Loc) : look (runS δ σ n S) loc = look (lay δ σ ((List.range n).filter fun k => S k && wr δ loc k)) loc := by
  unfold runS
  rw [lay_filter (p := wr δ loc) fun i _ h => wr_none h, List.filter_filter]
  congr 2
  apply List.filter_congr
  intro k _
  exact Bool.and_comm _ _

theorem look_runS_congr {δ : Nat → Log} {σ : Log} {n : Nat} {S T : Nat → Bool} {loc : Loc} (h : ∀ k, k < n → wr δ loc k = true → S k = T k) : look (runS δ σ n S) loc = look (runS δ σ n T) loc := by
  rw [look_runS, look_runS]
  congr 2
  apply List.filter_congr
  intro k hk
  cases hw : wr δ loc k with
  | false => simp
  | true => rw [h k (List.mem_range.1 hk) hw]

theorem runS_lt {δ : Nat → Log} {σ : Log} {n i : Nat} (hi : i ≤ n) : runS δ σ n (fun k => decide (k < i)) = lay δ σ (List.range i) := by
  unfold runS; rw [← filter_range_lt n i hi]

/-- one operation more, where none behind it writes the same place before it -/
theorem runS_add {δ : Nat → Log} {σ : Log} {n i : Nat} (hi : i < n) {S : Nat → Bool} (hlast : ∀ loc k, k < n → S k = true → wr δ loc i = true → wr δ loc k = true → k < i) :
    Same (δ i ++ runS δ σ n S) (runS δ σ n fun k => S k || decide (k = i)) := by
  intro loc
  rw [look_append]
  cases hw : wr δ loc i with
  | false =>
    rw [wr_none hw]
    simp only
    refine look_runS_congr fun k _ hk => ?_
    have : ¬ k = i := fun e => by rw [e, hw] at hk; cases hk
    simp [this]
  | true =>
    obtain ⟨c, hc⟩ : ∃ c, look (δ i) loc = some c := Option.isSome_iff_exists.1 hw
    rw [hc]
    simp only
    rw [look_runS]
    have e : ((List.range n).filter fun k => (S k || decide (k = i)) && wr δ loc k) = ((List.range i).filter fun k => (S k || decide (k = i)) && wr δ loc k) ++ [i] := by
      obtain ⟨m, rfl⟩ : ∃ m, n = i + 1 + m := ⟨n - i - 1, by omega⟩
      have hr : List.range (i + 1 + m) = List.range i ++ [i] ++ (List.range m).map (i + 1 + ·) := by rw [List.range_add, List.range_succ]
      rw [hr, List.filter_append, List.filter_append]
      have h1 : ([i].filter fun k => (S k || decide (k = i)) && wr δ loc k) = [i] := by simp [hw]
      have h2 : (((List.range m).map (i + 1 + ·)).filter fun k => (S k || decide (k = i)) && wr δ loc k) = [] := by
        rw [List.filter_eq_nil_iff]
        intro k hk
        obtain ⟨j, hj, rfl⟩ := List.mem_map.1 hk
        have hjm := List.mem_range.1 hj
        have hne : ¬ i + 1 + j = i := by omega
        simp only [hne, decide_false, Bool.or_false, Bool.and_eq_true, not_and]
        intro hSk hwk
        have := hlast loc _ (by omega) hSk hw hwk
        omega
      rw [h1, h2, List.append_nil]
    rw [e, lay_snoc, look_append, hc]
end
end Go.Abs
