/- A call: the callee's view of the world, and the way back. -/
import Derived.Test.YthmcdebdkbhbmaaGreatDoorMa
import Derived.Test.YthmcdebdkbhbmaaGreatDoorB9
import Derived.LoopN
import Derived.KernelRfl
namespace Go.Abs
open Go
theorem inL1_spec {nb nt : Nat} : ∀ {l : List AV}, inL1 nb nt l = true → ∀ v, v ∈ l → in1 nb nt v = true
  | [], _, v, h => by cases h
  | x :: r, h, v, hv => by
    simp only [inL1] at h
    split at h
    · rename_i hx
      rcases List.mem_cons.1 hv with rfl | hv
      · exact hx
      · exact inL1_spec h v hv
    · cases h
theorem inL2_spec {nb nt : Nat} : ∀ {l : List AV}, inL2 nb nt l = true → ∀ v, v ∈ l → in2 nb nt v = true
  | [], _, v, h => by cases h
  | x :: r, h, v, hv => by
    simp only [inL2] at h
    split at h
    · rename_i hx
      rcases List.mem_cons.1 hv with rfl | hv
      · exact hx
      · exact inL2_spec h v hv
    · cases h
theorem inH_spec {nb nt : Nat} : ∀ {l : List (List AV)}, inH nb nt l = true → ∀ v, v ∈ l → inL2 nb nt v = true
  | [], _, v, h => by cases h
  | x :: r, h, v, hv => by
    simp only [inH] at h
    split at h
    · rename_i hx
      rcases List.mem_cons.1 hv with rfl | hv
      · exact hx
      · exact inH_spec h v hv
    · cases h

/-- what is known of two ghost states whose ids are renamed -/
structure Ren (κ κ' : Gh) (fb ft : Nat → Nat) (nb nt : Nat) : Prop where
  I_ : ∀ b o, κ.I b o → κ'.I b o
  db : ∀ b, b < nb → κ.Db b → κ'.Db (fb b) ∧ κ'.ι (fb b) = κ.ι b
  dt : ∀ k, k < nt → κ.Dt k → κ'.Dt (ft k) ∧ κ'.τ (ft k) = κ.τ k

section ren
variable {κ κ' : Gh} {w : World} {bs ts : List Nat} {id nb nt : Nat}
theorem RepV.ren1 (h : Ren κ κ' (rb bs id) (rb ts id) nb nt) {v : AV} {x : Value} (hv : RepV κ w v x) (hi : in1 nb nt v = true) : RepV κ' w (ren1 bs ts id v) x := by
  cases hv with
  | sc c => exact .sc c
  | sl sz els t x hd ht =>
    have hd' := hd.mono (w' := w) h.I_ (fun _ _ _ => rfl)
    cases t with
    | none => exact .sl sz els _ x hd' trivial
    | full => exact .sl sz els _ x hd' ht
    | t k =>
      have hk : k < nt := by simpa [in1, Nat.blt_eq] using hi
      obtain ⟨g1, g2⟩ := h.dt k hk ht.1
      exact .sl sz els _ x hd' ⟨g1, fun a n c e l => g2.trans (ht.2 a n c e l)⟩
  | ptr b o hb =>
    have hk : b < nb := by simpa [in1, Nat.blt_eq] using hi
    obtain ⟨g1, g2⟩ := h.db b hk hb
    rw [← g2]
    exact .ptr _ o g1
  | elp cells o b q hc =>
    refine .elp cells o b q fun j d hj => ?_
    obtain ⟨c, h1, h2, h3⟩ := hc j d hj
    exact ⟨c, h.I_ _ _ h1, h2, h3.mono h.I_ (fun _ _ _ => rfl)⟩
  | mx sz els b n t off cap hd ho hn hh ht =>
    have hh' := hh.mono (w' := w) h.I_ (fun _ _ _ => rfl)
    cases t with
    | none =>
      have hk : b < nb := by simpa [in1, Nat.blt_eq] using hi
      obtain ⟨g1, g2⟩ := h.db b hk hd
      rw [← g2] at ho hh' ⊢
      exact .mx sz els _ n _ off cap g1 ho hn hh' trivial
    | full =>
      have hk : b < nb := by simpa [in1, Nat.blt_eq] using hi
      obtain ⟨g1, g2⟩ := h.db b hk hd
      rw [← g2] at ho hh' ht ⊢
      exact .mx sz els _ n _ off cap g1 ho hn hh' ht
    | t k =>
      have hkk : k < nt ∧ b < nb := by
        simp only [in1] at hi
        split at hi
        · rename_i h1; exact ⟨by simpa [Nat.blt_eq] using h1, by simpa [Nat.blt_eq] using hi⟩
        · cases hi
      obtain ⟨g1, g2⟩ := h.db b hkk.2 hd
      obtain ⟨q1, q2⟩ := h.dt k hkk.1 ht.1
      rw [← g2] at ho hh' ht ⊢
      exact .mx sz els _ n _ off cap g1 ho hn hh' ⟨q1, fun a n c e l => q2.trans (ht.2 a n c e l)⟩
  | mr b hb =>
    have hk : b < nb := by simpa [in1, Nat.blt_eq] using hi
    obtain ⟨g1, g2⟩ := h.db b hk hb
    rw [← g2]
    exact .mr _ g1
  | fn => cases hi
  | agg => cases hi
  | tup => cases hi
  | bad => cases hi

theorem one_ren1 {v : AV} : one (ren1 bs ts id v) = one v := by
  cases v <;> try rfl
  all_goals (rename_i t; cases t <;> rfl)

theorem BoxR.map {κ κ' : Gh} {w : World} {p : Nat × Nat} {es : List (Int × List Data)} (hI : ∀ b o, κ.I b o → κ'.I b o) (hl : BoxR κ w p [.mpv es]) : BoxR κ' w p [.mpv es] := by
  rcases hl with ⟨h0, _⟩ | ⟨es', E, c, h1, h2, h3, h4⟩
  · cases h0
  · cases h1
    exact .inr ⟨es, E, c, rfl, h2, h3, h4.mono hI fun _ _ _ => rfl⟩
theorem one_ren2 {v : AV} : one (ren2 bs ts id v) = one v := by
  cases v <;> try rfl
  all_goals (rename_i t; cases t <;> rfl)

theorem RepV.ren2 (h : Ren κ κ' (rb bs id) (rb ts id) nb nt) {v : AV} {x : Value} (hv : RepV κ w v x) (hi : in2 nb nt v = true) : RepV κ' w (ren2 bs ts id v) x := by
  cases hv with
  | fn f caps vs hs hc =>
    refine .fn f _ vs (by simpa using hs) fun j v hj => ?_
    rw [List.getElem?_map] at hj
    cases hu : caps[j]? with
    | none => simp [hu] at hj
    | some u =>
      simp [hu] at hj
      subst hj
      exact (hc j u hu).ren1 h (inL1_spec hi u (List.mem_of_getElem? hu))
  | agg l vs hs h1 hc =>
    refine .agg _ vs (by simpa using hs) ?_ fun j v hj => ?_
    · intro v hv
      obtain ⟨u, hu, rfl⟩ := List.mem_map.1 hv
      rw [one_ren1]; exact h1 u hu
    · rw [List.getElem?_map] at hj
      cases hu : l[j]? with
      | none => simp [hu] at hj
      | some u =>
        simp [hu] at hj
        subst hj
        exact (hc j u hu).ren1 h (inL1_spec hi u (List.mem_of_getElem? hu))
  | sc c => exact RepV.ren1 h (.sc c) hi
  | sl sz els t x hd ht => exact RepV.ren1 h (.sl sz els t x hd ht) hi
  | ptr b o hb => exact RepV.ren1 h (.ptr b o hb) hi
  | elp cells o b q hc => exact RepV.ren1 h (.elp cells o b q hc) hi
  | mx sz els b n t off cap hd ho hn hh ht => exact RepV.ren1 h (.mx sz els b n t off cap hd ho hn hh ht) hi
  | mr b hb => exact RepV.ren1 h (.mr b hb) hi
  | tup => cases hi
  | bad => cases hi

theorem RepV.ren (h : Ren κ κ' (rb bs id) (rb ts id) nb nt) {v : AV} {x : Value} (hv : RepV κ w v x) (hi : inR nb nt v = true) : RepV κ' w (ren bs ts id v) x := by
  by_cases ht : ∃ l, v = .tup l
  · obtain ⟨l, rfl⟩ := ht
    obtain ⟨vs, rfl, hs, hc⟩ := hv.tup_inv
    refine .tup _ vs (by simpa using hs) fun j v hj => ?_
    rw [List.getElem?_map] at hj
    cases hu : l[j]? with
    | none => simp [hu] at hj
    | some u =>
      simp [hu] at hj
      subst hj
      exact (hc j u hu).ren2 h (inL2_spec hi u (List.mem_of_getElem? hu))
  · have e1 : Abs.ren bs ts id v = Abs.ren2 bs ts id v := by cases v <;> first | rfl | exact absurd ⟨_, rfl⟩ ht
    have e2 : inR nb nt v = in2 nb nt v := by cases v <;> first | rfl | exact absurd ⟨_, rfl⟩ ht
    rw [e1]; rw [e2] at hi
    exact hv.ren2 h hi

theorem RepL.ren2 (h : Ren κ κ' (rb bs id) (rb ts id) nb nt) {l : List AV} {C : Array Value} (hl : RepL κ w l C) (hi : inL2 nb nt l = true) : RepL κ' w (l.map (Abs.ren2 bs ts id)) C := by
  refine ⟨by simpa using hl.1, ?_, fun j v hj => ?_⟩
  · intro v hv
    obtain ⟨u, hu, rfl⟩ := List.mem_map.1 hv
    rw [one_ren2]; exact hl.2.1 u hu
  · rw [List.getElem?_map] at hj
    cases hu : l[j]? with
    | none => simp [hu] at hj
    | some u =>
      simp [hu] at hj
      subst hj
      exact (hl.2.2 j u hu).ren2 h (inL2_spec hi u (List.mem_of_getElem? hu))

theorem RepC.ren2 (h : Ren κ κ' (rb bs id) (rb ts id) nb nt) {l : List AV} {C : Array Value} {o : Nat} (hl : RepC κ w l C o) (hi : inL2 nb nt l = true) : RepC κ' w (l.map (Abs.ren2 bs ts id)) C o := by
  have h1 := repC_iff.1 hl
  refine repC_iff.2 ⟨by simpa using h1.1, ?_⟩
  rw [List.length_map]
  exact h1.2.ren2 h hi

end ren
section wk
variable {κ : Gh} {w : World}
theorem RepV.wk1 {v u : AV} {x : Value} (hv : RepV κ w v x) (h : wk1 v u) : RepV κ w u x ∧ one u = one v := by
  unfold Abs.wk1 at h
  split at h
  · obtain ⟨rfl, rfl, ht⟩ := h
    obtain ⟨h1, h2⟩ := hv.sl_inv
    rcases ht with rfl | rfl
    · exact ⟨.sl _ _ _ _ h1 trivial, rfl⟩
    · exact ⟨hv, rfl⟩
  · obtain ⟨rfl, rfl, rfl, rfl, ht⟩ := h
    obtain ⟨off, cap, h1, h2, h3, h4, h5, rfl⟩ := hv.mx_inv
    rcases ht with rfl | rfl
    · exact ⟨.mx _ _ _ _ _ off cap h1 h2 h3 h4 trivial, rfl⟩
    · exact ⟨hv, rfl⟩
  · subst h; exact ⟨hv, rfl⟩

theorem wkL1_spec : ∀ {l m : List AV}, wkL1 l m → m.length = l.length ∧ ∀ (j : Nat) (u : AV), m[j]? = some u → ∃ v, l[j]? = some v ∧ wk1 v u
  | [], [], _ => ⟨rfl, fun j u h => by simp at h⟩
  | x :: l, y :: m, h => by
    obtain ⟨h1, h2⟩ := h
    obtain ⟨g1, g2⟩ := wkL1_spec h2
    refine ⟨by simp [g1], fun j u hj => ?_⟩
    cases j with
    | zero => simp at hj; subst hj; exact ⟨x, rfl, h1⟩
    | succ j => simpa using g2 j u (by simpa using hj)
  | [], _ :: _, h => h.elim
  | _ :: _, [], h => h.elim

theorem RepV.wk2 {v u : AV} {x : Value} (hv : RepV κ w v x) (h : wk2 v u) : RepV κ w u x ∧ one u = one v := by
  unfold Abs.wk2 at h
  split at h
  · obtain ⟨rfl, h⟩ := h
    obtain ⟨vs, rfl, hs, hc⟩ := hv.fn_inv
    obtain ⟨g1, g2⟩ := wkL1_spec h
    refine ⟨.fn _ _ vs (by rw [hs, g1]) fun j u hj => ?_, rfl⟩
    obtain ⟨v, h1, h2⟩ := g2 j u hj
    exact ((hc j v h1).wk1 h2).1
  · obtain ⟨vs, rfl, hl⟩ := hv.agg_inv
    obtain ⟨g1, g2⟩ := wkL1_spec h
    refine ⟨.agg _ vs (by rw [hl.1, g1]) ?_ fun j u hj => ?_, rfl⟩
    · intro u hu
      obtain ⟨j, hj⟩ := List.mem_iff_getElem?.1 hu
      obtain ⟨v, h1, h2⟩ := g2 j u hj
      rw [((hl.2.2 j v h1).wk1 h2).2]
      exact hl.2.1 v (List.mem_of_getElem? h1)
    · obtain ⟨v, h1, h2⟩ := g2 j u hj
      exact ((hl.2.2 j v h1).wk1 h2).1
  · exact hv.wk1 h

theorem wkL2_spec : ∀ {l m : List AV}, wkL2 l m → m.length = l.length ∧ ∀ (j : Nat) (u : AV), m[j]? = some u → ∃ v, l[j]? = some v ∧ wk2 v u
  | [], [], _ => ⟨rfl, fun j u h => by simp at h⟩
  | x :: l, y :: m, h => by
    obtain ⟨h1, h2⟩ := h
    obtain ⟨g1, g2⟩ := wkL2_spec h2
    refine ⟨by simp [g1], fun j u hj => ?_⟩
    cases j with
    | zero => simp at hj; subst hj; exact ⟨x, rfl, h1⟩
    | succ j => simpa using g2 j u (by simpa using hj)
  | [], _ :: _, h => h.elim
  | _ :: _, [], h => h.elim

theorem RepL.wk {l m : List AV} {C : Array Value} (hl : RepL κ w l C) (h : wkL2 l m) : RepL κ w m C := by
  obtain ⟨g1, g2⟩ := wkL2_spec h
  refine ⟨by rw [hl.1, g1], ?_, fun j u hj => ?_⟩
  · intro u hu
    obtain ⟨j, hj⟩ := List.mem_iff_getElem?.1 hu
    obtain ⟨v, h1, h2⟩ := g2 j u hj
    rw [((hl.2.2 j v h1).wk2 h2).2]
    exact hl.2.1 v (List.mem_of_getElem? h1)
  · obtain ⟨v, h1, h2⟩ := g2 j u hj
    exact ((hl.2.2 j v h1).wk2 h2).1
end wk
theorem RepC.wk {κ : Gh} {w : World} {l m : List AV} {C : Array Value} {o : Nat} (hl : RepC κ w l C o) (h : wkL2 l m) : RepC κ w m C o := by
  have h1 := repC_iff.1 hl
  have h2 := (wkL2_spec h).1
  refine repC_iff.2 ⟨by rw [h2]; exact h1.1, ?_⟩
  rw [h2]
  exact h1.2.wk h

theorem BoxR.ren2 {κ κ' : Gh} {w : World} {bs ts : List Nat} {id nb nt : Nat} (h : Ren κ κ' (rb bs id) (rb ts id) nb nt) {l : List AV} {p : Nat × Nat} (hl : BoxR κ w p l) (hi : inL2 nb nt l = true) : BoxR κ' w p (l.map (Abs.ren2 bs ts id)) := by
  cases hm : isM l with
  | false =>
    obtain ⟨C, ty, h1, h2⟩ := hl.row hm
    exact .of h1 (h2.ren2 h hi)
  | true =>
    obtain ⟨es, rfl⟩ := isM_iff.1 hm
    exact hl.map h.I_

/- the callee's spelling, got from the caller's -/
section unren
variable {κ κc : Gh} {w : World} {bs ts : List Nat} {id : Nat}
structure Un (κ κc : Gh) (bs ts : List Nat) : Prop where
  I_ : ∀ b o, κ.I b o → κc.I b o
  db : ∀ b x, bs[b]? = some x → κ.Db x → κc.Db b ∧ κc.ι b = κ.ι x
  dt : ∀ k x, ts[k]? = some x → κ.Dt x → κc.Dt k ∧ κc.τ k = κ.τ x

theorem RepV.un1 (h : Un κ κc bs ts) {v : AV} {x : Value} (hi : in1 bs.length ts.length v = true) (hv : RepV κ w (Abs.ren1 bs ts id v) x) : RepV κc w v x := by
  cases v with
  | sc c => rw [hv.sc_inv]; exact .sc c
  | sl sz els t =>
    cases t with
    | none =>
      obtain ⟨h1, _⟩ := hv.sl_inv
      exact .sl sz els _ x (h1.mono h.I_ fun _ _ _ => rfl) trivial
    | full =>
      obtain ⟨h1, h2⟩ := hv.sl_inv
      exact .sl sz els _ x (h1.mono h.I_ fun _ _ _ => rfl) h2
    | t k =>
      have hk : k < ts.length := by simpa [in1, Nat.blt_eq] using hi
      have e : ts[k]? = some ts[k] := List.getElem?_eq_getElem hk
      simp only [Abs.ren1, rb, e] at hv
      obtain ⟨h1, h2⟩ := hv.sl_inv
      obtain ⟨g1, g2⟩ := h.dt k _ e h2.1
      exact .sl sz els _ x (h1.mono h.I_ fun _ _ _ => rfl) ⟨g1, fun a n c e l => g2.trans (h2.2 a n c e l)⟩
  | ptr b o =>
    have hk : b < bs.length := by simpa [in1, Nat.blt_eq] using hi
    have e : bs[b]? = some bs[b] := List.getElem?_eq_getElem hk
    simp only [Abs.ren1, rb, e] at hv
    obtain ⟨h1, h2⟩ := hv.ptr_inv
    obtain ⟨g1, g2⟩ := h.db b _ e h1
    rw [h2, ← g2]
    exact .ptr b o g1
  | elp cells o =>
    obtain ⟨b, q, e, hc⟩ := hv.elp_inv
    rw [e]
    refine .elp cells o b q fun j d hj => ?_
    obtain ⟨c, h1, h2, h3⟩ := hc j d hj
    exact ⟨c, h.I_ _ _ h1, h2, h3.mono h.I_ fun _ _ _ => rfl⟩
  | mx sz els b n t =>
    cases t with
    | none =>
      have hk : b < bs.length := by simpa [in1, Nat.blt_eq] using hi
      have e : bs[b]? = some bs[b] := List.getElem?_eq_getElem hk
      simp only [Abs.ren1, rb, e] at hv
      obtain ⟨off, cap, h1, h2, h3, h4, h5, rfl⟩ := hv.mx_inv
      obtain ⟨g1, g2⟩ := h.db b _ e h1
      have h4 := h4.mono (w' := w) h.I_ fun _ _ _ => rfl
      rw [← g2] at h2 h4 ⊢
      exact .mx sz els b n _ off cap g1 h2 h3 h4 trivial
    | full =>
      have hk : b < bs.length := by simpa [in1, Nat.blt_eq] using hi
      have e : bs[b]? = some bs[b] := List.getElem?_eq_getElem hk
      simp only [Abs.ren1, rb, e] at hv
      obtain ⟨off, cap, h1, h2, h3, h4, h5, rfl⟩ := hv.mx_inv
      obtain ⟨g1, g2⟩ := h.db b _ e h1
      have h4 := h4.mono (w' := w) h.I_ fun _ _ _ => rfl
      rw [← g2] at h2 h4 h5 ⊢
      exact .mx sz els b n _ off cap g1 h2 h3 h4 h5
    | t k =>
      have hkk : k < ts.length ∧ b < bs.length := by
        simp only [in1] at hi
        split at hi
        · rename_i h1; exact ⟨by simpa [Nat.blt_eq] using h1, by simpa [Nat.blt_eq] using hi⟩
        · cases hi
      have e : bs[b]? = some bs[b] := List.getElem?_eq_getElem hkk.2
      have e' : ts[k]? = some ts[k] := List.getElem?_eq_getElem hkk.1
      simp only [Abs.ren1, rb, e, e'] at hv
      obtain ⟨off, cap, h1, h2, h3, h4, h5, rfl⟩ := hv.mx_inv
      obtain ⟨g1, g2⟩ := h.db b _ e h1
      obtain ⟨q1, q2⟩ := h.dt k _ e' h5.1
      have h4 := h4.mono (w' := w) h.I_ fun _ _ _ => rfl
      rw [← g2] at h2 h4 h5 ⊢
      exact .mx sz els b n _ off cap g1 h2 h3 h4 ⟨q1, fun a n c e l => q2.trans (h5.2 a n c e l)⟩
  | mr b =>
    have hk : b < bs.length := by simpa [in1, Nat.blt_eq] using hi
    have e : bs[b]? = some bs[b] := List.getElem?_eq_getElem hk
    simp only [Abs.ren1, rb, e] at hv
    obtain ⟨h1, h2⟩ := hv.mr_inv
    obtain ⟨g1, g2⟩ := h.db b _ e h1
    rw [h2, ← g2]
    exact .mr b g1
  | mpv es => cases hv
  | fn => cases hi
  | agg => cases hi
  | tup => cases hi
  | bad => cases hi

theorem RepV.un2 (h : Un κ κc bs ts) {v : AV} {x : Value} (hi : in2 bs.length ts.length v = true) (hv : RepV κ w (Abs.ren2 bs ts id v) x) : RepV κc w v x := by
  cases v with
  | fn f caps =>
    obtain ⟨vs, e, hs, hc⟩ := hv.fn_inv
    rw [e]
    refine .fn f caps vs (by simpa using hs) fun j u hj => ?_
    exact (hc j _ (by rw [List.getElem?_map, hj]; rfl)).un1 h (inL1_spec hi u (List.mem_of_getElem? hj))
  | agg l =>
    obtain ⟨vs, e, hl⟩ := hv.agg_inv
    rw [e]
    refine .agg l vs (by simpa using hl.1) ?_ fun j u hj => ?_
    · intro u hu
      have := hl.2.1 _ (List.mem_map_of_mem (f := Abs.ren1 bs ts id) hu)
      rwa [one_ren1] at this
    · exact (hl.2.2 j _ (by rw [List.getElem?_map, hj]; rfl)).un1 h (inL1_spec hi u (List.mem_of_getElem? hj))
  | sc c => exact RepV.un1 (id := id) h hi hv
  | sl z e t => exact RepV.un1 (id := id) h hi hv
  | ptr b o => exact RepV.un1 (id := id) h hi hv
  | elp c o => exact RepV.un1 (id := id) h hi hv
  | mx z e b n t => exact RepV.un1 (id := id) h hi hv
  | mr b => exact RepV.un1 (id := id) h hi hv
  | mpv es => cases hv
  | tup => cases hi
  | bad => cases hi

theorem RepL.un (h : Un κ κc bs ts) {l : List AV} {C : Array Value} (hi : inL2 bs.length ts.length l = true) (hl : RepL κ w (l.map (Abs.ren2 bs ts id)) C) : RepL κc w l C := by
  refine ⟨by simpa using hl.1, ?_, fun j u hj => ?_⟩
  · intro u hu
    have := hl.2.1 _ (List.mem_map_of_mem (f := Abs.ren2 bs ts id) hu)
    rwa [one_ren2] at this
  · exact (hl.2.2 j _ (by rw [List.getElem?_map, hj]; rfl)).un2 h (inL2_spec hi u (List.mem_of_getElem? hj))

theorem RepC.un (h : Un κ κc bs ts) {l : List AV} {C : Array Value} {o : Nat} (hi : inL2 bs.length ts.length l = true) (hl : RepC κ w (l.map (Abs.ren2 bs ts id)) C o) : RepC κc w l C o := by
  have h1 := repC_iff.1 hl
  simp only [List.length_map] at h1
  exact repC_iff.2 ⟨h1.1, h1.2.un h hi⟩

theorem ren2_mpv {v : AV} {es : List (Int × List Data)} (h : Abs.ren2 bs ts id v = .mpv es) : v = .mpv es := by
  cases v with
  | sl z e t => cases t <;> cases h
  | mx z e b n t => cases t <;> cases h
  | mpv es' => exact h
  | sc | ptr | elp | fn | agg | tup | mr | bad => cases h
theorem isM_ren {l : List AV} : isM (l.map (Abs.ren2 bs ts id)) = isM l := by
  cases h : isM l with
  | true => obtain ⟨es, rfl⟩ := isM_iff.1 h; rfl
  | false =>
    cases h2 : isM (l.map (Abs.ren2 bs ts id)) with
    | false => rfl
    | true =>
      obtain ⟨es, he⟩ := isM_iff.1 h2
      cases l with
      | nil => cases he
      | cons v r =>
        cases r with
        | nil =>
          simp only [List.map_cons, List.map_nil, List.cons.injEq, and_true] at he
          rw [ren2_mpv he] at h
          cases h
        | cons u r => simp at he
theorem BoxR.un (h : Un κ κc bs ts) {l : List AV} {p : Nat × Nat} (hi : inL2 bs.length ts.length l = true) (hl : BoxR κ w p (l.map (Abs.ren2 bs ts id))) : BoxR κc w p l := by
  cases hm : isM l with
  | false =>
    obtain ⟨C, ty, h1, h2⟩ := hl.row (by rw [isM_ren]; exact hm)
    exact .of h1 (h2.un h hi)
  | true =>
    obtain ⟨es, rfl⟩ := isM_iff.1 hm
    rcases hl with ⟨h0, _⟩ | ⟨es', E, c, h1, h2, h3, h4⟩
    · cases h0
    · cases h1
      exact .inr ⟨es, E, c, rfl, h2, h3, h4.mono h.I_ fun _ _ _ => rfl⟩

end unren
theorem BoxR.wk {κ : Gh} {w : World} {l m : List AV} {p : Nat × Nat} (hl : BoxR κ w p l) (h : wkL2 l m) : BoxR κ w p m := by
  cases hm : isM l with
  | false =>
    obtain ⟨C, ty, h1, h2⟩ := hl.row hm
    exact .of h1 (h2.wk h)
  | true =>
    obtain ⟨es, rfl⟩ := isM_iff.1 hm
    have hm2 : m = [.mpv es] := by
      cases m with
      | nil => exact h.elim
      | cons v r =>
        obtain ⟨h1, h2⟩ := h
        cases r with
        | nil =>
          have hv : AV.mpv es = v := by cases v <;> exact h1
          rw [hv]
        | cons u r => exact h2.elim
    rw [hm2]; exact hl

theorem nodupB_spec : ∀ {l : List Nat}, nodupB l = true → ∀ (i j x : Nat), l[i]? = some x → l[j]? = some x → i = j
  | [], _, i, j, x, h, _ => by simp at h
  | y :: r, h, i, j, x, hi, hj => by
    simp only [nodupB] at h
    split at h
    · cases h
    · rename_i hc
      have hn : ∀ k, r[k]? = some y → False := fun k hk => by
        have : r.contains y = true := List.contains_iff_mem.2 (List.mem_of_getElem? hk)
        rw [hc] at this; cases this
      cases i with
      | zero =>
        cases j with
        | zero => rfl
        | succ j => simp at hi hj; subst hi; exact (hn j hj).elim
      | succ i =>
        cases j with
        | zero => simp at hi hj; subst hj; exact (hn i hi).elim
        | succ j => rw [nodupB_spec h i j x (by simpa using hi) (by simpa using hj)]

theorem boxIs_spec {σ : Log} {bs0 ts : List Nat} {id : Nat} : ∀ {bs : List Nat} {H : List (List AV)}, boxIs σ bs0 ts id bs H → H.length = bs.length ∧
    ∀ (i : Nat) (h : List AV), H[i]? = some h → ∃ b l, bs[i]? = some b ∧ look σ (.b b) = some (.bx l) ∧ wkL2 l (h.map (ren2 bs0 ts id))
  | [], [], _ => ⟨rfl, fun i h hi => by simp at hi⟩
  | b :: bs, h :: H, hh => by
    obtain ⟨h1, h2⟩ := hh
    obtain ⟨g1, g2⟩ := boxIs_spec h2
    refine ⟨by simp [g1], fun i h' hi => ?_⟩
    cases i with
    | zero =>
      simp at hi; subst hi
      split at h1
      · rename_i l hl; exact ⟨b, l, rfl, hl, h1⟩
      · exact h1.elim
    | succ i => simpa using g2 i h' (by simpa using hi)
  | [], _ :: _, h => h.elim
  | _ :: _, [], h => h.elim

theorem liveAll_spec {σ : Log} : ∀ {ts : List Nat}, liveAll σ ts → ∀ k, k ∈ ts → look σ (.t k) = some (.tk true)
  | [], _, k, h => by cases h
  | x :: r, h, k, hk => by
    obtain ⟨h1, h2⟩ := h
    rcases List.mem_cons.1 hk with rfl | hk
    · split at h1
      · assumption
      · exact h1.elim
    · exact liveAll_spec h2 k hk

/- the look of the logs that calls lay -/
theorem look_initS : ∀ (l : List AV) (n m : Nat), look (initS n l) (.s m) = if n ≤ m then (l[m - n]?).map .av else none
  | [], n, m => by simp [initS, look]
  | v :: l, n, m => by
    rw [initS, look_cons, look_initS l (n + 1) m]
    by_cases h : n = m
    · subst h; simp
    · have e : (Loc.s n = Loc.s m) = False := by simp [h]
      simp only [e, if_false]
      by_cases h2 : n ≤ m
      · rw [if_pos h2, if_pos (by omega), show m - n = (m - (n + 1)) + 1 by omega]; simp
      · rw [if_neg h2, if_neg (by omega)]
theorem look_initS_b : ∀ (l : List AV) (n m : Nat), look (initS n l) (.b m) = none
  | [], n, m => rfl
  | v :: l, n, m => by rw [initS, look_cons, look_initS_b l]; simp
theorem look_initS_t : ∀ (l : List AV) (n m : Nat), look (initS n l) (.t m) = none
  | [], n, m => rfl
  | v :: l, n, m => by rw [initS, look_cons, look_initS_t l]; simp
theorem look_initB : ∀ (l : List (List AV)) (n m : Nat), look (initB n l) (.b m) = if n ≤ m then (l[m - n]?).map .bx else none
  | [], n, m => by simp [initB, look]
  | v :: l, n, m => by
    rw [initB, look_cons, look_initB l (n + 1) m]
    by_cases h : n = m
    · subst h; simp
    · have e : (Loc.b n = Loc.b m) = False := by simp [h]
      simp only [e, if_false]
      by_cases h2 : n ≤ m
      · rw [if_pos h2, if_pos (by omega), show m - n = (m - (n + 1)) + 1 by omega]; simp
      · rw [if_neg h2, if_neg (by omega)]
theorem look_initB_s : ∀ (l : List (List AV)) (n m : Nat), look (initB n l) (.s m) = none
  | [], n, m => rfl
  | v :: l, n, m => by rw [initB, look_cons, look_initB_s l]; simp
theorem look_initB_t : ∀ (l : List (List AV)) (n m : Nat), look (initB n l) (.t m) = none
  | [], n, m => rfl
  | v :: l, n, m => by rw [initB, look_cons, look_initB_t l]; simp
theorem look_initT : ∀ (l : List Nat) (m : Nat), look (initT l) (.t m) = if m ∈ l then some (.tk true) else none
  | [], m => by simp [initT, look]
  | k :: l, m => by
    rw [initT, look_cons, look_initT l m]
    by_cases h : k = m
    · subst h; simp
    · have h' : ¬ m = k := fun e => h e.symm
      simp [h, h']
theorem look_initT_s : ∀ (l : List Nat) (m : Nat), look (initT l) (.s m) = none
  | [], m => rfl
  | k :: l, m => by rw [initT, look_cons, look_initT_s l]; simp
theorem look_initT_b : ∀ (l : List Nat) (m : Nat), look (initT l) (.b m) = none
  | [], m => rfl
  | k :: l, m => by rw [initT, look_cons, look_initT_b l]; simp

def allToks (args : List AV) (H : List (List AV)) : List Nat := args.flatMap toks ++ H.flatMap fun h => h.flatMap toks2

theorem look_init_s (args : List AV) (H : List (List AV)) (n : Nat) : look (initLog args H) (.s n) = (args[n]?).map .av := by
  unfold initLog
  rw [look_append, look_append, look_initS, look_initB_s, look_initT_s]
  simp
  cases args[n]? <;> rfl
theorem look_init_b (args : List AV) (H : List (List AV)) (n : Nat) : look (initLog args H) (.b n) = (H[n]?).map .bx := by
  unfold initLog
  rw [look_append, look_append, look_initS_b, look_initB, look_initT_b]
  simp
  cases H[n]? <;> rfl
theorem look_init_t (args : List AV) (H : List (List AV)) (n : Nat) : look (initLog args H) (.t n) = if n ∈ allToks args H then some (.tk true) else none := by
  unfold initLog
  rw [look_append, look_append, look_initS_t, look_initB_t, look_initT]
  rfl
end Go.Abs

namespace Go.Abs
open Go
theorem toks1_in {nb nt : Nat} {v : AV} (h : in1 nb nt v = true) : ∀ k, k ∈ toks1 v → k < nt := by
  intro k hk
  cases v <;> try (simp [toks1] at hk; done)
  · rename_i z e t
    cases t with
    | none => simp [toks1] at hk
    | full => simp [toks1] at hk
    | t j => simp [toks1] at hk; subst hk; simpa [in1, Nat.blt_eq] using h
  · rename_i z e b n t
    cases t with
    | none => simp [toks1] at hk
    | full => simp [toks1] at hk
    | t j =>
      simp [toks1] at hk; subst hk
      simp only [in1] at h
      split at h
      · rename_i h1; simpa [Nat.blt_eq] using h1
      · cases h

theorem toks2_in {nb nt : Nat} {v : AV} (h : in2 nb nt v = true) : ∀ k, k ∈ toks2 v → k < nt := by
  intro k hk
  cases v with
  | fn f c =>
    obtain ⟨u, hu, hk⟩ := List.mem_flatMap.1 hk
    exact toks1_in (inL1_spec h u hu) k hk
  | agg l =>
    obtain ⟨u, hu, hk⟩ := List.mem_flatMap.1 hk
    exact toks1_in (inL1_spec h u hu) k hk
  | sc c => exact toks1_in (show in1 nb nt (.sc c) = true from h) k hk
  | sl z e t => exact toks1_in (show in1 nb nt (.sl z e t) = true from h) k hk
  | ptr b o => exact toks1_in (show in1 nb nt (.ptr b o) = true from h) k hk
  | elp c o => exact toks1_in (show in1 nb nt (.elp c o) = true from h) k hk
  | mx z e b n t => exact toks1_in (show in1 nb nt (.mx z e b n t) = true from h) k hk
  | mr b => cases hk
  | mpv es => cases hk
  | tup => cases h
  | bad => cases h

theorem toks_in {nb nt : Nat} {v : AV} (h : inR nb nt v = true) : ∀ k, k ∈ toks v → k < nt := by
  intro k hk
  cases v with
  | tup l =>
    obtain ⟨u, hu, hk⟩ := List.mem_flatMap.1 hk
    exact toks2_in (inL2_spec h u hu) k hk
  | sc c => exact toks2_in (show in2 nb nt (.sc c) = true from h) k hk
  | sl z e t => exact toks2_in (show in2 nb nt (.sl z e t) = true from h) k hk
  | ptr b o => exact toks2_in (show in2 nb nt (.ptr b o) = true from h) k hk
  | elp c o => exact toks2_in (show in2 nb nt (.elp c o) = true from h) k hk
  | mx z e b n t => exact toks2_in (show in2 nb nt (.mx z e b n t) = true from h) k hk
  | fn f c => exact toks2_in (show in2 nb nt (.fn f c) = true from h) k hk
  | agg l => exact toks2_in (show in2 nb nt (.agg l) = true from h) k hk
  | mr b => cases hk
  | mpv es => cases hk
  | bad => cases h

theorem inR_of_in2 {nb nt : Nat} {v : AV} (h : in2 nb nt v = true) : inR nb nt v = true := by
  cases v <;> first | exact h | cases h

theorem allToks_in {nb nt nb' : Nat} {args : List AV} {H : List (List AV)} (h : ∀ v, v ∈ args → inR nb nt v = true) (hH : inH nb' nt H = true) : ∀ k, k ∈ allToks args H → k < nt := by
  intro k hk
  rcases List.mem_append.1 hk with hk | hk
  · obtain ⟨u, hu, hk⟩ := List.mem_flatMap.1 hk
    exact toks_in (h u hu) k hk
  · obtain ⟨l, hl, hk⟩ := List.mem_flatMap.1 hk
    obtain ⟨u, hu, hk⟩ := List.mem_flatMap.1 hk
    exact toks2_in (inL2_spec (inH_spec hH l hl) u hu) k hk

theorem look_newBoxes {bs ts : List Nat} {id : Nat} : ∀ {H : List (List AV)} {n : Nat} {b : Nat},
    (∀ c, look (newBoxes bs ts id n H) (.b b) = some c → ∃ i h, H[i]? = some h ∧ b = rb bs id (n + i) ∧ c = .bx (h.map (ren2 bs ts id))) ∧
    (look (newBoxes bs ts id n H) (.b b) = none → ∀ i, i < H.length → rb bs id (n + i) ≠ b)
  | [], n, b => ⟨fun c h => by simp [newBoxes, look] at h, fun _ i hi => by simp at hi⟩
  | h :: H, n, b => by
    have ih := look_newBoxes (bs := bs) (ts := ts) (id := id) (H := H) (n := n + 1) (b := b)
    rw [newBoxes, look_cons]
    by_cases hb : rb bs id n = b
    · have e : (Loc.b (rb bs id n) = Loc.b b) = True := by
        simp only [Loc.b.injEq, eq_iff_iff, iff_true]; exact hb
      simp only [e, if_true]
      exact ⟨fun c hc => by cases hc; exact ⟨0, h, rfl, hb.symm, rfl⟩, fun hc => by cases hc⟩
    · have e : (Loc.b (rb bs id n) = Loc.b b) = False := by
        simp only [Loc.b.injEq, eq_iff_iff, iff_false]; exact hb
      simp only [e, if_false]
      refine ⟨fun c hc => ?_, fun hc i hi => ?_⟩
      · obtain ⟨i, h', h1, h2, h3⟩ := ih.1 c hc
        exact ⟨i + 1, h', by simpa using h1, by rw [h2]; congr 1; omega, h3⟩
      · cases i with
        | zero => exact hb
        | succ i =>
          have := ih.2 hc i (by simpa using hi)
          rwa [show n + 1 + i = n + (i + 1) by omega] at this

theorem look_newBoxes_s {bs ts : List Nat} {id : Nat} : ∀ {H : List (List AV)} {n m : Nat}, look (newBoxes bs ts id n H) (.s m) = none
  | [], _, _ => rfl
  | h :: H, n, m => by rw [newBoxes, look_cons, look_newBoxes_s]; simp
theorem look_newBoxes_t {bs ts : List Nat} {id : Nat} : ∀ {H : List (List AV)} {n m : Nat}, look (newBoxes bs ts id n H) (.t m) = none
  | [], _, _ => rfl
  | h :: H, n, m => by rw [newBoxes, look_cons, look_newBoxes_t]; simp

theorem look_onToks {ts : List Nat} {id : Nat} : ∀ {L : List Nat} {k : Nat}, look (onToks ts id L) (.t k) = none ∨ (look (onToks ts id L) (.t k) = some (.tk true) ∧ ∃ j, j ∈ L ∧ k = rb ts id j)
  | [], _ => .inl rfl
  | j :: L, k => by
    rw [onToks, look_cons]
    by_cases hb : rb ts id j = k
    · rw [if_pos (by rw [hb])]
      exact .inr ⟨rfl, j, by simp, hb.symm⟩
    · have e : (Loc.t (rb ts id j) = Loc.t k) = False := by
        simp only [Loc.t.injEq, eq_iff_iff, iff_false]; exact hb
      simp only [e, if_false]
      rcases look_onToks (ts := ts) (id := id) (L := L) (k := k) with h | ⟨h, i, hi, he⟩
      · exact .inl h
      · exact .inr ⟨h, i, by simp [hi], he⟩
theorem look_onToks_s {ts : List Nat} {id : Nat} : ∀ {L : List Nat} {k : Nat}, look (onToks ts id L) (.s k) = none
  | [], _ => rfl
  | j :: L, k => by rw [onToks, look_cons, look_onToks_s]; simp
theorem look_onToks_b {ts : List Nat} {id : Nat} : ∀ {L : List Nat} {k : Nat}, look (onToks ts id L) (.b k) = none
  | [], _ => rfl
  | j :: L, k => by rw [onToks, look_cons, look_onToks_b]; simp
theorem look_offToks : ∀ {L : List Nat} {k : Nat}, look (offToks L) (.t k) = if k ∈ L then some (.tk false) else none
  | [], _ => rfl
  | j :: L, k => by
    rw [offToks, look_cons, look_offToks]
    by_cases h : j = k
    · subst h; simp
    · have h' : ¬ k = j := fun e => h e.symm
      simp [h, h']
theorem look_offToks_s : ∀ {L : List Nat} {k : Nat}, look (offToks L) (.s k) = none
  | [], _ => rfl
  | j :: L, k => by rw [offToks, look_cons, look_offToks_s]; simp
theorem look_offToks_b : ∀ {L : List Nat} {k : Nat}, look (offToks L) (.b k) = none
  | [], _ => rfl
  | j :: L, k => by rw [offToks, look_cons, look_offToks_b]; simp

theorem Chg.mono {O O' : Nat → Nat → Prop} {w w' : World} (h : Chg O w w') (hO : ∀ b o, O b o → O' b o) : Chg O' w w' :=
  ⟨h.os, h.tape, h.output, h.size, fun b hb hn => h.same b hb fun o ho => hn o (hO b o ho), fun b C ty fz hC => by
    obtain ⟨C', h1, h2, h3⟩ := h.cells b C ty fz hC
    exact ⟨C', h1, h2, fun o hn => h3 o fun ho => hn (hO b o ho)⟩, h.maps⟩

section
variable {P : Program} {W0 : World} {κ : Gh} {σ : Log} {a : Act} {w : World} {id : Nat} {F : Log → Prop} {call : CallP} {d : Option Nat}
/-- the callee's ghost -/
def sub' (κ : Gh) (bs ts : List Nat) : Gh := { I := κ.I, Db := fun b => b < bs.length, Dt := fun k => k < ts.length, ι := fun i => κ.ι (bs.getD i 0), τ := fun j => κ.τ (ts.getD j 0) }

/-- the caller's, behind the call -/
def back (κ κ' : Gh) (nb nt id : Nat) : Gh := {
  I := κ'.I
  Db := fun x => κ.Db x ∨ ∃ j, nb ≤ j ∧ j < nb + 100 ∧ κ'.Db j ∧ x = id + (j - nb)
  Dt := fun x => κ.Dt x ∨ ∃ j, nt ≤ j ∧ j < nt + 100 ∧ κ'.Dt j ∧ x = id + (j - nt)
  ι := fun x => if id ≤ x ∧ x < id + 100 then κ'.ι (nb + (x - id)) else κ.ι x
  τ := fun x => if id ≤ x ∧ x < id + 100 then κ'.τ (nt + (x - id)) else κ.τ x }

theorem callG (hs : RepS W0 κ σ a w) (hf : Fresh κ id) {f : FuncId} {args : List AV} {vals : Array Value} (hsz : vals.size = args.length) (hv : ∀ (j : Nat) (v : AV), args[j]? = some v → RepV κ w v (vals.getD j undef))
    (hN : ∀ d', d = some d' → d' < a.tmps.size) {bs ts : List Nat} {args' : List AV} {H H' : List (List AV)} {res : AV} (hc : Ctr P W0 f args' H res H')
    (n1 : nodupB bs = true) (n2 : nodupB ts = true) (n3 : bs.length ≤ H'.length) (n4 : H'.length ≤ bs.length + 50) (n5 : bs.length + ts.length ≤ 900) (n6 : ts.length = tokN args' H)
    (i1 : inL2 bs.length ts.length args' = true) (i2 : inH bs.length ts.length H = true) (i3 : inR H'.length (ts.length + 50) res = true) (i4 : inH H'.length (ts.length + 50) H' = true)
    (w1 : wkL2 args (args'.map (ren2 bs ts id))) (w2 : boxIs σ bs ts id bs H) (w3 : liveAll σ ts)
    (hF : F (dstL d (ren bs ts id res) ++ newBoxes bs ts id 0 H' ++ onToks ts id (toks res ++ (H'.flatMap fun h => h.flatMap toks2)) ++ offToks ts)) :
    callable P f = true ∧ Calls P f vals w fun e w' => ∃ v, e = .returned v ∧ After W0 κ σ a w id F (a.put d v) w' := by
  obtain ⟨hcl, hc⟩ := hc
  refine ⟨hcl, ?_⟩
  obtain ⟨b1, b2⟩ := boxIs_spec w2
  have l1 := liveAll_spec w3
  obtain ⟨g1, g2⟩ := wkL2_spec w1
  have hbs : ∀ (i x : Nat), bs[i]? = some x → ∃ h l, H[i]? = some h ∧ look σ (.b x) = some (.bx l) ∧ wkL2 l (h.map (ren2 bs ts id)) := by
    intro i x hx
    have hi : i < H.length := by rw [b1]; exact (List.getElem?_eq_some_iff.1 hx).1
    obtain ⟨b, l, h1, h2, h3⟩ := b2 i _ (List.getElem?_eq_getElem hi)
    rw [hx] at h1; cases h1
    exact ⟨_, l, List.getElem?_eq_getElem hi, h2, h3⟩
  have gD : ∀ (l : List Nat) (i x : Nat), l[i]? = some x → l.getD i 0 = x := fun l i x h => by rw [List.getD_eq_getElem?_getD, h]; rfl
  have un : Un κ (sub' κ bs ts) bs ts := ⟨fun _ _ h => h, fun b x hx _ => ⟨(List.getElem?_eq_some_iff.1 hx).1, by simp only [sub', gD _ _ _ hx]⟩, fun k x hx _ => ⟨(List.getElem?_eq_some_iff.1 hx).1, by simp only [sub', gD _ _ _ hx]⟩⟩
  have htin : ∀ k, k ∈ allToks args' H → k < ts.length := allToks_in (fun v hv => inR_of_in2 (inL2_spec i1 v hv)) i2
  have hspb : ∀ (i x : Nat) (h m : List AV), bs[i]? = some x → wkL2 m (h.map (ren2 bs ts id)) → spb (sub' κ bs ts) i h = spb κ x m := by
    intro i x h m hx hw
    have hl := (wkL2_spec hw).1
    rw [List.length_map] at hl
    simp only [spb, sub', gD _ _ _ hx, hl]
  have hownc : ∀ b o, Own (sub' κ bs ts) (initLog args' H) b o → (∃ (i x : Nat) (m : List AV), bs[i]? = some x ∧ look σ (.b x) = some (.bx m) ∧ inSp (spb κ x m) b o) ∨ (∃ (k x : Nat), ts[k]? = some x ∧ inSp (κ.τ x) b o) := by
    rintro b o (⟨i, l, hl, hi⟩ | ⟨k, hk, hi⟩)
    · rw [look_init_b] at hl
      cases hh : H[i]? with
      | none => simp [hh] at hl
      | some h =>
        obtain ⟨x, m, h1, hm, h3⟩ := b2 i h hh
        simp [hh] at hl
        subst hl
        exact .inl ⟨i, x, m, h1, hm, hspb i x _ m h1 h3 ▸ hi⟩
    · rw [look_init_t] at hk
      by_cases hm : k ∈ allToks args' H
      · have hlt := htin k hm
        have hx : ts[k]? = some ts[k] := List.getElem?_eq_getElem hlt
        refine .inr ⟨k, ts[k], hx, ?_⟩
        simpa only [sub', gD _ _ _ hx] using hi
      · simp [hm] at hk
  have hownκ : ∀ b o, Own (sub' κ bs ts) (initLog args' H) b o → Own κ σ b o := by
    intro b o h
    rcases hownc b o h with ⟨i, x, m, hx, hm, hi⟩ | ⟨k, x, hx, hi⟩
    · exact .inl ⟨x, m, hm, hi⟩
    · exact .inr ⟨x, l1 x (List.mem_of_getElem? hx), hi⟩
  have pre : RepS W0 (sub' κ bs ts) (initLog args' H) ⟨vals, []⟩ w := by
    refine ⟨?_, ?_, ?_, ?_, ?_, ?_, fun b o ho => hs.sepI b o (hownκ b o ho), hs.Icell, hs.old, hs.size0, hs.amb, rfl, hs.os, hs.tape, hs.output⟩
    · intro n v h
      rw [look_init_s] at h
      cases hn : args'[n]? with
      | none => simp [hn] at h
      | some u =>
        simp [hn] at h
        subst h
        obtain ⟨v, hv1, hv2⟩ := g2 n _ (by rw [List.getElem?_map, hn]; rfl)
        exact ((hv n v hv1).wk2 hv2).1.un2 un (inL2_spec i1 u (List.mem_of_getElem? hn))
    · intro b l h
      rw [look_init_b] at h
      cases hn : H[b]? with
      | none => simp [hn] at h
      | some u =>
        simp [hn] at h
        subst h
        obtain ⟨x, m, h1, h2, h3⟩ := b2 b u hn
        obtain ⟨k1, k2, k3⟩ := hs.boxes x m h2
        refine ⟨(List.getElem?_eq_some_iff.1 h1).1, ?_, ?_⟩
        · simp only [sub', gD _ _ _ h1]; exact k2
        · have := (k3.wk h3).un un (inH_spec i2 u (List.mem_of_getElem? hn))
          simpa only [sub', gD _ _ _ h1] using this
    · intro b b' l l' h h' hne y o hi
      rw [look_init_b] at h h'
      cases hn : H[b]? with
      | none => simp [hn] at h
      | some u =>
        cases hn' : H[b']? with
        | none => simp [hn'] at h'
        | some u' =>
          obtain ⟨x, m, h1, h2, h3⟩ := b2 b u hn
          obtain ⟨x', m', h1', h2', h3'⟩ := b2 b' u' hn'
          simp [hn] at h
          simp [hn'] at h'
          subst h; subst h'
          rw [hspb b x _ m h1 h3] at hi
          rw [hspb b' x' _ m' h1' h3']
          exact hs.binj x x' m m' h2 h2' (fun e => hne (nodupB_spec n1 b b' x h1 (e ▸ h1'))) y o hi
    · intro k h
      rw [look_init_t] at h
      by_cases hm : k ∈ allToks args' H
      · have hlt := htin k hm
        have hx : ts[k]? = some ts[k] := List.getElem?_eq_getElem hlt
        refine ⟨hlt, ?_⟩
        simp only [sub', gD _ _ _ hx]
        exact (hs.toks _ (l1 _ (List.mem_of_getElem? hx))).2
      · simp [hm] at h
    · intro k k' h h' hne b o hi
      rw [look_init_t] at h h'
      by_cases hm : k ∈ allToks args' H
      · by_cases hm' : k' ∈ allToks args' H
        · have hk1 := htin k hm
          have hk2 := htin k' hm'
          have hx : ts[k]? = some ts[k] := List.getElem?_eq_getElem hk1
          have hx' : ts[k']? = some ts[k'] := List.getElem?_eq_getElem hk2
          simp only [sub', gD _ _ _ hx, gD _ _ _ hx'] at hi ⊢
          exact hs.tdis _ _ (l1 _ (List.mem_of_getElem? hx)) (l1 _ (List.mem_of_getElem? hx')) (fun e => hne (nodupB_spec n2 k k' _ hx (e ▸ hx'))) b o hi
        · simp [hm'] at h'
      · simp [hm] at h
    · intro k i l h h' y o hi
      rw [look_init_t] at h
      rw [look_init_b] at h'
      by_cases hm : k ∈ allToks args' H
      · have hk1 := htin k hm
        have hx : ts[k]? = some ts[k] := List.getElem?_eq_getElem hk1
        cases hn : H[i]? with
        | none => simp [hn] at h'
        | some u =>
          obtain ⟨x, m, h1, h2, h3⟩ := b2 i u hn
          simp [hn] at h'
          subst h'
          rw [hspb i x _ m h1 h3]
          simp only [sub', gD _ _ _ hx] at hi
          exact hs.tbox _ x m (l1 _ (List.mem_of_getElem? hx)) h2 y o hi
      · simp [hm] at h
  refine (hc (sub' κ bs ts) w vals (by rw [hsz, ← g1, List.length_map]) (fun b hb => by rw [b1]; exact hb) (fun k hk => by rw [← n6]; exact hk) pre).mono ?_
  rintro e w' ⟨v, κ', rfl, r, st⟩
  refine ⟨v, rfl, ?_⟩
  -- the way back
  have notin : ∀ x, κ.Db x → ¬ (id ≤ x ∧ x < id + 100) := fun x hx h => hf.db x h.1 h.2 hx
  have notint : ∀ x, κ.Dt x → ¬ (id ≤ x ∧ x < id + 100) := fun x hx h => hf.dt x h.1 h.2 hx
  have ext : Ext κ w (back κ κ' bs.length ts.length id) w' := by
    refine ⟨st.I_, fun b o hI => st.chg.cell pre hI, fun b hb => ⟨.inl hb, ?_⟩, fun k hk => ⟨.inl hk, ?_⟩⟩
    · simp only [back, if_neg (notin b hb)]
    · simp only [back, if_neg (notint k hk)]
  have hbox : ∀ (i x : Nat), bs[i]? = some x → κ.Db x ∧ κ'.ι i = κ.ι x := by
    intro i x hx
    obtain ⟨_, l, _, hl, _⟩ := hbs i x hx
    have hi := (List.getElem?_eq_some_iff.1 hx).1
    refine ⟨(hs.boxes x l hl).1, ?_⟩
    have := (st.low i (by omega) hi).2
    simpa only [sub', gD _ _ _ hx] using this
  have htok : ∀ (i x : Nat), ts[i]? = some x → κ.Dt x ∧ κ'.τ i = κ.τ x := by
    intro i x hx
    have hi := (List.getElem?_eq_some_iff.1 hx).1
    refine ⟨(hs.toks x (l1 x (List.mem_of_getElem? hx))).1, ?_⟩
    have := (st.lowt i (by omega) hi).2
    simpa only [sub', gD _ _ _ hx] using this
  have rn : Ren κ' (back κ κ' bs.length ts.length id) (rb bs id) (rb ts id) H'.length (ts.length + 50) := by
    refine ⟨fun _ _ h => h, ?_, ?_⟩
    · intro b hb hd
      cases hx : bs[b]? with
      | some x =>
        obtain ⟨h1, h2⟩ := hbox b x hx
        have e : rb bs id b = x := by simp only [rb, hx]
        rw [e]
        exact ⟨.inl h1, by simp only [back, if_neg (notin x h1)]; exact h2.symm⟩
      | none =>
        have hge : bs.length ≤ b := List.getElem?_eq_none_iff.1 hx
        have e : rb bs id b = id + (b - bs.length) := by simp only [rb, hx]
        rw [e]
        refine ⟨.inr ⟨b, hge, by omega, hd, rfl⟩, ?_⟩
        simp only [back]
        rw [if_pos ⟨by omega, by omega⟩]
        congr 1; omega
    · intro b hb hd
      cases hx : ts[b]? with
      | some x =>
        obtain ⟨h1, h2⟩ := htok b x hx
        have e : rb ts id b = x := by simp only [rb, hx]
        rw [e]
        exact ⟨.inl h1, by simp only [back, if_neg (notint x h1)]; exact h2.symm⟩
      | none =>
        have hge : ts.length ≤ b := List.getElem?_eq_none_iff.1 hx
        have e : rb ts id b = id + (b - ts.length) := by simp only [rb, hx]
        rw [e]
        refine ⟨.inr ⟨b, hge, by omega, hd, rfl⟩, ?_⟩
        simp only [back]
        rw [if_pos ⟨by omega, by omega⟩]
        congr 1; omega
  have hLin : ∀ k, k ∈ (toks res ++ (H'.flatMap fun h => h.flatMap toks2)) → k < ts.length + 50 := by
    have := allToks_in (args := [res]) (H := H') (nb := H'.length) (nb' := H'.length) (nt := ts.length + 50) (by intro v hv; simp at hv; subst hv; exact i3) i4
    simpa [allToks] using this
  have hfint : ∀ k, look (finLog res H') (.t k) = some (.tk true) ↔ k ∈ (toks res ++ (H'.flatMap fun h => h.flatMap toks2)) := by
    intro k
    unfold finLog
    rw [look_init_t]
    have e : allToks [res] H' = toks res ++ (H'.flatMap fun h => h.flatMap toks2) := by simp [allToks]
    rw [e]
    by_cases hm : k ∈ (toks res ++ (H'.flatMap fun h => h.flatMap toks2))
    · rw [if_pos hm]; exact ⟨fun _ => hm, fun _ => rfl⟩
    · rw [if_neg hm]; exact ⟨fun h => (by cases h), fun h => absurd h hm⟩
  have hfinb : ∀ k, look (finLog res H') (.b k) = (H'[k]?).map .bx := fun k => look_init_b [res] H' k
  let δ' := newBoxes bs ts id 0 H' ++ onToks ts id (toks res ++ (H'.flatMap fun h => h.flatMap toks2)) ++ offToks ts
  have ls : ∀ n, look (δ' ++ σ) (.s n) = look σ (.s n) := by
    intro n
    simp only [δ']
    rw [look_append, look_append, look_append, look_newBoxes_s, look_onToks_s, look_offToks_s]
  have lb : ∀ b l, look (δ' ++ σ) (.b b) = some (.bx l) → (∃ i h, H'[i]? = some h ∧ b = rb bs id i ∧ l = h.map (ren2 bs ts id)) ∨ (look σ (.b b) = some (.bx l) ∧ ∀ i, i < H'.length → rb bs id i ≠ b) := by
    intro b l h
    simp only [δ'] at h
    rw [look_append, look_append, look_append, look_onToks_b, look_offToks_b] at h
    obtain ⟨q1, q2⟩ := look_newBoxes (bs := bs) (ts := ts) (id := id) (H := H') (n := 0) (b := b)
    cases hx : look (newBoxes bs ts id 0 H') (.b b) with
    | some c =>
      rw [hx] at h
      obtain ⟨i, h', h1, h2, h3⟩ := q1 c hx
      simp only [Option.some.injEq] at h
      rw [h3] at h
      simp only [Cell.bx.injEq] at h
      exact .inl ⟨i, h', h1, by simpa using h2, h.symm⟩
    | none =>
      rw [hx] at h
      exact .inr ⟨h, fun i hi => by simpa using q2 hx i hi⟩
  have lt : ∀ k, look (δ' ++ σ) (.t k) = some (.tk true) → (∃ j, j ∈ (toks res ++ (H'.flatMap fun h => h.flatMap toks2)) ∧ k = rb ts id j) ∨ (look σ (.t k) = some (.tk true) ∧ k ∉ ts) := by
    intro k h
    simp only [δ'] at h
    rw [look_append, look_append, look_append, look_newBoxes_t, look_offToks] at h
    rcases look_onToks (ts := ts) (id := id) (L := (toks res ++ (H'.flatMap fun h => h.flatMap toks2))) (k := k) with h1 | ⟨h1, j, h2, h3⟩
    · rw [h1] at h
      by_cases hm : k ∈ ts
      · simp [hm] at h
      · simp [hm] at h; exact .inr ⟨h, hm⟩
    · exact .inl ⟨j, h2, h3⟩
  have oldb : ∀ b l, look σ (.b b) = some (.bx l) → (∀ i, i < H'.length → rb bs id i ≠ b) → ∀ y o, inSp (spb κ b l) y o → ¬ Own (sub' κ bs ts) (initLog args' H) y o := by
    intro b l hl hno y o hy ho
    rcases hownc _ o ho with ⟨i, x, m, hx, hm, hi⟩ | ⟨k, x, hx, hi⟩
    · refine hs.binj x b m l hm hl (fun this => ?_) y o hi hy
      subst this
      have hi' := (List.getElem?_eq_some_iff.1 hx).1
      exact hno i (by omega) (by simp only [rb, hx])
    · exact hs.tbox x b l (l1 x (List.mem_of_getElem? hx)) hl y o hi hy
  have oldt : ∀ k, look σ (.t k) = some (.tk true) → k ∉ ts → ∀ b o, inSp (κ.τ k) b o → ¬ Own (sub' κ bs ts) (initLog args' H) b o := by
    intro k hk hno b o hi ho
    rcases hownc _ o ho with ⟨i, x, m, hx, hm, hi'⟩ | ⟨j, x, hx, hi'⟩
    · exact hs.tbox k x m hk hm b o hi hi'
    · exact hs.tdis k x hk (l1 x (List.mem_of_getElem? hx)) (fun e => hno (e ▸ List.mem_of_getElem? hx)) b o hi hi'
  have hbdb : ∀ b l, look σ (.b b) = some (.bx l) → κ.Db b ∧ (κ.ι b).1 < w.heap.size := by
    intro b l hl
    obtain ⟨h1, _, h3⟩ := hs.boxes b l hl
    exact ⟨h1, h3.lt⟩
  have htlt : ∀ k, look σ (.t k) = some (.tk true) → ∀ b o, inSp (κ.τ k) b o → b < w.heap.size := by
    rintro k hk b o ⟨h1, h2, h3⟩
    obtain ⟨_, C, ty, h4, _⟩ := (hs.toks k hk).2 (Nat.lt_of_le_of_lt h2 h3)
    exact h1 ▸ lt_of_heap h4
  have ιn : ∀ (i : Nat) (h : List AV), H'[i]? = some h → (back κ κ' bs.length ts.length id).Db (rb bs id i) ∧ (back κ κ' bs.length ts.length id).ι (rb bs id i) = κ'.ι i := by
    intro i h hi
    have hlook : look (finLog res H') (.b i) = some (.bx h) := by rw [hfinb, hi]; rfl
    exact rn.db i (List.getElem?_eq_some_iff.1 hi).1 (r.boxes i h hlook).1
  have ιo : ∀ b, κ.Db b → (back κ κ' bs.length ts.length id).ι b = κ.ι b := fun b hb => by simp only [back, if_neg (notin b hb)]
  have τn : ∀ j, j ∈ (toks res ++ (H'.flatMap fun h => h.flatMap toks2)) → (back κ κ' bs.length ts.length id).Dt (rb ts id j) ∧ (back κ κ' bs.length ts.length id).τ (rb ts id j) = κ'.τ j := by
    intro j hj
    exact rn.dt j (hLin j hj) (r.toks j ((hfint j).2 hj)).1
  have τo : ∀ k, κ.Dt k → (back κ κ' bs.length ts.length id).τ k = κ.τ k := fun k hk => by simp only [back, if_neg (notint k hk)]
  have spn : ∀ (i : Nat) (h : List AV), H'[i]? = some h → spb (back κ κ' bs.length ts.length id) (rb bs id i) (h.map (ren2 bs ts id)) = spb κ' i h := fun i h hi => by
    simp only [spb, (ιn i h hi).2, List.length_map]
  have spo : ∀ b l, κ.Db b → spb (back κ κ' bs.length ts.length id) b l = spb κ b l := fun b l hb => by simp only [spb, ιo b hb]
  have ownB : ∀ (i : Nat) (h : List AV), H'[i]? = some h → ∀ b o, inSp (spb κ' i h) b o → Own κ' (finLog res H') b o := fun i h hi b o hh => .inl ⟨i, h, by rw [hfinb, hi]; rfl, hh⟩
  have ownT : ∀ j, j ∈ (toks res ++ (H'.flatMap fun h => h.flatMap toks2)) → ∀ b o, inSp (κ'.τ j) b o → Own κ' (finLog res H') b o := fun j hj b o hi => .inr ⟨j, (hfint j).2 hj, hi⟩
  have own'' : ∀ b o, Own (back κ κ' bs.length ts.length id) (δ' ++ σ) b o → Own κ' (finLog res H') b o ∨ (Own κ σ b o ∧ ¬ Own (sub' κ bs ts) (initLog args' H) b o ∧ b < w.heap.size) := by
    rintro b o (⟨i, l, hl, hi⟩ | ⟨k, hk, hi⟩)
    · rcases lb i l hl with ⟨j, h, h1, h2, h3⟩ | ⟨h1, h2⟩
      · rw [h2, h3, spn j h h1] at hi
        exact .inl (ownB j h h1 b o hi)
      · rw [spo i l (hbdb i l h1).1] at hi
        exact .inr ⟨.inl ⟨i, l, h1, hi⟩, oldb i l h1 h2 b o hi, hi.1 ▸ (hbdb i l h1).2⟩
    · rcases lt k hk with ⟨j, h1, h2⟩ | ⟨h1, h2⟩
      · rw [h2, (τn j h1).2] at hi
        exact .inl (ownT j h1 b o hi)
      · rw [τo k (hs.toks k h1).1] at hi
        exact .inr ⟨.inr ⟨k, h1, hi⟩, oldt k h1 h2 b o hi, htlt k h1 b o hi⟩
  have R : RepS W0 (back κ κ' bs.length ts.length id) (δ' ++ σ) a w' := by
    refine ⟨?_, ?_, ?_, ?_, ?_, ?_, ?_, r.Icell, r.old, r.size0, r.amb, hs.defers, r.os, r.tape, r.output⟩
    · intro n u h
      rw [ls] at h
      exact (hs.slots n u h).mono ext
    · intro b l h
      rcases lb b l h with ⟨j, h', h1, h2, h3⟩ | ⟨h1, h2⟩
      · obtain ⟨k1, k2⟩ := ιn j h' h1
        obtain ⟨_, q2, q3⟩ := r.boxes j h' (by rw [hfinb, h1]; rfl)
        subst h2; subst h3
        rw [k2]
        exact ⟨k1, q2, q3.ren2 rn (inH_spec i4 h' (List.mem_of_getElem? h1))⟩
      · obtain ⟨q1, q2, q3⟩ := hs.boxes b l h1
        rw [ιo b q1]
        rcases q3 with ⟨_, C, ty, q3, q4⟩ | ⟨es, E, c, e1, e2, e3, e4⟩
        case inr =>
          refine ⟨.inl q1, q2, .inr ⟨es, E, c, e1, e2, ?_, e4.ext ext⟩⟩
          rw [st.chg.same _ (lt_of_heap e3) (fun o ho => oldb b l h1 h2 _ 0 ⟨rfl, by simp only [spb, e2]; omega, by subst e1; simp only [spb, e2]; simp⟩ (pre.ownMap ho e3))]
          exact e3
        obtain ⟨C', p1, p2, p3⟩ := st.chg.cells _ C ty _ q3
        refine ⟨.inl q1, q2, .of (C := C') (ty := ty) p1 ⟨by rw [p2]; exact q4.1, q4.2.1, fun j v hj => ?_⟩⟩
        have := (q4.2.2 j v hj).mono ext
        have e : C'[(κ.ι b).2 + j]? = C[(κ.ι b).2 + j]? := p3 _ (oldb b l h1 h2 _ _ ⟨rfl, Nat.le_add_right _ _, Nat.add_lt_add_left (List.getElem?_eq_some_iff.1 hj).1 _⟩)
        rwa [Array.getD_eq_getD_getElem?, e, ← Array.getD_eq_getD_getElem?]
    · intro b b' l l' h h' hne y o hi hi'
      rcases lb b l h with ⟨j, m, h1, h2, h3⟩ | ⟨h1, h2⟩ <;> rcases lb b' l' h' with ⟨j', m', h1', h2', h3'⟩ | ⟨h1', h2'⟩
      · rw [h2, h3, spn j m h1] at hi
        rw [h2', h3', spn j' m' h1'] at hi'
        exact r.binj j j' m m' (by rw [hfinb, h1]; rfl) (by rw [hfinb, h1']; rfl) (fun e => hne (by rw [h2, h2', e])) y o hi hi'
      · rw [h2, h3, spn j m h1] at hi
        rw [spo b' l' (hbdb b' l' h1').1] at hi'
        rcases st.own _ _ (ownB j m h1 y o hi) with g | g
        · exact oldb b' l' h1' h2' y o hi' g
        · have := (hbdb b' l' h1').2; have := hi'.1; simp only [spb] at this; omega
      · rw [h2', h3', spn j' m' h1'] at hi'
        rw [spo b l (hbdb b l h1).1] at hi
        rcases st.own _ _ (ownB j' m' h1' y o hi') with g | g
        · exact oldb b l h1 h2 y o hi g
        · have := (hbdb b l h1).2; have := hi.1; simp only [spb] at this; omega
      · rw [spo b l (hbdb b l h1).1] at hi
        rw [spo b' l' (hbdb b' l' h1').1] at hi'
        exact hs.binj b b' l l' h1 h1' hne y o hi hi'
    · intro k h
      rcases lt k h with ⟨j, h1, h2⟩ | ⟨h1, h2⟩
      · obtain ⟨k1, k2⟩ := τn j h1
        rw [h2, k2]
        exact ⟨k1, (r.toks j ((hfint j).2 h1)).2⟩
      · obtain ⟨q1, q2⟩ := hs.toks k h1
        rw [τo k q1]
        refine ⟨.inl q1, fun hh => ?_⟩
        obtain ⟨q3, C, ty, q4, q5⟩ := q2 hh
        obtain ⟨C', p1, p2, _⟩ := st.chg.cells _ C ty _ q4
        exact ⟨q3, C', ty, p1, by omega⟩
    · intro k k' h h' hne b o hi hi'
      rcases lt k h with ⟨j, h1, h2⟩ | ⟨h1, h2⟩ <;> rcases lt k' h' with ⟨j', h1', h2'⟩ | ⟨h1', h2'⟩
      · rw [h2, (τn j h1).2] at hi
        rw [h2', (τn j' h1').2] at hi'
        exact r.tdis j j' ((hfint j).2 h1) ((hfint j').2 h1') (fun e => hne (by rw [h2, h2', e])) b o hi hi'
      · rw [h2, (τn j h1).2] at hi
        rw [τo k' (hs.toks k' h1').1] at hi'
        rcases st.own _ _ (ownT j h1 b o hi) with g | g
        · exact oldt k' h1' h2' b o hi' g
        · have := htlt k' h1' b o hi'; omega
      · rw [h2', (τn j' h1').2] at hi'
        rw [τo k (hs.toks k h1).1] at hi
        rcases st.own _ _ (ownT j' h1' b o hi') with g | g
        · exact oldt k h1 h2 b o hi g
        · have := htlt k h1 b o hi; omega
      · rw [τo k (hs.toks k h1).1] at hi
        rw [τo k' (hs.toks k' h1').1] at hi'
        exact hs.tdis k k' h1 h1' hne b o hi hi'
    · intro k i l h h' y o hi hi'
      rcases lt k h with ⟨j, h1, h2⟩ | ⟨h1, h2⟩ <;> rcases lb i l h' with ⟨j', m', h1', h2', h3'⟩ | ⟨h1', h2'⟩
      · rw [h2, (τn j h1).2] at hi
        rw [h2', h3', spn j' m' h1'] at hi'
        exact r.tbox j j' m' ((hfint j).2 h1) (by rw [hfinb, h1']; rfl) y o hi hi'
      · rw [h2, (τn j h1).2] at hi
        rw [spo i l (hbdb i l h1').1] at hi'
        rcases st.own _ _ (ownT j h1 _ o hi) with g | g
        · exact oldb i l h1' h2' y o hi' g
        · have := (hbdb i l h1').2; have := hi'.1; simp only [spb] at this; omega
      · rw [τo k (hs.toks k h1).1] at hi
        rw [h2', h3', spn j' m' h1'] at hi'
        rcases st.own _ _ (ownB j' m' h1' y o hi') with g | g
        · exact oldt k h1 h2 _ o hi g
        · have := htlt k h1 _ o hi; omega
      · rw [τo k (hs.toks k h1).1] at hi
        rw [spo i l (hbdb i l h1').1] at hi'
        exact hs.tbox k i l h1 h1' y o hi hi'
    · intro b o ho hI
      rcases own'' b o ho with g | ⟨g1, g2, g3⟩
      · exact r.sepI b o g hI
      · rcases st.In b o hI with q | q | q
        · exact hs.sepI b o g1 q
        · exact g2 q
        · omega
  have S : Step κ σ w (back κ κ' bs.length ts.length id) (δ' ++ σ) w' := by
    refine ⟨st.chg.mono hownκ, ?_, st.I_, ?_, fun b _ hb => ⟨.inl hb, ιo b hb⟩, fun k _ hk => ⟨.inl hk, τo k hk⟩⟩
    · intro b o ho
      rcases own'' b o ho with g | ⟨g1, _, _⟩
      · rcases st.own b o g with q | q
        · exact .inl (hownκ b o q)
        · exact .inr q
      · exact .inl g1
    · intro b o hI
      rcases st.In b o hI with q | q | q
      · exact .inl q
      · exact .inr (.inl (hownκ b o q))
      · exact .inr (.inr q)
  have G : Grow κ (back κ κ' bs.length ts.length id) id := by
    refine ⟨?_, ?_⟩
    · rintro b (hb | ⟨j, h1, h2, _, rfl⟩)
      · exact .inl hb
      · exact .inr ⟨by omega, by omega⟩
    · rintro b (hb | ⟨j, h1, h2, _, rfl⟩)
      · exact .inl hb
      · exact .inr ⟨by omega, by omega⟩
  have hres : RepV (back κ κ' bs.length ts.length id) w' (Abs.ren bs ts id res) v := by
    have := r.slots 0 res (by unfold finLog; rw [look_init_s]; rfl)
    exact RepV.ren rn (by simpa using this) i3
  cases d with
  | none =>
    refine ⟨δ', _, ?_, R, S, rfl, G⟩
    simpa [dstL, δ'] using hF
  | some d =>
    refine ⟨(.s d, .av (Abs.ren bs ts id res)) :: δ', _, ?_, R.put (hN d rfl) hres, S.trans Step.put, put_size, G⟩
    simpa [dstL, δ'] using hF
end
end Go.Abs

namespace Go.Abs
open Go
theorem wk1_refl {v : AV} : wk1 v v := by
  cases v <;> simp [wk1]

theorem ren1_closed {v : AV} {id : Nat} (h : in1 0 0 v = true) : ren1 [] [] id v = v := by
  cases v <;> try rfl
  · rename_i z e t
    cases t <;> first | rfl | (simp [in1, Nat.blt_eq] at h)
  · simp [in1, Nat.blt_eq] at h
  · rename_i z e b n t
    cases t <;> simp only [in1] at h <;> (try split at h) <;> simp_all [Nat.blt_eq]
  · simp [in1, Nat.blt_eq] at h

theorem wk1_erase {v : AV} {id : Nat} (h : in1 0 0 (erase v) = true) : wk1 v (ren1 [] [] id (erase v)) := by
  rw [ren1_closed h]
  cases v <;> simp [erase, wk1]

theorem wkL1_map {f : AV → AV} : ∀ {l : List AV}, (∀ v, v ∈ l → wk1 v (f v)) → wkL1 l (l.map f)
  | [], _ => trivial
  | x :: l, h => ⟨h x (by simp), wkL1_map fun v hv => h v (by simp [hv])⟩

theorem wk2_erase {v : AV} {id : Nat} (h : in2 0 0 (eraseA v) = true) : wk2 v (ren2 [] [] id (eraseA v)) := by
  cases v with
  | agg l =>
    have e : ren2 [] [] id (eraseA (.agg l)) = .agg (l.map fun v => ren1 [] [] id (erase v)) := by simp [eraseA, ren2]
    rw [e]
    refine wkL1_map fun v hv => wk1_erase (inL1_spec (show inL1 0 0 (l.map erase) = true from h) _ (List.mem_map_of_mem (f := erase) hv))
  | fn f c =>
    have e : ren2 [] [] id (eraseA (.fn f c)) = .fn f (c.map (ren1 [] [] id)) := rfl
    rw [e]
    refine ⟨rfl, wkL1_map fun v hv => ?_⟩
    rw [ren1_closed (inL1_spec (show inL1 0 0 c = true from h) v hv)]
    exact wk1_refl
  | sc c => exact rfl
  | sl z e t => exact ⟨rfl, rfl, .inl rfl⟩
  | ptr b o => simp [in2, eraseA, erase, in1, Nat.blt_eq] at h
  | elp c o => exact rfl
  | mx z e b n t => cases t <;> simp only [in2, eraseA, erase, in1] at h <;> (try split at h) <;> simp_all [Nat.blt_eq]
  | mr b => simp [in2, eraseA, erase, in1, Nat.blt_eq] at h
  | mpv es => exact rfl
  | tup => cases h
  | bad => cases h

theorem wkL2_erase {id : Nat} : ∀ {l : List AV}, inL2 0 0 (l.map eraseA) = true → wkL2 l ((l.map eraseA).map (ren2 [] [] id))
  | [], _ => trivial
  | x :: l, h => by
    have h1 := inL2_spec h (eraseA x) (by simp)
    refine ⟨wk2_erase h1, wkL2_erase ?_⟩
    simp only [List.map_cons, inL2, h1] at h
    exact h

theorem tokN_zero {l : List AV} (h : inL2 0 0 l = true) : tokN l [] = 0 := by
  have : allToks l [] = [] := by
    cases hh : allToks l [] with
    | nil => rfl
    | cons k r =>
      have := allToks_in (args := l) (H := []) (nb := 0) (nb' := 0) (nt := 0) (fun v hv => inR_of_in2 (inL2_spec h v hv)) rfl k (by rw [hh]; simp)
      omega
  unfold tokN
  unfold allToks at this
  rw [this]; rfl

section
variable {P : Program} {W0 : World} {κ : Gh} {σ : Log} {a : Act} {w : World} {id : Nat} {F : Log → Prop} {call : CallP} {o : Oper} {Q : Exit → Act → World → Prop}
theorem callP_sound (hcall : ∀ f args H res H', call f args H res H' → Ctr P W0 f args H res H') (hs : RepS W0 κ σ a w) (hf : Fresh κ id) {d : Option Nat} {f : FuncId} {args : List AV} {vals : Array Value} (hsz : vals.size = args.length)
    (hv : ∀ (j : Nat) (v : AV), args[j]? = some v → RepV κ w v (vals.getD j undef)) (hN : ∀ d', d = some d' → d' < a.tmps.size) (h : callP call σ id d f args F) :
    callable P f = true ∧ Calls P f vals w fun e w' => ∃ v, e = .returned v ∧ After W0 κ σ a w id F (a.put d v) w' := by
  rcases h with ⟨res, hc, ⟨h1, h2⟩, hF⟩ | ⟨bs, ts, args', H, H', res, hc, ⟨n1, n2, n3, n4, n5, n6, i1, i2, i3, i4, w1, w2, w3⟩, hF⟩
  · refine callG (bs := []) (ts := []) (H := []) (H' := []) hs hf hsz hv hN (hcall _ _ _ _ _ hc) rfl rfl (Nat.le_refl _) (by simp) (by simp) (tokN_zero h1).symm h1 rfl h2 rfl (wkL2_erase h1) trivial trivial ?_
    simpa [newBoxes, offToks] using hF
  · exact callG hs hf hsz hv hN (hcall _ _ _ _ _ hc) n1 n2 (Nat.le_of_ble_eq_true n3) (Nat.le_of_ble_eq_true n4) (Nat.le_of_ble_eq_true n5) (Nat.eq_of_beq_eq_true n6) i1 i2 i3 i4 w1 w2 w3 hF

theorem run_callFunc' {f : FuncId} (h : callable P f = true) (args : Array Value) : (callFunc f args).run P w = .ok (.enter f args) w := by
  unfold callable at h
  split at h
  · rename_i fn hfn
    simp only [Bool.and_eq_true, Bool.not_eq_true'] at h
    obtain ⟨h1, h2⟩ := h
    have e1 : ¬ fn.name = "runtime.NumGoroutine" := by simpa using h1
    have e2 : ¬ fn.body = none := by
      cases hbb : fn.body <;> simp [hbb] at h2 ⊢
    simp only [callFunc, Sem.run_bind]
    have hp : (program : Go.Sem Program).run P w = .ok P w := rfl
    rw [hp]
    simp [hfn, e1, e2]
  · cases h

theorem s_call (hcall : ∀ f args H res H', call f args H res H' → Ctr P W0 f args H res H') (hs : RepS W0 κ σ a w) (hf : Fresh κ id) {c : Call} {fo : Operand} {f' : Opd} {ys : List Opd} {ts : List TypeId} {z : Option Nat}
    (ho : o.op = .call c) (hc : c.callee = .value fo) (hx : opdC z fo = some f') (hy : opdsC P c.args.toList ts = some ys) (hN : ∀ d', o.dst = some d' → d' < a.tmps.size)
    (h : eff call σ id (.call o.dst f' ys) F) : o.wp P a w (After W0 κ σ a w id F) Q := by
  have hr := opd_rep hs hx
  simp only [eff] at h
  split at h
  · rename_i f caps he
    rw [he] at hr
    obtain ⟨vs, e, hvs, hcv⟩ := hr.fn_inv
    obtain ⟨g1, g2⟩ := opdsC_spec hy
    have hlen : (c.args.map a.eval).size = (evs σ ys).length := by rw [Array.size_map, evs_length, ← g1, Array.length_toList]
    obtain ⟨h1, h2⟩ := callP_sound (P := P) (vals := c.args.map a.eval ++ vs) hcall hs hf (by rw [Array.size_append, List.length_append, hlen, hvs]) (by
      intro j v hj
      rw [Array.getD_eq_getD_getElem?]
      by_cases hjl : j < (evs σ ys).length
      · rw [List.getElem?_append_left hjl] at hj
        have := evs_rep hs g2 g1 j v hj
        rw [Array.getElem?_append_left (by rw [hlen]; exact hjl)]
        rw [Array.getD_eq_getD_getElem?] at this
        simpa using this
      · rw [List.getElem?_append_right (by omega)] at hj
        have := hcv _ v hj
        rw [Array.getElem?_append_right (by rw [hlen]; omega), hlen]
        rwa [Array.getD_eq_getD_getElem?] at this) hN h
    unfold Oper.wp
    have hrun : (execOp a.eval o).run P w = .ok (.enter f (c.args.map a.eval ++ vs)) w := by
      simp only [execOp, ho, resolve, hc, e, Deferred.ofValue, Sem.run_bind, Sem.run_pure, Result.andThen_ok, invoke, Array.empty_append]
      exact run_callFunc' h1 _
    rw [hrun]
    refine h2.mono ?_
    rintro e' w' ⟨v, rfl, hA⟩
    exact hA
  · exact h.elim

def compO (P : Program) (o : Oper) : Option AOp :=
  match o.op, o.dst with
  | .move x, some d => match opdC (elemSz P o.type) x with | some x => some (.mv d x) | none => none
  | .assign x, some d => match opdC (elemSz P o.type) x with | some x => some (.mv d x) | none => none
  | .pick c x y, some d => match opdC none c, opdC (elemSz P o.type) x, opdC (elemSz P o.type) y with
    | some c, some x, some y => some (.pick d c x y)
    | _, _, _ => none
  | .box t x, some d => match opdC (elemSz P t) x with | some x => some (.box d x) | none => none
  | .alloc t, some d => match zcells P t with | some l => some (.alloc d l) | none => none
  | .build t ps, some d => match P.underlying t with
    | some (.struct fs) => match sizesOK P fs, zcells P t, bldC P fs ps.toList with
      | true, some z, some l => some (.build d z l)
      | _, _, _ => none
    | _ => none
  | .buildSlice t n ps, some d => match P.underlying t with
    | some (.slice e) => match P.info? e with
      | some ie => match ie.zero, decide (n * ie.size ≤ 2 ^ 24 ∧ 0 < n ∧ 0 < ie.size), partsC (elemSz P e) 0 ps.toList with
        | some _, true, some xs => if xs.length = n then some (.bsl d ie.size xs) else none
        | _, _, _ => none
      | none => none
    | _ => none
  | .load t x, some d => match aggOf P t, (P.info? t).map (·.size), opdC none x with
    | some ag, some n, some x => some (.ld d n ag x)
    | _, _, _ => none
  | .store t x y, none => match (P.info? t).map (·.size), opdC none x, opdC (elemSz P t) y with
    | some n, some x, some y => some (.st x n y)
    | _, _, _ => none
  | .nilCheck x, some d => match opdC none x with | some x => some (.nc d x) | none => none
  | .binOp b t1 x y _, some d => match opdC none x, opdC none y with
    | some x, some y => match P.underlying t1 with
      | some .bool => match negC b with | some ng => some (.binB d ng x y) | none => none
      | _ => match compB b with | some b => some (.bin d b x y) | none => none
    | _, _ => none
  | .unOp .not _ x, some d => match opdC none x with | some x => some (.no d x) | none => none
  | .fieldAddr t x i, some d => match P.underlying t with
    | some (.struct fs) => match fs[i]? with
      | some f => match (P.info? f.type).map (·.size), opdC none x with
        | some n, some x => if n = 0 then none else some (.fa d x f.offset)
        | _, _ => none
      | none => none
    | _ => none
  | .field t x i, some d => match P.underlying t with
    | some (.struct fs) => match fs[i]? with
      | some f => match (P.info? f.type).map (·.size), aggOf P f.type, opdC none x with
        | some n, some ag, some x => some (.fld d x f.offset n ag)
        | _, _, _ => none
      | none => none
    | _ => none
  | .indexAddr t x y, some d => match P.underlying t with
    | some (.slice e) => match (P.info? e).map (·.size), opdC none x, opdC none y with
      | some n, some x, some y => some (.ia d n x y)
      | _, _, _ => none
    | _ => none
  | .index t x y, some d => match P.underlying t with
    | some .string => match opdC none x, opdC none y with
      | some x, some y => some (.ix d x y)
      | _, _ => none
    | _ => none
  | .slice t x lo hi mx, some d => match P.underlying t with
    | some .string => match opdC none x, optC lo, optC hi, mx with
      | some x, some lo, some hi, none => some (.slS d x lo hi)
      | _, _, _, _ => none
    | some (.slice e) => match (P.info? e).map (·.size), opdC none x, optC lo with
      | some n, some x, some lo' => match optC hi, optC mx with
        | some hi', some mx' => if mx.isSome = true ∧ hi.isSome = false then none else some (.slL d n x lo' hi' mx')
        | _, _ => none
      | _, _, _ => none
    | _ => none
  | .convert t1 t2 x, some d => match P.underlying t1, P.underlying t2, opdC none x with
    | some (.int _), some (.int k), some x => some (.cvi d k x)
    | _, _, _ => none
  | .extract x i, some d => match opdC none x with | some x => some (.ext d x i) | none => none
  | .makeFunc (.func f) ⟨[]⟩ cs, some d => match opdsC P cs.toList [] with | some ys => some (.mkf d f ys) | none => none
  | .call c, dst => match c.callee with
    | .value f => match opdC none f, opdsC P c.args.toList c.argTypes.toList with
      | some f, some ys => some (.call dst f ys)
      | _, _ => none
    | .builtin .len => match dst, c with
      | some d, { callee := _, args := ⟨[x]⟩, argTypes := ⟨[t]⟩ } => match P.underlying t, opdC none x with
        | some .string, some x => some (.lenS d x)
        | some (.slice _), some x => some (.len d x)
        | _, _ => none
      | _, _ => none
    | .builtin .append => match dst, c with
      | some d, { callee := _, args := ⟨[x, y]⟩, argTypes := ⟨[t, t']⟩ } => if t = t' then match P.underlying t with
        | some (.slice e) => match P.info? e with
          | some ie => match ie.zero, opdC (elemSz P t) x, opdC (elemSz P t) y with
            | some z, some x, some y => if z.cells.size = ie.size ∧ 0 < ie.size then some (.app d ie.size ie.bytes x y) else none
            | _, _, _ => none
          | none => none
        | _ => none
        else none
      | _, _ => none
    | .builtin .max => match dst, c with
      | some d, { callee := _, args := ⟨[x, y]⟩, argTypes := _ } => match opdC none x, opdC none y with
        | some x, some y => some (.mx d x y)
        | _, _ => none
      | _, _ => none
    | _ => none
  | _, _ => none

theorem eff_sound (hcall : ∀ f args H res H', call f args H res H' → Ctr P W0 f args H res H') (hs : RepS W0 κ σ a w) (hf : Fresh κ id) {g : AOp} (hg : compO P o = some g) (hN : ∀ d', o.dst = some d' → d' < a.tmps.size)
    (h : eff call σ id g F) : o.wp P a w (After W0 κ σ a w id F) Q := by
  unfold compO at hg
  split at hg
  · rename_i x d ho hd
    split at hg <;> first | cases hg | skip
    exact s_mv hs (.inl ho) hd (by assumption) (hN d hd) h
  · rename_i x d ho hd
    split at hg <;> first | cases hg | skip
    exact s_mv hs (.inr ho) hd (by assumption) (hN d hd) h
  · rename_i c x y d ho hd
    split at hg <;> first | cases hg | skip
    exact s_pick hs ho hd (by assumption) (by assumption) (by assumption) (hN d hd) h
  · rename_i t x d ho hd
    split at hg <;> first | cases hg | skip
    exact s_box hs hf ho hd (by assumption) (hN d hd) h
  · rename_i t d ho hd
    split at hg <;> first | cases hg | skip
    exact s_alloc hs hf ho hd (by assumption) (hN d hd) h
  · rename_i t ps d ho hd
    split at hg <;> first | cases hg | skip
    rename_i fs hu
    split at hg <;> first | cases hg | skip
    exact s_build hs ho hd hu (by assumption) (by assumption) (by assumption) (hN d hd) h
  · rename_i t n ps d ho hd
    split at hg <;> first | cases hg | skip
    rename_i e hu
    split at hg <;> first | cases hg | skip
    rename_i ie hie
    split at hg <;> first | cases hg | skip
    rename_i zv xs hz hdec hps
    split at hg <;> first | cases hg | skip
    rename_i hlen
    obtain ⟨h1, h2, h3⟩ := of_decide_eq_true hdec
    exact s_bsl hs ho hd hu hie hz rfl h1 h2 h3 hps hlen (hN d hd) h
  · rename_i t x d ho hd
    split at hg <;> first | cases hg | skip
    exact s_ld hs ho hd (by assumption) (by assumption) (by assumption) (hN d hd) h
  · rename_i t x y ho hd
    split at hg <;> first | cases hg | skip
    exact s_st hs ho hd (by assumption) (by assumption) (by assumption) h
  · rename_i x d ho hd
    split at hg <;> first | cases hg | skip
    exact s_nc hs ho hd (by assumption) (hN d hd) h
  · rename_i b t1 x y t2 d ho hd
    split at hg <;> first | cases hg | skip
    split at hg
    · split at hg <;> first | cases hg | skip
      exact s_binB hs ho hd (by assumption) (by assumption) (by assumption) (by assumption) (hN d hd) h
    · split at hg <;> first | cases hg | skip
      exact s_bin hs ho hd (by assumption) (by assumption) (by assumption) (hN d hd) h
  · rename_i t x d ho hd
    split at hg <;> first | cases hg | skip
    exact s_no hs ho hd (by assumption) (hN d hd) h
  · rename_i t x i d ho hd
    split at hg <;> first | cases hg | skip
    rename_i fs hu
    split at hg <;> first | cases hg | skip
    rename_i f hfi
    split at hg <;> first | cases hg | skip
    split at hg <;> first | cases hg | skip
    exact s_fa hs ho hd (by assumption) hu hfi (by assumption) (by assumption) (hN d hd) h
  · rename_i t x i d ho hd
    split at hg <;> first | cases hg | skip
    rename_i fs hu
    split at hg <;> first | cases hg | skip
    rename_i f hfi
    split at hg <;> first | cases hg | skip
    exact s_fld hs ho hd (by assumption) hu hfi (by assumption) (by assumption) (hN d hd) h
  · rename_i t x y d ho hd
    split at hg <;> first | cases hg | skip
    rename_i e hu
    split at hg <;> first | cases hg | skip
    exact s_ia hs ho hd (by assumption) (by assumption) hu (by assumption) (hN d hd) h
  · rename_i t x y d ho hd
    split at hg <;> first | cases hg | skip
    rename_i hu
    split at hg <;> first | cases hg | skip
    exact s_ix hs ho hd (by assumption) (by assumption) hu (hN d hd) h
  · rename_i t x lo hi mx d ho hd
    split at hg <;> first | cases hg | skip
    · rename_i hu
      split at hg <;> first | cases hg | skip
      exact s_slS hs ho hd (by assumption) (by assumption) (by assumption) hu (hN d hd) h
    · rename_i e hu
      split at hg <;> first | cases hg | skip
      split at hg <;> first | cases hg | skip
      split at hg <;> first | cases hg | skip
      rename_i hm
      exact s_slL hs hf ho hd (by assumption) (by assumption) (by assumption) (by assumption) (fun hh => by
        cases hi with
        | some _ => rfl
        | none => exact absurd ⟨hh, rfl⟩ hm) hu (by assumption) (hN d hd) h
  · rename_i t1 t2 x d ho hd
    split at hg <;> first | cases hg | skip
    exact s_cvi hs ho hd (by assumption) (by assumption) (by assumption) (hN d hd) h
  · rename_i x i d ho hd
    split at hg <;> first | cases hg | skip
    exact s_ext hs ho hd (by assumption) (hN d hd) h
  · rename_i f cs d ho hd
    split at hg <;> first | cases hg | skip
    exact s_mkf hs ho hd (by assumption) (hN d hd) h
  · rename_i c ho
    split at hg
    · rename_i fo hc
      split at hg <;> first | cases hg | skip
      exact s_call hcall hs hf ho hc (by assumption) (by assumption) hN h
    · rename_i hc
      split at hg <;> first | cases hg | skip
      rename_i d cal x t hd
      simp only at hc
      subst hc
      split at hg <;> first | cases hg | skip
      · exact s_lenS hs ho hd (by assumption) (by assumption) (hN d hd) h
      · exact s_len hs ho hd (by assumption) (by assumption) (hN d hd) h
    · rename_i hc
      split at hg <;> first | cases hg | skip
      rename_i d cal x y t t' hd
      simp only at hc
      subst hc
      split at hg <;> first | cases hg | skip
      rename_i htt
      subst htt
      split at hg <;> first | cases hg | skip
      rename_i e hu
      split at hg <;> first | cases hg | skip
      rename_i ie hie
      split at hg <;> first | cases hg | skip
      rename_i zv x' y' hz hx hy
      split at hg <;> first | cases hg | skip
      rename_i hh
      exact s_app hs hf ho hd hx hy hu hie rfl rfl hz hh.1 hh.2 (hN d hd) h
    · rename_i hc
      split at hg <;> first | cases hg | skip
      rename_i d cal x y tss hd
      simp only at hc
      subst hc
      split at hg <;> first | cases hg | skip
      exact s_mx hs ho hd (by assumption) (by assumption) (hN d hd) h
    · cases hg
  · cases hg
end
end Go.Abs

namespace Go.Abs
open Go
structure Ann where
  opn : List Nat
  gl : Nat → Option (List Data)
  frz : Nat → List Nat
  cut : Nat → Bool := fun _ => false

/-- a constant spelt as a pattern says: which slices have which size -/
def constLike : List AV → List Value → Option (List AV)
  | [], [] => some []
  | p :: ps, v :: vs => match constC (match p with | .sl z _ _ => some z | _ => none) v, constLike ps vs with
    | some x, some xs => some (x :: xs)
    | _, _ => none
  | _, _ => none

theorem constLike_spec {κ : Gh} {w : World} : ∀ {ps : List AV} {vs : List Value} {xs : List AV}, constLike ps vs = some xs → xs.length = vs.length ∧ (∀ x, x ∈ xs → one x = true) ∧ ∀ (i : Nat) (x : AV), xs[i]? = some x → RepV κ w x (vs.getD i undef)
  | [], [], xs, h => by simp only [constLike] at h; cases h; exact ⟨rfl, by simp, by simp⟩
  | p :: ps, v :: vs, xs, h => by
    simp only [constLike] at h
    split at h
    · rename_i x xs' hx hxs
      cases h
      obtain ⟨h1, h2, h3⟩ := constLike_spec (κ := κ) (w := w) hxs
      obtain ⟨g1, g2⟩ := constC_rep (κ := κ) (w := w) hx
      refine ⟨by simp [h1], fun y hy => ?_, fun i y hy => ?_⟩
      · rcases List.mem_cons.1 hy with rfl | hy
        · exact g2
        · exact h2 y hy
      · cases i with
        | zero => simp at hy; subst hy; simpa using g1
        | succ i => simpa using h3 i y (by simpa using hy)
    · cases h
  | [], _ :: _, xs, h => by simp [constLike] at h
  | _ :: _, [], xs, h => by simp [constLike] at h

def special (P : Program) (an : Ann) (o : Oper) : Option AOp :=
  match o.op, o.dst with
  | .makeSlice t (.tmp i) (.tmp j), some d => match Nat.beq i j, P.underlying t, an.opn.contains d with
    | true, some (.slice e), true => match P.info? e, zcells P e with
      | some ie, some zl => if zl.length = ie.size then some (.mk d ie.size ie.bytes zl (.t i)) else none
      | _, _ => none
    | true, some (.slice e), false => match P.info? e, zcells P e with
      | some ie, some zl => match cellsD zl with
        | some zd => if zl.length = ie.size then some (.mkF d ie.size ie.bytes zd (.t i)) else none
        | none => none
      | _, _ => none
    | _, _, _ => none
  | .buildSlice t 1 ⟨[(0, .const (.agg cs))]⟩, some d => match P.underlying t with
    | some (.slice e) => match P.info? e, zcells P e with
      | some ie, some zl => match ie.zero, decide (1 * ie.size ≤ 2 ^ 24 ∧ 0 < ie.size), constLike zl cs.toList with
        | some _, true, some xs => some (.bsl d ie.size [.c (.agg xs)])
        | _, _, _ => none
      | _, _ => none
    | _ => none
  | .indexAddr t (.global g) y, some d => match P.underlying t, an.gl g, opdC none y with
    | some (.array n e), some cells, some y => match (P.info? e).map (·.size) with
      | some sz => if cells.length = n * sz ∧ 0 < sz then some (.iaG d cells sz y) else none
      | none => none
    | _, _, _ => none
  | .unOp .xor _ x, some d => match opdC none x with
    | some x => some (.bin d .xor (.c (.sc (.i .i64 (-1)))) x)
    | none => none
  | .call { callee := .builtin .cap, args := ⟨[x]⟩, argTypes := ⟨[t]⟩ }, some d => match P.underlying t, opdC none x with
    | some (.slice _), some x => some (.cap d x)
    | _, _ => none
  | .call { callee := .builtin .append, args := ⟨[x, y]⟩, argTypes := ⟨[t, t']⟩ }, some d => match P.underlying t, P.underlying t' with
    | some (.slice e), some (.int _) => match P.info? e, zcells P e, opdC (elemSz P t) x, opdC none y with
      | some ie, some zl, some x, some y => match cellsD zl with
        | some zd => if zl.length = ie.size ∧ 0 < ie.size then some (.appZ d ie.size ie.bytes zd x y) else none
        | none => none
      | _, _, _, _ => none
    | some (.slice e), _ => match an.opn.contains d with
      | true => if t = t' then match P.info? e with
          | some ie => match ie.zero, opdC (elemSz P t) x, opdC (elemSz P t) y with
            | some z, some x, some y => if z.cells.size = ie.size ∧ 0 < ie.size then some (.appM d ie.size ie.bytes x y) else none
            | _, _, _ => none
          | none => none
        else none
      | false => none
    | _, _ => none
  | .binOp b t x y _, some d => match P.underlying t with
    | some (.struct fs) => match negC b, opdC none x, opdC none y, okEq P fs.toList 0, P.stoodInHeld t, P.eqGuardType P.depth t with
      | some ng, some x, some y, some ks, false, false => some (.eqA d ng ks x y)
      | _, _, _, _, _, _ => none
    | _ => none
  | .makeMap t none, some d => match P.underlying t with
    | some (.map _ _) => some (.mkM d)
    | _ => none
  | .lookup t x k true, some d => match P.underlying t with
    | some (.map kt e) => match P.underlying kt, P.info? e, zcells P e, opdC none x, opdC none k with
      | some (.int .i64), some ie, some zl, some x, some k => match ie.zero, cellsD zl with
        | some (.agg _), some zd => some (.lkM d zd x k)
        | _, _ => none
      | _, _, _, _, _ => none
    | _ => none
  | .mapUpdate t x k v, none => match P.underlying t with
    | some (.map kt _) => match P.underlying kt, opdC none x, opdC none k, opdC none v with
      | some (.int .i64), some x, some k, some v => some (.upM x k v)
      | _, _, _, _ => none
    | _ => none
  | _, _ => none

def compO2 (P : Program) (an : Ann) (o : Oper) : Option AOp := match special P an o with
  | some g => some g
  | none => compO P o

section
variable {P : Program} {W0 : World} {κ : Gh} {σ : Log} {a : Act} {w : World} {id : Nat} {F : Log → Prop} {call : CallP} {o : Oper} {Q : Exit → Act → World → Prop}
theorem eff_sound2 {an : Ann} (hG : ∀ g cells, an.gl g = some cells → GlobOK W0 g cells) (hcall : ∀ f args H res H', call f args H res H' → Ctr P W0 f args H res H') (hs : RepS W0 κ σ a w) (hf : Fresh κ id) {g : AOp} (hg : compO2 P an o = some g) (hN : ∀ d', o.dst = some d' → d' < a.tmps.size)
    (h : eff call σ id g F) : o.wp P a w (After W0 κ σ a w id F) Q := by
  unfold compO2 at hg
  split at hg
  · rename_i g' hsp
    cases hg
    unfold special at hsp
    split at hsp
    · rename_i t i j d ho hd
      split at hsp <;> first | cases hsp | skip
      rename_i e hij hu hop
      split at hsp <;> first | cases hsp | skip
      rename_i ie zl hie hzl
      split at hsp <;> first | cases hsp | skip
      rename_i hlen
      have hij' := Nat.eq_of_beq_eq_true hij
      subst hij'
      obtain ⟨i', v, h1, h2, h3⟩ := zcells_ok hzl
      rw [hie] at h1
      cases h1
      exact s_mk (z := none) hs hf ho hd rfl hu hie h2 rfl rfl h3 (by rw [← hlen]; exact (h3 κ w).1) (hN d hd) h
      rename_i e hij hu hop
      split at hsp <;> first | cases hsp | skip
      rename_i ie zl hie hzl
      split at hsp <;> first | cases hsp | skip
      rename_i zd hzd
      split at hsp <;> first | cases hsp | skip
      rename_i hlen
      have hij' := Nat.eq_of_beq_eq_true hij
      subst hij'
      obtain ⟨i', v, h1, h2, h3⟩ := zcells_ok hzl
      rw [hie] at h1
      cases h1
      exact s_mkF (z := none) hs ho hd rfl hu hie h2 rfl rfl h3 (by rw [← hlen]; exact (h3 κ w).1) hzd (hN d hd) h
    · rename_i t cs d ho hd
      split at hsp <;> first | (cases hsp; done) | skip
      rename_i e hu
      split at hsp <;> first | (cases hsp; done) | skip
      rename_i ie zl hie hzl
      split at hsp <;> first | (cases hsp; done) | skip
      rename_i zv xs hz hdec hxs
      cases hsp
      obtain ⟨q1, q2⟩ := of_decide_eq_true hdec
      refine s_bslG hs ho hd hu hie hz rfl q1 (by omega) q2 ⟨rfl, rfl, fun i v hi => ?_⟩ rfl (hN d hd) h
      cases i with
      | zero =>
        simp at hi
        subst hi
        refine ⟨_, rfl, ?_⟩
        obtain ⟨h1, h2, h3⟩ := constLike_spec (κ := κ) (w := w) hxs
        exact RepV.agg xs cs (by simpa using h1.symm) h2 (fun i x hx => by simpa using h3 i x hx)
      | succ i => simp at hi
    · rename_i t gl y d ho hd
      split at hsp <;> first | cases hsp | skip
      rename_i n e cells y' hu hgl hy
      split at hsp <;> first | cases hsp | skip
      rename_i sz hsz
      split at hsp <;> first | cases hsp | skip
      rename_i hh
      exact s_iaG hs ho hd hy hu hsz hh.1 hh.2 (hG _ _ hgl) (hN d hd) h
    · rename_i t x d ho hd
      split at hsp <;> first | cases hsp | skip
      rename_i x' hx
      exact s_inv hs ho hd hx (hN d hd) h
    · rename_i x t d ho hd
      split at hsp <;> first | cases hsp | skip
      rename_i e x' hu hx
      exact s_cap hs ho hd hx hu (hN d hd) h
    · rename_i x y t t' d ho hd
      split at hsp <;> first | (cases hsp; done) | skip
      · rename_i e kn hu hun
        split at hsp <;> first | (cases hsp; done) | skip
        rename_i ie zl x' y' hie hzl hx hy
        split at hsp <;> first | (cases hsp; done) | skip
        rename_i zd hzd
        split at hsp <;> first | (cases hsp; done) | skip
        rename_i hh
        cases hsp
        obtain ⟨i', v, h1, h2, h3⟩ := zcells_ok hzl
        rw [hie] at h1
        cases h1
        exact s_appZ hs hf ho hd hx hy hu hun hie h2 rfl rfl h3 (by rw [← hh.1]; exact (h3 κ w).1) hzd hh.2 (hN d hd) h
      · rename_i e hu _
        split at hsp <;> first | (cases hsp; done) | skip
        split at hsp <;> first | (cases hsp; done) | skip
        rename_i htt
        subst htt
        split at hsp <;> first | (cases hsp; done) | skip
        rename_i ie hie
        split at hsp <;> first | (cases hsp; done) | skip
        rename_i zv x' y' hz hx hy
        split at hsp <;> first | (cases hsp; done) | skip
        rename_i hh
        cases hsp
        exact s_appM hs hf ho hd hx hy hu hie rfl rfl hz hh.1 hh.2 (hN d hd) h
    · rename_i b t x y t2 d ho hd
      split at hsp <;> first | (cases hsp; done) | skip
      rename_i fs hu
      split at hsp <;> first | (cases hsp; done) | skip
      rename_i ng x' y' ks h1 h2 h3 h4 h5 h6
      cases hsp
      exact s_eqA hs ho hd h2 h3 h1 hu h4 h5 h6 (hN d hd) h
    · rename_i t d ho hd
      split at hsp <;> first | (cases hsp; done) | skip
      cases hsp
      exact s_mkM hs hf ho hd (hN d hd) h
    · rename_i t x k d ho hd
      split at hsp <;> first | (cases hsp; done) | skip
      rename_i kt e hu
      split at hsp <;> first | (cases hsp; done) | skip
      rename_i ie zl x' k' hkt hie hzl hx hk
      split at hsp <;> first | (cases hsp; done) | skip
      rename_i cs zd hz hzd
      cases hsp
      obtain ⟨i', v, h1, h2, h3⟩ := zcells_ok hzl
      rw [hie] at h1
      cases h1
      rw [hz] at h2
      cases h2
      obtain ⟨c1, c2⟩ := cellsD_spec hzd
      refine s_lkM hs ho hd hx hk hu hkt hie hz (fun κ w => ?_) (hN d hd) h
      have hL := h3 κ w
      refine dcells_repL (by rw [c1]; exact hL.1) fun j dd hj => ?_
      have hjl : j < zl.length := by rw [← c1]; exact (List.getElem?_eq_some_iff.1 hj).1
      obtain ⟨dd', g1, g2⟩ := c2 j zl[j] (List.getElem?_eq_getElem hjl)
      rw [hj] at g1
      cases g1
      exact cellD_rep (hL.2.2 j _ (List.getElem?_eq_getElem hjl)) g2
    · rename_i t x k v ho hd
      split at hsp <;> first | (cases hsp; done) | skip
      rename_i kt e hu
      split at hsp <;> first | (cases hsp; done) | skip
      rename_i x' k' v' hkt hx hk hv
      cases hsp
      exact s_upM hs ho hd hx hk hv hu hkt h
    · cases hsp
  · exact eff_sound hcall hs hf hg hN h
end
end Go.Abs

namespace Go.Abs
open Go
theorem ev_agree {σ σ' : Log} {x : Opd} (h : ∀ l, l ∈ opdR x → look σ' l = look σ l) : ev σ' x = ev σ x := by
  cases x with
  | t n => simp only [ev]; rw [h (.s n) (by simp [opdR])]
  | c v => rfl

theorem evs_agree {σ σ' : Log} : ∀ {xs : List Opd}, (∀ l, l ∈ opdsR xs → look σ' l = look σ l) → evs σ' xs = evs σ xs
  | [], _ => rfl
  | x :: r, h => by
    simp only [evs]
    rw [ev_agree fun l hl => h l (by simp [opdsR, hl]), evs_agree fun l hl => h l (by simp [opdsR, hl])]

theorem mem_keys {δ : Log} {l : Loc} : l ∈ keysL δ ↔ look δ l ≠ none := by
  induction δ with
  | nil => simp [keysL, look]
  | cons x r ih =>
    obtain ⟨k, c⟩ := x
    rw [keysL, look_cons, List.mem_cons, ih]
    by_cases h : k = l
    · simp [h]
    · have : ¬ l = k := fun e => h e.symm
      simp [h, this]

theorem optI_agree {σ σ' : Log} {x : Option Opd} {z : Int} {K : Int → Prop} (h : ∀ l, l ∈ optR x → look σ' l = look σ l) : optI σ' x z K = optI σ x z K := by
  cases x with
  | none => rfl
  | some x => simp only [optI]; rw [ev_agree h]

theorem optI_pick {σ : Log} {x : Option Opd} {z : Int} {K : Int → Prop} (h : optI σ x z K) : ∃ n, K n ∧ ∀ G : Int → Prop, G n → optI σ x z G := by
  cases x with
  | none => exact ⟨z, h, fun G g => g⟩
  | some x =>
    simp only [optI] at h ⊢
    split at h
    · rename_i n he; exact ⟨n, h, fun G g => g⟩
    · exact h.elim

theorem bld_pick {σ : Log} : ∀ {ps : List (Nat × Nat × Opd)} {z : List AV} {F : List AV → Prop}, bld σ ps z F → ∃ r, F r ∧ ∀ σ', (∀ l, l ∈ opdsR (ps.map fun p => p.2.2) → look σ' l = look σ l) → ∀ G : List AV → Prop, G r → bld σ' ps z G
  | [], z, F, h => ⟨z, h, fun _ _ G g => g⟩
  | (o, n, x) :: ps, z, F, h => by
    simp only [bld] at h
    obtain ⟨h1, h⟩ := frcL_iff.1 h
    split at h
    · rename_i hb
      split at h
      · rename_i z' hz
        obtain ⟨r, hr, hG⟩ := bld_pick h
        refine ⟨r, hr, fun σ' ha G g => ?_⟩
        simp only [bld]
        have e : ev σ' x = ev σ x := ev_agree fun l hl => ha l (by simp [opdsR, hl])
        rw [e, frcL_iff]
        refine ⟨h1, ?_⟩
        simp only [hb, hz]
        exact hG σ' (fun l hl => ha l (by simp only [List.map_cons, opdsR]; exact List.mem_append_right _ hl)) G g
      · exact h.elim
    · exact h.elim

theorem bslc_pick {σ : Log} {sz : Nat} : ∀ {ps : List Opd} {F : List (List Data) → Prop}, bslc σ sz ps F → ∃ r, F r ∧ ∀ σ', (∀ l, l ∈ opdsR ps → look σ' l = look σ l) → ∀ G : List (List Data) → Prop, G r → bslc σ' sz ps G
  | [], F, h => ⟨[], h, fun _ _ G g => g⟩
  | x :: ps, F, h => by
    simp only [bslc] at h
    obtain ⟨h1, h⟩ := frcL_iff.1 h
    split at h
    · exact h.elim
    · rename_i ds hds
      split at h
      · rename_i hb
        obtain ⟨r, hr, hG⟩ := bslc_pick h
        refine ⟨ds :: r, hr, fun σ' ha G g => ?_⟩
        simp only [bslc]
        have e : ev σ' x = ev σ x := ev_agree fun l hl => ha l (by simp [opdsR, hl])
        rw [e, frcL_iff]
        refine ⟨h1, ?_⟩
        simp only [hb, hds]
        exact hG σ' (fun l hl => ha l (by simp only [opdsR]; exact List.mem_append_right _ hl)) _ g
      · exact h.elim

theorem ldv_pick {d : Nat} {ag : Bool} {l : Option (List AV)} {F : Log → Prop} (h : ldv d ag l F) : ∃ δ, F δ ∧ ∀ G : Log → Prop, G δ → ldv d ag l G := by
  cases l with
  | none => exact h.elim
  | some l =>
    cases ag with
    | true =>
      obtain ⟨h1, h⟩ := frcL_iff.1 (show frcL l fun l => F [(.s d, .av (.agg l))] from h)
      exact ⟨_, h, fun G g => frcL_iff.2 ⟨h1, g⟩⟩
    | false =>
      simp only [ldv] at h ⊢
      split at h
      · obtain ⟨h1, h⟩ := frc1_iff.1 h
        exact ⟨_, h, fun G g => frc1_iff.2 ⟨h1, g⟩⟩
      · exact h.elim

theorem binI_pick {o : Bin} {k : IntKind} {a b : Int} {F : AV → Prop} (h : binI o k a b F) : ∃ v, F v ∧ ∀ G : AV → Prop, G v → binI o k a b G := by
  cases o <;> first | exact ⟨_, h, fun G g => g⟩ | exact ⟨_, h.2, fun G g => ⟨h.1, g⟩⟩

theorem binS_pick {o : Bin} {a b : List UInt8} {F : AV → Prop} (h : binS o a b F) : ∃ v, F v ∧ ∀ G : AV → Prop, G v → binS o a b G := by
  cases o <;> first | exact (show False from h).elim | exact ⟨_, h, fun G g => g⟩ | exact ⟨_, h.2, fun G g => ⟨h.1, g⟩⟩

theorem binP_pick {o : Bin} {x y : AV} {F : AV → Prop} (h : binP o x y F) : ∃ v, F v ∧ ∀ G : AV → Prop, G v → binP o x y G := by
  unfold binP at h
  split at h
  · rename_i k a k' b
    split at h
    · rename_i hk
      obtain ⟨v, h1, h2⟩ := binI_pick h
      refine ⟨v, h1, fun G g => ?_⟩
      simp only [binP, hk]
      exact h2 G g
    · exact h.elim
  · obtain ⟨v, h1, h2⟩ := binS_pick h
    exact ⟨v, h1, fun G g => h2 G g⟩
  · exact h.elim

theorem boxIs_agree {σ σ' : Log} {bs0 ts : List Nat} {id : Nat} : ∀ {bs : List Nat} {H : List (List AV)}, (∀ b, b ∈ bs → look σ' (.b b) = look σ (.b b)) → boxIs σ bs0 ts id bs H → boxIs σ' bs0 ts id bs H
  | [], [], _, h => h
  | b :: bs, h :: H, ha, hh => by
    obtain ⟨h1, h2⟩ := hh
    refine ⟨?_, boxIs_agree (fun b hb => ha b (by simp [hb])) h2⟩
    rw [ha b (by simp)]; exact h1
  | [], _ :: _, _, h => h.elim
  | _ :: _, [], _, h => h.elim

theorem liveAll_agree {σ σ' : Log} : ∀ {ts : List Nat}, (∀ b, b ∈ ts → look σ' (.t b) = look σ (.t b)) → liveAll σ ts → liveAll σ' ts
  | [], _, _ => trivial
  | b :: ts, ha, h => by
    obtain ⟨h1, h2⟩ := h
    refine ⟨?_, liveAll_agree (fun b hb => ha b (by simp [hb])) h2⟩
    rw [ha b (by simp)]; exact h1

theorem rb_mem {bs ts : List Nat} {id : Nat} : ∀ {H : List (List AV)} {n i : Nat}, i < H.length → Loc.b (rb bs id (n + i)) ∈ keysL (newBoxes bs ts id n H)
  | [], n, i, h => by simp at h
  | h :: H, n, i, hi => by
    simp only [newBoxes, keysL]
    cases i with
    | zero => simp
    | succ i =>
      have := rb_mem (bs := bs) (ts := ts) (id := id) (H := H) (n := n + 1) (i := i) (by simpa using hi)
      rw [show n + 1 + i = n + (i + 1) by omega] at this
      exact List.mem_cons_of_mem _ this

theorem off_mem : ∀ {ts : List Nat} {k : Nat}, k ∈ ts → Loc.t k ∈ keysL (offToks ts)
  | [], k, h => by cases h
  | x :: ts, k, h => by
    simp only [offToks, keysL]
    rcases List.mem_cons.1 h with rfl | h
    · simp
    · exact List.mem_cons_of_mem _ (off_mem h)

theorem keys_append {δ δ' : Log} {l : Loc} : l ∈ keysL (δ ++ δ') ↔ l ∈ keysL δ ∨ l ∈ keysL δ' := by
  induction δ with
  | nil => simp [keysL]
  | cons x r ih =>
    obtain ⟨k, c⟩ := x
    simp only [List.cons_append, keysL, List.mem_cons, ih, or_assoc]

theorem callP_pick {call : CallP} {σ : Log} {id : Nat} {d : Option Nat} {f : FuncId} {args : List AV} {F : Log → Prop} (h : callP call σ id d f args F) :
    ∃ δ, F δ ∧ ∀ σ', (∀ l, l ∈ keysL δ → look σ' l = look σ l) → callP call σ' id d f args (· = δ) := by
  rcases h with ⟨res, hc, hh, hF⟩ | ⟨bs, ts, args', H, H', res, hc, ⟨n1, n2, n3, n4, n5, n6, i1, i2, i3, i4, w1, w2, w3⟩, hF⟩
  · exact ⟨_, hF, fun σ' _ => .pure res hc hh rfl⟩
  · refine ⟨_, hF, fun σ' ha => .full bs ts args' H H' res hc ⟨n1, n2, n3, n4, n5, n6, i1, i2, i3, i4, w1, boxIs_agree ?_ w2, liveAll_agree ?_ w3⟩ rfl⟩
    · intro b hb
      refine ha _ (keys_append.2 (.inl (keys_append.2 (.inl (keys_append.2 (.inr ?_))))))
      obtain ⟨i, hi⟩ := List.mem_iff_getElem?.1 hb
      have hil := (List.getElem?_eq_some_iff.1 hi).1
      have := rb_mem (bs := bs) (ts := ts) (id := id) (H := H') (n := 0) (i := i) (Nat.lt_of_lt_of_le hil (Nat.le_of_ble_eq_true n3))
      simpa [rb, hi] using this
    · intro k hk
      exact ha _ (keys_append.2 (.inr (off_mem hk)))

theorem eff_pick {call : CallP} {σ : Log} {id : Nat} {o : AOp} {F : Log → Prop} (h : eff call σ id o F) :
    ∃ δ, F δ ∧ ∀ σ', (∀ l, l ∈ o.rd σ ∨ l ∈ keysL δ → look σ' l = look σ l) → eff call σ' id o (· = δ) := by
  have E : ∀ {σ' : Log} {x : Opd} {R : List Loc} {δ : Log}, (∀ l, l ∈ R ∨ l ∈ keysL δ → look σ' l = look σ l) → (∀ l, l ∈ opdR x → l ∈ R) → ev σ' x = ev σ x :=
    fun ha hx => ev_agree fun l hl => ha l (.inl (hx l hl))
  cases o with
  | mv d x =>
    obtain ⟨h1, h⟩ := frc_iff.1 (show frc (ev σ x) fun v => F [(.s d, .av v)] from h)
    refine ⟨_, h, fun σ' ha => ?_⟩
    simp only [eff]
    rw [E ha (fun l hl => hl), frc_iff]; exact ⟨h1, rfl⟩
  | pick d c a b =>
    simp only [eff] at h
    split at h
    · rename_i t ht
      cases t with
      | true =>
        obtain ⟨h1, h⟩ := frc_iff.1 h
        refine ⟨_, h, fun σ' ha => ?_⟩
        simp only [eff]
        rw [E ha (x := c) (fun l hl => by simp [AOp.rd, hl]), E ha (x := a) (fun l hl => by simp [AOp.rd, hl]), ht]
        exact frc_iff.2 ⟨h1, rfl⟩
      | false =>
        obtain ⟨h1, h⟩ := frc_iff.1 h
        refine ⟨_, h, fun σ' ha => ?_⟩
        simp only [eff]
        rw [E ha (x := c) (fun l hl => by simp [AOp.rd, hl]), E ha (x := b) (fun l hl => by simp [AOp.rd, hl]), ht]
        exact frc_iff.2 ⟨h1, rfl⟩
    · exact h.elim
  | box d x =>
    obtain ⟨h1, h⟩ := frcL_iff.1 (show frcL (flat (ev σ x)) fun l => F [(.s d, .av (.ptr id 0)), (.b id, .bx l)] from h)
    refine ⟨_, h, fun σ' ha => ?_⟩
    show frcL (flat (ev σ' x)) _
    rw [E ha (fun l hl => hl), frcL_iff]; exact ⟨h1, rfl⟩
  | alloc d z => exact ⟨_, h, fun σ' _ => rfl⟩
  | build d z ps =>
    obtain ⟨r, hr, hG⟩ := bld_pick (show bld σ ps z fun z => frcL z fun z => F [(.s d, .av (.agg z))] from h)
    obtain ⟨h1, h⟩ := frcL_iff.1 hr
    exact ⟨_, h, fun σ' ha => hG σ' (fun l hl => ha l (.inl hl)) _ (frcL_iff.2 ⟨h1, rfl⟩)⟩
  | bsl d sz xs =>
    obtain ⟨r, hr, hG⟩ := bslc_pick (show bslc σ sz xs fun els => F [(.s d, .av (.sl sz els .full))] from h)
    exact ⟨_, hr, fun σ' ha => hG σ' (fun l hl => ha l (.inl hl)) _ rfl⟩
  | ld d n ag a =>
    simp only [eff] at h
    split at h
    · rename_i b o' he
      split at h
      · rename_i l hl
        cases hm : isM l with
        | true => simp only [hm] at h
        | false =>
        simp only [hm] at h
        obtain ⟨δ, hF, hG⟩ := ldv_pick h
        refine ⟨δ, hF, fun σ' ha => ?_⟩
        simp only [eff]
        rw [E ha (x := a) (fun l hl => by simp [AOp.rd, hl]), he]
        simp only
        rw [ha (.b b) (.inl (by simp [AOp.rd, he])), hl]
        simp only [hm]
        exact hG _ rfl
      · exact h.elim
    · rename_i l o' he
      obtain ⟨δ, hF, hG⟩ := ldv_pick h
      refine ⟨δ, hF, fun σ' ha => ?_⟩
      simp only [eff]
      rw [E ha (x := a) (fun l hl => by simp [AOp.rd, hl]), he]
      exact hG _ rfl
    · exact h.elim
  | st a n x =>
    simp only [eff] at h
    split at h
    · rename_i b o' he
      split at h
      · rename_i l hl
        cases hm : isM l with
        | true => simp only [hm] at h
        | false =>
        simp only [hm] at h
        obtain ⟨h1, h⟩ := frcL_iff.1 h
        split at h
        · rename_i hb
          split at h
          · rename_i r hr
            obtain ⟨h2, h⟩ := frcL_iff.1 h
            refine ⟨_, h, fun σ' ha => ?_⟩
            simp only [eff]
            rw [E ha (x := a) (fun l hl => by simp [AOp.rd, hl]), E ha (x := x) (fun l hl => by simp [AOp.rd, hl]), he]
            simp only
            rw [ha (.b b) (.inr (by simp [keysL])), hl]
            simp only [hm]
            rw [frcL_iff]
            refine ⟨h1, ?_⟩
            simp only [hb, hr]
            exact frcL_iff.2 ⟨h2, rfl⟩
          · exact h.elim
        · exact h.elim
      · exact h.elim
    · exact h.elim
  | nc d x =>
    simp only [eff] at h
    split at h
    all_goals first | exact h.elim | skip
    all_goals
      rename_i he
      refine ⟨_, h, fun σ' ha => ?_⟩
      simp only [eff]
      rw [E ha (fun l hl => hl), he]
  | bin d o x y =>
    obtain ⟨v, hv, hG⟩ := binP_pick (show binP o (ev σ x) (ev σ y) fun v => F [(.s d, .av v)] from h)
    refine ⟨_, hv, fun σ' ha => ?_⟩
    show binP o (ev σ' x) (ev σ' y) _
    rw [E ha (x := x) (fun l hl => by simp [AOp.rd, hl]), E ha (x := y) (fun l hl => by simp [AOp.rd, hl])]
    exact hG _ rfl
  | binB d ng x y =>
    simp only [eff] at h
    split at h
    · rename_i p q he1 he2
      cases ng <;> simp only at h
      all_goals
        refine ⟨_, h, fun σ' ha => ?_⟩
        simp only [eff]
        rw [E ha (x := x) (fun l hl => by simp [AOp.rd, hl]), E ha (x := y) (fun l hl => by simp [AOp.rd, hl]), he1, he2]
    · exact h.elim
  | no d x =>
    simp only [eff] at h
    split at h
    · rename_i t he
      refine ⟨_, h, fun σ' ha => ?_⟩
      simp only [eff]
      rw [E ha (fun l hl => hl), he]
    · exact h.elim
  | fa d x off =>
    simp only [eff] at h
    split at h
    all_goals first | exact h.elim | skip
    all_goals
      rename_i he
      refine ⟨_, h, fun σ' ha => ?_⟩
      simp only [eff]
      rw [E ha (fun l hl => hl), he]
  | fld d x off n ag =>
    simp only [eff] at h
    split at h
    · rename_i l he
      obtain ⟨δ, hF, hG⟩ := ldv_pick h
      refine ⟨δ, hF, fun σ' ha => ?_⟩
      simp only [eff]
      rw [E ha (fun l hl => hl), he]
      exact hG _ rfl
    · exact h.elim
  | ia d sz x i =>
    simp only [eff] at h
    split at h
    · rename_i z els t k n he1 he2
      split at h
      · rename_i hb
        obtain ⟨e, h1, h⟩ := h
        refine ⟨_, h, fun σ' ha => ?_⟩
        simp only [eff]
        rw [E ha (x := x) (fun l hl => by simp [AOp.rd, hl]), E ha (x := i) (fun l hl => by simp [AOp.rd, hl]), he1, he2]
        simp only [hb]
        exact ⟨e, h1, rfl⟩
      · exact h.elim
    · rename_i z els b m t k n he1 he2
      split at h
      · rename_i hb
        obtain ⟨h1, h⟩ := h
        refine ⟨_, h, fun σ' ha => ?_⟩
        simp only [eff]
        rw [E ha (x := x) (fun l hl => by simp [AOp.rd, hl]), E ha (x := i) (fun l hl => by simp [AOp.rd, hl]), he1, he2]
        simp only [hb]
        exact ⟨h1, by first | rfl | trivial⟩
      · exact h.elim
    · exact h.elim
  | ix d x i =>
    simp only [eff] at h
    split at h
    · rename_i l k n he1 he2
      obtain ⟨e, h1, h⟩ := h
      refine ⟨_, h, fun σ' ha => ?_⟩
      simp only [eff]
      rw [E ha (x := x) (fun l hl => by simp [AOp.rd, hl]), E ha (x := i) (fun l hl => by simp [AOp.rd, hl]), he1, he2]
      exact ⟨e, h1, rfl⟩
    · exact h.elim
  | slS d x lo hi =>
    simp only [eff] at h
    split at h
    · rename_i l he
      obtain ⟨p, h, g1⟩ := optI_pick h
      obtain ⟨q, h, g2⟩ := optI_pick h
      refine ⟨_, h.2, fun σ' ha => ?_⟩
      simp only [eff]
      rw [E ha (x := x) (fun l hl => by simp [AOp.rd, hl]), he]
      simp only
      rw [optI_agree fun l hl => ha l (.inl (by simp [AOp.rd, hl]))]
      refine g1 _ ?_
      rw [optI_agree fun l hl => ha l (.inl (by simp [AOp.rd, hl]))]
      exact g2 _ ⟨h.1, rfl⟩
    · exact h.elim
  | slL d sz x lo hi mx =>
    simp only [eff] at h
    split at h
    · rename_i z b n t he
      split at h
      · rename_i hb
        split at h
        · rename_i hi' l hl
          obtain ⟨q, ⟨h1, h⟩, g2⟩ := optI_pick h
          cases t with
          | none => exact h.elim
          | full =>
            refine ⟨_, h, fun σ' ha => ?_⟩
            simp only [eff]
            rw [E ha (x := x) (fun l hl => by simp [AOp.rd, hl]), he]
            simp only [hb]
            rw [ha (.b b) (.inr (by simp [keysL])), hl]
            simp only
            rw [optI_agree fun l hl => ha l (.inl (by simp [AOp.rd, hl]))]
            exact g2 _ ⟨h1, by first | rfl | trivial⟩
          | t k =>
            simp only at h
            split at h
            · rename_i hk
              refine ⟨_, h, fun σ' ha => ?_⟩
              simp only [eff]
              rw [E ha (x := x) (fun l hl => by simp [AOp.rd, hl]), he]
              simp only [hb]
              rw [ha (.b b) (.inr (by simp [keysL])), hl]
              simp only
              rw [optI_agree fun l hl => ha l (.inl (by simp [AOp.rd, hl]))]
              refine g2 _ ⟨h1, ?_⟩
              rw [ha (.t k) (.inr (by simp [keysL])), hk]
              first | exact rfl | trivial
            · exact h.elim
        · exact h.elim
      · exact h.elim
    · rename_i z els t he
      split at h
      · rename_i hb
        obtain ⟨p, h, g1⟩ := optI_pick h
        obtain ⟨q, h, g2⟩ := optI_pick h
        cases mx with
        | none =>
          simp only at h
          obtain ⟨t', h⟩ := h
          refine ⟨_, h.2, fun σ' ha => ?_⟩
          simp only [eff]
          rw [E ha (x := x) (fun l hl => by simp [AOp.rd, hl]), he]
          simp only [hb]
          rw [optI_agree fun l hl => ha l (.inl (by simp [AOp.rd, hl]))]
          refine g1 _ ?_
          rw [optI_agree fun l hl => ha l (.inl (by simp [AOp.rd, hl]))]
          exact g2 _ ⟨t', h.1, by first | rfl | trivial⟩
        | some mx =>
          simp only at h
          obtain ⟨r, h, g3⟩ := optI_pick h
          refine ⟨_, h.2, fun σ' ha => ?_⟩
          simp only [eff]
          rw [E ha (x := x) (fun l hl => by simp [AOp.rd, hl]), he]
          simp only [hb]
          rw [optI_agree fun l hl => ha l (.inl (by simp [AOp.rd, hl]))]
          refine g1 _ ?_
          rw [optI_agree fun l hl => ha l (.inl (by simp [AOp.rd, hl]))]
          refine g2 _ ?_
          simp only
          rw [optI_agree fun l hl => ha l (.inl (by simp [AOp.rd, hl]))]
          exact g3 _ ⟨h.1, by first | rfl | trivial⟩
      · exact h.elim
    · exact h.elim
  | cvi d k x =>
    simp only [eff] at h
    split at h
    · rename_i k' n he
      refine ⟨_, h.2, fun σ' ha => ?_⟩
      simp only [eff]
      rw [E ha (fun l hl => hl), he]
      exact ⟨h.1, by first | rfl | trivial⟩
    · exact h.elim
  | ext d x i =>
    simp only [eff] at h
    split at h
    · rename_i l he
      split at h
      · rename_i v hv
        obtain ⟨h1, h⟩ := frc_iff.1 h
        refine ⟨_, h, fun σ' ha => ?_⟩
        simp only [eff]
        rw [E ha (fun l hl => hl), he]
        simp only [hv]
        exact frc_iff.2 ⟨h1, rfl⟩
      · exact h.elim
    · exact h.elim
  | call d f as_ =>
    simp only [eff] at h
    split at h
    · rename_i f' caps he
      obtain ⟨δ, hF, hG⟩ := callP_pick h
      refine ⟨δ, hF, fun σ' ha => ?_⟩
      simp only [eff]
      rw [E ha (x := f) (fun l hl => by simp [AOp.rd, hl]), he]
      simp only
      rw [evs_agree fun l hl => ha l (.inl (by simp [AOp.rd, hl]))]
      exact hG σ' fun l hl => ha l (.inr hl)
    · exact h.elim
  | app d sz by_ s x =>
    simp only [eff] at h
    split at h
    · rename_i z e1 t1 z' e2 t2 he1 he2
      split at h
      · rename_i hb1 hb2
        split at h
        · exact h.elim
        · refine ⟨_, h.2, fun σ' ha => ?_⟩
          simp only [eff]
          rw [E ha (x := s) (fun l hl => by simp [AOp.rd, hl]), E ha (x := x) (fun l hl => by simp [AOp.rd, hl]), he1, he2]
          simp only [hb1, hb2]
          exact ⟨h.1, by first | rfl | trivial⟩
        · rename_i k
          split at h
          · rename_i hk
            refine ⟨_, h.2, fun σ' ha => ?_⟩
            simp only [eff]
            rw [E ha (x := s) (fun l hl => by simp [AOp.rd, hl]), E ha (x := x) (fun l hl => by simp [AOp.rd, hl]), he1, he2]
            simp only [hb1, hb2]
            rw [ha (.t k) (.inr (by simp [keysL])), hk]
            exact ⟨h.1, by first | rfl | trivial⟩
          · exact h.elim
      · exact h.elim
    · exact h.elim
  | len d x =>
    simp only [eff] at h
    split at h
    · rename_i he
      refine ⟨_, h, fun σ' ha => ?_⟩
      simp only [eff]
      rw [E ha (fun l hl => hl), he]
    · rename_i he
      refine ⟨_, h, fun σ' ha => ?_⟩
      simp only [eff]
      rw [E ha (fun l hl => hl), he]
    · exact h.elim
  | lenS d x =>
    simp only [eff] at h
    split at h
    · rename_i he
      refine ⟨_, h, fun σ' ha => ?_⟩
      simp only [eff]
      rw [E ha (fun l hl => hl), he]
    · exact h.elim
  | mx d x y =>
    simp only [eff] at h
    split at h
    · rename_i p q he1 he2
      refine ⟨_, h, fun σ' ha => ?_⟩
      simp only [eff]
      rw [E ha (x := x) (fun l hl => by simp [AOp.rd, hl]), E ha (x := y) (fun l hl => by simp [AOp.rd, hl]), he1, he2]
    · exact h.elim
  | mkf d f caps =>
    obtain ⟨h1, h⟩ := frcL_iff.1 (show frcL (evs σ caps) fun caps => F [(.s d, .av (.fn f caps))] from h)
    refine ⟨_, h, fun σ' ha => ?_⟩
    show frcL (evs σ' caps) _
    rw [evs_agree fun l hl => ha l (.inl hl), frcL_iff]; exact ⟨h1, rfl⟩
  | mk d sz by_ z x =>
    simp only [eff] at h
    split at h
    · rename_i n he
      refine ⟨_, h.2, fun σ' ha => ?_⟩
      simp only [eff]
      rw [E ha (fun l hl => hl), he]
      exact ⟨h.1, by first | rfl | trivial⟩
    · exact h.elim
  | mkF d sz by_ z x =>
    simp only [eff] at h
    split at h
    · rename_i n he
      refine ⟨_, h.2, fun σ' ha => ?_⟩
      simp only [eff]
      rw [E ha (fun l hl => hl), he]
      exact ⟨h.1, by first | rfl | trivial⟩
    · exact h.elim
  | bslM d sz xs =>
    obtain ⟨r, hr, hG⟩ := bslc_pick (show bslc σ sz xs fun els => F [(.s d, .av (.mx sz [] id els.length .full)), (.b id, .bx (els.flatten.map dcell))] from h)
    exact ⟨_, hr, fun σ' ha => hG σ' (fun l hl => ha l (.inl hl)) _ rfl⟩
  | appM d sz by_ s x =>
    simp only [eff] at h
    split at h
    · rename_i z e1 t1 z' e2 t2 he1 he2
      split at h
      · rename_i hb1 hb2
        split at h
        · exact h.elim
        · refine ⟨_, h.2, fun σ' ha => ?_⟩
          simp only [eff]
          rw [E ha (x := s) (fun l hl => by simp [AOp.rd, hl]), E ha (x := x) (fun l hl => by simp [AOp.rd, hl]), he1, he2]
          simp only [hb1, hb2]
          exact ⟨h.1, by first | rfl | trivial⟩
        · rename_i k
          split at h
          · rename_i hk
            refine ⟨_, h.2, fun σ' ha => ?_⟩
            simp only [eff]
            rw [E ha (x := s) (fun l hl => by simp [AOp.rd, hl]), E ha (x := x) (fun l hl => by simp [AOp.rd, hl]), he1, he2]
            simp only [hb1, hb2]
            rw [ha (.t k) (.inr (by simp [keysL])), hk]
            exact ⟨h.1, by first | rfl | trivial⟩
          · exact h.elim
      · exact h.elim
    · exact h.elim
  | cap d x =>
    simp only [eff] at h
    split at h
    · rename_i he
      refine ⟨_, h, fun σ' ha => ?_⟩
      simp only [eff]
      rw [E ha (fun l hl => hl), he]
    · rename_i he
      refine ⟨_, h, fun σ' ha => ?_⟩
      simp only [eff]
      rw [E ha (fun l hl => hl), he]
    · exact h.elim
  | iaG d cells sz x =>
    simp only [eff] at h
    split at h
    · rename_i n he
      refine ⟨_, h.2, fun σ' ha => ?_⟩
      simp only [eff]
      rw [E ha (fun l hl => hl), he]
      exact ⟨h.1, by first | rfl | trivial⟩
    · exact h.elim
  | eqA d ng ks x y =>
    simp only [eff] at h
    split at h
    · rename_i p q he1 he2
      split at h
      · rename_i b hb
        cases ng <;> simp only at h
        all_goals
          refine ⟨_, h, fun σ' ha => ?_⟩
          simp only [eff]
          rw [E ha (x := x) (fun l hl => by simp [AOp.rd, hl]), E ha (x := y) (fun l hl => by simp [AOp.rd, hl]), he1, he2]
          simp only [hb]
      · exact h.elim
    · exact h.elim
  | appZ d sz by_ z s x =>
    simp only [eff] at h
    split at h
    · rename_i q n he1 he2
      split at h
      · rename_i hb1
        refine ⟨_, h.2, fun σ' ha => ?_⟩
        simp only [eff]
        rw [E ha (x := s) (fun l hl => by simp [AOp.rd, hl]), E ha (x := x) (fun l hl => by simp [AOp.rd, hl]), he1, he2]
        simp only [hb1]
        exact ⟨h.1, by first | rfl | trivial⟩
      · exact h.elim
    · exact h.elim
  | mkM d => exact ⟨_, h, fun σ' _ => rfl⟩
  | lkM d z x k =>
    simp only [eff] at h
    split at h
    · rename_i b n he1 he2
      split at h
      · rename_i es hl
        cases hf : findM n es with
        | some ds =>
          simp only [hf] at h
          refine ⟨_, h, fun σ' ha => ?_⟩
          simp only [eff]
          rw [E ha (x := x) (fun l hl => by simp [AOp.rd, hl]), E ha (x := k) (fun l hl => by simp [AOp.rd, hl]), he1, he2]
          simp only
          rw [ha (.b b) (.inl (by simp [AOp.rd, he1])), hl]
          simp only [hf]
        | none =>
          simp only [hf] at h
          refine ⟨_, h, fun σ' ha => ?_⟩
          simp only [eff]
          rw [E ha (x := x) (fun l hl => by simp [AOp.rd, hl]), E ha (x := k) (fun l hl => by simp [AOp.rd, hl]), he1, he2]
          simp only
          rw [ha (.b b) (.inl (by simp [AOp.rd, he1])), hl]
          simp only [hf]
      · exact h.elim
    · exact h.elim
  | upM x k v =>
    simp only [eff] at h
    split at h
    · rename_i b n he1 he2
      split at h
      · rename_i es hl
        split at h
        · rename_i l hv
          obtain ⟨h1, h⟩ := frcL_iff.1 h
          split at h
          · rename_i ds hc
            refine ⟨_, h, fun σ' ha => ?_⟩
            simp only [eff]
            rw [E ha (x := x) (fun l hl => by simp [AOp.rd, hl]), E ha (x := k) (fun l hl => by simp [AOp.rd, hl]), E ha (x := v) (fun l hl => by simp [AOp.rd, hl]), he1, he2]
            simp only
            rw [ha (.b b) (.inr (by simp [keysL])), hl]
            simp only [hv]
            rw [frcL_iff]
            refine ⟨h1, ?_⟩
            simp only [hc]
          · exact h.elim
        · exact h.elim
      · exact h.elim
    · exact h.elim
end Go.Abs

namespace Go.Abs
open Go
def dstOK (d : Option Nat) (N : Nat) : Bool := match d with | some d => Nat.blt d N | none => true

def guardC (ops : Array Oper) : Option (Nat × Bool) → Option (Option (Nat × Bool))
  | none => some none
  | some (j, wt) => match (ops[j]?).bind (·.dst) with
    | some s => some (some (s, wt))
    | none => none

def compG (P : Program) (an : Ann) (N : Nat) (ops : Array Oper) (o : Oper) : Option GOp := match compO2 P an o, guardC ops o.guard with
  | some g, some gd => if dstOK o.dst N = true ∧ g.dst = o.dst then some ⟨gd, g⟩ else none
  | _, _ => none

theorem compG_spec {P : Program} {an : Ann} {N : Nat} {ops : Array Oper} {o : Oper} {g : GOp} (h : compG P an N ops o = some g) :
    compO2 P an o = some g.o ∧ (∀ d, o.dst = some d → d < N) ∧ g.o.dst = o.dst ∧
      ((o.guard = none ∧ g.g = none) ∨ ∃ j wt s, o.guard = some (j, wt) ∧ (ops[j]?).bind (·.dst) = some s ∧ g.g = some (s, wt)) := by
  unfold compG at h
  split at h
  · rename_i g' gd hg hgd
    split at h
    · rename_i hd
      cases h
      refine ⟨hg, fun d hd' => ?_, hd.2, ?_⟩
      · have := hd.1
        rw [hd'] at this
        simpa [dstOK, Nat.blt_eq] using this
      · cases hgu : o.guard with
        | none => rw [hgu] at hgd; simp [guardC] at hgd; exact .inl ⟨rfl, hgd.symm⟩
        | some p =>
          obtain ⟨j, wt⟩ := p
          rw [hgu] at hgd
          simp only [guardC] at hgd
          split at hgd
          · rename_i s hs
            cases hgd
            exact .inr ⟨j, wt, s, rfl, hs, rfl⟩
          · cases hgd
    · cases h
  · cases h

/-- is it wanted, as the log has it -/
def guardV (σ : Log) (g : Option (Nat × Bool)) : Option Bool := match g with
  | none => some true
  | some (n, w) => match ev σ (.t n) with
    | .sc (.b t) => some (t == w)
    | .tup _ => some false
    | _ => none

theorem guard_pick {σ : Log} {g : Option (Nat × Bool)} {A B : Log → Prop} (h : guard σ g A B) :
    ∃ σ', Same σ σ' ∧ ((guardV σ g = some true ∧ A σ') ∨ (guardV σ g = some false ∧ B σ')) := by
  unfold guard at h
  split at h
  · exact ⟨σ, fun _ => rfl, .inl ⟨rfl, h⟩⟩
  · rename_i n wt
    split at h
    · rename_i t ht
      have hl : ∀ b, t = b → look σ (.s n) = some (.av (.sc (.b b))) := by
        intro b hb
        subst hb
        simp only [ev] at ht
        split at ht
        · rename_i v hv; rw [hv, ht]
        · cases ht
      cases t with
      | true =>
        refine ⟨(.s n, .av (.sc (.b true))) :: σ, known (hl true rfl), ?_⟩
        cases wt with
        | true => exact .inl ⟨by simp only [guardV, ht]; rfl, h⟩
        | false => exact .inr ⟨by simp only [guardV, ht]; rfl, h⟩
      | false =>
        refine ⟨(.s n, .av (.sc (.b false))) :: σ, known (hl false rfl), ?_⟩
        cases wt with
        | true => exact .inr ⟨by simp only [guardV, ht]; rfl, h⟩
        | false => exact .inl ⟨by simp only [guardV, ht]; rfl, h⟩
    · rename_i l hl
      exact ⟨σ, fun _ => rfl, .inr ⟨by simp only [guardV, hl], h⟩⟩
    · exact h.elim

section
variable {P : Program} {W0 : World} {κ : Gh} {σ : Log} {a : Act} {w : World} {id : Nat} {call : CallP} {Q : Exit → Act → World → Prop} {N : Nat} {ops : Array Oper} {an : Ann}
theorem guard_real (hs : RepS W0 κ σ a w) {o : Oper} {g : GOp} (hg : compG P an N ops o = some g) {b : Bool} (hb : guardV σ g.g = some b) : Region.wanted o (yielded ops a.tmps) = b := by
  obtain ⟨_, _, _, h⟩ := compG_spec hg
  rcases h with ⟨h1, h2⟩ | ⟨j, wt, s, h1, h2, h3⟩
  · rw [h2] at hb
    simp only [guardV, Option.some.injEq] at hb
    simp [Region.wanted, h1, hb]
  · rw [h3] at hb
    simp only [guardV] at hb
    have hy : yielded ops a.tmps j = match a.tmps[s]? with | some (.bool b) => some b | _ => none := by
      unfold yielded
      rw [h2]
      rfl
    have hev : ∀ v, ev σ (.t s) = v → v ≠ .bad → RepV κ w v (a.tmps.getD s undef) := by
      intro v hv hn
      simp only [ev] at hv
      split at hv
      · rename_i u hu; rw [← hv]; exact hs.slots s u hu
      · exact absurd hv.symm hn
    split at hb
    · rename_i t ht
      have := (hev _ ht (by simp)).sc_inv
      simp only [Sc.val] at this
      have hs' : a.tmps[s]? = some (.bool t) := by
        rw [Array.getD_eq_getD_getElem?] at this
        cases hh : a.tmps[s]? with
        | none => rw [hh] at this; simp [undef] at this
        | some x => rw [hh] at this; simp at this; rw [this]
      cases hb
      simp [Region.wanted, h1, hy, hs']
    · rename_i l hl
      obtain ⟨vs, hv, _⟩ := (hev _ hl (by simp)).tup_inv
      cases hb
      have hs' : (match a.tmps[s]? with | some (Value.bool b) => some b | _ => none) = none := by
        rw [Array.getD_eq_getD_getElem?] at hv
        cases hh : a.tmps[s]? with
        | none => rfl
        | some x => rw [hh] at hv; simp at hv; rw [hv]
      simp [Region.wanted, h1, hy, hs']
    · cases hb

theorem undef_rep : RepV κ w (.tup []) undef := .tup [] #[] rfl fun j v h => by simp at h

theorem skip_rep (hs : RepS W0 κ σ a w) {d : Option Nat} (hd : ∀ d', d = some d' → d' < a.tmps.size) :
    RepS W0 κ (dstL d (.tup []) ++ σ) (a.put d undef) w ∧ Step κ σ w κ (dstL d (.tup []) ++ σ) w := by
  cases d with
  | none => exact ⟨hs, Step.refl _ _ _⟩
  | some d => exact ⟨hs.put (hd d rfl) undef_rep, Step.put⟩

/-- all ids are below n -/
structure Bel (κ : Gh) (n : Nat) : Prop where
  ge : 1000 ≤ n
  db : ∀ b, κ.Db b → b < n
  dt : ∀ k, κ.Dt k → k < n

theorem Bel.fresh {n : Nat} (h : Bel κ n) : Fresh κ n :=
  ⟨h.ge, fun b h1 _ hb => by have := h.db b hb; omega, fun b h1 _ hb => by have := h.dt b hb; omega⟩

theorem Bel.grow {κ' : Gh} {n : Nat} (h : Bel κ n) (g : Grow κ κ' n) : Bel κ' (n + 100) :=
  ⟨by have := h.ge; omega, fun b hb => by rcases g.db b hb with q | q; (have := h.db b q; omega); omega, fun b hb => by rcases g.dt b hb with q | q; (have := h.dt b q; omega); omega⟩

theorem Bel.more {n m : Nat} (h : Bel κ n) (hm : n ≤ m) : Bel κ m := ⟨Nat.le_trans h.ge hm, fun b hb => Nat.lt_of_lt_of_le (h.db b hb) hm, fun b hb => Nat.lt_of_lt_of_le (h.dt b hb) hm⟩

def compL (P : Program) (an : Ann) (N : Nat) (ops : Array Oper) : List Oper → Option (List GOp)
  | [] => some []
  | o :: r => match compG P an N ops o with
    | none => none
    | some g => match compL P an N ops r with
      | none => none
      | some gs => some (g :: gs)

theorem compL_spec : ∀ {l : List Oper} {gs : List GOp}, compL P an N ops l = some gs → gs.length = l.length ∧ ∀ (i : Nat) (o : Oper), l[i]? = some o → ∃ g, gs[i]? = some g ∧ compG P an N ops o = some g
  | [], gs, h => by simp [compL] at h; subst h; simp
  | o :: l, gs, h => by
    simp only [compL] at h
    split at h
    · cases h
    · rename_i g hg
      split at h
      · cases h
      · rename_i gs' hgs
        cases h
        obtain ⟨h1, h2⟩ := compL_spec hgs
        refine ⟨by simp [h1], fun i o' hi => ?_⟩
        cases i with
        | zero => simp at hi; subst hi; exact ⟨g, rfl, hg⟩
        | succ i => simpa using h2 i o' (by simpa using hi)

/-- in the text's order -/
theorem aops_sound (hG : ∀ g cells, an.gl g = some cells → GlobOK W0 g cells) (hcall : ∀ f args H res H', call f args H res H' → Ctr P W0 f args H res H') : ∀ (gs : List GOp) (l : List Oper) (k : Nat) (σ : Log) (κ : Gh) (a : Act) (w : World) (id : Nat) (K : Log → Prop),
    compL P an N ops l = some gs → (∀ j, l[j]? = ops[k + j]?) → RepS W0 κ σ a w → Bel κ id → a.tmps.size = N → aops call gs id σ K →
    (∀ σ' κ' a' w', K σ' → RepS W0 κ' σ' a' w' → Step κ σ w κ' σ' w' → a'.tmps.size = N → Bel κ' (id + 100 * gs.length) → Q .normal a' w') →
    wpOps P ops Q (List.range' k l.length) a w
  | [], l, k, σ, κ, a, w, id, K, hl, hk, hs, hb, hN, h, hQ => by
    have := (compL_spec hl).1
    have hl0 : l = [] := List.eq_nil_of_length_eq_zero (by simpa using this.symm)
    subst hl0
    exact hQ σ κ a w h hs (Step.refl _ _ _) hN (by simpa using hb)
  | g :: gs, [], k, σ, κ, a, w, id, K, hl, hk, hs, hb, hN, h, hQ => by simp [compL] at hl
  | g :: gs, o :: l, k, σ, κ, a, w, id, K, hl, hk, hs, hb, hN, h, hQ => by
    have ho : ops[k]? = some o := by have := hk 0; simpa using this.symm
    simp only [compL] at hl
    split at hl
    · cases hl
    · rename_i g' hg
      split at hl
      · cases hl
      · rename_i gs' hgs
        cases hl
        obtain ⟨c1, c2, c3, _⟩ := compG_spec hg
        rw [List.length_cons, List.range'_succ, wpOps_cons]
        simp only [aops] at h
        obtain ⟨σ1, hsame, h⟩ := guard_pick h
        have hs1 := hs.same hsame
        have hd : ∀ d', o.dst = some d' → d' < a.tmps.size := fun d' h' => by rw [hN]; exact c2 d' h'
        have next : ∀ (σ' : Log) (κ' : Gh) (a' : Act) (w' : World), RepS W0 κ' σ' a' w' → Step κ σ1 w κ' σ' w' → a'.tmps.size = N → Bel κ' (id + 100) → aops call gs (id + 100) σ' K → wpOps P ops Q (List.range' (k + 1) l.length) a' w' := by
          intro σ' κ' a' w' r s n b hh
          refine aops_sound hG hcall gs l (k + 1) σ' κ' a' w' (id + 100) K hgs (fun j => by have := hk (j + 1); rw [show k + 1 + j = k + (j + 1) by omega]; simpa using this) r b n hh ?_
          intro σ'' κ'' a'' w'' hK r' s' n' b'
          refine hQ σ'' κ'' a'' w'' hK r' ?_ n' (b'.more (by simp; omega))
          exact Step.trans (Step.same (σ := σ1) (σ' := σ') (τ := σ) (τ' := σ') (fun l => (hsame l).symm) (fun _ => rfl) s) s'
        unfold wpOp
        rw [ho]
        simp only
        rcases h with ⟨hv, h⟩ | ⟨hv, h⟩
        · rw [guard_real hs hg hv, if_pos rfl]
          refine .inl ((Oper.wp_mono ?_ (eff_sound2 (Q := Q) hG hcall hs1 hb.fresh c1 hd h)))
          rintro a' w' ⟨δ, κ', hF, r, s, n, gr⟩
          exact next _ κ' a' w' r s (n.trans hN) (hb.grow gr) hF
        · rw [guard_real hs hg hv]
          simp only [Bool.false_eq_true, if_false]
          rw [c3] at h
          obtain ⟨r, s⟩ := skip_rep hs1 hd
          exact next _ κ _ w r s (put_size.trans hN) (hb.more (by omega)) h

/- whatever order -/
def lay (δ : Nat → Log) (σ : Log) (l : List Nat) : Log := l.foldl (fun s i => δ i ++ s) σ

theorem lay_congr {δ : Nat → Log} {loc : Loc} : ∀ {l : List Nat} {σ σ' : Log}, look σ loc = look σ' loc → look (lay δ σ l) loc = look (lay δ σ' l) loc
  | [], σ, σ', h => h
  | i :: l, σ, σ', h => by
    simp only [lay, List.foldl_cons]
    refine lay_congr (l := l) ?_
    rw [look_append, look_append, h]

theorem lay_filter {δ : Nat → Log} {loc : Loc} {p : Nat → Bool} : ∀ {l : List Nat} {σ : Log}, (∀ i, i ∈ l → p i = false → look (δ i) loc = none) → look (lay δ σ l) loc = look (lay δ σ (l.filter p)) loc
  | [], σ, _ => rfl
  | i :: l, σ, h => by
    have ih : ∀ σ, look (lay δ σ l) loc = look (lay δ σ (l.filter p)) loc := fun σ => lay_filter fun j hj => h j (by simp [hj])
    by_cases hp : p i = true
    · rw [List.filter_cons_of_pos hp]
      simp only [lay, List.foldl_cons]
      exact ih _
    · have hp' : p i = false := by simpa using hp
      rw [List.filter_cons_of_neg hp]
      have : look (lay δ σ (i :: l)) loc = look (lay δ (δ i ++ σ) l) loc := rfl
      rw [this]
      have e : look (δ i ++ σ) loc = look σ loc := by rw [look_append, h i (by simp) hp']
      rw [lay_congr e]
      exact ih σ

theorem lay_snoc {δ : Nat → Log} {σ : Log} {l : List Nat} {i : Nat} : lay δ σ (l ++ [i]) = δ i ++ lay δ σ l := by
  simp [lay, List.foldl_append]

/-- does operation i write there -/
def wr (δ : Nat → Log) (loc : Loc) (i : Nat) : Bool := (look (δ i) loc).isSome

theorem wr_none {δ : Nat → Log} {loc : Loc} {i : Nat} (h : wr δ loc i = false) : look (δ i) loc = none := by
  unfold wr at h
  cases hh : look (δ i) loc with
  | none => rfl
  | some c => rw [hh] at h; cases h

theorem filter_range_lt (n i : Nat) (hi : i ≤ n) : List.range i = (List.range n).filter (fun k => decide (k < i)) := by
  induction n with
  | zero => have : i = 0 := by omega
            subst this; rfl
  | succ n ih =>
    rw [List.range_succ, List.filter_append]
    by_cases h : i ≤ n
    · rw [← ih h]
      have : ¬ n < i := by omega
      simp [this]
    · have : i = n + 1 := by omega
      subst this
      have h1 : (List.range n).filter (fun k => decide (k < n + 1)) = List.range n := List.filter_eq_self.2 fun k hk => by
        have := List.mem_range.1 hk; simp; omega
      rw [h1, List.range_succ]; simp

/-- the log when the operations of S have run -/
def runS (δ : Nat → Log) (σ : Log) (n : Nat) (S : Nat → Bool) : Log := lay δ σ ((List.range n).filter S)

theorem look_runS (δ : Nat → Log) (σ : Log) (n : Nat) (S : Nat → Bool) (loc : Loc) : look (runS δ σ n S) loc = look (lay δ σ ((List.range n).filter fun k => S k && wr δ loc k)) loc := by
  unfold runS
  rw [lay_filter (p := wr δ loc) fun i _ h => wr_none h, List.filter_filter]
  congr 2
  apply List.filter_congr
  intro k _
  exact Bool.and_comm _ _

theorem look_runS_congr {δ : Nat → Log} {σ : Log} {n : Nat} {S T : Nat → Bool} {loc : Loc} (h : ∀ k, k < n → wr δ loc k = true → S k = T k) : look (runS δ σ n S) loc = look (runS δ σ n T) loc := by
  rw [look_runS, look_runS]
  congr 2
  apply List.filter_congr
  intro k hk
  cases hw : wr δ loc k with
  | false => simp
  | true => rw [h k (List.mem_range.1 hk) hw]

theorem runS_lt {δ : Nat → Log} {σ : Log} {n i : Nat} (hi : i ≤ n) : runS δ σ n (fun k => decide (k < i)) = lay δ σ (List.range i) := by
  unfold runS; rw [← filter_range_lt n i hi]

/-- one operation more, where none behind it writes the same place before it -/
theorem runS_add {δ : Nat → Log} {σ : Log} {n i : Nat} (hi : i < n) {S : Nat → Bool} (hlast : ∀ loc k, k < n → S k = true → wr δ loc i = true → wr δ loc k = true → k < i) :
    Same (δ i ++ runS δ σ n S) (runS δ σ n fun k => S k || decide (k = i)) := by
  intro loc
  rw [look_append]
  cases hw : wr δ loc i with
  | false =>
    rw [wr_none hw]
    simp only
    refine look_runS_congr fun k _ hk => ?_
    have : ¬ k = i := fun e => by rw [e, hw] at hk; cases hk
    simp [this]
  | true =>
    obtain ⟨c, hc⟩ : ∃ c, look (δ i) loc = some c := Option.isSome_iff_exists.1 hw
    rw [hc]
    simp only
    rw [look_runS]
    have e : ((List.range n).filter fun k => (S k || decide (k = i)) && wr δ loc k) = ((List.range i).filter fun k => (S k || decide (k = i)) && wr δ loc k) ++ [i] := by
      obtain ⟨m, rfl⟩ : ∃ m, n = i + 1 + m := ⟨n - i - 1, by omega⟩
      have hr : List.range (i + 1 + m) = List.range i ++ [i] ++ (List.range m).map (i + 1 + ·) := by rw [List.range_add, List.range_succ]
      rw [hr, List.filter_append, List.filter_append]
      have h1 : ([i].filter fun k => (S k || decide (k = i)) && wr δ loc k) = [i] := by simp [hw]
      have h2 : (((List.range m).map (i + 1 + ·)).filter fun k => (S k || decide (k = i)) && wr δ loc k) = [] := by
        rw [List.filter_eq_nil_iff]
        intro k hk
        obtain ⟨j, hj, rfl⟩ := List.mem_map.1 hk
        have hjm := List.mem_range.1 hj
        have hne : ¬ i + 1 + j = i := by omega
        simp only [hne, decide_false, Bool.or_false, Bool.and_eq_true, not_and]
        intro hSk hwk
        have := hlast loc _ (by omega) hSk hw hwk
        omega
      rw [h1, h2, List.append_nil]
    rw [e, lay_snoc, look_append, hc]
end
end Go.Abs

namespace Go.Abs
open Go
theorem flatten_get {α : Type} {sz : Nat} : ∀ {ch : List (List α)} {i j : Nat} {e : List α} {d : α}, (∀ e, e ∈ ch → e.length = sz) → ch[i]? = some e → e[j]? = some d → ch.flatten[i * sz + j]? = some d
  | [], i, j, e, d, _, h, _ => by simp at h
  | x :: ch, i, j, e, d, hs, h, hj => by
    have hx := hs x (by simp)
    rw [List.flatten_cons]
    cases i with
    | zero =>
      simp at h; subst h
      have hlt := (List.getElem?_eq_some_iff.1 hj).1
      rw [Nat.zero_mul, Nat.zero_add, List.getElem?_append_left hlt]
      exact hj
    | succ i =>
      have := flatten_get (ch := ch) (fun e he => hs e (by simp [he])) (by simpa using h) hj
      rw [List.getElem?_append_right (by rw [hx, Nat.succ_mul]; omega), hx]
      rw [show (i + 1) * sz + j - sz = i * sz + j by rw [Nat.succ_mul]; omega]
      exact this

theorem look_thaw {b sz n : Nat} {ch : List (List Data)} : ∀ {σ : Log} {l : Loc}, look (thaw b sz n ch σ) l = (look σ l).map (thawC b sz n ch)
  | [], l => rfl
  | (k, c) :: r, l => by
    rw [thaw, look_cons, look_cons, look_thaw]
    by_cases h : k = l <;> simp [h]

section
variable {W0 : World} {κ : Gh} {σ : Log} {a : Act} {w : World}
theorem thaw_rep (hs : RepS W0 κ σ a w) {b sz n : Nat} {l : List AV} (hb : look σ (.b b) = some (.bx l)) {ch : List (List Data)} (hc : cellsD l = some ch.flatten) (hn : ch.length = n) (hz : ∀ e, e ∈ ch → e.length = sz)
    {els : List (List Data)} {t : Tok} {x : Value} (hv : RepV { κ with I := fun x o => κ.I x o ∨ inSp (spb κ b l) x o } w (.mx sz els b n t) x) :
    RepV { κ with I := fun x o => κ.I x o ∨ inSp (spb κ b l) x o } w (.sl sz (els ++ ch) t) x := by
  obtain ⟨off, cap, h1, h2, h3, h4, h5, rfl⟩ := hv.mx_inv
  have h2 : (κ.ι b).2 = off + els.length * sz := h2
  obtain ⟨_, _, hB⟩ := hs.boxes b l hb
  obtain ⟨C, ty, hC, hR⟩ := hB.row (cellsD_notM hc)
  obtain ⟨hcl, hcd⟩ := cellsD_spec hc
  have hfl : ch.flatten.length = n * sz := by
    rw [← hn]
    clear hc hn hcl hcd
    induction ch with
    | nil => simp
    | cons e ch ih =>
      rw [List.flatten_cons, List.length_append, hz e (by simp), ih (fun e he => hz e (by simp [he])), List.length_cons, Nat.succ_mul]
      omega
  have hll : l.length = n * sz := by rw [← hcl, hfl]
  have hlen : (els ++ ch).length = els.length + n := by rw [List.length_append, hn]
  have key : ∀ (i j : Nat), i < els.length + n → j < sz → ∃ c, (κ.I (κ.ι b).1 (off + i * sz + j) ∨ inSp (spb κ b l) (κ.ι b).1 (off + i * sz + j)) ∧ w.cell? ⟨(κ.ι b).1, off + i * sz + j, none⟩ = some c ∧
      ∀ e d, (els ++ ch)[i]? = some e → e[j]? = some d → RepD (fun x o => κ.I x o ∨ inSp (spb κ b l) x o) w d c := by
    intro i j hi hj
    by_cases hie : i < els.length
    · generalize hD : Value.slice (some ⟨(κ.ι b).1, off, none⟩) els.length cap = v at h4
      cases h4 with
      | nil => simp at hie
      | lst _ _ b' q cap' C' hnc hl hI hcc hr =>
        cases hD
        refine ⟨C' i j, hI i j hie hj, hcc i j hie hj, fun e d he hd => ?_⟩
        rw [List.getElem?_append_left hie] at he
        exact hr i j e d he hd
    · have hk : (i - els.length) * sz + j < l.length := by
        rw [hll]
        have : (i - els.length) * sz + sz ≤ n * sz := by
          rw [← Nat.succ_mul]
          exact Nat.mul_le_mul_right _ (by omega)
        omega
      have hoff : off + i * sz + j = (κ.ι b).2 + ((i - els.length) * sz + j) := by
        rw [h2]
        have : i * sz = els.length * sz + (i - els.length) * sz := by rw [← Nat.add_mul]; congr 1; omega
        omega
      have hCs : (κ.ι b).2 + ((i - els.length) * sz + j) < C.size := by have := hR.1; omega
      refine ⟨C.getD ((κ.ι b).2 + ((i - els.length) * sz + j)) undef, .inr ⟨rfl, by simp only [spb]; omega, by simp only [spb]; omega⟩, ?_, fun e d he hd => ?_⟩
      · rw [hoff, cell?_of_cells hC]
        simp [Array.getD, hCs]
      · rw [List.getElem?_append_right (by omega)] at he
        have hf := flatten_get hz he hd
        obtain ⟨d', hd', hcell⟩ := hcd _ _ (List.getElem?_eq_getElem hk)
        rw [hf] at hd'
        cases hd'
        have hrep := hR.2.2 _ _ (List.getElem?_eq_getElem hk)
        exact (cellD_rep hrep hcell).mono (fun _ _ h => .inl h) (fun _ _ _ => rfl)
  refine .sl sz (els ++ ch) t _ ?_ h5
  rw [← hlen]
  refine .lst sz (els ++ ch) _ off cap (fun i j => (w.cell? ⟨(κ.ι b).1, off + i * sz + j, none⟩).getD undef) (by rw [hlen]; exact h3) ?_ ?_ ?_ ?_
  · intro e he
    rcases List.mem_append.1 he with he | he
    · generalize hD : Value.slice (some ⟨(κ.ι b).1, off, none⟩) els.length cap = v at h4
      cases h4 with
      | nil => simp at he
      | lst _ _ b' q cap' C' hnc hl hI hcc hr => exact hl e he
    · exact hz e he
  · intro i j hi hj
    rw [hlen] at hi
    obtain ⟨c, g1, _⟩ := key i j hi hj
    exact g1
  · intro i j hi hj
    rw [hlen] at hi
    obtain ⟨c, _, g2, _⟩ := key i j hi hj
    rw [g2]; rfl
  · intro i j e d he hd
    have hi : i < els.length + n := by rw [← hlen]; exact (List.getElem?_eq_some_iff.1 he).1
    have hj : j < sz := by
      have hel : e.length = sz := by
        rcases List.mem_append.1 (List.mem_of_getElem? he) with he | he
        · generalize hD : Value.slice (some ⟨(κ.ι b).1, off, none⟩) els.length cap = v at h4
          cases h4 with
          | nil => simp at he
          | lst _ _ b' q cap' C' hnc hl hI hcc hr => exact hl e he
        · exact hz e he
      rw [← hel]; exact (List.getElem?_eq_some_iff.1 hd).1
    obtain ⟨c, _, g2, g3⟩ := key i j hi hj
    simp only [g2, Option.getD_some]
    exact g3 e d he hd

theorem RepS.frz (hs : RepS W0 κ σ a w) {b sz n : Nat} {l : List AV} (hb : look σ (.b b) = some (.bx l)) {ch : List (List Data)} (hc : cellsD l = some ch.flatten) (hn : ch.length = n) (hz : ∀ e, e ∈ ch → e.length = sz) :
    RepS W0 { κ with I := fun x o => κ.I x o ∨ inSp (spb κ b l) x o } ((.b b, .tk false) :: thaw b sz n ch σ) a w ∧
    Step κ σ w { κ with I := fun x o => κ.I x o ∨ inSp (spb κ b l) x o } ((.b b, .tk false) :: thaw b sz n ch σ) w := by
  obtain ⟨r, s, e⟩ := hs.freeze hb
  have tr := fun (els : List (List Data)) (t : Tok) (x : Value) => thaw_rep hs hb hc hn hz (els := els) (t := t) (x := x)
  generalize hκ : ({ κ with I := fun x o => κ.I x o ∨ inSp (spb κ b l) x o } : Gh) = κ' at r s e tr ⊢
  have ls : ∀ m, look ((.b b, .tk false) :: thaw b sz n ch σ) (.s m) = (look ((.b b, .tk false) :: σ) (.s m)).map (thawC b sz n ch) := by
    intro m; simp [look_cons, look_thaw]
  have lt : ∀ m, look ((.b b, .tk false) :: thaw b sz n ch σ) (.t m) = (look ((.b b, .tk false) :: σ) (.t m)).map (thawC b sz n ch) := by
    intro m; simp [look_cons, look_thaw]
  have lb : ∀ m, look ((.b b, .tk false) :: thaw b sz n ch σ) (.b m) = (look ((.b b, .tk false) :: σ) (.b m)).map (thawC b sz n ch) := by
    intro m
    by_cases h : b = m
    · simp [look_cons, h, thawC]
    · simp [look_cons, h, look_thaw]
  have ht : ∀ k, look ((.b b, .tk false) :: thaw b sz n ch σ) (.t k) = some (.tk true) → look ((.b b, .tk false) :: σ) (.t k) = some (.tk true) := by
    intro k h
    rw [lt] at h
    cases hk : look ((.b b, .tk false) :: σ) (.t k) with
    | none => rw [hk] at h; cases h
    | some c =>
      rw [hk] at h
      simp only [Option.map_some, Option.some.injEq] at h
      unfold thawC at h
      split at h
      · split at h <;> cases h
      · cases h
      · rw [h]
  have ht' : ∀ k, look ((.b b, .tk false) :: σ) (.t k) = some (.tk true) → look ((.b b, .tk false) :: thaw b sz n ch σ) (.t k) = some (.tk true) := by
    intro k h
    rw [lt, h]; rfl
  have hB : ∀ m l', look ((.b b, .tk false) :: thaw b sz n ch σ) (.b m) = some (.bx l') → ∃ l0, look ((.b b, .tk false) :: σ) (.b m) = some (.bx l0) ∧ l'.length = l0.length ∧ (∀ C o, RepC κ' w l0 C o → RepC κ' w l' C o) ∧ (isM l0 = true → l' = l0) := by
    intro m l' h
    rw [lb] at h
    cases hk : look ((.b b, .tk false) :: σ) (.b m) with
    | none => rw [hk] at h; cases h
    | some c =>
      rw [hk] at h
      simp only [Option.map_some, Option.some.injEq] at h
      unfold thawC at h
      split at h
      · split at h <;> cases h
      · rename_i l0
        simp only [Cell.bx.injEq] at h
        subst h
        refine ⟨l0, rfl, by simp, fun C o hR => ⟨by simpa using hR.1, ?_, fun j v hj => ?_⟩, fun hm => by obtain ⟨es, rfl⟩ := isM_iff.1 hm; rfl⟩
        · intro v hv
          obtain ⟨u, hu, rfl⟩ := List.mem_map.1 hv
          have h1 := hR.2.1 u hu
          split
          · split <;> first | rfl | exact h1
          · exact h1
        · rw [List.getElem?_map] at hj
          cases hu : l0[j]? with
          | none => rw [hu] at hj; cases hj
          | some u =>
            rw [hu] at hj
            simp only [Option.map_some, Option.some.injEq] at hj
            subst hj
            have h1 := hR.2.2 j u hu
            split
            · split
              · rename_i q1 q2 q3
                have q1 := Nat.eq_of_beq_eq_true q1
                have q2 := Nat.eq_of_beq_eq_true q2
                have q3 := Nat.eq_of_beq_eq_true q3
                subst q1; subst q2; subst q3
                exact tr _ _ _ h1
              · exact h1
            · exact h1
      · rw [h]; exact ⟨l', rfl, rfl, fun C o hR => hR, fun _ => rfl⟩
  have hown : ∀ x o, Own κ' ((.b b, .tk false) :: thaw b sz n ch σ) x o → Own κ' ((.b b, .tk false) :: σ) x o := by
    rintro x o (⟨i, m, hm, hi⟩ | ⟨k, hk, hi⟩)
    · obtain ⟨l0, h1, h2, _⟩ := hB i m hm
      exact .inl ⟨i, l0, h1, by simpa only [spb, h2] using hi⟩
    · exact .inr ⟨k, ht k hk, hi⟩
  refine ⟨⟨?_, ?_, ?_, ?_, ?_, ?_, fun x o h => r.sepI x o (hown x o h), r.Icell, r.old, r.size0, r.amb, r.defers, r.os, r.tape, r.output⟩, ⟨s.chg, fun x o h => s.own x o (hown x o h), s.I_, s.In, s.low, s.lowt⟩⟩
  · intro m v h
    rw [ls] at h
    cases hk : look ((.b b, .tk false) :: σ) (.s m) with
    | none => rw [hk] at h; cases h
    | some c =>
      rw [hk] at h
      simp only [Option.map_some, Option.some.injEq] at h
      unfold thawC at h
      split at h
      · rename_i sz' els b' n' t
        have h1 := r.slots m _ hk
        split at h
        · rename_i q1
          simp only [Cell.av.injEq] at h
          subst h
          simp only [thaw1]
          split
          · rename_i p1 p2 p3
            have p1 := Nat.eq_of_beq_eq_true p1
            have p2 := Nat.eq_of_beq_eq_true p2
            have p3 := Nat.eq_of_beq_eq_true p3
            subst p1; subst p2; subst p3
            exact tr _ _ _ h1
          · exact .bad _
        · simp only [Cell.av.injEq] at h
          subst h
          exact h1
      · cases h
      · rw [h] at hk
        exact r.slots m v hk
  · intro m l' h
    obtain ⟨l0, h1, h2, h3, h4⟩ := hB m l' h
    obtain ⟨g1, g2, g3⟩ := r.boxes m l0 h1
    refine ⟨g1, g2, ?_⟩
    cases hm : isM l0 with
    | true => rw [h4 hm]; exact g3
    | false =>
      obtain ⟨C, ty, g4, g5⟩ := g3.row hm
      exact .of g4 (h3 _ _ g5)
  · intro m m' l1 l2 h h' hne x o hi hi'
    obtain ⟨l1', h1, h2, _⟩ := hB m l1 h
    obtain ⟨l2', h1', h2', _⟩ := hB m' l2 h'
    exact r.binj m m' l1' l2' h1 h1' hne x o (by simpa only [spb, h2] using hi) (by simpa only [spb, h2'] using hi')
  · intro k h; exact r.toks k (ht k h)
  · intro k k' h h'; exact r.tdis k k' (ht k h) (ht k' h')
  · intro k m l' h h' x o hi hi'
    obtain ⟨l0, h1, h2, _⟩ := hB m l' h'
    exact r.tbox k m l0 (ht k h) h1 x o hi (by simpa only [spb, h2] using hi')
end
end Go.Abs

namespace Go.Abs
open Go
theorem memL_iff {x : Loc} : ∀ {l : List Loc}, memL x l = true ↔ x ∈ l
  | [] => by simp [memL]
  | y :: l => by
    simp only [memL, List.mem_cons]
    cases hb : Loc.beq y x with
    | true => have := Loc.beq_iff.1 hb; subst this; simp
    | false =>
      have hne : ¬ x = y := fun e => by subst e; rw [Loc.beq_self] at hb; cases hb
      simp [hne, memL_iff]

theorem meets_false : ∀ {l m : List Loc}, meets l m = false → ∀ x, x ∈ l → x ∉ m
  | [], m, _, x, h => by cases h
  | y :: l, m, h, x, hx => by
    simp only [meets] at h
    split at h
    · cases h
    · rename_i hm
      rcases List.mem_cons.1 hx with rfl | hx
      · intro hh; rw [memL_iff.2 hh] at hm; cases hm
      · exact meets_false h x hx

theorem confl_false {p : Nat} {R W : List Loc} : ∀ {fs : List (Nat × List Loc × List Loc)}, confl p R W fs = false → ∀ i Ri Wi, (i, Ri, Wi) ∈ fs → bitOf p i = true ∨ (meets Wi R = false ∧ meets Wi W = false ∧ meets Ri W = false)
  | [], _, i, Ri, Wi, h => by cases h
  | (k, Rk, Wk) :: fs, h, i, Ri, Wi, hm => by
    simp only [confl] at h
    have rest : confl p R W fs = false ∧ (bitOf p k = true ∨ (meets Wk R = false ∧ meets Wk W = false ∧ meets Rk W = false)) := by
      split at h
      · rename_i hb; exact ⟨h, .inl hb⟩
      · split at h
        · cases h
        · split at h
          · cases h
          · split at h
            · cases h
            · exact ⟨h, .inr ⟨by assumption, by assumption, by assumption⟩⟩
    rcases List.mem_cons.1 hm with e | hm
    · cases e; exact rest.2
    · exact confl_false rest.1 i Ri Wi hm

/-- at every log that agrees with σ where it matters, the operation writes δ -/
def Exec (call : CallP) (g : GOp) (id : Nat) (σ : Log) (R : List Loc) (δ : Log) : Prop :=
  ∀ σ', (∀ l, l ∈ R ∨ l ∈ keysL δ → look σ' l = look σ l) →
    (guardV σ' g.g = some true ∧ eff call σ' id g.o (· = δ)) ∨ (guardV σ' g.g = some false ∧ δ = dstL g.o.dst (.tup []))

def TrOK (call : CallP) : List GOp → List Nat → Nat → Nat → Log → List (Nat × List Loc × List Loc) → List (List Loc × Log) → (Log → Prop) → Prop
  | [], _, _, _, σ, _, [], K => ∃ σ', Same σ σ' ∧ K σ'
  | g :: gs, p :: ps, j, id, σ, fs, (R, δ) :: ds, K => Exec call g id σ R δ ∧ confl p R (keysL δ) fs = false ∧ TrOK call gs ps (j + 1) (id + 100) (δ ++ σ) ((j, R, keysL δ) :: fs) ds K
  | _, _, _, _, _, _, _, _ => False

theorem Same.trans {σ σ' σ'' : Log} (h : Same σ σ') (g : Same σ' σ'') : Same σ σ'' := fun l => (g l).trans (h l)
theorem Same.symm {σ σ' : Log} (h : Same σ σ') : Same σ' σ := fun l => (h l).symm
theorem Same.append {σ σ' δ : Log} (h : Same σ σ') : Same (δ ++ σ) (δ ++ σ') := fun l => by rw [look_append, look_append, h l]

theorem TrOK_same {call : CallP} : ∀ {gs : List GOp} {ps : List Nat} {j id : Nat} {σ σ' : Log} {fs : List (Nat × List Loc × List Loc)} {ds : List (List Loc × Log)} {K : Log → Prop}, Same σ σ' → TrOK call gs ps j id σ' fs ds K → TrOK call gs ps j id σ fs ds K
  | [], ps, j, id, σ, σ', fs, [], K, hs, h => by
    obtain ⟨σ'', h1, h2⟩ := (show ∃ σ'', Same σ' σ'' ∧ K σ'' by cases ps <;> exact h)
    have : ∃ σ'', Same σ σ'' ∧ K σ'' := ⟨σ'', hs.trans h1, h2⟩
    cases ps <;> exact this
  | g :: gs, p :: ps, j, id, σ, σ', fs, (R, δ) :: ds, K, hs, h => by
    obtain ⟨h1, h2, h3⟩ := h
    exact ⟨fun τ ha => h1 τ fun l hl => (ha l hl).trans (hs l).symm, h2, TrOK_same hs.append h3⟩
  | [], ps, j, id, σ, σ', fs, _ :: _, K, hs, h => by cases ps <;> exact h.elim
  | _ :: _, [], _, _, _, _, _, _, _, _, h => by exact (show False from h).elim
  | _ :: _, _ :: _, _, _, _, _, _, [], _, _, h => h.elim

theorem guardV_agree {σ σ' : Log} {g : Option (Nat × Bool)} (h : ∀ l, l ∈ grdR g → look σ' l = look σ l) : guardV σ' g = guardV σ g := by
  cases g with
  | none => rfl
  | some p =>
    obtain ⟨n, wt⟩ := p
    simp only [guardV]
    rw [ev_agree (x := .t n) fun l hl => h l (by simpa [grdR, opdR] using hl)]

theorem aopsD_tr {call : CallP} : ∀ {gs : List GOp} {ps : List Nat} {j id : Nat} {σ : Log} {fs : List (Nat × List Loc × List Loc)} {K : Log → Prop}, aopsD call gs ps j id σ fs K → ∃ ds, TrOK call gs ps j id σ fs ds K
  | [], ps, j, id, σ, fs, K, h => by
    refine ⟨[], ?_⟩
    have h' : K σ := by cases ps <;> exact h
    have : ∃ σ', Same σ σ' ∧ K σ' := ⟨σ, fun _ => rfl, h'⟩
    cases ps <;> exact this
  | _ :: _, [], _, _, _, _, _, h => h.elim
  | g :: gs, p :: ps, j, id, σ, fs, K, h => by
    simp only [aopsD] at h
    obtain ⟨σ1, hs, h⟩ := guard_pick h
    rcases h with ⟨hv, h⟩ | ⟨hv, h⟩
    · obtain ⟨δ, h, hp⟩ := eff_pick h
      rw [fls_iff, fls_iff] at h
      split at h
      · exact h.elim
      · rename_i hc
        obtain ⟨ds, hd⟩ := aopsD_tr h
        refine ⟨(grdR g.g ++ g.o.rd σ1, δ) :: ds, ?_, hc, TrOK_same hs.append hd⟩
        intro σ' ha
        refine .inl ⟨?_, hp σ' fun l hl => ?_⟩
        · exact (guardV_agree (σ := σ) (σ' := σ') fun l hl => ha l (.inl (List.mem_append_left _ hl))).trans hv
        · rw [ha l (hl.imp (fun h => List.mem_append_right _ h) (fun h => h))]
          exact (hs l).symm
    · rw [fls_iff, fls_iff] at h
      split at h
      · exact h.elim
      · rename_i hc
        obtain ⟨ds, hd⟩ := aopsD_tr h
        refine ⟨(grdR g.g, dstL g.o.dst (.tup [])) :: ds, ?_, hc, TrOK_same hs.append hd⟩
        intro σ' ha
        refine .inr ⟨?_, rfl⟩
        exact (guardV_agree (σ := σ) (σ' := σ') fun l hl => ha l (.inl hl)).trans hv

def dL (ds : List (List Loc × Log)) (i : Nat) : Log := match ds[i]? with | some d => d.2 | none => []
def rL (ds : List (List Loc × Log)) (i : Nat) : List Loc := match ds[i]? with | some d => d.1 | none => []

theorem lay_shift {δ : Nat → Log} {σ : Log} (m : Nat) : lay δ σ (List.range (m + 1)) = lay (fun i => δ (i + 1)) (δ 0 ++ σ) (List.range m) := by
  rw [List.range_succ_eq_map]
  simp only [lay, List.foldl_cons, List.foldl_map]

theorem TrOK_spec {call : CallP} : ∀ {gs : List GOp} {ps : List Nat} {j id : Nat} {σ : Log} {fs : List (Nat × List Loc × List Loc)} {ds : List (List Loc × Log)} {K : Log → Prop}, TrOK call gs ps j id σ fs ds K →
    (∃ σ', Same (lay (dL ds) σ (List.range gs.length)) σ' ∧ K σ') ∧
    ∀ (i : Nat) (g : GOp), gs[i]? = some g → Exec call g (id + 100 * i) (lay (dL ds) σ (List.range i)) (rL ds i) (dL ds i) ∧
      ∃ p fs', ps[i]? = some p ∧ confl p (rL ds i) (keysL (dL ds i)) fs' = false ∧ (∀ x, x ∈ fs → x ∈ fs') ∧ ∀ k, k < i → (j + k, rL ds k, keysL (dL ds k)) ∈ fs'
  | [], ps, j, id, σ, fs, [], K, h => by
    have h' : ∃ σ', Same σ σ' ∧ K σ' := by cases ps <;> exact h
    exact ⟨h', fun i g hi => by simp at hi⟩
  | g :: gs, p :: ps, j, id, σ, fs, (R, δ) :: ds, K, h => by
    obtain ⟨h1, h2, h3⟩ := h
    obtain ⟨g1, g2⟩ := TrOK_spec h3
    have e : (fun i => dL ((R, δ) :: ds) (i + 1)) = dL ds := by funext i; simp [dL]
    refine ⟨?_, fun i g' hi => ?_⟩
    · rw [List.length_cons, lay_shift, e]
      exact g1
    · cases i with
      | zero =>
        simp at hi; subst hi
        exact ⟨by simpa [dL, rL, lay] using h1, p, fs, rfl, by simpa [dL, rL] using h2, fun x hx => hx, fun k hk => by omega⟩
      | succ i =>
        obtain ⟨k1, q, fs', k2, k3, k4, k5⟩ := g2 i g' (by simpa using hi)
        refine ⟨?_, q, fs', by simpa using k2, by simpa [dL, rL] using k3, fun x hx => k4 x (by simp [hx]), fun k hk => ?_⟩
        · rw [lay_shift, e]
          have : dL ((R, δ) :: ds) (i + 1) = dL ds i := by simp [dL]
          have hr : rL ((R, δ) :: ds) (i + 1) = rL ds i := by simp [rL]
          rw [this, hr, show id + 100 * (i + 1) = id + 100 + 100 * i by omega]
          exact k1
        · cases k with
          | zero => exact k4 _ (by simp [dL, rL])
          | succ k =>
            have := k5 k (by omega)
            rw [show j + (k + 1) = j + 1 + k by omega]
            simpa [dL, rL] using this
  | [], ps, j, id, σ, fs, _ :: _, K, h => by cases ps <;> exact h.elim
  | _ :: _, [], _, _, _, _, _, _, h => by exact (show False from h).elim
  | _ :: _, _ :: _, _, _, _, _, [], _, h => h.elim

/- which operations an operation waits for -/
def mkMask (es : List Edge) (ms : List Nat) : Nat := es.foldl (fun m e => match Region.binds .any e with | true => (m ||| (1 <<< e.on)) ||| ms.getD e.on 0 | false => m) 0

def masks : List Oper → List Nat → List Nat
  | [], ms => ms
  | o :: r, ms => masks r (ms ++ [mkMask o.after.toList ms])

theorem bitOf_testBit (p i : Nat) : bitOf p i = p.testBit i := by
  rw [Nat.testBit_eq_decide_div_mod_eq]
  unfold bitOf
  rw [Bool.eq_iff_iff]
  simp only [Nat.beq_eq, decide_eq_true_eq]
  exact Iff.rfl

theorem bitOf_or (p q i : Nat) : bitOf (p ||| q) i = (bitOf p i || bitOf q i) := by simp [bitOf_testBit, Nat.testBit_or]

theorem bitOf_one (k i : Nat) (h : bitOf (1 <<< k) i = true) : i = k := by
  rw [bitOf_testBit, Nat.one_shiftLeft, Nat.testBit_two_pow] at h
  simpa [eq_comm] using h

theorem mkMask_bit {ms : List Nat} {i : Nat} : ∀ {es : List Edge} {m : Nat}, bitOf (es.foldl (fun m e => match Region.binds .any e with | true => (m ||| (1 <<< e.on)) ||| ms.getD e.on 0 | false => m) m) i = true →
    bitOf m i = true ∨ ∃ e, e ∈ es ∧ Region.binds .any e = true ∧ (i = e.on ∨ bitOf (ms.getD e.on 0) i = true)
  | [], m, h => .inl h
  | e :: es, m, h => by
    simp only [List.foldl_cons] at h
    rcases mkMask_bit h with h | ⟨e', h1, h2, h3⟩
    · split at h
      · rename_i hb
        rw [bitOf_or, bitOf_or, Bool.or_eq_true, Bool.or_eq_true] at h
        rcases h with (h | h) | h
        · exact .inl h
        · exact .inr ⟨e, by simp, hb, .inl (bitOf_one _ _ h)⟩
        · exact .inr ⟨e, by simp, hb, .inr h⟩
      · exact .inl h
    · exact .inr ⟨e', by simp [h1], h2, h3⟩

def edgesOK : List Oper → Nat → Bool
  | [], _ => true
  | o :: r, j => o.after.toList.all (fun e => !Region.binds .any e || Nat.blt e.on j) && edgesOK r (j + 1)

theorem edgesOK_spec : ∀ {l : List Oper} {j : Nat}, edgesOK l j = true → ∀ (i : Nat) (o : Oper) (e : Edge), l[i]? = some o → e ∈ o.after.toList → Region.binds .any e = true → e.on < j + i
  | [], j, _, i, o, e, h, _, _ => by simp at h
  | o' :: l, j, h, i, o, e, hi, he, hb => by
    simp only [edgesOK, Bool.and_eq_true] at h
    cases i with
    | zero =>
      simp at hi; subst hi
      have := List.all_eq_true.1 h.1 e he
      rw [hb] at this
      simpa [Nat.blt_eq] using this
    | succ i =>
      have := edgesOK_spec h.2 i o e (by simpa using hi) he hb
      omega

section
variable {ops : Array Oper}
/-- the set keeps what its members wait for -/
def Closed (ops : Array Oper) (S : Nat → Prop) : Prop := ∀ (k : Nat) (o : Oper) (e : Edge), S k → ops[k]? = some o → e ∈ o.after.toList → Region.binds .any e = true → S e.on

def GoodM (ops : Array Oper) (j m : Nat) : Prop := ∀ i, bitOf m i = true → ∀ S : Nat → Prop, Closed ops S → (∀ (o : Oper) (e : Edge), ops[j]? = some o → e ∈ o.after.toList → Region.binds .any e = true → S e.on) → S i

theorem masks_good (hE : ∀ (i : Nat) (o : Oper) (e : Edge), ops[i]? = some o → e ∈ o.after.toList → Region.binds .any e = true → e.on < i) : ∀ (l : List Oper) (ms : List Nat), (∀ i, l[i]? = ops[ms.length + i]?) → (∀ j m, ms[j]? = some m → GoodM ops j m) →
    ∀ (j m : Nat), (masks l ms)[j]? = some m → GoodM ops j m
  | [], ms, _, h, j, m, hj => h j m hj
  | o :: l, ms, hl, h, j, m, hj => by
    refine masks_good hE l (ms ++ [mkMask o.after.toList ms]) ?_ ?_ j m hj
    · intro i
      have := hl (i + 1)
      rw [List.length_append, List.length_singleton, show ms.length + 1 + i = ms.length + (i + 1) by omega]
      simpa using this
    · intro j' m' hj'
      by_cases hlt : j' < ms.length
      · rw [List.getElem?_append_left hlt] at hj'
        exact h j' m' hj'
      · rw [List.getElem?_append_right (by omega)] at hj'
        have e0 : j' - ms.length = 0 := by
          have := (List.getElem?_eq_some_iff.1 hj').1
          simp at this; omega
        rw [e0] at hj'
        simp at hj'
        have ej : j' = ms.length := by omega
        subst hj'
        subst ej
        have ho : ops[ms.length]? = some o := by have := hl 0; simpa using this.symm
        intro i hi S hS hr
        rcases mkMask_bit hi with hh | ⟨e, h1, h2, h3⟩
        · rw [bitOf_testBit] at hh; simp at hh
        · have hSe := hr o e ho h1 h2
          rcases h3 with rfl | h3
          · exact hSe
          · have hlt' := hE _ o e ho h1 h2
            have hm : ms[e.on]? = some (ms.getD e.on 0) := by
              rw [List.getD_eq_getElem?_getD, List.getElem?_eq_getElem hlt']; rfl
            exact h e.on _ hm i h3 S hS fun o' e' ho' he' hb' => hS e.on o' e' hSe ho' he' hb'

theorem masks_length : ∀ (l : List Oper) (ms : List Nat), (masks l ms).length = ms.length + l.length
  | [], ms => rfl
  | o :: l, ms => by rw [masks, masks_length]; simp; omega
end
theorem filter_len_lt {p q : Nat → Bool} : ∀ {l : List Nat}, (∀ k, k ∈ l → q k = true → p k = true) → ∀ {i}, i ∈ l → p i = true → q i = false → (l.filter q).length < (l.filter p).length
  | [], _, i, hi, _, _ => by cases hi
  | x :: l, h, i, hi, hp, hq => by
    have hle : ∀ {m : List Nat}, (∀ k, k ∈ m → q k = true → p k = true) → (m.filter q).length ≤ (m.filter p).length := by
      intro m
      induction m with
      | nil => intro _; exact Nat.le_refl _
      | cons y m ih =>
        intro hm
        have := ih fun k hk => hm k (by simp [hk])
        cases hqy : q y with
        | true => simp [hqy, hm y (by simp) hqy]; exact this
        | false => cases hpy : p y <;> simp [hqy, hpy] <;> omega
    rcases List.mem_cons.1 hi with rfl | hi
    · have := hle fun k hk => h k (List.mem_cons_of_mem _ hk)
      simp [hp, hq]; omega
    · have := filter_len_lt (fun k hk => h k (by simp [hk])) hi hp hq
      cases hqx : q x with
      | true => simp [hqx, h x (by simp) hqx]; exact this
      | false => cases hpx : p x <;> simp [hqx, hpx] <;> omega
end Go.Abs

namespace Go.Abs
open Go
section
variable {P : Program} {W0 : World} {call : CallP} {Q : Exit → Act → World → Prop} {N : Nat} {ops : Array Oper} {an : Ann}
structure Ids (κ : Gh) (id n : Nat) (S : Nat → Bool) : Prop where
  db : ∀ b, κ.Db b → b < id ∨ ∃ j, j < n ∧ S j = true ∧ id + 100 * j ≤ b ∧ b < id + 100 * j + 100
  dt : ∀ b, κ.Dt b → b < id ∨ ∃ j, j < n ∧ S j = true ∧ id + 100 * j ≤ b ∧ b < id + 100 * j + 100

theorem Ids.fresh {κ : Gh} {id n i : Nat} {S : Nat → Bool} (h : Ids κ id n S) (hid : 1000 ≤ id) (hS : S i = false) : Fresh κ (id + 100 * i) := by
  refine ⟨by omega, fun b h1 h2 hb => ?_, fun b h1 h2 hb => ?_⟩
  · rcases h.db b hb with q | ⟨j, _, q1, q2, q3⟩
    · omega
    · have : j = i := by omega
      subst this; rw [hS] at q1; cases q1
  · rcases h.dt b hb with q | ⟨j, _, q1, q2, q3⟩
    · omega
    · have : j = i := by omega
      subst this; rw [hS] at q1; cases q1

theorem Ids.grow {κ κ' : Gh} {id n i : Nat} {S : Nat → Bool} (h : Ids κ id n S) (hi : i < n) (g : Grow κ κ' (id + 100 * i)) : Ids κ' id n (fun k => S k || decide (k = i)) := by
  refine ⟨fun b hb => ?_, fun b hb => ?_⟩
  · rcases g.db b hb with q | q
    · rcases h.db b q with q | ⟨j, q0, q1, q2, q3⟩
      · exact .inl q
      · exact .inr ⟨j, q0, by simp [q1], q2, q3⟩
    · exact .inr ⟨i, hi, by simp, q.1, q.2⟩
  · rcases g.dt b hb with q | q
    · rcases h.dt b q with q | ⟨j, q0, q1, q2, q3⟩
      · exact .inl q
      · exact .inr ⟨j, q0, by simp [q1], q2, q3⟩
    · exact .inr ⟨i, hi, by simp, q.1, q.2⟩

theorem draw_sound (hG : ∀ g cells, an.gl g = some cells → GlobOK W0 g cells) (hcall : ∀ f args H res H', call f args H res H' → Ctr P W0 f args H res H') {gs : List GOp} (hgs : compL P an N ops ops.toList = some gs) (hE : edgesOK ops.toList 0 = true)
    {κ : Gh} {σ : Log} {a : Act} {w : World} {id : Nat} {K : Log → Prop} (hs : RepS W0 κ σ a w) (hb : Bel κ id) (hN : a.tmps.size = N) (h : aopsD call gs (masks ops.toList []) 0 id σ [] K)
    (hQ : ∀ σ' κ' a' w', K σ' → RepS W0 κ' σ' a' w' → Step κ σ w κ' σ' w' → a'.tmps.size = N → Bel κ' (id + 100 * gs.length) → Q .normal a' w') :
    wpAny P .any ops Q ops.size (Array.replicate ops.size false) a w := by
  obtain ⟨ds, htr⟩ := aopsD_tr h
  obtain ⟨⟨σf, hσf, hK⟩, hex⟩ := TrOK_spec htr
  obtain ⟨hlen, hcomp⟩ := compL_spec hgs
  have hn : gs.length = ops.size := by rw [hlen, Array.length_toList]
  have hop : ∀ i : Nat, ops.toList[i]? = ops[i]? := fun i => Array.getElem?_toList
  have hEd : ∀ (i : Nat) (o : Oper) (e : Edge), ops[i]? = some o → e ∈ o.after.toList → Region.binds .any e = true → e.on < i := fun i o e h1 h2 h3 => by
    have := edgesOK_spec hE i o e (by rw [hop]; exact h1) h2 h3
    omega
  have hgood := masks_good hEd ops.toList [] (fun i => by rw [List.length_nil, Nat.zero_add, hop]) (fun j m hj => by cases hj)
  let δ := dL ds
  let R := rL ds
  have hmask : ∀ i, i < ops.size → ∃ m, (masks ops.toList [])[i]? = some m := fun i hi => ⟨_, List.getElem?_eq_getElem (by rw [masks_length]; simpa using hi)⟩
  have hwk : ∀ {loc k}, wr δ loc k = true ↔ loc ∈ keysL (δ k) := by
    intro loc k
    rw [mem_keys]; unfold wr
    cases look (δ k) loc <;> simp
  -- two that don't wait for each other don't meddle
  have hconf : ∀ i k m, i < k → k < ops.size → (masks ops.toList [])[k]? = some m → bitOf m i = true ∨ ((∀ loc, wr δ loc i = true → loc ∉ R k) ∧ (∀ loc, wr δ loc i = true → wr δ loc k = false) ∧ ∀ loc, loc ∈ R i → wr δ loc k = false) := by
    intro i k m hik hk hm
    obtain ⟨_, p, fs', k1, k2, _, k4⟩ := hex k gs[k] (List.getElem?_eq_getElem (by omega))
    rw [hm] at k1; cases k1
    have hmem := k4 i hik
    rw [Nat.zero_add] at hmem
    rcases confl_false k2 _ _ _ hmem with hh | ⟨h1, h2, h3⟩
    · exact .inl hh
    · refine .inr ⟨fun loc hw => meets_false h1 loc (hwk.1 hw), fun loc hw => ?_, fun loc hr => ?_⟩
      · cases hh : wr δ loc k with
        | false => rfl
        | true => exact absurd (hwk.1 hh) (meets_false h2 loc (hwk.1 hw))
      · cases hh : wr δ loc k with
        | false => rfl
        | true => exact absurd (hwk.1 hh) (meets_false h3 loc hr)
  -- an operation that isn't in the set: nobody behind it that meddles is in the set
  have hback : ∀ (S : Nat → Bool) (i k : Nat), Closed ops (fun j => S j = true) → S i = false → i < k → k < ops.size → S k = true → (∀ loc, wr δ loc i = true → wr δ loc k = false) ∧ ∀ loc, loc ∈ R i → wr δ loc k = false := by
    intro S i k hS hi hik hk hSk
    obtain ⟨m, hm⟩ := hmask k hk
    rcases hconf i k m hik hk hm with hh | ⟨_, h2, h3⟩
    · have := hgood k m hm i hh _ hS fun o e ho he hb => hS k o e hSk ho he hb
      have this' : S i = true := this
      rw [hi] at this'; cases this'
    · exact ⟨h2, h3⟩
  have main : ∀ (fuel : Nat) (listed : Array Bool) (κ' : Gh) (a' : Act) (w' : World), listed.size = ops.size → Closed ops (fun j => listed.getD j false = true) →
      ((List.range ops.size).filter fun k => !listed.getD k false).length ≤ fuel → RepS W0 κ' (runS δ σ ops.size fun k => listed.getD k false) a' w' →
      Step κ σ w κ' (runS δ σ ops.size fun k => listed.getD k false) w' → a'.tmps.size = N → Ids κ' id ops.size (fun k => listed.getD k false) → wpAny P .any ops Q fuel listed a' w' := by
    intro fuel
    have done : ∀ (listed : Array Bool) (κ' : Gh) (a' : Act) (w' : World), (∀ k, k < ops.size → listed.getD k false = true) → RepS W0 κ' (runS δ σ ops.size fun k => listed.getD k false) a' w' →
        Step κ σ w κ' (runS δ σ ops.size fun k => listed.getD k false) w' → a'.tmps.size = N → Ids κ' id ops.size (fun k => listed.getD k false) → Q .normal a' w' := by
      intro listed κ' a' w' hall r s n ids
      have e : (List.range ops.size).filter (fun k => listed.getD k false) = List.range ops.size := List.filter_eq_self.2 fun k hk => hall k (List.mem_range.1 hk)
      have e2 : runS δ σ ops.size (fun k => listed.getD k false) = lay δ σ (List.range gs.length) := by unfold runS; rw [e, hn]
      rw [e2] at r s
      refine hQ σf κ' a' w' hK (r.same hσf) (Step.same (fun _ => rfl) hσf s) n ⟨by have := hb.ge; omega, fun b hbb => ?_, fun b hbb => ?_⟩
      · rcases ids.db b hbb with q | ⟨j, q0, _, q2, q3⟩
        · omega
        · rw [hn]; omega
      · rcases ids.dt b hbb with q | ⟨j, q0, _, q2, q3⟩
        · omega
        · rw [hn]; omega
    induction fuel with
    | zero =>
      intro listed κ' a' w' hsz hS hf r s n ids
      have hall : ∀ k, k < ops.size → listed.getD k false = true := by
        intro k hk
        cases hh : listed.getD k false with
        | true => rfl
        | false =>
          have : k ∈ ((List.range ops.size).filter fun k => !listed.getD k false) := List.mem_filter.2 ⟨List.mem_range.2 hk, by simp only [hh]; rfl⟩
          have := List.length_pos_of_mem this
          omega
      refine ⟨?_, done listed κ' a' w' hall r s n ids⟩
      unfold Region.ready
      rw [List.filter_eq_nil_iff]
      intro k hk
      have hk' := List.mem_range.1 hk
      have := hall k hk'
      have e : listed.getD k true = true := by
        rw [Array.getD_eq_getD_getElem?] at this ⊢
        rw [Array.getElem?_eq_getElem (by omega)] at this ⊢
        exact this
      simp [e]
    | succ fuel ih =>
      intro listed κ' a' w' hsz hS hf r s n ids
      have gd : ∀ k, k < ops.size → listed.getD k true = listed.getD k false := by
        intro k hk
        rw [Array.getD_eq_getD_getElem?, Array.getD_eq_getD_getElem?, Array.getElem?_eq_getElem (by omega)]; rfl
      refine ⟨fun hr => ?_, fun i hi => ?_⟩
      · refine done listed κ' a' w' ?_ r s n ids
        intro k
        induction k using Nat.strongRecOn with
        | _ k ihk =>
          intro hk
          cases hh : listed.getD k false with
          | true => rfl
          | false =>
            have : k ∈ Region.ready .any ops listed := by
              unfold Region.ready
              refine List.mem_filter.2 ⟨List.mem_range.2 hk, ?_⟩
              rw [gd k hk, hh, Array.getElem?_eq_getElem hk]
              simp only [Bool.not_false, Bool.true_and, Option.map_some, Option.getD_some]
              rw [Array.all_eq_true]
              intro j hj
              cases hb' : Region.binds .any (ops[k].after[j]) with
              | false => rfl
              | true =>
                have hlt := hEd k ops[k] _ (Array.getElem?_eq_getElem hk) (by simp) hb'
                simpa using ihk _ hlt (by omega)
            rw [hr] at this; cases this
      · unfold Region.ready at hi
        obtain ⟨hi1, hi2⟩ := List.mem_filter.1 hi
        have hin := List.mem_range.1 hi1
        rw [Bool.and_eq_true, gd i hin] at hi2
        have hSi : listed.getD i false = false := by simpa using hi2.1
        have hedge : ∀ (o : Oper) (e : Edge), ops[i]? = some o → e ∈ o.after.toList → Region.binds .any e = true → listed.getD e.on false = true := by
          intro o e ho he hb'
          have h2 := hi2.2
          rw [ho] at h2
          simp only [Option.map_some, Option.getD_some] at h2
          rw [← Array.all_toList] at h2
          have := List.all_eq_true.1 h2 e he
          rw [hb'] at this
          simpa using this
        have ho : ops[i]? = some ops[i] := Array.getElem?_eq_getElem hin
        obtain ⟨g, hg, hcg⟩ := hcomp i ops[i] (by rw [hop]; exact ho)
        obtain ⟨hexec, _⟩ := hex i g hg
        obtain ⟨c1, c2, c3, _⟩ := compG_spec hcg
        have agree : ∀ loc, loc ∈ R i ∨ loc ∈ keysL (δ i) → look (runS δ σ ops.size fun k => listed.getD k false) loc = look (lay δ σ (List.range i)) loc := by
          intro loc hloc
          rw [← runS_lt (Nat.le_of_lt hin)]
          refine look_runS_congr fun k hk hw => ?_
          by_cases h1 : k < i
          · have : listed.getD k false = true := by
              obtain ⟨m, hm⟩ := hmask i hin
              rcases hconf k i m h1 hin hm with hh | ⟨q1, q2, _⟩
              · exact hgood i m hm k hh _ hS hedge
              · rcases hloc with hl | hl
                · exact absurd hl (q1 loc hw)
                · have := q2 loc hw; rw [hwk.2 hl] at this; cases this
            simp only [this, h1, decide_true]
          · by_cases h2 : k = i
            · subst h2; rw [hSi]; simp
            · have : listed.getD k false = false := by
                cases hh : listed.getD k false with
                | false => rfl
                | true =>
                  obtain ⟨q1, q2⟩ := hback _ i k hS hSi (by omega) hk hh
                  rcases hloc with hl | hl
                  · have := q2 loc hl; rw [hw] at this; cases this
                  · have := q1 loc (hwk.2 hl); rw [hw] at this; cases this
              simp only [this, h1, decide_false]
        have hS' : (fun k => (listed.setIfInBounds i true).getD k false) = fun k => listed.getD k false || decide (k = i) := by
          funext k
          rw [Array.getD_eq_getD_getElem?, Array.getD_eq_getD_getElem?, Array.getElem?_setIfInBounds]
          by_cases hk : i = k
          · subst hk; simp [hsz, hin]
          · have : ¬ k = i := fun e => hk e.symm
            simp [hk, this]
        have hadd := runS_add (δ := δ) (σ := σ) (n := ops.size) hin (S := fun k => listed.getD k false) (by
          intro loc k hk hSk hwi hwk'
          by_cases h1 : k < i
          · exact h1
          · by_cases h2 : k = i
            · subst h2
              have hSk' : listed.getD k false = true := hSk
              rw [hSi] at hSk'; cases hSk'
            · have := (hback _ i k hS hSi (by omega) hk hSk).1 loc hwi
              rw [hwk'] at this; cases this)
        have hclosed : Closed ops (fun j => (listed.setIfInBounds i true).getD j false = true) := by
          intro k o e hk ho' he hb'
          have hk' : (listed.setIfInBounds i true).getD k false = (listed.getD k false || decide (k = i)) := congrFun hS' k
          have he'' : (listed.setIfInBounds i true).getD e.on false = (listed.getD e.on false || decide (e.on = i)) := congrFun hS' e.on
          have hk2 : (listed.setIfInBounds i true).getD k false = true := hk
          show (listed.setIfInBounds i true).getD e.on false = true
          rw [he'']
          rw [hk'] at hk2
          have hk := hk2
          rw [Bool.or_eq_true] at hk ⊢
          rcases hk with hk | hk
          · exact .inl (hS k o e hk ho' he hb')
          · have : k = i := of_decide_eq_true hk
            subst this
            exact .inl (hedge o e ho' he hb')
        have hcount : ((List.range ops.size).filter fun k => !(listed.setIfInBounds i true).getD k false).length ≤ fuel := by
          have := filter_len_lt (l := List.range ops.size) (p := fun k => !listed.getD k false) (q := fun k => !(listed.setIfInBounds i true).getD k false) (by
            intro k _ hk
            have e : (listed.setIfInBounds i true).getD k false = (listed.getD k false || decide (k = i)) := congrFun hS' k
            have hk : (!(listed.setIfInBounds i true).getD k false) = true := hk
            rw [e] at hk
            cases hh : listed.getD k false with
            | false => rfl
            | true => rw [hh] at hk; simp at hk) hi1 (by simp only [hSi]; rfl) (by
            have e : (listed.setIfInBounds i true).getD i false = (listed.getD i false || decide (i = i)) := congrFun hS' i
            rw [e]; simp)
          omega
        have step : ∀ (κ'' : Gh) (a'' : Act) (w'' : World), RepS W0 κ'' (δ i ++ runS δ σ ops.size fun k => listed.getD k false) a'' w'' → Step κ' (runS δ σ ops.size fun k => listed.getD k false) w' κ'' (δ i ++ runS δ σ ops.size fun k => listed.getD k false) w'' →
            a''.tmps.size = N → Grow κ' κ'' (id + 100 * i) → wpAny P .any ops Q fuel (listed.setIfInBounds i true) a'' w'' := by
          intro κ'' a'' w'' r' s' n' gr
          refine ih _ κ'' a'' w'' (by simp [hsz]) hclosed hcount ?_ ?_ n' ?_
          · rw [hS']; exact r'.same hadd
          · rw [hS']; exact s.trans (Step.same (fun _ => rfl) hadd s')
          · rw [hS']; exact ids.grow hin gr
        unfold wpOp
        rw [ho]
        simp only
        have hd : ∀ d', ops[i].dst = some d' → d' < a'.tmps.size := fun d' h' => by rw [n]; exact c2 d' h'
        rcases hexec _ agree with ⟨hv, heff⟩ | ⟨hv, hδ⟩
        · rw [guard_real r hcg hv, if_pos rfl]
          refine .inl (Oper.wp_mono ?_ (eff_sound2 (Q := Q) hG hcall r (ids.fresh hb.ge hSi) c1 hd heff))
          rintro a'' w'' ⟨δ', κ'', rfl, r', s', n', gr⟩
          exact step κ'' a'' w'' r' s' (n'.trans n) gr
        · rw [guard_real r hcg hv]
          simp only [Bool.false_eq_true, if_false]
          obtain ⟨r', s'⟩ := skip_rep r hd
          have hdst : dstL ops[i].dst (.tup []) = δ i := by rw [← c3]; exact hδ.symm
          rw [hdst] at r' s'
          exact step κ' _ w' r' s' (put_size.trans n) (Grow.refl _ _)
  have hfalse : ∀ k, (Array.replicate ops.size false).getD k false = false := by
    intro k
    rw [Array.getD_eq_getD_getElem?, Array.getElem?_replicate]
    split <;> rfl
  have e0 : runS δ σ ops.size (fun k => (Array.replicate ops.size false).getD k false) = σ := by
    unfold runS
    have : (List.range ops.size).filter (fun k => (Array.replicate ops.size false).getD k false) = [] := by
      rw [List.filter_eq_nil_iff]; intro k _; rw [hfalse]; simp
    rw [this]; rfl
  refine main ops.size _ κ a w (by simp) ?_ ?_ (by rw [e0]; exact hs) (by rw [e0]; exact Step.refl _ _ _) hN ⟨fun b hbb => .inl (hb.db b hbb), fun b hbb => .inl (hb.dt b hbb)⟩
  · intro k o e hk
    have hk' : (Array.replicate ops.size false).getD k false = true := hk
    rw [hfalse] at hk'; cases hk'
  · exact Nat.le_trans (List.length_filter_le _ _) (by simp)
end
end Go.Abs

namespace Go.Abs
open Go
def ρτ (κ : Gh) (ρ : List (Nat × Nat)) (k : Nat) : Nat × Nat × Nat := match Nat.blt k 1000 with
  | true => κ.τ k
  | false => match assoc ρ k with
    | some k' => κ.τ k'
    | none => (0, 0, 0)

def less (κ : Gh) (ρ : List (Nat × Nat)) (n : Nat) : Gh := {
  I := κ.I
  Db := fun b => κ.Db b ∧ b < n
  Dt := fun k => k < n ∧ (k < 1000 → κ.Dt k)
  ι := κ.ι
  τ := ρτ κ ρ }

section
variable {W0 : World} {κ : Gh} {σ σ' : Log} {a : Act} {w : World} {ρ : List (Nat × Nat)} {n : Nat}
theorem tokR_less {t t' : Tok} {z : Nat} {x : Value} (ht : tokR ρ t t') (hb : ∀ k, t' = .t k → k < n) (h2 : tokOK κ z t x) : tokOK (less κ ρ n) z t' x := by
  unfold tokR at ht
  split at ht
  · trivial
  · exact h2
  · rename_i k
    split at ht
    · exact ht.elim
    · rename_i hk
      have hkn : k < n := hb k rfl
      have hk' : ¬ k < 1000 := fun hh => by rw [← Nat.blt_eq] at hh; rw [hh] at hk; cases hk
      exact ⟨⟨hkn, fun hh => absurd hh hk'⟩, fun A m c e l => absurd (h2 A m c e) (by omega)⟩
  · rename_i k' k
    have hkn : k < n := hb k rfl
    split at ht
    · rename_i hk
      subst ht
      refine ⟨⟨hkn, fun _ => h2.1⟩, fun A m c e l => ?_⟩
      simp only [less, ρτ, hk]
      exact h2.2 A m c e l
    · rename_i hk
      have hk' : ¬ k < 1000 := fun hh => by rw [← Nat.blt_eq] at hh; rw [hh] at hk; cases hk
      refine ⟨⟨hkn, fun hh => absurd hh hk'⟩, fun A m c e l => ?_⟩
      simp only [less, ρτ, hk, ht]
      exact h2.2 A m c e l
  · exact ht.elim

theorem RepV.less1 {u v : AV} {x : Value} (hu : RepV κ w u x) (h : wkR1 ρ u v) (hb : below1 n v = true) : RepV (less κ ρ n) w v x := by
  unfold wkR1 at h
  split at h
  · rename_i z e t z' e' t'
    obtain ⟨rfl, rfl, ht⟩ := h
    obtain ⟨h1, h2⟩ := hu.sl_inv
    refine .sl z e t' x h1 (tokR_less ht (fun k e => ?_) h2)
    subst e
    simpa [below1, Nat.blt_eq] using hb
  · rename_i z e b m t z' e' b' m' t'
    obtain ⟨rfl, rfl, rfl, rfl, ht⟩ := h
    obtain ⟨off, cap, h1, h2, h3, h4, h5, rfl⟩ := hu.mx_inv
    have hh : b < n ∧ ∀ k, t' = .t k → k < n := by
      cases t' with
      | none => exact ⟨by simpa [below1, Nat.blt_eq] using hb, fun k e => by cases e⟩
      | full => exact ⟨by simpa [below1, Nat.blt_eq] using hb, fun k e => by cases e⟩
      | t j =>
        simp only [below1] at hb
        split at hb
        · rename_i hj
          exact ⟨by simpa [Nat.blt_eq] using hb, fun k e => by cases e; simpa [Nat.blt_eq] using hj⟩
        · cases hb
    exact RepV.mx (κ := less κ ρ n) z e b m t' off cap ⟨h1, hh.1⟩ h2 h3 h4 (tokR_less ht hh.2 h5)
  · exact .bad x
  · subst h
    cases hu with
    | sc c => exact .sc c
    | ptr b o hd => exact RepV.ptr (κ := less κ ρ n) b o ⟨hd, by simpa [below1, Nat.blt_eq] using hb⟩
    | mr b hd => exact RepV.mr (κ := less κ ρ n) b ⟨hd, by simpa [below1, Nat.blt_eq] using hb⟩
    | elp cells o b q hc => exact .elp cells o b q hc
    | sl z e t x' h1 h2 =>
      rename_i _ hnot _
      exact (hnot z e t z e t rfl rfl).elim
    | mx z e b m t off cap =>
      rename_i hnot
      exact (hnot z e b m t z e b m t rfl rfl).elim
    | fn => cases hb
    | agg => cases hb
    | tup => cases hb
    | bad => exact .bad x

theorem wkRL1_spec : ∀ {l m : List AV}, wkRL1 ρ l m → m.length = l.length ∧ ∀ (j : Nat) (u : AV), m[j]? = some u → ∃ v, l[j]? = some v ∧ wkR1 ρ v u
  | [], [], _ => ⟨rfl, fun j u h => by simp at h⟩
  | x :: l, y :: m, h => by
    obtain ⟨h1, h2⟩ := h
    obtain ⟨g1, g2⟩ := wkRL1_spec h2
    refine ⟨by simp [g1], fun j u hj => ?_⟩
    cases j with
    | zero => simp at hj; subst hj; exact ⟨x, rfl, h1⟩
    | succ j => simpa using g2 j u (by simpa using hj)
  | [], _ :: _, h => h.elim
  | _ :: _, [], h => h.elim

theorem wkRL2_spec : ∀ {l m : List AV}, wkRL2 ρ l m → m.length = l.length ∧ ∀ (j : Nat) (u : AV), m[j]? = some u → ∃ v, l[j]? = some v ∧ wkR2 ρ v u
  | [], [], _ => ⟨rfl, fun j u h => by simp at h⟩
  | x :: l, y :: m, h => by
    obtain ⟨h1, h2⟩ := h
    obtain ⟨g1, g2⟩ := wkRL2_spec h2
    refine ⟨by simp [g1], fun j u hj => ?_⟩
    cases j with
    | zero => simp at hj; subst hj; exact ⟨x, rfl, h1⟩
    | succ j => simpa using g2 j u (by simpa using hj)
  | [], _ :: _, h => h.elim
  | _ :: _, [], h => h.elim

theorem belowL1_spec : ∀ {l : List AV}, belowL1 n l = true → ∀ v, v ∈ l → below1 n v = true
  | [], _, v, h => by cases h
  | x :: r, h, v, hv => by
    simp only [belowL1] at h
    split at h
    · rename_i hx
      rcases List.mem_cons.1 hv with rfl | hv
      · exact hx
      · exact belowL1_spec h v hv
    · cases h
theorem belowL2_spec : ∀ {l : List AV}, belowL2 n l = true → ∀ v, v ∈ l → below2 n v = true
  | [], _, v, h => by cases h
  | x :: r, h, v, hv => by
    simp only [belowL2] at h
    split at h
    · rename_i hx
      rcases List.mem_cons.1 hv with rfl | hv
      · exact hx
      · exact belowL2_spec h v hv
    · cases h
theorem oneL_spec : ∀ {l : List AV}, oneL l = true → ∀ v, v ∈ l → one v = true
  | [], _, v, h => by cases h
  | x :: r, h, v, hv => by
    simp only [oneL] at h
    split at h
    · rename_i hx
      rcases List.mem_cons.1 hv with rfl | hv
      · exact hx
      · exact oneL_spec h v hv
    · cases h

theorem wkR1_one {u v : AV} (h : wkR1 ρ u v) (h1 : one u = true) : v = .bad ∨ one v = true := by
  unfold wkR1 at h
  split at h
  · exact .inr rfl
  · exact .inr rfl
  · exact .inl rfl
  · subst h; exact .inr h1

theorem RepV.less2 {u v : AV} {x : Value} (hu : RepV κ w u x) (h : wkR2 ρ u v) (hb : below2 n v = true) : RepV (less κ ρ n) w v x := by
  unfold wkR2 at h
  split at h
  · obtain ⟨rfl, h⟩ := h
    obtain ⟨vs, rfl, hs, hc⟩ := hu.fn_inv
    obtain ⟨g1, g2⟩ := wkRL1_spec h
    refine .fn _ _ vs (by rw [hs, g1]) fun j u hj => ?_
    obtain ⟨v, h1, h2⟩ := g2 j u hj
    exact (hc j v h1).less1 h2 (belowL1_spec hb u (List.mem_of_getElem? hj))
  · rename_i l l'
    obtain ⟨vs, rfl, hl⟩ := hu.agg_inv
    obtain ⟨g1, g2⟩ := wkRL1_spec h
    refine .agg _ vs (by rw [hl.1, g1]) ?_ fun j u hj => ?_
    · intro u hu'
      obtain ⟨j, hj⟩ := List.mem_iff_getElem?.1 hu'
      obtain ⟨v, h1, h2⟩ := g2 j u hj
      rcases wkR1_one h2 (hl.2.1 v (List.mem_of_getElem? h1)) with rfl | h
      · have := belowL1_spec (show belowL1 n l' = true from hb) _ hu'
        simp [below1] at this
      · exact h
    · obtain ⟨v, h1, h2⟩ := g2 j u hj
      exact (hl.2.2 j v h1).less1 h2 (belowL1_spec (show belowL1 n l' = true from hb) u (List.mem_of_getElem? hj))
  · obtain ⟨vs, rfl, hs, hc⟩ := hu.tup_inv
    obtain ⟨g1, g2⟩ := wkRL1_spec h
    refine .tup _ vs (by rw [hs, g1]) fun j u hj => ?_
    obtain ⟨v, h1, h2⟩ := g2 j u hj
    exact (hc j v h1).less1 h2 (belowL1_spec hb u (List.mem_of_getElem? hj))
  · rename_i hn1 hn2 hn3
    by_cases hv : (∃ f c, v = .fn f c) ∨ (∃ l, v = .agg l) ∨ (∃ l, v = .tup l)
    · exfalso
      unfold wkR1 at h
      split at h
      · rcases hv with ⟨_, _, e⟩ | ⟨_, e⟩ | ⟨_, e⟩ <;> cases e
      · rcases hv with ⟨_, _, e⟩ | ⟨_, e⟩ | ⟨_, e⟩ <;> cases e
      · rcases hv with ⟨_, _, e⟩ | ⟨_, e⟩ | ⟨_, e⟩ <;> cases e
      · subst h
        rcases hv with ⟨f, c, e⟩ | ⟨l, e⟩ | ⟨l, e⟩
        · exact hn1 f c f c e e
        · exact hn2 l l e e
        · exact hn3 l l e e
    · have hb' : below1 n v = true := by
        cases v <;> first | exact hb | exact absurd (by simp) hv
      exact hu.less1 h hb'

theorem RepL.less {l m : List AV} {C : Array Value} (hl : RepL κ w l C) (h : wkRL2 ρ l m) (hb : belowL2 n m = true) (h1 : oneL m = true) : RepL (less κ ρ n) w m C := by
  obtain ⟨g1, g2⟩ := wkRL2_spec h
  refine ⟨by rw [hl.1, g1], oneL_spec h1, fun j u hj => ?_⟩
  obtain ⟨v, h1, h2⟩ := g2 j u hj
  exact (hl.2.2 j v h1).less2 h2 (belowL2_spec hb u (List.mem_of_getElem? hj))

theorem RepC.less {l m : List AV} {C : Array Value} {o : Nat} (hl : RepC κ w l C o) (h : wkRL2 ρ l m) (hb : belowL2 n m = true) (h1 : oneL m = true) : RepC (less κ ρ n) w m C o := by
  have g := repC_iff.1 hl
  have g1 := (wkRL2_spec h).1
  refine repC_iff.2 ⟨by rw [g1]; exact g.1, ?_⟩
  rw [g1]
  exact g.2.less h hb h1

theorem leP_s : ∀ {τ : Log}, leP ρ σ τ → belowC n τ = true → ∀ m v, look τ (.s m) = some (.av v) → (∃ u, look σ (.s m) = some (.av u) ∧ wkR2 ρ u v) ∧ below2 n v = true
  | [], _, _, m, v, h => by simp [look] at h
  | (k, c) :: τ, hl, hb, m, v, h => by
    rw [look_cons] at h
    cases k with
    | s k =>
      cases c with
      | av x =>
        simp only [leP] at hl
        simp only [belowC] at hb
        split at hb
        · rename_i hx
          by_cases e : k = m
          · subst e
            simp at h; subst h
            refine ⟨?_, hx⟩
            obtain ⟨h1, _⟩ := hl
            split at h1
            · rename_i u hu; exact ⟨u, hu, h1⟩
            · exact h1.elim
          · simp [e] at h; exact leP_s hl.2 hb m v h
        · cases hb
      | bx => simp [leP] at hl
      | tk => simp [leP] at hl
    | b k =>
      cases c with
      | bx x =>
        simp only [leP] at hl
        simp only [belowC] at hb
        split at hb
        · simp at h; exact leP_s hl.2 hb m v h
        · cases hb
      | av => simp [leP] at hl
      | tk =>
        simp only [leP] at hl
        simp only [belowC] at hb
        simp at h
        exact leP_s hl hb m v h
    | t k =>
      cases c with
      | tk on =>
        simp only [belowC] at hb
        split at hb
        · simp at h
          cases on with
          | true => simp only [leP] at hl; exact leP_s hl.2 hb m v h
          | false => simp only [leP] at hl; exact leP_s hl hb m v h
        · cases hb
      | av => simp [leP] at hl
      | bx => simp [leP] at hl

theorem leP_b : ∀ {τ : Log}, leP ρ σ τ → belowC n τ = true → ∀ m v, look τ (.b m) = some (.bx v) → (∃ u, look σ (.b m) = some (.bx u) ∧ wkRL2 ρ u v) ∧ belowL2 n v = true ∧ oneL v = true ∧ m < n
  | [], _, _, m, v, h => by simp [look] at h
  | (k, c) :: τ, hl, hb, m, v, h => by
    rw [look_cons] at h
    cases k with
    | s k =>
      cases c with
      | av x =>
        simp only [leP] at hl
        simp only [belowC] at hb
        split at hb
        · simp at h; exact leP_b hl.2 hb m v h
        · cases hb
      | bx => simp [leP] at hl
      | tk => simp [leP] at hl
    | b k =>
      cases c with
      | bx x =>
        simp only [leP] at hl
        simp only [belowC] at hb
        split at hb
        · rename_i hx1 hx2 hx3
          by_cases e : k = m
          · subst e
            simp at h; subst h
            refine ⟨?_, hx2, hx3, by simpa [Nat.blt_eq] using hx1⟩
            obtain ⟨h1, _⟩ := hl
            split at h1
            · rename_i u hu; exact ⟨u, hu, h1⟩
            · exact h1.elim
          · simp [e] at h; exact leP_b hl.2 hb m v h
        · cases hb
      | av => simp [leP] at hl
      | tk =>
        simp only [leP] at hl
        simp only [belowC] at hb
        by_cases e : k = m
        · simp [e] at h
        · simp [e] at h; exact leP_b hl hb m v h
    | t k =>
      cases c with
      | tk on =>
        simp only [belowC] at hb
        split at hb
        · simp at h
          cases on with
          | true => simp only [leP] at hl; exact leP_b hl.2 hb m v h
          | false => simp only [leP] at hl; exact leP_b hl hb m v h
        · cases hb
      | av => simp [leP] at hl
      | bx => simp [leP] at hl

/-- what a live token of the younger log stands for -/
def Stands (σ : Log) (ρ : List (Nat × Nat)) (τ : Log) (n m : Nat) : Prop :=
  m < n ∧ ((m < 1000 ∧ look σ (.t m) = some (.tk true) ∧ m ∈ lowToks τ) ∨ (¬ m < 1000 ∧ (assoc ρ m = none ∨ ∃ k, assoc ρ m = some k ∧ look σ (.t k) = some (.tk true))))

theorem leP_t : ∀ {τ : Log}, leP ρ σ τ → belowC n τ = true → ∀ m, look τ (.t m) = some (.tk true) → Stands σ ρ τ n m
  | [], _, _, m, h => by simp [look] at h
  | (k, c) :: τ, hl, hb, m, h => by
    rw [look_cons] at h
    have up : ∀ {q}, (∀ x, x ∈ lowToks τ → x ∈ lowToks (q :: τ)) → Stands σ ρ τ n m → Stands σ ρ (q :: τ) n m := by
      rintro q hq ⟨h1, h2⟩
      refine ⟨h1, ?_⟩
      rcases h2 with ⟨g1, g2, g3⟩ | h2
      · exact .inl ⟨g1, g2, hq m g3⟩
      · exact .inr h2
    cases k with
    | s k =>
      cases c with
      | av x =>
        simp only [leP] at hl
        simp only [belowC] at hb
        split at hb
        · simp at h; exact up (fun x hx => hx) (leP_t hl.2 hb m h)
        · cases hb
      | bx => simp [leP] at hl
      | tk => simp [leP] at hl
    | b k =>
      cases c with
      | bx x =>
        simp only [leP] at hl
        simp only [belowC] at hb
        split at hb
        · simp at h; exact up (fun x hx => hx) (leP_t hl.2 hb m h)
        · cases hb
      | av => simp [leP] at hl
      | tk =>
        simp only [leP] at hl
        simp only [belowC] at hb
        simp at h
        exact up (fun x hx => hx) (leP_t hl hb m h)
    | t k =>
      cases c with
      | tk on =>
        simp only [belowC] at hb
        split at hb
        · rename_i hk
          have hkn : k < n := by simpa [Nat.blt_eq] using hk
          cases on with
          | true =>
            simp only [leP] at hl
            obtain ⟨h1, h2⟩ := hl
            by_cases e : k = m
            · subst e
              refine ⟨hkn, ?_⟩
              split at h1
              · rename_i hlt
                refine .inl ⟨by simpa [Nat.blt_eq] using hlt, ?_, ?_⟩
                · split at h1
                  · assumption
                  · exact h1.elim
                · simp only [lowToks, hlt]; simp
              · rename_i hlt
                refine .inr ⟨(fun hh => by rw [← Nat.blt_eq] at hh; rw [hh] at hlt; cases hlt), ?_⟩
                split at h1
                · rename_i ha; exact .inl ha
                · rename_i k' ha
                  refine .inr ⟨k', ha, ?_⟩
                  split at h1
                  · assumption
                  · exact h1.elim
            · simp [e] at h
              refine up (fun x hx => ?_) (leP_t h2 hb m h)
              simp only [lowToks]
              split
              · simp [hx]
              · exact hx
          | false =>
            simp only [leP] at hl
            by_cases e : k = m
            · simp [e] at h
            · simp [e] at h
              exact up (fun x hx => hx) (leP_t hl hb m h)
        · cases hb
      | av => simp [leP] at hl
      | bx => simp [leP] at hl

theorem assoc_mem : ∀ {ρ : List (Nat × Nat)} {k x : Nat}, assoc ρ k = some x → ∃ i : Nat, ρ[i]? = some (k, x)
  | [], k, x, h => by simp [assoc] at h
  | (k', x') :: ρ, k, x, h => by
    simp only [assoc] at h
    split at h
    · rename_i hb
      have := Nat.eq_of_beq_eq_true hb
      subst this
      cases h
      exact ⟨0, rfl⟩
    · obtain ⟨i, hi⟩ := assoc_mem h
      exact ⟨i + 1, by simpa using hi⟩

theorem Le_sound (h : Le σ n σ') (hs : RepS W0 κ σ a w) : ∃ κ', RepS W0 κ' σ' a w ∧ Step κ σ w κ' σ' w ∧ Bel κ' n := by
  obtain ⟨ρ, ⟨n1, n2, n3, n4⟩, hl⟩ := h
  have hn : 1000 ≤ n := Nat.le_of_ble_eq_true n3
  have hS := leP_s (n := n) hl n4
  have hB := leP_b (n := n) hl n4
  have hT := leP_t (n := n) hl n4
  have inj : ∀ k k' x, assoc ρ k = some x → assoc ρ k' = some x → k = k' := by
    intro k k' x h1 h2
    obtain ⟨i, hi⟩ := assoc_mem h1
    obtain ⟨j, hj⟩ := assoc_mem h2
    have := nodupB_spec n1 i j x (by rw [List.getElem?_map, hi]; rfl) (by rw [List.getElem?_map, hj]; rfl)
    subst this
    rw [hi] at hj
    cases hj
    rfl
  have lown : ∀ k k', k ∈ lowToks σ' → assoc ρ k' = some k → False := by
    intro k k' h1 h2
    have := List.all_eq_true.1 n2 k h1
    obtain ⟨i, hi⟩ := assoc_mem h2
    have hm : (ρ.map (·.2)).contains k = true := List.contains_iff_mem.2 (List.mem_of_getElem? (i := i) (by rw [List.getElem?_map, hi]; rfl))
    rw [hm] at this; cases this
  -- what a live token's room is
  have room : ∀ m, look σ' (.t m) = some (.tk true) → (∀ b o, ¬ inSp (ρτ κ ρ m) b o) ∨ ∃ k, look σ (.t k) = some (.tk true) ∧ ρτ κ ρ m = κ.τ k ∧ ((m < 1000 ∧ k = m) ∨ (¬ m < 1000 ∧ assoc ρ m = some k)) := by
    intro m hm
    obtain ⟨_, h2⟩ := hT m hm
    rcases h2 with ⟨g1, g2, g3⟩ | ⟨g1, g2⟩
    · refine .inr ⟨m, g2, ?_, .inl ⟨g1, rfl⟩⟩
      have : Nat.blt m 1000 = true := by rw [Nat.blt_eq]; exact g1
      simp only [ρτ, this]
    · have hb : Nat.blt m 1000 = false := by
        cases hh : Nat.blt m 1000 with
        | false => rfl
        | true => rw [Nat.blt_eq] at hh; exact absurd hh g1
      rcases g2 with g2 | ⟨k, g2, g3⟩
      · refine .inl fun b o => ?_
        simp only [ρτ, hb, g2]
        rintro ⟨_, _, h3⟩
        simp at h3
      · refine .inr ⟨k, g3, ?_, .inr ⟨g1, g2⟩⟩
        simp only [ρτ, hb, g2]
  have hown : ∀ b o, Own (less κ ρ n) σ' b o → Own κ σ b o := by
    rintro b o (⟨i, l, hl', hi⟩ | ⟨k, hk, hi⟩)
    · obtain ⟨⟨u, hu, g⟩, _⟩ := hB i l hl'
      have e : spb (less κ ρ n) i l = spb κ i u := by simp only [spb, less, (wkRL2_spec g).1]
      exact .inl ⟨i, u, hu, e ▸ hi⟩
    · rcases room k hk with h | ⟨k', h1, h2, _⟩
      · exact absurd hi (h b o)
      · exact .inr ⟨k', h1, by rw [← h2]; exact hi⟩
  refine ⟨less κ ρ n, ⟨?_, ?_, ?_, ?_, ?_, ?_, fun b o ho => hs.sepI b o (hown b o ho), hs.Icell, hs.old, hs.size0, hs.amb, hs.defers, hs.os, hs.tape, hs.output⟩,
    ⟨Chg.refl _ _, fun b o ho => .inl (hown b o ho), fun _ _ h => h, fun _ _ h => .inl h, fun b hb hd => ⟨⟨hd, by omega⟩, rfl⟩, fun k hk hd => ⟨⟨by omega, fun _ => hd⟩, ?_⟩⟩, ⟨hn, fun b hb => hb.2, fun k hk => hk.1⟩⟩
  · intro m v hv
    obtain ⟨⟨u, hu, hw⟩, hb⟩ := hS m v hv
    exact (hs.slots m u hu).less2 hw hb
  · intro b l hl'
    obtain ⟨⟨u, hu, hw⟩, hb, h1, hbn⟩ := hB b l hl'
    obtain ⟨g1, g2, g3⟩ := hs.boxes b u hu
    refine ⟨⟨g1, hbn⟩, g2, ?_⟩
    cases hm : isM u with
    | false =>
      obtain ⟨C, ty, g4, g5⟩ := g3.row hm
      exact .of (C := C) (ty := ty) g4 (g5.less hw hb h1)
    | true =>
      obtain ⟨es, rfl⟩ := isM_iff.1 hm
      have hl2 : l = [.mpv es] := by
        cases l with
        | nil => exact hw.elim
        | cons v r =>
          obtain ⟨w1, w2⟩ := hw
          cases r with
          | nil =>
            have hv : AV.mpv es = v := by cases v <;> first | exact w1 | cases h1
            rw [hv]
          | cons u r => exact w2.elim
      rw [hl2]
      rcases g3 with ⟨h0, _⟩ | ⟨es', E, c, e1, e2, e3, e4⟩
      · cases h0
      · cases e1
        exact .inr ⟨es, E, c, rfl, e2, e3, e4⟩
  · intro b b' l l' h1 h2 hne x o hi hi'
    obtain ⟨⟨u, hu, g⟩, _⟩ := hB b l h1
    obtain ⟨⟨u', hu', g'⟩, _⟩ := hB b' l' h2
    have e : spb (less κ ρ n) b l = spb κ b u := by simp only [spb, less, (wkRL2_spec g).1]
    have e' : spb (less κ ρ n) b' l' = spb κ b' u' := by simp only [spb, less, (wkRL2_spec g').1]
    rw [e] at hi
    rw [e'] at hi'
    exact hs.binj b b' u u' hu hu' hne x o hi hi'
  · intro k hk
    obtain ⟨h1, h2⟩ := hT k hk
    refine ⟨⟨h1, fun hlt => ?_⟩, ?_⟩
    · rcases h2 with ⟨_, g2, _⟩ | ⟨g1, _⟩
      · exact (hs.toks k g2).1
      · exact absurd hlt g1
    · intro hh
      rcases room k hk with h | ⟨k', g1, g2, _⟩
      · exact absurd ⟨rfl, Nat.le_refl _, hh⟩ (h _ _)
      · have hh' : (κ.τ k').2.1 < (κ.τ k').2.2 := by rw [← g2]; exact hh
        have := (hs.toks k' g1).2 hh'
        show W0.heap.size ≤ (ρτ κ ρ k).1 ∧ _
        rw [g2]
        refine ⟨this.1, ?_⟩
        obtain ⟨C, ty, q1, q2⟩ := this.2
        refine ⟨C, ty, ?_, ?_⟩
        · show w.heap[(ρτ κ ρ k).1]? = _
          rw [g2]; exact q1
        · show (ρτ κ ρ k).2.2 ≤ _
          rw [g2]; exact q2
  · intro k k' hk hk' hne b o hi hi'
    rcases room k hk with h | ⟨j, g1, g2, g3⟩
    · exact h b o hi
    · rcases room k' hk' with h | ⟨j', g1', g2', g3'⟩
      · exact h b o hi'
      · have hi : inSp (ρτ κ ρ k) b o := hi
        have hi' : inSp (ρτ κ ρ k') b o := hi'
        rw [g2] at hi
        rw [g2'] at hi'
        refine hs.tdis j j' g1 g1' ?_ b o hi hi'
        intro e
        subst e
        have low : ∀ q, q < 1000 → look σ' (.t q) = some (.tk true) → q ∈ lowToks σ' := by
          intro q hq hlq
          obtain ⟨_, h2⟩ := hT q hlq
          rcases h2 with ⟨_, _, h3⟩ | ⟨h3, _⟩
          · exact h3
          · exact absurd hq h3
        rcases g3 with ⟨q1, q2⟩ | ⟨q1, q2⟩ <;> rcases g3' with ⟨q1', q2'⟩ | ⟨q1', q2'⟩
        · exact hne (by omega)
        · subst q2; exact lown _ _ (low _ q1 hk) q2'
        · subst q2'; exact lown _ _ (low _ q1' hk') q2
        · exact hne (inj k k' j q2 q2')
  · intro k i l hk hl' x o hi hi'
    obtain ⟨⟨u, hu, g⟩, _⟩ := hB i l hl'
    rcases room k hk with h | ⟨k', h1, h2, _⟩
    · exact h _ o hi
    · have hi : inSp (ρτ κ ρ k) x o := hi
      rw [h2] at hi
      have e : spb (less κ ρ n) i l = spb κ i u := by simp only [spb, less, (wkRL2_spec g).1]
      rw [e] at hi'
      exact hs.tbox k' i u h1 hu x o hi hi'
  · have : Nat.blt k 1000 = true := by rw [Nat.blt_eq]; exact hk
    simp only [less, ρτ, this]
end
end Go.Abs

namespace Go.Abs
open Go
/-- what is frozen behind a region -/
def wrapF : List Nat → AC → AC
  | [], ac => ac
  | x :: r, ac => wrapF r (.seq ac (.frz x))

/-- where what is known may be forgotten ahead of a region -/
def cutF : Bool → AC → AC
  | true, ac => .seq .cut ac
  | false, ac => ac

def compR (P : Program) (an : Ann) (N : Nat) (ops : Array Oper) (draw : Bool) : AC := match compL P an N ops ops.toList with
  | none => .stuck
  | some gs => match draw with
    | false => .reg gs
    | true => match edgesOK ops.toList 0 with
      | true => .regD gs (masks ops.toList [])
      | false => .stuck

def compC (P : Program) (an : Ann) (N : Nat) : Code → Option AC
  | .region id ops draw => some (cutF (an.cut id) (wrapF (an.frz id) (compR P an N ops draw)))
  | .seq x y => match compC P an N x, compC P an N y with
    | some x, some y => some (.seq x y)
    | _, _ => none
  | .cond c x y => match opdC none c, compC P an N x, compC P an N y with
    | some c, some x, some y => some (.cond c x y)
    | _, _, _ => none
  | .block n c => match compC P an N c with | some c => some (.block n c) | none => none
  | .loop c => match compC P an N c with | some c => some (.loop c) | none => none
  | .exit n => some (.exit n)
  | .ret => some .ret
  | .skip => some .skip
  | _ => some .stuck

def exitIs : Exit → Ex → Prop
  | .normal, .n => True
  | .exit i, .e j => i = j
  | .ret, .r => True
  | _, _ => False

def PostC (W0 : World) (κ : Gh) (σ : Log) (w : World) (N : Nat) (R : Ex → Nat → Log → Prop) : Exit → Act → World → Prop := fun e a' w' =>
  ∃ ex nx κ' σ', exitIs e ex ∧ R ex nx σ' ∧ RepS W0 κ' σ' a' w' ∧ Step κ σ w κ' σ' w' ∧ a'.tmps.size = N ∧ Bel κ' nx

theorem rounds_more {P : Program} {c : Code} {Q : Exit → Act → World → Prop} : ∀ {n m : Nat} {a : Act} {w : World}, n ≤ m → Code.rounds P c Q n a w → Code.rounds P c Q m a w
  | 0, m, a, w, _, h => h.elim
  | n + 1, 0, a, w, hm, _ => absurd hm (by omega)
  | n + 1, m + 1, a, w, hm, h => by
    rw [rounds_succ] at h ⊢
    refine wp_mono h fun e a' w' he => ?_
    cases e <;> first | exact rounds_more (by omega) he | exact he

section
variable {P : Program} {W0 : World} {call : CallP} {N : Nat} {an : Ann}
theorem wrap_sound {c : Code} {nx : Nat} {κ : Gh} {σ : Log} {a : Act} {w : World} : ∀ (L : List Nat) (ac : AC), (∀ R, awp call ac nx σ R → c.wp P (PostC W0 κ σ w N R) a w) → ∀ R, awp call (wrapF L ac) nx σ R → c.wp P (PostC W0 κ σ w N R) a w
  | [], ac, h, R, hR => h R hR
  | x :: L, ac, h, R, hR => by
    refine wrap_sound L (.seq ac (.frz x)) (fun R hR => ?_) R hR
    refine wp_mono (h _ hR) ?_
    rintro e a' w' ⟨ex, nx', κ', σ', he, hR, r, s, n, b⟩
    cases ex with
    | n =>
      simp only [awp] at hR
      split at hR
      · rename_i sz els b' m t hx
        split at hR
        · rename_i l hl
          obtain ⟨ch, ⟨h1, h2, h3⟩, hR⟩ := hR
          obtain ⟨r', s'⟩ := r.frz hl h1 h2 h3
          exact ⟨.n, nx', _, _, he, hR, r', s.trans s', n, ⟨b.ge, b.db, b.dt⟩⟩
        · exact hR.elim
      · exact ⟨.n, nx', κ', σ', he, hR, r, s, n, b⟩
      · exact hR.elim
    | e i => exact ⟨.e i, nx', κ', σ', he, hR, r, s, n, b⟩
    | r => exact ⟨.r, nx', κ', σ', he, hR, r, s, n, b⟩

theorem awp_sound (hm : P.follows .mixedOrders = true) (hG : ∀ g cells, an.gl g = some cells → GlobOK W0 g cells) (hcall : ∀ f args H res H', call f args H res H' → Ctr P W0 f args H res H') : ∀ (c : Code) (ac : AC) (nx : Nat) (κ : Gh) (σ : Log) (a : Act) (w : World) (R : Ex → Nat → Log → Prop),
    compC P an N c = some ac → RepS W0 κ σ a w → Bel κ nx → a.tmps.size = N → awp call ac nx σ R → c.wp P (PostC W0 κ σ w N R) a w
  | .region id ops draw, ac, nx, κ, σ, a, w, R, hc, hs, hb, hN, h => by
    simp only [compC] at hc
    cases hc
    have main : ∀ (nx : Nat) (κ : Gh) (σ : Log) (R : Ex → Nat → Log → Prop), RepS W0 κ σ a w → Bel κ nx → awp call (wrapF (an.frz id) (compR P an N ops draw)) nx σ R → (Code.region id ops draw).wp P (PostC W0 κ σ w N R) a w := by
      intro nx κ σ R hs hb h
      refine wrap_sound (an.frz id) _ (fun R h => ?_) R h
      unfold compR at h
      split at h
      · exact h.elim
      · rename_i gs hgs
        split at h
        · refine wp_region ?_
          rw [List.range_eq_range']
          have := aops_sound (Q := PostC W0 κ σ w N R) (ops := ops) (N := N) hG hcall gs ops.toList 0 σ κ a w nx _ hgs (fun j => by simp) hs hb hN h (fun σ' κ' a' w' hK r s n b => ⟨.n, _, κ', σ', trivial, hK, r, s, n, b⟩)
          rwa [Array.length_toList] at this
        · split at h
          · rename_i hE
            refine wp_region_any hm ?_
            exact draw_sound (Q := PostC W0 κ σ w N R) hG hcall hgs hE (hs.drawn _) hb hN h (fun σ' κ' a' w' hK r s n b => ⟨.n, _, κ', σ', trivial, hK, r, (Step.drawn _).trans s, n, b⟩)
          · exact h.elim
    cases hcut : an.cut id with
    | false => rw [hcut] at h; exact main nx κ σ R hs hb h
    | true =>
      rw [hcut] at h
      rcases (show CutP (fun n σ => awp call (wrapF (an.frz id) (compR P an N ops draw)) n σ R) nx σ from h) with h | ⟨n, σ', hle, h⟩
      · exact main nx κ σ R hs hb h
      · obtain ⟨κ0, r0, s0, b0⟩ := Le_sound hle hs
        refine wp_mono (main n κ0 σ' R r0 b0 h) ?_
        rintro e a' w' ⟨ex, nx', κ', σ'', he, hR, r, s, n, b⟩
        exact ⟨ex, nx', κ', σ'', he, hR, r, s0.trans s, n, b⟩
  | .seq x y, ac, nx, κ, σ, a, w, R, hc, hs, hb, hN, h => by
    simp only [compC] at hc
    split at hc <;> first | cases hc | skip
    rename_i x' y' hx hy
    refine wp_seq (wp_mono (awp_sound hm hG hcall x x' nx κ σ a w _ hx hs hb hN h) ?_)
    rintro e a' w' ⟨ex, nx', κ', σ', he, hR, r, s, n, b⟩
    cases ex with
    | n =>
      cases e <;> first | exact he.elim | skip
      refine wp_mono (awp_sound hm hG hcall y y' nx' κ' σ' a' w' R hy r b n hR) ?_
      rintro e a'' w'' ⟨ex, nx'', κ'', σ'', he, hR, r', s', n', b'⟩
      exact ⟨ex, nx'', κ'', σ'', he, hR, r', s.trans s', n', b'⟩
    | e i =>
      cases e <;> first | exact he.elim | skip
      exact ⟨.e i, nx', κ', σ', he, hR, r, s, n, b⟩
    | r =>
      cases e <;> first | exact he.elim | skip
      exact ⟨.r, nx', κ', σ', he, hR, r, s, n, b⟩
  | .cond c x y, ac, nx, κ, σ, a, w, R, hc, hs, hb, hN, h => by
    simp only [compC] at hc
    split at hc <;> first | cases hc | skip
    rename_i c' x' y' hcc hx hy
    simp only [awp] at h
    split at h
    · rename_i v hv
      have hr := opd_rep hs hcc
      rw [hv] at hr
      have e := hr.sc_inv
      simp only [Sc.val] at e
      have same : ∀ b, v = b → Same σ (setB c' b σ) := by
        intro b hb
        subst hb
        cases c' with
        | t n =>
          refine known ?_
          simp only [ev] at hv
          split at hv
          · rename_i u hu; rw [hu, hv]
          · cases hv
        | c => exact fun _ => rfl
      refine wp_cond e ?_
      cases v with
      | true =>
        refine wp_mono (awp_sound hm hG hcall x x' nx κ _ a w R hx (hs.same (same true rfl)) hb hN h) ?_
        rintro e a' w' ⟨ex, nx', κ', σ', he, hR, r, s, n, b⟩
        exact ⟨ex, nx', κ', σ', he, hR, r, Step.same (Same.symm (same true rfl)) (fun _ => rfl) s, n, b⟩
      | false =>
        refine wp_mono (awp_sound hm hG hcall y y' nx κ _ a w R hy (hs.same (same false rfl)) hb hN h) ?_
        rintro e a' w' ⟨ex, nx', κ', σ', he, hR, r, s, n, b⟩
        exact ⟨ex, nx', κ', σ', he, hR, r, Step.same (Same.symm (same false rfl)) (fun _ => rfl) s, n, b⟩
    · exact h.elim
  | .block k c, ac, nx, κ, σ, a, w, R, hc, hs, hb, hN, h => by
    simp only [compC] at hc
    split at hc <;> first | cases hc | skip
    rename_i c' hcc
    refine wp_block (wp_mono (awp_sound hm hG hcall c c' nx κ σ a w _ hcc hs hb hN h) ?_)
    rintro e a' w' ⟨ex, nx', κ', σ', he, hR, r, s, n, b⟩
    cases ex with
    | n =>
      cases e <;> first | exact he.elim | skip
      exact ⟨.n, nx', κ', σ', trivial, hR, r, s, n, b⟩
    | e i =>
      cases e <;> first | exact he.elim | skip
      rename_i j
      have hji : j = i := he
      subst hji
      simp only at hR
      simp only [Exit.inBlock]
      split at hR
      · rename_i hk
        rw [if_pos (Nat.eq_of_beq_eq_true hk)]
        exact ⟨.n, nx', κ', σ', trivial, hR, r, s, n, b⟩
      · rename_i hk
        rw [if_neg (fun e => by rw [e, Nat.beq_refl] at hk; cases hk)]
        exact ⟨.e j, nx', κ', σ', rfl, hR, r, s, n, b⟩
    | r =>
      cases e <;> first | exact he.elim | skip
      exact ⟨.r, nx', κ', σ', trivial, hR, r, s, n, b⟩
  | .loop c, ac, nx, κ, σ, a, w, R, hc, hs, hb, hN, h => by
    simp only [compC] at hc
    split at hc <;> first | cases hc | skip
    rename_i c' hcc
    rcases h with ⟨k, h⟩ | ⟨J, ⟨m0, n0, σ0, hle, hJ⟩, hround⟩
    · have key : ∀ (k : Nat) (n1 : Nat) (κ1 : Gh) (σ1 : Log) (a1 : Act) (w1 : World), iter (fun n σ Q => awp call c' n σ Q) R k n1 σ1 → RepS W0 κ1 σ1 a1 w1 → Step κ σ w κ1 σ1 w1 → Bel κ1 n1 → a1.tmps.size = N → Code.rounds P c (PostC W0 κ σ w N R) k a1 w1 := by
        intro k
        induction k with
        | zero => intro n1 κ1 σ1 a1 w1 hi; exact hi.elim
        | succ k ih =>
          intro n1 κ1 σ1 a1 w1 hi r1 s1 b1 hN1
          rw [rounds_succ]
          refine wp_mono (awp_sound hm hG hcall c c' n1 κ1 σ1 a1 w1 _ hcc r1 b1 hN1 hi) ?_
          rintro e a' w' ⟨ex, nx', κ', σ', he, hR, r, s, n, b⟩
          cases ex with
          | n =>
            cases e <;> first | exact he.elim | skip
            exact ih nx' κ' σ' a' w' hR r (s1.trans s) b n
          | e i =>
            cases e <;> first | exact he.elim | skip
            exact ⟨.e i, nx', κ', σ', he, hR, r, s1.trans s, n, b⟩
          | r =>
            cases e <;> first | exact he.elim | skip
            exact ⟨.r, nx', κ', σ', he, hR, r, s1.trans s, n, b⟩
      exact wp_loop_rounds k (key k nx κ σ a w h hs (Step.refl _ _ _) hb hN)
    obtain ⟨κ0, r0, s0, b0⟩ := Le_sound hle hs
    have key : ∀ (m : Nat) (n1 : Nat) (κ1 : Gh) (σ1 : Log) (a1 : Act) (w1 : World), J m n1 σ1 → RepS W0 κ1 σ1 a1 w1 → Step κ σ w κ1 σ1 w1 → Bel κ1 n1 → a1.tmps.size = N → Code.rounds P c (PostC W0 κ σ w N R) (m + 1) a1 w1 := by
      intro m
      induction m using Nat.strongRecOn with
      | _ m ih =>
        intro n1 κ1 σ1 a1 w1 hJ1 r1 s1 b1 hN1
        rw [rounds_succ]
        refine wp_mono (awp_sound hm hG hcall c c' n1 κ1 σ1 a1 w1 _ hcc r1 b1 hN1 (hround m n1 σ1 hJ1)) ?_
        rintro e a' w' ⟨ex, nx', κ', σ', he, hR, r, s, n, b⟩
        cases ex with
        | n =>
          cases e <;> first | exact he.elim | skip
          obtain ⟨m', n'', σ'', hlt, hle', hJ'⟩ := hR
          obtain ⟨κ'', r'', s'', b''⟩ := Le_sound hle' r
          exact rounds_more (by omega) (ih m' hlt n'' κ'' σ'' a' w' hJ' r'' ((s1.trans s).trans s'') b'' n)
        | e i =>
          cases e <;> first | exact he.elim | skip
          exact ⟨.e i, nx', κ', σ', he, hR, r, s1.trans s, n, b⟩
        | r =>
          cases e <;> first | exact he.elim | skip
          exact ⟨.r, nx', κ', σ', he, hR, r, s1.trans s, n, b⟩
    exact wp_loop_rounds (m0 + 1) (key m0 n0 κ0 σ0 a w hJ r0 s0 b0 hN)
  | .exit i, ac, nx, κ, σ, a, w, R, hc, hs, hb, hN, h => by
    cases hc
    exact wp_exit ⟨.e i, nx, κ, σ, rfl, h, hs, Step.refl _ _ _, hN, hb⟩
  | .ret, ac, nx, κ, σ, a, w, R, hc, hs, hb, hN, h => by
    cases hc
    exact wp_ret ⟨.r, nx, κ, σ, trivial, h, hs, Step.refl _ _ _, hN, hb⟩
  | .skip, ac, nx, κ, σ, a, w, R, hc, hs, hb, hN, h => by
    cases hc
    exact wp_skip ⟨.n, nx, κ, σ, trivial, h, hs, Step.refl _ _ _, hN, hb⟩
  | .rangeFunc .., ac, nx, κ, σ, a, w, R, hc, hs, hb, hN, h => by cases hc; exact h.elim
  | .scope .., ac, nx, κ, σ, a, w, R, hc, hs, hb, hN, h => by cases hc; exact h.elim
  | .label .., ac, nx, κ, σ, a, w, R, hc, hs, hb, hN, h => by cases hc; exact h.elim
  | .goto .., ac, nx, κ, σ, a, w, R, hc, hs, hb, hN, h => by cases hc; exact h.elim
  | .refuse .., ac, nx, κ, σ, a, w, R, hc, hs, hb, hN, h => by cases hc; exact h.elim

theorem upN_length : ∀ n, (upN n).length = n
  | 0 => rfl
  | n + 1 => by simp [upN, upN_length n]
theorem upN_get : ∀ {n i : Nat}, i < n → (upN n)[i]? = some i
  | 0, i, h => by omega
  | n + 1, i, h => by
    rw [upN]
    by_cases hi : i < n
    · rw [List.getElem?_append_left (by rw [upN_length]; exact hi)]; exact upN_get hi
    · have : i = n := by omega
      subst this
      rw [List.getElem?_append_right (by rw [upN_length]; omega), upN_length]; simp

theorem RepV.wk3 {κ : Gh} {w : World} {v u : AV} {x : Value} (hv : RepV κ w v x) (h : wk3 v u) : RepV κ w u x := by
  unfold Abs.wk3 at h
  split at h
  · obtain ⟨vs, rfl, hs, hc⟩ := hv.tup_inv
    obtain ⟨g1, g2⟩ := wkL2_spec h
    refine .tup _ vs (by rw [hs, g1]) fun j u hj => ?_
    obtain ⟨v, h1, h2⟩ := g2 j u hj
    exact ((hc j v h1).wk2 h2).1
  · exact (hv.wk2 h).1

theorem RepV.un3 {κ κc : Gh} {w : World} {bs ts : List Nat} {id : Nat} (h : Un κ κc bs ts) {v : AV} {x : Value} (hi : inR bs.length ts.length v = true) (hv : RepV κ w (Abs.ren bs ts id v) x) : RepV κc w v x := by
  by_cases ht : ∃ l, v = .tup l
  · obtain ⟨l, rfl⟩ := ht
    obtain ⟨vs, rfl, hs, hc⟩ := hv.tup_inv
    refine .tup l vs (by simpa using hs) fun j u hj => ?_
    exact (hc j _ (by rw [List.getElem?_map, hj]; rfl)).un2 h (inL2_spec hi u (List.mem_of_getElem? hj))
  · have e1 : Abs.ren bs ts id v = Abs.ren2 bs ts id v := by cases v <;> first | rfl | exact absurd ⟨_, rfl⟩ ht
    have e2 : inR bs.length ts.length v = in2 bs.length ts.length v := by cases v <;> first | rfl | exact absurd ⟨_, rfl⟩ ht
    rw [e1] at hv; rw [e2] at hi
    exact hv.un2 h hi

/-- the world, as the contract has it behind the call -/
theorem fin_rep {κ : Gh} {σ : Log} {a : Act} {w : World} {bs ts : List Nat} {res : AV} {H' : List (List AV)} {v : Value} (hs : RepS W0 κ σ a w) (n1 : nodupB bs = true) (n2 : nodupB ts = true)
    (i1 : inR bs.length ts.length res = true) (i2 : inH bs.length ts.length H' = true) (hv : RepV κ w (ren bs ts 0 res) v) (w2 : boxIs σ bs ts 0 bs H')
    (w3 : liveAll σ ((toks res ++ H'.flatMap fun h => h.flatMap toks2).map (rb ts 0))) :
    RepS W0 (sub' κ bs ts) (finLog res H') ⟨#[v], []⟩ w ∧ ∀ b o, Own (sub' κ bs ts) (finLog res H') b o → Own κ σ b o := by
  obtain ⟨b1, b2⟩ := boxIs_spec w2
  have gD : ∀ (l : List Nat) (i x : Nat), l[i]? = some x → l.getD i 0 = x := fun l i x h => by rw [List.getD_eq_getElem?_getD, h]; rfl
  have un : Un κ (sub' κ bs ts) bs ts := ⟨fun _ _ h => h, fun b x hx _ => ⟨(List.getElem?_eq_some_iff.1 hx).1, by simp only [sub', gD _ _ _ hx]⟩, fun k x hx _ => ⟨(List.getElem?_eq_some_iff.1 hx).1, by simp only [sub', gD _ _ _ hx]⟩⟩
  have e : allToks [res] H' = toks res ++ (H'.flatMap fun h => h.flatMap toks2) := by simp [allToks]
  have htin : ∀ k, k ∈ allToks [res] H' → k < ts.length := allToks_in (fun v hv => by simp at hv; subst hv; exact i1) i2
  have htl : ∀ k, k ∈ allToks [res] H' → ∃ x, ts[k]? = some x ∧ look σ (.t x) = some (.tk true) := by
    intro k hk
    have hlt := htin k hk
    refine ⟨ts[k], List.getElem?_eq_getElem hlt, ?_⟩
    have := liveAll_spec w3 (rb ts 0 k) (List.mem_map_of_mem (f := rb ts 0) (e ▸ hk))
    simpa [rb, List.getElem?_eq_getElem hlt] using this
  have lt : ∀ k, look (finLog res H') (.t k) = some (.tk true) → k ∈ allToks [res] H' := by
    intro k hk
    unfold finLog at hk
    rw [look_init_t] at hk
    by_cases hm : k ∈ allToks [res] H'
    · exact hm
    · rw [if_neg hm] at hk; cases hk
  have lb : ∀ b l, look (finLog res H') (.b b) = some (.bx l) → H'[b]? = some l := by
    intro b l h
    unfold finLog at h
    rw [look_init_b] at h
    cases hn : H'[b]? with
    | none => rw [hn] at h; cases h
    | some u => rw [hn] at h; simp at h; rw [h]
  have hspb : ∀ (i x : Nat) (h m : List AV), bs[i]? = some x → wkL2 m (h.map (ren2 bs ts 0)) → spb (sub' κ bs ts) i h = spb κ x m := by
    intro i x h m hx hw
    have hl := (wkL2_spec hw).1
    rw [List.length_map] at hl
    simp only [spb, sub', gD _ _ _ hx, hl]
  have hown : ∀ b o, Own (sub' κ bs ts) (finLog res H') b o → Own κ σ b o := by
    rintro b o (⟨i, l, hl, hi⟩ | ⟨k, hk, hi⟩)
    · obtain ⟨x, m, h1, h2, h3⟩ := b2 i l (lb i l hl)
      exact .inl ⟨x, m, h2, hspb i x l m h1 h3 ▸ hi⟩
    · obtain ⟨x, hx, hl⟩ := htl k (lt k hk)
      refine .inr ⟨x, hl, ?_⟩
      simpa only [sub', gD _ _ _ hx] using hi
  refine ⟨⟨?_, ?_, ?_, ?_, ?_, ?_, fun b o ho => hs.sepI b o (hown b o ho), hs.Icell, hs.old, hs.size0, hs.amb, rfl, hs.os, hs.tape, hs.output⟩, hown⟩
  · intro n u h
    unfold finLog at h
    rw [look_init_s] at h
    cases n with
    | zero =>
      simp at h; subst h
      simpa using hv.un3 un i1
    | succ n => simp at h
  · intro b l h
    have hn := lb b l h
    obtain ⟨x, m, h1, h2, h3⟩ := b2 b l hn
    obtain ⟨k1, k2, k3⟩ := hs.boxes x m h2
    refine ⟨(List.getElem?_eq_some_iff.1 h1).1, ?_, ?_⟩
    · simp only [sub', gD _ _ _ h1]; exact k2
    · have := (k3.wk h3).un un (inH_spec i2 l (List.mem_of_getElem? hn))
      simpa only [sub', gD _ _ _ h1] using this
  · intro b b' l l' h h' hne y o hi
    obtain ⟨x, m, h1, h2, h3⟩ := b2 b l (lb b l h)
    obtain ⟨x', m', h1', h2', h3'⟩ := b2 b' l' (lb b' l' h')
    rw [hspb b x l m h1 h3] at hi
    rw [hspb b' x' l' m' h1' h3']
    exact hs.binj x x' m m' h2 h2' (fun e => hne (nodupB_spec n1 b b' x h1 (e ▸ h1'))) y o hi
  · intro k h
    obtain ⟨x, hx, hl⟩ := htl k (lt k h)
    refine ⟨(List.getElem?_eq_some_iff.1 hx).1, ?_⟩
    simp only [sub', gD _ _ _ hx]
    exact (hs.toks x hl).2
  · intro k k' h h' hne b o hi
    obtain ⟨x, hx, hl⟩ := htl k (lt k h)
    obtain ⟨x', hx', hl'⟩ := htl k' (lt k' h')
    simp only [sub', gD _ _ _ hx, gD _ _ _ hx'] at hi ⊢
    exact hs.tdis x x' hl hl' (fun e => hne (nodupB_spec n2 k k' x hx (e ▸ hx'))) b o hi
  · intro k i l h h' q o hi
    obtain ⟨x, hx, hl⟩ := htl k (lt k h)
    obtain ⟨y, m, h1, h2, h3⟩ := b2 i l (lb i l h')
    rw [hspb i y l m h1 h3]
    simp only [sub', gD _ _ _ hx] at hi
    exact hs.tbox x y m hl h2 q o hi

def rsC (P : Program) : List ResultVar → Option (List (Nat × Nat))
  | [] => some []
  | .tmp t :: r => match rsC P r with | some l => some ((t, 0) :: l) | none => none
  | .cell t ty :: r => match aggOf P ty with
    | some true => (match (P.info? ty).map (·.size) with
      | some (n + 1) => (match rsC P r with | some l => some ((t, n + 1) :: l) | none => none)
      | _ => none)
    | _ => none

theorem run_resL {κ : Gh} {σ : Log} {a : Act} {w : World} (hs : RepS W0 κ σ a w) {g : ResultVar → Go.Sem Value} (hg : ∀ t, g (.tmp t) = pure (a.tmps.getD t undef))
    (hg' : ∀ t ty, g (.cell t ty) = (asAddr (a.tmps.getD t undef)).bind fun x => loadVar ty x) :
    ∀ {l : List ResultVar} {rs : List (Nat × Nat)} {K : List AV → Prop}, rsC P l = some rs → resL σ rs K → ∃ vs xs, K vs ∧ (l.mapM g).run P w = .ok xs w ∧ xs.length = vs.length ∧ ∀ (j : Nat) (v : AV), vs[j]? = some v → RepV κ w v (xs.getD j undef)
  | [], rs, K, h, hK => by
    simp only [rsC, Option.some.injEq] at h; subst h
    exact ⟨[], [], hK, rfl, rfl, fun j v hj => by simp at hj⟩
  | .tmp t :: r, rs, K, h, hK => by
    simp only [rsC] at h
    split at h
    · rename_i l hl
      cases h
      simp only [resL] at hK
      obtain ⟨vs, xs, h1, h2, h3, h4⟩ := run_resL hs hg hg' hl hK
      refine ⟨_, a.tmps.getD t undef :: xs, h1, ?_, by simp [h3], ?_⟩
      · simp [List.mapM_cons, hg, h2]
      · intro j v hj
        cases j with
        | zero => simp at hj; subst hj; exact opd_rep hs (z := none) (x := .tmp t) rfl
        | succ j => simpa using h4 j v (by simpa using hj)
    · cases h
  | .cell t ty :: r, rs, K, h, hK => by
    simp only [rsC] at h
    split at h
    · rename_i hag
      split at h
      · rename_i n hn
        split at h
        · rename_i l hl
          cases h
          simp only [resL] at hK
          have hr := opd_rep hs (z := none) (x := .tmp t) (y := .t t) rfl
          split at hK
          · rename_i b he
            rw [he] at hr
            obtain ⟨_, hp⟩ := hr.ptr_inv
            split at hK
            · rename_i bl hbl
              cases hm : isM bl with
              | true => simp only [hm] at hK
              | false =>
              simp only [hm] at hK
              obtain ⟨_, _, hB⟩ := hs.boxes b bl hbl
              obtain ⟨C, cty, hgc, hl'⟩ := hB.row hm
              cases hbeq : Nat.beq bl.length (n + 1) with
              | false => rw [hbeq] at hK; exact hK.elim
              | true =>
                rw [hbeq] at hK
                have hlen := Nat.eq_of_beq_eq_true hbeq
                obtain ⟨vs, xs, h1, h2, h3, h4⟩ := run_resL hs hg hg' hl hK
                obtain ⟨ls, hv, hll⟩ := (At.box hgc hl').load (P := P)
                refine ⟨_, .agg ls :: xs, h1, ?_, by simp [h3], ?_⟩
                · have e : (g (.cell t ty)).run P w = .ok (.agg ls) w := by
                    have hp' : a.tmps.getD t undef = .pointer (some ⟨(κ.ι b).1, (κ.ι b).2, none⟩) := hp
                    rw [hg', hp']
                    show ((pure ⟨(κ.ι b).1, (κ.ι b).2, none⟩ : Go.Sem Addr) >>= fun x => loadVar ty x).run P w = _
                    simp [loadVar, run_isAgg' hag, run_sizeOf' hn, ← hlen, hv]
                  simp [List.mapM_cons, e, h2]
                · intro j v hj
                  cases j with
                  | zero => simp at hj; subst hj; exact .agg bl ls hll.1 hll.2.1 hll.2.2
                  | succ j => simpa using h4 j v (by simpa using hj)
            · exact hK.elim
          · exact hK.elim
        · cases h
      · cases h
    · cases h

theorem run_results {fn : Func} {κ : Gh} {σ : Log} {a : Act} {w : World} {rs : List (Nat × Nat)} {K : AV → Prop} (hs : RepS W0 κ σ a w) (h : rsC P fn.results.toList = some rs) (hK : resP σ rs K) :
    ∃ v x, K v ∧ (results fn a.tmps).run P w = .ok x w ∧ RepV κ w v x := by
  unfold resP at hK
  obtain ⟨vs, xs, h1, h2, h3, h4⟩ := run_resL hs (g := fun
    | .tmp t => pure (a.tmps.getD t undef)
    | .cell b t => do loadVar t (← asAddr (a.tmps.getD b undef))) (fun _ => rfl) (fun _ _ => rfl) h hK
  have key : (results fn a.tmps).run P w = .ok (if h : xs.toArray.size = 1 then xs.toArray[0] else .tuple xs.toArray) w := by
    have e : ∀ g : ResultVar → Go.Sem Value, (fn.results.toList.mapM g).run P w = .ok xs w → (fn.results.mapM g).run P w = .ok xs.toArray w := by
      intro g hg
      rw [Array.mapM_eq_mapM_toList]
      simp only [Sem.run_map, hg, Result.andThen_ok]
    unfold results
    rw [Sem.run_bind]
    exact congrArg (fun x : Result (Array Value) => x.andThen fun a w' => (pure (if h : a.size = 1 then a[0] else Value.tuple a) : Go.Sem Value).run P w') (e _ h2)
  match vs, xs, h1, h3, h4, key with
  | [v], [x], h1, _, h4, key =>
    refine ⟨v, x, h1, key, by simpa using h4 0 v rfl⟩
  | [], [], h1, _, _, key => exact ⟨_, _, h1, key, .tup [] #[] rfl fun j v hj => by simp at hj⟩
  | v1 :: v2 :: vs, x1 :: x2 :: xs, h1, h3, h4, key =>
    refine ⟨_, _, h1, key, ?_⟩
    rw [dif_neg (by simp)]
    refine .tup _ _ (by simpa using h3) fun j v hj => ?_
    have := h4 j v hj
    rwa [List.getD_eq_getElem?_getD, ← List.getElem?_toArray, ← Array.getD_eq_getD_getElem?] at this

/-- THE CONTRACT OF A FUNCTION, OUT OF ITS COMPILED BODY -/
theorem ctr_of (hm : P.follows .mixedOrders = true) (hG : ∀ g cells, an.gl g = some cells → GlobOK W0 g cells) (hcall : ∀ f args H res H', call f args H res H' → Ctr P W0 f args H res H') {f : FuncId} {fn : Func} {c : Code} {ac : AC} {rs : List (Nat × Nat)} (hf : P.funcs[f]? = some fn) (hb : fn.body = some c)
    (hnm : callable P f = true) (hc : compC P an fn.ntmps c = some ac) (hrs : rsC P fn.results.toList = some rs) {args : List AV} {H : List (List AV)} {res : AV} {H' : List (List AV)} (ha : Nat.ble args.length fn.ntmps = true) (hH : Nat.ble (H.length + tokN args H) 900 = true)
    (h : Body call ac rs args H res H') : Ctr P W0 f args H res H' := by
  refine ⟨hnm, fun κ w vals hsz hdb hdt hs => calls_of_wp hf hb ?_⟩
  have hle := Nat.le_of_ble_eq_true ha
  have hle2 := Nat.le_of_ble_eq_true hH
  have hs' : RepS W0 κ (initLog args H) { tmps := vals ++ Array.replicate (fn.ntmps - vals.size) undef, defers := [] } w := by
    refine ⟨?_, hs.boxes, hs.binj, hs.toks, hs.tdis, hs.tbox, hs.sepI, hs.Icell, hs.old, hs.size0, hs.amb, rfl, hs.os, hs.tape, hs.output⟩
    intro n v hv
    have := hs.slots n v hv
    rw [look_init_s] at hv
    have hn : n < args.length := by
      cases hh : args[n]? with
      | none => rw [hh] at hv; cases hv
      | some u => exact (List.getElem?_eq_some_iff.1 hh).1
    rw [Array.getD_eq_getD_getElem?] at this ⊢
    rw [Array.getElem?_append_left (by omega)]
    exact this
  have hbel : Bel κ 1000 := ⟨Nat.le_refl _, fun b hb => by have := hdb b hb; omega, fun k hk => by have := hdt k hk; omega⟩
  refine wp_mono (awp_sound (N := fn.ntmps) hm hG hcall c ac 1000 κ (initLog args H) _ w _ hc hs' hbel (by simp; omega) h) ?_
  rintro e a' w' ⟨ex, nx, κ', σ', he, hR, r, s, n, b⟩
  have main : resP σ' rs (fun v => FinOK σ' v H.length (tokN args H) res H') → a'.defers = [] ∧ ∃ v, (results fn a'.tmps).run P w' = .ok v w' ∧ ∃ v' κ'', Ending.returned v = .returned v' ∧ RepS W0 κ'' (finLog res H') ⟨#[v'], []⟩ w' ∧ Step κ (initLog args H) w κ'' (finLog res H') w' := by
    intro hP
    obtain ⟨v0, x0, ⟨⟨bn, tn, ⟨n1, n2, i1, i2⟩, w1, w2, w3⟩⟩, hrun, hrep⟩ := run_results r hrs hP
    refine ⟨r.defers, _, hrun, _, sub' κ' (upN H.length ++ bn) (upN (tokN args H) ++ tn), rfl, ?_, ?_⟩
    · exact (fin_rep r n1 n2 i1 i2 (hrep.wk3 w1) w2 w3).1
    · have ho := (fin_rep r n1 n2 i1 i2 (hrep.wk3 w1) w2 w3).2
      refine ⟨s.chg, fun b o hh => s.own b o (ho b o hh), s.I_, s.In, fun b hb hd => ?_, fun k hk hd => ?_⟩
      · have hlt := hdb b hd
        have e : (upN H.length ++ bn)[b]? = some b := by rw [List.getElem?_append_left (by rw [upN_length]; exact hlt)]; exact upN_get hlt
        refine ⟨(List.getElem?_eq_some_iff.1 e).1, ?_⟩
        simp only [sub', List.getD_eq_getElem?_getD, e, Option.getD_some]
        exact (s.low b hb hd).2
      · have hlt := hdt k hd
        have e : (upN (tokN args H) ++ tn)[k]? = some k := by rw [List.getElem?_append_left (by rw [upN_length]; exact hlt)]; exact upN_get hlt
        refine ⟨(List.getElem?_eq_some_iff.1 e).1, ?_⟩
        simp only [sub', List.getD_eq_getElem?_getD, e, Option.getD_some]
        exact (s.lowt k hk hd).2
  cases ex with
  | n => cases e <;> first | exact he.elim | exact main hR
  | e i => exact hR.elim
  | r => cases e <;> first | exact he.elim | exact main hR
end
end Go.Abs

namespace Go.Abs
open Go
section run
variable {R : Type}
def frcX (v : AV) (F : AV → Option R) : Option R := match v with
  | .bad => none
  | v => F v
def frc1X (v : AV) (F : AV → Option R) : Option R := match v with
  | .sc c => F (.sc c)
  | .sl a b c => F (.sl a b c)
  | .ptr a b => F (.ptr a b)
  | .elp a b => F (.elp a b)
  | .mx a b c d e => F (.mx a b c d e)
  | .fn a b => F (.fn a b)
  | .mr a => F (.mr a)
  | .mpv a => F (.mpv a)
  | _ => none
def frcLX : List AV → (List AV → Option R) → Option R
  | [], F => F []
  | v :: r, F => frc1X v fun v => frcLX r fun r => F (v :: r)

def tst (b : Bool) (F : Option R) : Option R := match b with | true => F | false => none

def binSX : Bin → List UInt8 → List UInt8 → (AV → Option R) → Option R
  | .eql, a, b, K => K (.sc (.b (beqL a b)))
  | .neq, a, b, K => K (.sc (.b (!beqL a b)))
  | .add, a, b, K => tst (Nat.ble (a.length + b.length) 9223372036854775807) (K (.sc (.s (a ++ b))))
  | _, _, _, _ => none

def leI (a b : Int) : Bool := decide (a ≤ b)
def fitsB : IntKind → Int → Bool
  | .i64, n => leI (-9223372036854775808) n && leI n 9223372036854775807
  | .u8, n => leI 0 n && leI n 255
  | _, _ => false
def roomB (n by_ : Nat) : Bool := Nat.ble n 9223372036854775807 && Nat.ble (n * by_) 140737488355328

def binIX : Bin → IntKind → Int → Int → (AV → Option R) → Option R
  | .add, k, a, b, K => tst (fitsB k (a + b)) (K (.sc (.i k (a + b))))
  | .sub, k, a, b, K => tst (fitsB k (a - b)) (K (.sc (.i k (a - b))))
  | .mul, k, a, b, K => tst (fitsB k (a * b)) (K (.sc (.i k (a * b))))
  | .quo, k, a, b, K => tst (fitsB k a && leI 0 a && leI 1 b) (K (.sc (.i k (a / b))))
  | .rem, k, a, b, K => tst (leI 0 a && leI 1 b) (K (.sc (.i k (a % b))))
  | .eql, _, a, b, K => K (.sc (.b (decide (a = b))))
  | .neq, _, a, b, K => K (.sc (.b (!decide (a = b))))
  | .lss, _, a, b, K => K (.sc (.b (decide (a < b))))
  | .leq, _, a, b, K => K (.sc (.b (decide (a ≤ b))))
  | .gtr, _, a, b, K => K (.sc (.b (decide (b < a))))
  | .geq, _, a, b, K => K (.sc (.b (decide (b ≤ a))))
  | .and, k, a, b, K => K (.sc (.i k (bits .and k a b)))
  | .or, k, a, b, K => K (.sc (.i k (bits .or k a b)))
  | .xor, k, a, b, K => K (.sc (.i k (bits .xor k a b)))
  | .andNot, k, a, b, K => K (.sc (.i k (bits .andNot k a b)))

def binX (o : Bin) (x y : AV) (K : AV → Option R) : Option R :=
  match x, y with
  | .sc (.i k a), .sc (.i k' b) => match ikBeq k k' with | true => binIX o k a b K | false => none
  | .sc (.s a), .sc (.s b) => binSX o a b K
  | _, _ => none

def ldvX (d : Nat) (ag : Bool) (l : Option (List AV)) (F : Log → Option R) : Option R := match l with
  | none => none
  | some l => match ag with
    | true => frcLX l fun l => F [(.s d, .av (.agg l))]
    | false => match l with
      | [v] => frc1X v fun v => F [(.s d, .av v)]
      | _ => none

def bldX (σ : Log) : List (Nat × Nat × Opd) → List AV → (List AV → Option R) → Option R
  | [], z, F => F z
  | (o, n, x) :: r, z, F => frcLX (flat (ev σ x)) fun v => match Nat.beq v.length n with
    | true => (match splice o v z with | some z => bldX σ r z F | none => none)
    | false => none

def bslX (σ : Log) (sz : Nat) : List Opd → (List (List Data) → Option R) → Option R
  | [], F => F []
  | x :: r, F => frcLX (flat (ev σ x)) fun v => match cellsD v with
    | none => none
    | some ds => match Nat.beq ds.length sz with
      | true => bslX σ sz r fun els => F (ds :: els)
      | false => none

def optX (σ : Log) (x : Option Opd) (z : Int) (K : Int → Option R) : Option R := match x with
  | none => K z
  | some x => match ev σ x with | .sc (.i _ n) => K n | _ => none

def idx : List Nat → Nat → Nat → Option Nat
  | [], _, _ => none
  | x :: r, k, i => match Nat.beq x k with | true => some i | false => idx r k (i + 1)

def un1 (bs ts : List Nat) : AV → Option AV
  | .sl z e (.t k) => match idx ts k 0 with | some i => some (.sl z e (.t i)) | none => some (.sl z e .none)
  | .ptr b o => match idx bs b 0 with | some i => some (.ptr i o) | none => none
  | .mx z e b n (.t k) => match idx bs b 0 with
    | some i => (match idx ts k 0 with | some j => some (.mx z e i n (.t j)) | none => some (.mx z e i n .none))
    | none => none
  | .mx z e b n t => match idx bs b 0 with | some i => some (.mx z e i n t) | none => none
  | .mr b => match idx bs b 0 with | some i => some (.mr i) | none => none
  | v => some v
def unL1 (bs ts : List Nat) : List AV → Option (List AV)
  | [] => some []
  | x :: r => match un1 bs ts x with | none => none | some y => match unL1 bs ts r with | none => none | some s => some (y :: s)
def un2 (bs ts : List Nat) : AV → Option AV
  | .fn f c => match unL1 bs ts c with | none => none | some c => some (.fn f c)
  | .agg l => match unL1 bs ts l with | none => none | some c => some (.agg c)
  | v => un1 bs ts v
def unL2 (bs ts : List Nat) : List AV → Option (List AV)
  | [] => some []
  | x :: r => match un2 bs ts x with | none => none | some y => match unL2 bs ts r with | none => none | some s => some (y :: s)
def un3 (bs ts : List Nat) : AV → Option AV
  | .tup l => match unL2 bs ts l with | none => none | some c => some (.tup c)
  | v => un2 bs ts v

def unH (σ : Log) (bs ts : List Nat) : List Nat → Option (List (List AV))
  | [] => some []
  | b :: r => match look σ (.b b) with
    | some (.bx l) => (match unL2 bs ts l with
      | none => none
      | some h => match unH σ bs ts r with | none => none | some H => some (h :: H))
    | _ => none

def liveB (σ : Log) : List Nat → Bool
  | [] => true
  | k :: r => match look σ (.t k) with | some (.tk true) => liveB σ r | _ => false

def addN (x : Nat) (l : List Nat) : List Nat := match l.contains x with | true => l | false => l ++ [x]

/-- the boxes named -/
def bx1 (l : List Nat) : AV → List Nat
  | .ptr b _ => addN b l
  | .mx _ _ b _ _ => addN b l
  | .mr b => addN b l
  | _ => l
def bx2 (l : List Nat) : AV → List Nat
  | .fn _ c => c.foldl bx1 l
  | .agg c => c.foldl bx1 l
  | v => bx1 l v
def bx3 (l : List Nat) : AV → List Nat
  | .tup c => c.foldl bx2 l
  | v => bx2 l v
def bxAll (σ : Log) : Nat → List Nat → List Nat → List Nat
  | 0, _, l => l
  | _ + 1, [], l => l
  | n + 1, b :: todo, l => match look σ (.b b) with
    | some (.bx c) => bxAll σ n (todo ++ (c.foldl bx2 l).drop l.length) (c.foldl bx2 l)
    | _ => bxAll σ n todo l

/-- the living tokens named -/
def tk1 (σ : Log) (l : List Nat) : AV → List Nat
  | .sl _ _ (.t k) => match look σ (.t k) with | some (.tk true) => addN k l | _ => l
  | .mx _ _ _ _ (.t k) => match look σ (.t k) with | some (.tk true) => addN k l | _ => l
  | _ => l
def tk2 (σ : Log) (l : List Nat) : AV → List Nat
  | .fn _ c => c.foldl (tk1 σ) l
  | .agg c => c.foldl (tk1 σ) l
  | v => tk1 σ l v
def tk3 (σ : Log) (l : List Nat) : AV → List Nat
  | .tup c => c.foldl (tk2 σ) l
  | v => tk2 σ l v
def tkH (σ : Log) : List Nat → List Nat → List Nat
  | [], l => l
  | b :: r, l => match look σ (.b b) with
    | some (.bx c) => tkH σ r (c.foldl (tk2 σ) l)
    | _ => tkH σ r l

abbrev Rec := FuncId → List AV → List (List AV) → Option (AV × List (List AV))

def callX (rc : Rec) (σ : Log) (id : Nat) (d : Option Nat) (f : FuncId) (args : List AV) (F : Log → Option R) : Option R :=
  match (match inL2 0 0 (args.map eraseA) with
    | true => (match rc f (args.map eraseA) [] with
      | some (res, []) => (match inR 0 50 res with | true => some res | false => none)
      | _ => none)
    | false => none) with
  | some res => F (dstL d (ren [] [] id res) ++ onToks [] id (toks res))
  | none =>
    match bxAll σ 100 (args.foldl bx2 []) (args.foldl bx2 []) with
    | bs => match tkH σ bs (args.foldl (tk2 σ) []) with
      | ts => match unL2 bs ts args, unH σ bs ts bs with
        | some args', some H => (match rc f args' H with
          | some (res, H') => tst (nodupB bs && nodupB ts && Nat.ble bs.length H'.length && Nat.ble H'.length (bs.length + 50) && Nat.ble (bs.length + ts.length) 900 && Nat.beq ts.length (tokN args' H) &&
              inL2 bs.length ts.length args' && inH bs.length ts.length H && inR H'.length (ts.length + 50) res && inH H'.length (ts.length + 50) H' && liveB σ ts)
              (F (dstL d (ren bs ts id res) ++ newBoxes bs ts id 0 H' ++ onToks ts id (toks res ++ (H'.flatMap fun h => h.flatMap toks2)) ++ offToks ts))
          | none => none)
        | _, _ => none

def effX (rc : Rec) (σ : Log) (id : Nat) : AOp → (Log → Option R) → Option R
  | .mv d x, F => frcX (ev σ x) fun v => F [(.s d, .av v)]
  | .pick d c a b, F => match ev σ c with
    | .sc (.b t) => (match t with
      | false => frcX (ev σ b) fun v => F [(.s d, .av v)]
      | true => frcX (ev σ a) fun v => F [(.s d, .av v)])
    | _ => none
  | .box d x, F => frcLX (flat (ev σ x)) fun l => F [(.s d, .av (.ptr id 0)), (.b id, .bx l)]
  | .alloc d z, F => F [(.s d, .av (.ptr id 0)), (.b id, .bx z)]
  | .build d z ps, F => bldX σ ps z fun z => frcLX z fun z => F [(.s d, .av (.agg z))]
  | .bsl d sz xs, F => bslX σ sz xs fun els => F [(.s d, .av (.sl sz els .full))]
  | .ld d n ag a, F => match ev σ a with
      | .ptr b o => (match look σ (.b b) with
        | some (.bx l) => (match isM l with
          | true => none
          | false => ldvX d ag (sub l o n) F)
        | _ => none)
      | .elp l o => ldvX d ag (sub (l.map dcell) o n) F
      | _ => none
  | .st a n x, F => match ev σ a with
      | .ptr b o => (match look σ (.b b) with
        | some (.bx l) => (match isM l with
          | true => none
          | false => frcLX (flat (ev σ x)) fun v => (match Nat.beq v.length n with
            | true => (match splice o v l with | some l => frcLX l fun l => F [(.b b, .bx l)] | none => none)
            | false => none))
        | _ => none)
      | _ => none
  | .nc d x, F => match ev σ x with
      | .ptr b o => F [(.s d, .av (.ptr b o))]
      | .elp b o => F [(.s d, .av (.elp b o))]
      | .fn b o => F [(.s d, .av (.fn b o))]
      | _ => none
  | .bin d o x y, F => binX o (ev σ x) (ev σ y) fun v => F [(.s d, .av v)]
  | .binB d neg x y, F => match ev σ x, ev σ y with
      | .sc (.b a), .sc (.b b) => (match neg with
        | true => F [(.s d, .av (.sc (.b (a != b))))]
        | false => F [(.s d, .av (.sc (.b (a == b))))])
      | _, _ => none
  | .no d x, F => match ev σ x with | .sc (.b t) => F [(.s d, .av (.sc (.b (!t))))] | _ => none
  | .fa d x off, F => match ev σ x with
      | .ptr b o => F [(.s d, .av (.ptr b (o + off)))]
      | .elp l o => F [(.s d, .av (.elp l (o + off)))]
      | _ => none
  | .fld d x off n ag, F => match ev σ x with
      | .agg l => ldvX d ag (sub l off n) F
      | _ => none
  | .ia d sz x i, F => match ev σ x, ev σ i with
      | .sl z els _, .sc (.i _ n) => (match Nat.beq sz z with
        | true => (match els[n.toNat]? with
          | some e => tst (leI 0 n) (F [(.s d, .av (.elp e 0))])
          | none => none)
        | false => none)
      | .mx z els b m _, .sc (.i _ n) => (match Nat.beq sz z with
        | true => tst (leI 0 n && Nat.ble els.length n.toNat && Nat.blt n.toNat (els.length + m)) (F [(.s d, .av (.ptr b ((n.toNat - els.length) * sz)))])
        | false => none)
      | _, _ => none
  | .ix d x i, F => match ev σ x, ev σ i with
      | .sc (.s l), .sc (.i _ n) => (match l[n.toNat]? with
        | some e => tst (leI 0 n) (F [(.s d, .av (.sc (.i .u8 e.toNat)))])
        | none => none)
      | _, _ => none
  | .slS d x lo hi, F => match ev σ x with
      | .sc (.s l) => optX σ lo 0 fun a => optX σ hi l.length fun b =>
          tst (leI 0 a && leI a b && leI b l.length) (F [(.s d, .av (.sc (.s ((l.drop a.toNat).take (b.toNat - a.toNat)))))])
      | _ => none
  | .slL d sz x lo hi mx, F => match ev σ x with
      | .mx z [] b n t => (match Nat.beq sz z with
        | true => (match lo, hi, mx, look σ (.b b) with
          | none, some hi, none, some (.bx l) => optX σ (some hi) 0 fun c => tst (decide (c = 0) && Nat.beq l.length (n * sz) && !isM l) (match t with
            | .none => none
            | .full => F [(.s d, .av (.sl z [] (.t id))), (.t id, .tk true), (.b b, .tk false)]
            | .t k => (match look σ (.t k) with
              | some (.tk true) => F [(.s d, .av (.sl z [] (.t id))), (.t id, .tk true), (.b b, .tk false), (.t k, .tk false)]
              | _ => none))
          | _, _, _, _ => none)
        | false => none)
      | .sl z els t => (match Nat.beq sz z with
        | true => optX σ lo 0 fun a => optX σ hi els.length fun b => match mx with
          | none => tst (leI 0 a && leI a b && leI b els.length) (match decide (b = els.length) with
            | true => F [(.s d, .av (.sl z ((els.drop a.toNat).take (b.toNat - a.toNat)) t))]
            | false => F [(.s d, .av (.sl z ((els.drop a.toNat).take (b.toNat - a.toNat)) .none))])
          | some _ => optX σ mx 0 fun c => tst (leI 0 a && leI a b && decide (b = c) && leI b els.length) (F [(.s d, .av (.sl z ((els.drop a.toNat).take (b.toNat - a.toNat)) .full))])
        | false => none)
      | _ => none
  | .cvi d k x, F => match ev σ x with | .sc (.i _ n) => tst (fitsB k n) (F [(.s d, .av (.sc (.i k n)))]) | _ => none
  | .ext d x i, F => match ev σ x with
      | .tup l => (match l[i]? with | some v => frcX v fun v => F [(.s d, .av v)] | none => none)
      | _ => none
  | .call d f as_, F => match ev σ f with
      | .fn f caps => callX rc σ id d f (evs σ as_ ++ caps) F
      | _ => none
  | .app d sz by_ a x, F => match ev σ a, ev σ x with
      | .sl z e1 t1, .sl z' e2 _ => (match Nat.beq sz z, Nat.beq sz z' with
        | true, true => (match t1 with
          | .none => none
          | .full => tst (roomB (e1.length + e2.length) by_) (F [(.s d, .av (.sl sz (e1 ++ e2) (.t id))), (.t id, .tk true)])
          | .t k => (match look σ (.t k) with
            | some (.tk true) => tst (roomB (e1.length + e2.length) by_) (F [(.s d, .av (.sl sz (e1 ++ e2) (.t id))), (.t id, .tk true), (.t k, .tk false)])
            | _ => none))
        | _, _ => none)
      | _, _ => none
  | .len d x, F => match ev σ x with
      | .sl _ els _ => F [(.s d, .av (.sc (.i .i64 els.length)))]
      | .mx _ els _ n _ => F [(.s d, .av (.sc (.i .i64 (els.length + n : Nat))))]
      | _ => none
  | .lenS d x, F => match ev σ x with
      | .sc (.s l) => F [(.s d, .av (.sc (.i .i64 l.length)))]
      | _ => none
  | .mx d x y, F => match ev σ x, ev σ y with
      | .sc (.i .i64 a), .sc (.i .i64 b) => F [(.s d, .av (.sc (.i .i64 (max a b))))]
      | _, _ => none
  | .mkf d f caps, F => frcLX (evs σ caps) fun caps => F [(.s d, .av (.fn f caps))]
  | .mk d sz by_ z x, F => match ev σ x with
      | .sc (.i .i64 n) => tst (leI 0 n && roomB n.toNat by_) (F [(.s d, .av (.mx sz [] id n.toNat .full)), (.b id, .bx (List.replicate n.toNat z).flatten)])
      | _ => none
  | .mkF d sz by_ z x, F => match ev σ x with
      | .sc (.i .i64 n) => tst (leI 0 n && roomB n.toNat by_) (F [(.s d, .av (.sl sz (List.replicate n.toNat z) .full))])
      | _ => none
  | .bslM d sz xs, F => bslX σ sz xs fun els => F [(.s d, .av (.mx sz [] id els.length .full)), (.b id, .bx (els.flatten.map dcell))]
  | .appM d sz by_ a x, F => match ev σ a, ev σ x with
      | .sl z e1 t1, .sl z' e2 _ => (match Nat.beq sz z, Nat.beq sz z' with
        | true, true => (match t1 with
          | .none => none
          | .full => tst (Nat.blt 0 e2.length && roomB (e1.length + e2.length) by_) (F [(.s d, .av (.mx sz e1 (id + 1) e2.length (.t (id + 1)))), (.b (id + 1), .bx (e2.flatten.map dcell)), (.t (id + 1), .tk true), (.t id, .tk false), (.t id, .tk true)])
          | .t k => (match look σ (.t k) with
            | some (.tk true) => tst (Nat.blt 0 e2.length && roomB (e1.length + e2.length) by_) (F [(.s d, .av (.mx sz e1 (id + 1) e2.length (.t (id + 1)))), (.b (id + 1), .bx (e2.flatten.map dcell)), (.t (id + 1), .tk true), (.t id, .tk false), (.t id, .tk true), (.t k, .tk false)])
            | _ => none))
        | _, _ => none)
      | _, _ => none
  | .cap d x, F => match ev σ x with
      | .sl _ els .full => F [(.s d, .av (.sc (.i .i64 els.length)))]
      | .mx _ els _ n .full => F [(.s d, .av (.sc (.i .i64 (els.length + n : Nat))))]
      | _ => none
  | .iaG d cells sz x, F => match ev σ x with
      | .sc (.i _ n) => tst (leI 0 n && Nat.ble (n.toNat * sz + sz) cells.length) (F [(.s d, .av (.elp cells (n.toNat * sz)))])
      | _ => none
  | .eqA d ng ks x y, F => match ev σ x, ev σ y with
      | .agg l, .agg m => (match eqL ks l m with
        | some b => (match ng with
          | true => F [(.s d, .av (.sc (.b (!b))))]
          | false => F [(.s d, .av (.sc (.b b)))])
        | none => none)
      | _, _ => none
  | .appZ d sz by_ z a x, F => match ev σ a, ev σ x with
      | .sl q [] .full, .sc (.i .i64 n) => (match Nat.beq sz q with
        | true => tst (leI 1 n && roomB n.toNat by_) (F [(.s d, .av (.mx sz [] (id + 1) n.toNat (.t (id + 1)))), (.b (id + 1), .bx ((List.replicate n.toNat z).flatten.map dcell)), (.t (id + 1), .tk true), (.t id, .tk false), (.t id, .tk true)])
        | false => none)
      | _, _ => none
  | .mkM d, F => F [(.s d, .av (.mr id)), (.b id, .bx [.mpv []])]
  | .lkM d z x k, F => match ev σ x, ev σ k with
      | .mr b, .sc (.i .i64 n) => (match look σ (.b b) with
        | some (.bx [.mpv es]) => (match findM n es with
          | some ds => F [(.s d, .av (.tup [.agg (ds.map dcell), .sc (.b true)]))]
          | none => F [(.s d, .av (.tup [.agg (z.map dcell), .sc (.b false)]))])
        | _ => none)
      | _, _ => none
  | .upM x k v, F => match ev σ x, ev σ k with
      | .mr b, .sc (.i .i64 n) => (match look σ (.b b) with
        | some (.bx [.mpv es]) => (match ev σ v with
          | .agg l => frcLX l fun l => (match cellsD l with
            | some ds => F [(.b b, .bx [.mpv (insM n ds es)])]
            | none => none)
          | _ => none)
        | _ => none)
      | _, _ => none

def guardX (σ : Log) (g : Option (Nat × Bool)) (A B : Log → Option R) : Option R :=
  match g with
  | none => A σ
  | some (n, w) => match ev σ (.t n) with
    | .sc (.b t) => (match t with
        | false => (match w with | false => A | true => B) ((.s n, .av (.sc (.b false))) :: σ)
        | true => (match w with | true => A | false => B) ((.s n, .av (.sc (.b true))) :: σ))
    | .tup _ => B σ
    | _ => none

def aopsX (rc : Rec) : List GOp → Nat → Log → (Log → Option R) → Option R
  | [], _, σ, K => K σ
  | o :: r, id, σ, K => guardX σ o.g (fun σ => effX rc σ id o.o fun δ => aopsX rc r (id + 100) (δ ++ σ) K)
      (fun σ => aopsX rc r (id + 100) (dstL o.o.dst (.tup []) ++ σ) K)

def aopsDX (rc : Rec) : List GOp → List Nat → Nat → Nat → Log → List (Nat × List Loc × List Loc) → (Log → Option R) → Option R
  | [], _, _, _, σ, _, K => K σ
  | _ :: _, [], _, _, _, _, _ => none
  | o :: r, p :: ps, j, id, σ, fs, K => guardX σ o.g
      (fun σ => effX rc σ id o.o fun δ => match confl p (grdR o.g ++ o.o.rd σ) (keysL δ) fs with
        | true => none
        | false => aopsDX rc r ps (j + 1) (id + 100) (δ ++ σ) ((j, grdR o.g ++ o.o.rd σ, keysL δ) :: fs) K)
      (fun σ => match confl p (grdR o.g) (keysL (dstL o.o.dst (.tup []))) fs with
        | true => none
        | false => aopsDX rc r ps (j + 1) (id + 100) (dstL o.o.dst (.tup []) ++ σ) ((j, grdR o.g, keysL (dstL o.o.dst (.tup []))) :: fs) K)

def iterX (f : Nat → Log → (Ex → Nat → Log → Option R) → Option R) (Q : Ex → Nat → Log → Option R) : Nat → Nat → Log → Option R
  | 0, _, _ => none
  | k + 1, n, σ => f n σ fun e n' σ' => match e with
    | .n => iterX f Q k n' σ'
    | .e i => Q (.e i) n' σ'
    | .r => Q .r n' σ'

def chunk (sz : Nat) : Nat → List Data → Option (List (List Data))
  | 0, [] => some []
  | 0, _ => none
  | n + 1, l => match takeE sz l with
    | some e => (match chunk sz n (l.drop sz) with | some r => some (e :: r) | none => none)
    | none => none

def awpX (rc : Rec) : AC → Nat → Log → (Ex → Nat → Log → Option R) → Option R
  | .reg ops, nx, σ, Q => aopsX rc ops nx σ fun σ => Q .n (nx + 100 * ops.length) σ
  | .regD ops pre, nx, σ, Q => aopsDX rc ops pre 0 nx σ [] fun σ => Q .n (nx + 100 * ops.length) σ
  | .frz x, nx, σ, Q => match ev σ (.t x) with
    | .mx sz _ b n _ => (match look σ (.b b) with
      | some (.bx l) => (match cellsD l with
        | some ds => (match chunk sz n ds with
          | some ch => Q .n nx ((.b b, .tk false) :: thaw b sz n ch σ)
          | none => none)
        | none => none)
      | _ => none)
    | .sl _ _ _ => Q .n nx σ
    | _ => none
  | .seq x y, nx, σ, Q => awpX rc x nx σ fun e nx σ => match e with
    | .n => awpX rc y nx σ Q
    | .e i => Q (.e i) nx σ
    | .r => Q .r nx σ
  | .cond x t e, nx, σ, Q => match ev σ x with
    | .sc (.b v) => (match v with | false => awpX rc e nx (setB x false σ) Q | true => awpX rc t nx (setB x true σ) Q)
    | _ => none
  | .block n c, nx, σ, Q => awpX rc c nx σ fun e nx σ => match e with
    | .n => Q .n nx σ
    | .e i => (match Nat.beq i n with | true => Q .n nx σ | false => Q (.e i) nx σ)
    | .r => Q .r nx σ
  | .loop c, nx, σ, Q => iterX (fun n σ Q => awpX rc c n σ Q) Q 1000 nx σ
  | .exit n, nx, σ, Q => Q (.e n) nx σ
  | .ret, nx, σ, Q => Q .r nx σ
  | .skip, nx, σ, Q => Q .n nx σ
  | .cut, nx, σ, Q => Q .n nx σ
  | .stuck, _, _, _ => none

def resLX (σ : Log) : List (Nat × Nat) → (List AV → Option R) → Option R
  | [], K => K []
  | (r, 0) :: t, K => resLX σ t fun l => K (ev σ (.t r) :: l)
  | (r, n + 1) :: t, K => match ev σ (.t r) with
    | .ptr b 0 => (match look σ (.b b) with
      | some (.bx l) => (match isM l with
        | true => none
        | false => (match Nat.beq l.length (n + 1) with
          | true => resLX σ t fun r => K (.agg l :: r)
          | false => none))
      | _ => none)
    | _ => none
def resPX (σ : Log) (rs : List (Nat × Nat)) (K : AV → Option R) : Option R := resLX σ rs fun l => match l with
  | [v] => K v
  | l => K (.tup l)
end run
def finX (σ : Log) (v : AV) (nb nt : Nat) : Option (AV × List (List AV)) :=
  match bxAll σ 100 (bx3 (upN nb) v) (bx3 (upN nb) v) with
  | bs => match tkH σ bs (tk3 σ (upN nt) v) with
    | ts => match un3 bs ts v, unH σ bs ts bs with
      | some res, some H' => tst (nodupB bs && nodupB ts && (bs.take nb == upN nb) && (ts.take nt == upN nt) && inR bs.length ts.length res && inH bs.length ts.length H' &&
          liveB σ ((toks res ++ H'.flatMap fun h => h.flatMap toks2).map (rb ts 0))) (some (res, H'))
      | _, _ => none

structure Fn where
  ac : AC
  rs : List (Nat × Nat)
  nt : Nat

def bodyX (rc : Rec) (c : AC) (rs : List (Nat × Nat)) (args : List AV) (H : List (List AV)) : Option (AV × List (List AV)) :=
  awpX rc c 1000 (initLog args H) fun e _ σ => match e with
    | .e _ => none
    | _ => resPX σ rs fun v => finX σ v H.length (tokN args H)

/-- so deep at most -/
def runX (T : FuncId → Option Fn) (lib : FuncId → List AV → Option AV) : Nat → Rec
  | 0 => fun _ _ _ => none
  | k + 1 => fun f args H => match (match H with | [] => lib f args | _ => none) with
    | some res => some (res, [])
    | none => match T f with
      | none => none
      | some F => tst (Nat.ble args.length F.nt && Nat.ble (H.length + tokN args H) 900) (bodyX (runX T lib k) F.ac F.rs args H)
end Go.Abs

namespace Go.Abs
open Go
section
variable {R : Type} {r : R}
theorem frcX_s {v : AV} {F : AV → Option R} {G : AV → Prop} (h : frcX v F = some r) (k : ∀ v, F v = some r → G v) : frc v G := by
  cases v <;> simp only [frcX] at h <;> first | exact k _ h | cases h
theorem frc1X_s {v : AV} {F : AV → Option R} {G : AV → Prop} (h : frc1X v F = some r) (k : ∀ v, F v = some r → G v) : frc1 v G := by
  cases v <;> simp only [frc1X] at h <;> first | exact k _ h | cases h
theorem frcLX_s : ∀ {l : List AV} {F : List AV → Option R} {G : List AV → Prop}, frcLX l F = some r → (∀ l, F l = some r → G l) → frcL l G
  | [], _, _, h, k => k _ h
  | _ :: _, _, _, h, k => frc1X_s h fun _ h => frcLX_s h fun _ h => k _ h
theorem tst_s {b : Bool} {F : Option R} (h : tst b F = some r) : b = true ∧ F = some r := by
  cases b <;> simp_all [tst]

theorem fitsB_s {k : IntKind} {n : Int} (h : fitsB k n = true) : Fits k n := by
  cases k <;> simp_all [fitsB, Fits, leI]
theorem roomB_s {n b : Nat} (h : roomB n b = true) : Room n b := by
  simp only [roomB, Bool.and_eq_true] at h
  exact ⟨Nat.le_of_ble_eq_true h.1, Nat.le_of_ble_eq_true h.2⟩

theorem binSX_s {o : Bin} {a b : List UInt8} {F : AV → Option R} {G : AV → Prop} (h : binSX o a b F = some r) (k : ∀ v, F v = some r → G v) : binS o a b G := by
  cases o <;> simp only [binSX] at h <;> first | exact k _ h | cases h | (obtain ⟨h1, h2⟩ := tst_s h; exact ⟨Nat.le_of_ble_eq_true h1, k _ h2⟩)
theorem binIX_s {o : Bin} {ik : IntKind} {a b : Int} {F : AV → Option R} {G : AV → Prop} (h : binIX o ik a b F = some r) (k : ∀ v, F v = some r → G v) : binI o ik a b G := by
  cases o <;> simp only [binIX] at h
  case quo =>
    obtain ⟨h1, h2⟩ := tst_s h
    simp only [Bool.and_eq_true, leI, decide_eq_true_eq] at h1
    exact ⟨⟨fitsB_s h1.1.1, h1.1.2, by omega⟩, k _ h2⟩
  case rem =>
    obtain ⟨h1, h2⟩ := tst_s h
    simp only [Bool.and_eq_true, leI, decide_eq_true_eq] at h1
    exact ⟨⟨h1.1, by omega⟩, k _ h2⟩
  all_goals first | exact k _ h | (obtain ⟨h1, h2⟩ := tst_s h; exact ⟨fitsB_s h1, k _ h2⟩)
theorem binX_s {o : Bin} {x y : AV} {F : AV → Option R} {G : AV → Prop} (h : binX o x y F = some r) (k : ∀ v, F v = some r → G v) : binP o x y G := by
  unfold binX at h
  split at h
  · rename_i k1 a k2 b
    simp only [binP]
    cases hk : ikBeq k1 k2 with
    | false => rw [hk] at h; cases h
    | true => rw [hk] at h; exact binIX_s h k
  · exact binSX_s h k
  · cases h
theorem ldvX_s {d : Nat} {ag : Bool} {l : Option (List AV)} {F : Log → Option R} {G : Log → Prop} (h : ldvX d ag l F = some r) (k : ∀ v, F v = some r → G v) : ldv d ag l G := by
  unfold ldvX at h
  split at h
  · cases h
  · split at h
    · exact frcLX_s h fun _ h => k _ h
    · split at h
      · exact frc1X_s h fun _ h => k _ h
      · cases h
theorem bldX_s {σ : Log} : ∀ {ps : List (Nat × Nat × Opd)} {z : List AV} {F : List AV → Option R} {G : List AV → Prop}, bldX σ ps z F = some r → (∀ v, F v = some r → G v) → bld σ ps z G
  | [], _, _, _, h, k => k _ h
  | (o, n, x) :: ps, z, F, G, h, k => by
    simp only [bldX] at h
    simp only [bld]
    refine frcLX_s h fun v h => ?_
    revert h
    cases Nat.beq v.length n with
    | false => intro h; cases h
    | true =>
      cases splice o v z with
      | none => intro h; cases h
      | some z => intro h; exact bldX_s h k
theorem bslX_s {σ : Log} {sz : Nat} : ∀ {xs : List Opd} {F : List (List Data) → Option R} {G : List (List Data) → Prop}, bslX σ sz xs F = some r → (∀ v, F v = some r → G v) → bslc σ sz xs G
  | [], _, _, h, k => k _ h
  | x :: xs, F, G, h, k => by
    simp only [bslX] at h
    simp only [bslc]
    refine frcLX_s h fun v h => ?_
    revert h
    cases cellsD v with
    | none => intro h; cases h
    | some ds =>
      cases hb : Nat.beq ds.length sz with
      | false => intro h; simp [hb] at h
      | true => intro h; simp only [hb] at h; simp only [hb]; exact bslX_s h fun _ h => k _ h
theorem optX_s {σ : Log} {x : Option Opd} {z : Int} {F : Int → Option R} {G : Int → Prop} (h : optX σ x z F = some r) (k : ∀ v, F v = some r → G v) : optI σ x z G := by
  unfold optX at h
  unfold optI
  split at h
  · exact k _ h
  · split at h
    · rename_i he; simp only [he]; exact k _ h
    · cases h

theorem idx_spec : ∀ {bs : List Nat} {k i j : Nat}, idx bs k i = some j → ∃ m, j = i + m ∧ bs[m]? = some k
  | [], _, _, _, h => by cases h
  | x :: r, k, i, j, h => by
    simp only [idx] at h
    split at h
    · rename_i hx
      cases h
      exact ⟨0, rfl, by rw [Nat.eq_of_beq_eq_true hx]; rfl⟩
    · obtain ⟨m, rfl, hm⟩ := idx_spec h
      exact ⟨m + 1, by omega, hm⟩
theorem rb_idx {bs : List Nat} {k j id : Nat} (h : idx bs k 0 = some j) : rb bs id j = k := by
  obtain ⟨m, rfl, hm⟩ := idx_spec h
  simp [rb, hm]

variable {bs ts : List Nat} {id : Nat} {σ : Log}
theorem un1_s {v v' : AV} (h : un1 bs ts v = some v') : wk1 v (ren1 bs ts id v') := by
  cases v with
  | sl z e t =>
    cases t with
    | none => simp only [un1, Option.some.injEq] at h; subst h; exact ⟨rfl, rfl, .inl rfl⟩
    | full => simp only [un1, Option.some.injEq] at h; subst h; exact ⟨rfl, rfl, .inr rfl⟩
    | t k =>
      simp only [un1] at h
      split at h
      · rename_i i hi
        cases h
        exact ⟨rfl, rfl, .inr (by rw [rb_idx hi])⟩
      · cases h; exact ⟨rfl, rfl, .inl rfl⟩
  | ptr b o =>
    simp only [un1] at h
    split at h
    · rename_i i hi
      cases h
      simp only [ren1, rb_idx hi]
      rfl
    · cases h
  | mx z e b n t =>
    cases t with
    | none =>
      simp only [un1] at h
      split at h
      · rename_i i hi
        cases h
        exact ⟨rfl, rfl, (rb_idx hi).symm, rfl, .inl rfl⟩
      · cases h
    | full =>
      simp only [un1] at h
      split at h
      · rename_i i hi
        cases h
        exact ⟨rfl, rfl, (rb_idx hi).symm, rfl, .inr rfl⟩
      · cases h
    | t k =>
      simp only [un1] at h
      split at h
      · rename_i i hi
        split at h
        · rename_i j hj
          cases h
          exact ⟨rfl, rfl, (rb_idx hi).symm, rfl, .inr (by rw [rb_idx hj])⟩
        · cases h
          exact ⟨rfl, rfl, (rb_idx hi).symm, rfl, .inl rfl⟩
      · cases h
  | mr b =>
    simp only [un1] at h
    split at h
    · rename_i i hi
      cases h
      simp only [ren1, rb_idx hi]
      rfl
    · cases h
  | _ => simp only [un1, Option.some.injEq] at h; subst h; rfl
theorem unL1_s : ∀ {l l' : List AV}, unL1 bs ts l = some l' → wkL1 l (l'.map (ren1 bs ts id))
  | [], _, h => by cases h; trivial
  | x :: xs, l', h => by
    simp only [unL1] at h
    split at h
    · cases h
    · rename_i y hy
      split at h
      · cases h
      · rename_i s hs
        cases h
        exact ⟨un1_s hy, unL1_s hs⟩
theorem un2_s {v v' : AV} (h : un2 bs ts v = some v') : wk2 v (ren2 bs ts id v') := by
  cases v with
  | fn f c =>
    simp only [un2] at h
    split at h
    · cases h
    · rename_i c' hc; cases h; exact ⟨rfl, unL1_s hc⟩
  | agg l =>
    simp only [un2] at h
    split at h
    · cases h
    · rename_i c' hc; cases h; exact unL1_s hc
  | sl z e t =>
    have h1 := un1_s (id := id) (show un1 bs ts (.sl z e t) = some v' from h)
    cases v' <;> first | exact h1 | (simp only [ren1, wk1] at h1; cases h1)
  | ptr b o =>
    have h1 := un1_s (id := id) (show un1 bs ts (.ptr b o) = some v' from h)
    cases v' <;> first | exact h1 | (simp only [ren1, wk1] at h1; cases h1)
  | mx z e b n t =>
    have h1 := un1_s (id := id) (show un1 bs ts (.mx z e b n t) = some v' from h)
    cases v' <;> first | exact h1 | (simp only [ren1, wk1] at h1; cases h1)
  | mr b =>
    have h1 := un1_s (id := id) (show un1 bs ts (.mr b) = some v' from h)
    cases v' <;> first | exact h1 | (simp only [ren1, wk1] at h1; cases h1)
  | _ => simp only [un2, un1, Option.some.injEq] at h; subst h; rfl
theorem unL2_s : ∀ {l l' : List AV}, unL2 bs ts l = some l' → wkL2 l (l'.map (ren2 bs ts id))
  | [], _, h => by cases h; trivial
  | x :: xs, l', h => by
    simp only [unL2] at h
    split at h
    · cases h
    · rename_i y hy
      split at h
      · cases h
      · rename_i s hs
        cases h
        exact ⟨un2_s hy, unL2_s hs⟩
theorem un2_tup {v v' : AV} (h : un2 bs ts v = some v') (hv : ∀ l, v ≠ .tup l) : ∀ l, v' ≠ .tup l := by
  intro l e
  subst e
  cases v with
  | tup l => exact hv l rfl
  | sl z e t => cases t <;> simp only [un2, un1] at h <;> (try split at h) <;> cases h
  | mx z e b n t => cases t <;> simp only [un2, un1] at h <;> (try split at h) <;> (try split at h) <;> cases h
  | _ => simp only [un2, un1] at h <;> (try split at h) <;> cases h
theorem un3_s {v v' : AV} (h : un3 bs ts v = some v') : wk3 v (ren bs ts id v') := by
  cases v with
  | tup l =>
    simp only [un3] at h
    split at h
    · cases h
    · rename_i c' hc; cases h; exact unL2_s hc
  | _ =>
    simp only [un3] at h
    have h1 := un2_s (id := id) h
    have h2 := un2_tup h (fun l e => by cases e)
    cases v' <;> first | exact h1 | exact absurd rfl (h2 _)
theorem unH_s : ∀ {xs : List Nat} {H : List (List AV)}, unH σ bs ts xs = some H → boxIs σ bs ts id xs H
  | [], _, h => by cases h; trivial
  | b :: xs, H, h => by
    simp only [unH] at h
    split at h
    · rename_i l hl
      split at h
      · cases h
      · rename_i h' hh
        split at h
        · cases h
        · rename_i H' hH
          cases h
          refine ⟨?_, unH_s hH⟩
          rw [hl]
          exact unL2_s hh
    · cases h
theorem liveB_s : ∀ {l : List Nat}, liveB σ l = true → liveAll σ l
  | [], _ => trivial
  | k :: l, h => by
    simp only [liveB] at h
    split at h
    · rename_i hk
      exact ⟨by rw [hk]; trivial, liveB_s h⟩
    · cases h

variable {call : CallP} {rc : Rec}
theorem callX_s (hrc : ∀ f args H res H', rc f args H = some (res, H') → call f args H res H') {d : Option Nat} {f : FuncId} {args : List AV} {F : Log → Option R} {G : Log → Prop} (h : callX rc σ id d f args F = some r) (k : ∀ v, F v = some r → G v) : callP call σ id d f args G := by
  unfold callX at h
  split at h
  · rename_i res hres
    refine .pure res ?_ ?_ (k _ h)
    · split at hres
      · split at hres
        · rename_i hr
          split at hres <;> cases hres
          exact hrc _ _ _ _ _ hr
        · cases hres
      · cases hres
    · split at hres
      · rename_i h1
        split at hres
        · rename_i hr
          split at hres
          · rename_i h2
            cases hres
            exact ⟨h1, h2⟩
          · cases hres
        · cases hres
      · cases hres
  · dsimp only at h
    split at h
    · rename_i args' H ha hH
      split at h
      · rename_i res H' hr
        obtain ⟨h1, h2⟩ := tst_s h
        simp only [Bool.and_eq_true] at h1
        obtain ⟨⟨⟨⟨⟨⟨⟨⟨⟨⟨c1, c2⟩, c3⟩, c4⟩, c5⟩, c6⟩, c7⟩, c8⟩, c9⟩, c10⟩, c11⟩ := h1
        exact .full _ _ args' H H' res (hrc _ _ _ _ _ hr) ⟨c1, c2, c3, c4, c5, c6, c7, c8, c9, c10, unL2_s ha, unH_s hH, liveB_s c11⟩ (k _ h2)
      · cases h
    · cases h

theorem effX_s (hrc : ∀ f args H res H', rc f args H = some (res, H') → call f args H res H') {o : AOp} {F : Log → Option R} {G : Log → Prop} (h : effX rc σ id o F = some r) (k : ∀ v, F v = some r → G v) : eff call σ id o G := by
  cases o with
  | mv d x => exact frcX_s h fun _ h => k _ h
  | pick d c a b =>
    simp only [effX] at h
    simp only [eff]
    split at h
    · rename_i t ht
      rw [ht]
      cases t with
      | false => exact frcX_s h fun _ h => k _ h
      | true => exact frcX_s h fun _ h => k _ h
    · cases h
  | box d x => exact frcLX_s h fun _ h => k _ h
  | alloc d z => exact k _ h
  | build d z ps => exact bldX_s h fun _ h => frcLX_s h fun _ h => k _ h
  | bsl d sz xs => exact bslX_s h fun _ h => k _ h
  | ld d n ag a =>
    simp only [effX] at h
    simp only [eff]
    split at h
    · rename_i b o he
      rw [he]
      dsimp only
      split at h
      · rename_i l hl
        rw [hl]
        dsimp only
        cases hm : isM l with
        | true => simp only [hm] at h; cases h
        | false => simp only [hm] at h; exact ldvX_s h k
      · cases h
    · rename_i l o he
      rw [he]
      exact ldvX_s h k
    · cases h
  | st a n x =>
    simp only [effX] at h
    simp only [eff]
    split at h
    · rename_i b o he
      rw [he]
      dsimp only
      split at h
      · rename_i l hl
        rw [hl]
        dsimp only
        cases hm : isM l with
        | true => simp only [hm] at h; cases h
        | false =>
        simp only [hm] at h
        dsimp only
        refine frcLX_s h fun v h => ?_
        revert h
        cases Nat.beq v.length n with
        | false => intro h; cases h
        | true =>
          cases splice o v l with
          | none => intro h; cases h
          | some z => intro h; exact frcLX_s h fun _ h => k _ h
      · cases h
    · cases h
  | nc d x =>
    simp only [effX] at h
    simp only [eff]
    split at h
    · rename_i he; rw [he]; exact k _ h
    · rename_i he; rw [he]; exact k _ h
    · rename_i he; rw [he]; exact k _ h
    · cases h
  | bin d o x y => exact binX_s h fun _ h => k _ h
  | binB d ng x y =>
    simp only [effX] at h
    simp only [eff]
    split at h
    · rename_i a b hx hy
      rw [hx, hy]
      cases ng with
      | false => exact k _ h
      | true => exact k _ h
    · cases h
  | no d x =>
    simp only [effX] at h
    simp only [eff]
    split at h
    · rename_i he; rw [he]; exact k _ h
    · cases h
  | fa d x off =>
    simp only [effX] at h
    simp only [eff]
    split at h
    · rename_i he; rw [he]; exact k _ h
    · rename_i he; rw [he]; exact k _ h
    · cases h
  | fld d x off n ag =>
    simp only [effX] at h
    simp only [eff]
    split at h
    · rename_i he; rw [he]; exact ldvX_s h k
    · cases h
  | ia d sz x i =>
    simp only [effX] at h
    simp only [eff]
    split at h
    · rename_i z els t k' n hx hi
      rw [hx, hi]
      dsimp only
      cases hb : Nat.beq sz z with
      | false => rw [hb] at h; cases h
      | true =>
        rw [hb] at h
        dsimp only at h ⊢
        split at h
        · rename_i e he
          obtain ⟨h1, h2⟩ := tst_s h
          exact ⟨e, ⟨of_decide_eq_true h1, he⟩, k _ h2⟩
        · cases h
    · rename_i z els b m t k' n hx hi
      rw [hx, hi]
      dsimp only
      cases hb : Nat.beq sz z with
      | false => rw [hb] at h; cases h
      | true =>
        rw [hb] at h
        dsimp only at h ⊢
        obtain ⟨h1, h2⟩ := tst_s h
        simp only [Bool.and_eq_true] at h1
        exact ⟨⟨of_decide_eq_true h1.1.1, Nat.le_of_ble_eq_true h1.1.2, by simpa [Nat.blt_eq] using h1.2⟩, k _ h2⟩
    · cases h
  | ix d x i =>
    simp only [effX] at h
    simp only [eff]
    split at h
    · rename_i l k' n hx hi
      rw [hx, hi]
      dsimp only
      split at h
      · rename_i e he
        obtain ⟨h1, h2⟩ := tst_s h
        exact ⟨e, ⟨of_decide_eq_true h1, he⟩, k _ h2⟩
      · cases h
    · cases h
  | slS d x lo hi =>
    simp only [effX] at h
    simp only [eff]
    split at h
    · rename_i l hx
      rw [hx]
      refine optX_s h fun a h => optX_s h fun b h => ?_
      obtain ⟨h1, h2⟩ := tst_s h
      simp only [Bool.and_eq_true, leI, decide_eq_true_eq] at h1
      exact ⟨⟨h1.1.1, h1.1.2, h1.2⟩, k _ h2⟩
    · cases h
  | slL d sz x lo hi mx =>
    simp only [effX] at h
    simp only [eff]
    split at h
    · rename_i z b n t hx
      rw [hx]
      dsimp only
      cases hb : Nat.beq sz z with
      | false => rw [hb] at h; cases h
      | true =>
        rw [hb] at h
        dsimp only at h ⊢
        split at h
        · rename_i hi' l hl
          rw [hl]
          dsimp only
          refine optX_s h fun c h => ?_
          obtain ⟨h1, h2⟩ := tst_s h
          simp only [Bool.and_eq_true, decide_eq_true_eq] at h1
          refine ⟨⟨h1.1.1, Nat.eq_of_beq_eq_true h1.1.2, by simpa using h1.2⟩, ?_⟩
          cases t with
          | none => cases h2
          | full => exact k _ h2
          | t j =>
            dsimp only at h2 ⊢
            split at h2
            · rename_i hj; rw [hj]; exact k _ h2
            · cases h2
        · cases h
    · rename_i z els t hx
      rw [hx]
      dsimp only
      cases hb : Nat.beq sz z with
      | false => rw [hb] at h; cases h
      | true =>
        rw [hb] at h
        dsimp only at h ⊢
        refine optX_s h fun a h => optX_s h fun b h => ?_
        cases mx with
        | none =>
          obtain ⟨h1, h2⟩ := tst_s h
          simp only [Bool.and_eq_true, leI, decide_eq_true_eq] at h1
          dsimp only
          cases hd : decide (b = (els.length : Int)) with
          | true => rw [hd] at h2; exact ⟨t, ⟨⟨h1.1.1, h1.1.2, h1.2⟩, .inr ⟨rfl, of_decide_eq_true hd⟩⟩, k _ h2⟩
          | false => rw [hd] at h2; exact ⟨.none, ⟨⟨h1.1.1, h1.1.2, h1.2⟩, .inl rfl⟩, k _ h2⟩
        | some m =>
          refine optX_s h fun c h => ?_
          obtain ⟨h1, h2⟩ := tst_s h
          simp only [Bool.and_eq_true, leI, decide_eq_true_eq] at h1
          exact ⟨⟨h1.1.1.1, h1.1.1.2, h1.1.2, h1.2⟩, k _ h2⟩
    · cases h
  | cvi d ik x =>
    simp only [effX] at h
    simp only [eff]
    split at h
    · rename_i k' n hx
      rw [hx]
      obtain ⟨h1, h2⟩ := tst_s h
      exact ⟨fitsB_s h1, k _ h2⟩
    · cases h
  | ext d x i =>
    simp only [effX] at h
    simp only [eff]
    split at h
    · rename_i l hx
      rw [hx]
      dsimp only
      split at h
      · rename_i v hv; rw [hv]; exact frcX_s h fun _ h => k _ h
      · cases h
    · cases h
  | call d f xs =>
    simp only [effX] at h
    simp only [eff]
    split at h
    · rename_i f caps hx
      rw [hx]
      exact callX_s hrc h k
    · cases h
  | app d sz by_ a x =>
    simp only [effX] at h
    simp only [eff]
    split at h
    · rename_i z e1 t1 z' e2 t2 ha hx
      rw [ha, hx]
      dsimp only
      cases h1 : Nat.beq sz z with
      | false => simp [h1] at h
      | true =>
        cases h2 : Nat.beq sz z' with
        | false => simp [h1, h2] at h
        | true =>
          simp only [h1, h2] at h
          dsimp only
          cases t1 with
          | none => cases h
          | full => obtain ⟨g1, g2⟩ := tst_s h; exact ⟨roomB_s g1, k _ g2⟩
          | t kk =>
            dsimp only at h ⊢
            split at h
            · rename_i hk; rw [hk]; obtain ⟨g1, g2⟩ := tst_s h; exact ⟨roomB_s g1, k _ g2⟩
            · cases h
    · cases h
  | len d x =>
    simp only [effX] at h
    simp only [eff]
    split at h
    · rename_i he; rw [he]; exact k _ h
    · rename_i he; rw [he]; exact k _ h
    · cases h
  | lenS d x =>
    simp only [effX] at h
    simp only [eff]
    split at h
    · rename_i he; rw [he]; exact k _ h
    · cases h
  | mx d x y =>
    simp only [effX] at h
    simp only [eff]
    split at h
    · rename_i a b hx hy; rw [hx, hy]; exact k _ h
    · cases h
  | mkf d f caps => exact frcLX_s h fun _ h => k _ h
  | mk d sz by_ z x =>
    simp only [effX] at h
    simp only [eff]
    split at h
    · rename_i n he
      rw [he]
      obtain ⟨h1, h2⟩ := tst_s h
      simp only [Bool.and_eq_true] at h1
      exact ⟨⟨of_decide_eq_true h1.1, roomB_s h1.2⟩, k _ h2⟩
    · cases h
  | mkF d sz by_ z x =>
    simp only [effX] at h
    simp only [eff]
    split at h
    · rename_i n he
      rw [he]
      obtain ⟨h1, h2⟩ := tst_s h
      simp only [Bool.and_eq_true] at h1
      exact ⟨⟨of_decide_eq_true h1.1, roomB_s h1.2⟩, k _ h2⟩
    · cases h
  | bslM d sz xs => exact bslX_s h fun _ h => k _ h
  | appM d sz by_ a x =>
    simp only [effX] at h
    simp only [eff]
    split at h
    · rename_i z e1 t1 z' e2 t2 ha hx
      rw [ha, hx]
      dsimp only
      cases h1 : Nat.beq sz z with
      | false => simp [h1] at h
      | true =>
        cases h2 : Nat.beq sz z' with
        | false => simp [h1, h2] at h
        | true =>
          simp only [h1, h2] at h
          dsimp only
          cases t1 with
          | none => cases h
          | full =>
            obtain ⟨g1, g2⟩ := tst_s h
            simp only [Bool.and_eq_true] at g1
            exact ⟨⟨by simpa [Nat.blt_eq] using g1.1, roomB_s g1.2⟩, k _ g2⟩
          | t kk =>
            dsimp only at h ⊢
            split at h
            · rename_i hk
              rw [hk]
              obtain ⟨g1, g2⟩ := tst_s h
              simp only [Bool.and_eq_true] at g1
              exact ⟨⟨by simpa [Nat.blt_eq] using g1.1, roomB_s g1.2⟩, k _ g2⟩
            · cases h
    · cases h
  | cap d x =>
    simp only [effX] at h
    simp only [eff]
    split at h
    · rename_i he; rw [he]; exact k _ h
    · rename_i he; rw [he]; exact k _ h
    · cases h
  | iaG d cells sz x =>
    simp only [effX] at h
    simp only [eff]
    split at h
    · rename_i n he
      rw [he]
      obtain ⟨h1, h2⟩ := tst_s h
      simp only [Bool.and_eq_true] at h1
      exact ⟨⟨of_decide_eq_true h1.1, Nat.le_of_ble_eq_true h1.2⟩, k _ h2⟩
    · cases h
  | eqA d ng ks x y =>
    simp only [effX] at h
    simp only [eff]
    split at h
    · rename_i l m hx hy
      rw [hx, hy]
      dsimp only
      split at h
      · rename_i b hb
        rw [hb]
        cases ng <;> exact k _ h
      · cases h
    · cases h
  | appZ d sz by_ z a x =>
    simp only [effX] at h
    simp only [eff]
    split at h
    · rename_i q n ha hx
      rw [ha, hx]
      dsimp only
      cases h1 : Nat.beq sz q with
      | false => simp [h1] at h
      | true =>
        simp only [h1] at h
        dsimp only
        obtain ⟨g1, g2⟩ := tst_s h
        simp only [Bool.and_eq_true, leI, decide_eq_true_eq] at g1
        exact ⟨⟨by omega, roomB_s g1.2⟩, k _ g2⟩
    · cases h
  | mkM d => exact k _ h
  | lkM d z x kx =>
    simp only [effX] at h
    simp only [eff]
    split at h
    · rename_i b n ha hx
      rw [ha, hx]
      dsimp only
      split at h
      · rename_i es hl
        rw [hl]
        dsimp only
        split at h
        · rename_i ds hf; rw [hf]; exact k _ h
        · rename_i hf; rw [hf]; exact k _ h
      · cases h
    · cases h
  | upM x kx v =>
    simp only [effX] at h
    simp only [eff]
    split at h
    · rename_i b n ha hx
      rw [ha, hx]
      dsimp only
      split at h
      · rename_i es hl
        rw [hl]
        dsimp only
        split at h
        · rename_i l hv
          rw [hv]
          dsimp only
          refine frcLX_s h fun u h => ?_
          split at h
          · rename_i ds hc; rw [hc]; exact k _ h
          · cases h
        · cases h
      · cases h
    · cases h

theorem guardX_s {g : Option (Nat × Bool)} {A B : Log → Option R} {A' B' : Log → Prop} (h : guardX σ g A B = some r) (hA : ∀ σ, A σ = some r → A' σ) (hB : ∀ σ, B σ = some r → B' σ) : guard σ g A' B' := by
  unfold guardX at h
  unfold guard
  split at h
  · exact hA _ h
  · rename_i n w
    dsimp only
    split at h
    · rename_i t ht
      rw [ht]
      cases t <;> cases w <;> first | exact hA _ h | exact hB _ h
    · rename_i l ht; rw [ht]; exact hB _ h
    · cases h

theorem aopsX_s (hrc : ∀ f args H res H', rc f args H = some (res, H') → call f args H res H') : ∀ {ops : List GOp} {id : Nat} {σ : Log} {F : Log → Option R} {G : Log → Prop}, aopsX rc ops id σ F = some r → (∀ v, F v = some r → G v) → aops call ops id σ G
  | [], _, _, _, _, h, k => k _ h
  | o :: ops, id, σ, F, G, h, k => by
    refine guardX_s h (fun σ h => effX_s hrc h fun δ h => aopsX_s hrc h k) (fun σ h => aopsX_s hrc h k)

theorem aopsDX_s (hrc : ∀ f args H res H', rc f args H = some (res, H') → call f args H res H') : ∀ {ops : List GOp} {ps : List Nat} {j id : Nat} {σ : Log} {fs : List (Nat × List Loc × List Loc)} {F : Log → Option R} {G : Log → Prop}, aopsDX rc ops ps j id σ fs F = some r → (∀ v, F v = some r → G v) → aopsD call ops ps j id σ fs G
  | [], _, _, _, _, _, _, _, h, k => by cases ‹List Nat› <;> exact k _ h
  | _ :: _, [], _, _, _, _, _, _, h, _ => by cases h
  | o :: ops, p :: ps, j, id, σ, fs, F, G, h, k => by
    refine guardX_s h (fun σ h => effX_s hrc h fun δ h => ?_) (fun σ h => ?_)
    · split at h
      · cases h
      · rename_i hc; rw [fls_iff, fls_iff, hc]; exact aopsDX_s hrc h k
    · split at h
      · cases h
      · rename_i hc; rw [fls_iff, fls_iff, hc]; exact aopsDX_s hrc h k

theorem iterX_s {f : Nat → Log → (Ex → Nat → Log → Option R) → Option R} {g : Nat → Log → (Ex → Nat → Log → Prop) → Prop} (hfg : ∀ n σ F G, f n σ F = some r → (∀ e n σ, F e n σ = some r → G e n σ) → g n σ G)
    {F : Ex → Nat → Log → Option R} {G : Ex → Nat → Log → Prop} (k : ∀ e n σ, F e n σ = some r → G e n σ) : ∀ {m n : Nat} {σ : Log}, iterX f F m n σ = some r → iter g G m n σ
  | 0, _, _, h => by cases h
  | m + 1, n, σ, h => by
    refine hfg _ _ _ _ h fun e n σ h => ?_
    cases e with
    | n => exact iterX_s hfg k h
    | e i => exact k _ _ _ h
    | r => exact k _ _ _ h

theorem takeE_s {α : Type} : ∀ {n : Nat} {l e : List α}, takeE n l = some e → e.length = n ∧ e ++ l.drop n = l
  | 0, l, e, h => by simp only [takeE, Option.some.injEq] at h; subst h; simp
  | n + 1, [], e, h => by simp [takeE] at h
  | n + 1, x :: l, e, h => by
    simp only [takeE] at h
    split at h
    · cases h
    · rename_i r hr
      cases h
      obtain ⟨h1, h2⟩ := takeE_s hr
      exact ⟨by simp [h1], by simp [h2]⟩
theorem chunk_s {sz : Nat} : ∀ {n : Nat} {l : List Data} {ch : List (List Data)}, chunk sz n l = some ch → ch.flatten = l ∧ ch.length = n ∧ ∀ e, e ∈ ch → e.length = sz
  | 0, [], ch, h => by simp only [chunk, Option.some.injEq] at h; subst h; simp
  | 0, _ :: _, ch, h => by simp [chunk] at h
  | n + 1, l, ch, h => by
    simp only [chunk] at h
    split at h
    · rename_i e he
      split at h
      · rename_i r hr
        cases h
        obtain ⟨g1, g2⟩ := takeE_s he
        obtain ⟨h1, h2, h3⟩ := chunk_s hr
        refine ⟨by simp [h1, g2], by simp [h2], fun e' he' => ?_⟩
        rcases List.mem_cons.1 he' with rfl | he'
        · exact g1
        · exact h3 e' he'
      · cases h
    · cases h

theorem awpX_s (hrc : ∀ f args H res H', rc f args H = some (res, H') → call f args H res H') : ∀ (c : AC) {nx : Nat} {σ : Log} {F : Ex → Nat → Log → Option R} {G : Ex → Nat → Log → Prop}, awpX rc c nx σ F = some r → (∀ e n σ, F e n σ = some r → G e n σ) → awp call c nx σ G
  | .reg ops, _, _, _, _, h, k => aopsX_s hrc h fun _ h => k _ _ _ h
  | .regD ops pre, _, _, _, _, h, k => aopsDX_s hrc h fun _ h => k _ _ _ h
  | .frz x, nx, σ, F, G, h, k => by
    simp only [awpX] at h
    simp only [awp]
    split at h
    · rename_i sz els b n t hx
      rw [hx]
      dsimp only
      split at h
      · rename_i l hl
        rw [hl]
        split at h
        · rename_i ds hds
          split at h
          · rename_i ch hch
            obtain ⟨h1, h2, h3⟩ := chunk_s hch
            exact ⟨ch, ⟨by rw [h1]; exact hds, h2, h3⟩, k _ _ _ h⟩
          · cases h
        · cases h
      · cases h
    · rename_i hx; rw [hx]; exact k _ _ _ h
    · cases h
  | .seq x y, nx, σ, F, G, h, k => by
    refine awpX_s hrc x h fun e n σ h => ?_
    cases e with
    | n => exact awpX_s hrc y h k
    | e i => exact k _ _ _ h
    | r => exact k _ _ _ h
  | .cond x t e, nx, σ, F, G, h, k => by
    simp only [awpX] at h
    simp only [awp]
    split at h
    · rename_i v hv
      rw [hv]
      cases v with
      | false => exact awpX_s hrc e h k
      | true => exact awpX_s hrc t h k
    · cases h
  | .block n c, nx, σ, F, G, h, k => by
    refine awpX_s hrc c h fun e n σ h => ?_
    cases e with
    | n => exact k _ _ _ h
    | e i =>
      dsimp only at h ⊢
      split at h
      · rename_i hb; rw [hb]; exact k _ _ _ h
      · rename_i hb; rw [hb]; exact k _ _ _ h
    | r => exact k _ _ _ h
  | .loop c, nx, σ, F, G, h, k => by
    simp only [awpX] at h
    exact .runs 1000 (iterX_s (g := fun n σ Q => awp call c n σ Q) (fun n σ F G h k => awpX_s hrc c h k) k h)
  | .exit n, _, _, _, _, h, k => k _ _ _ h
  | .ret, _, _, _, _, h, k => k _ _ _ h
  | .skip, _, _, _, _, h, k => k _ _ _ h
  | .cut, _, _, _, _, h, k => .go (k _ _ _ h)
  | .stuck, _, _, _, _, h, _ => by cases h

theorem resLX_s : ∀ {rs : List (Nat × Nat)} {F : List AV → Option R} {G : List AV → Prop}, resLX σ rs F = some r → (∀ v, F v = some r → G v) → resL σ rs G
  | [], _, _, h, k => k _ h
  | (t, 0) :: rs, F, G, h, k => resLX_s (rs := rs) h fun _ h => k _ h
  | (t, n + 1) :: rs, F, G, h, k => by
    simp only [resLX] at h
    simp only [resL]
    split at h
    · rename_i b hb
      rw [hb]
      show (match look σ (.b b) with
        | some (.bx l) => (match isM l with
          | true => False
          | false => (match Nat.beq l.length (n + 1) with
            | true => resL σ rs fun r => G (.agg l :: r)
            | false => False))
        | _ => False)
      split at h
      · rename_i l hl
        try rw [hl]
        show (match isM l with
          | true => False
          | false => (match Nat.beq l.length (n + 1) with
            | true => resL σ rs fun r => G (.agg l :: r)
            | false => False))
        cases hm : isM l with
        | true => simp only [hm] at h; cases h
        | false =>
        simp only [hm] at h
        dsimp only
        split at h
        · rename_i hq; (try rw [hq]); exact resLX_s h fun _ h => k _ h
        · cases h
      · cases h
    · cases h
end
theorem finX_s {σ : Log} {v res : AV} {nb nt : Nat} {H' : List (List AV)} (h : finX σ v nb nt = some (res, H')) : FinOK σ v nb nt res H' := by
  unfold finX at h
  dsimp only at h
  split at h
  · rename_i res' H'' hv hH
    obtain ⟨h1, h2⟩ := tst_s h
    cases h2
    simp only [Bool.and_eq_true, beq_iff_eq] at h1
    obtain ⟨⟨⟨⟨⟨⟨c1, c2⟩, c3⟩, c4⟩, c5⟩, c6⟩, c7⟩ := h1
    generalize bxAll σ 100 (bx3 (upN nb) v) (bx3 (upN nb) v) = bs at *
    generalize tkH σ bs (tk3 σ (upN nt) v) = ts at *
    have e1 : upN nb ++ bs.drop nb = bs := by rw [← c3, List.take_append_drop]
    have e2 : upN nt ++ ts.drop nt = ts := by rw [← c4, List.take_append_drop]
    refine ⟨⟨bs.drop nb, ts.drop nt, ?_⟩⟩
    rw [e1, e2]
    exact ⟨⟨c1, c2, c5, c6⟩, un3_s hv, unH_s hH, liveB_s c7⟩
  · cases h

theorem bodyX_s {call : CallP} {rc : Rec} (hrc : ∀ f args H res H', rc f args H = some (res, H') → call f args H res H') {c : AC} {rs : List (Nat × Nat)} {args : List AV} {H : List (List AV)} {res : AV} {H' : List (List AV)}
    (h : bodyX rc c rs args H = some (res, H')) : Body call c rs args H res H' := by
  refine awpX_s hrc c h fun e n σ h => ?_
  cases e with
  | e i => cases h
  | n => exact resLX_s h fun l h => by match l, h with | [v], h => exact finX_s h | [], h => exact finX_s h | _ :: _ :: _, h => exact finX_s h
  | r => exact resLX_s h fun l h => by match l, h with | [v], h => exact finX_s h | [], h => exact finX_s h | _ :: _ :: _, h => exact finX_s h

/-- every row of the table is the program's function -/
def TabOK (P : Program) (W0 : World) (T : FuncId → Option Fn) : Prop := ∀ f F, T f = some F → ∃ fn c, ∃ an : Ann, (∀ g cells, an.gl g = some cells → GlobOK W0 g cells) ∧ P.funcs[f]? = some fn ∧ fn.body = some c ∧ callable P f = true ∧ compC P an fn.ntmps c = some F.ac ∧ rsC P fn.results.toList = some F.rs ∧ fn.ntmps = F.nt

theorem runX_s {P : Program} {W0 : World} {T : FuncId → Option Fn} {lib : FuncId → List AV → Option AV} (hm : P.follows .mixedOrders = true) (hT : TabOK P W0 T) (hlib : ∀ f args res, lib f args = some res → Ctr P W0 f args [] res []) :
    ∀ (k : Nat) (f : FuncId) (args : List AV) (H : List (List AV)) (res : AV) (H' : List (List AV)), runX T lib k f args H = some (res, H') → Ctr P W0 f args H res H'
  | 0, _, _, _, _, _, h => by cases h
  | k + 1, f, args, H, res, H', h => by
    simp only [runX] at h
    split at h
    · rename_i res' hr
      cases h
      split at hr
      · exact hlib _ _ _ hr
      · cases hr
    · split at h
      · cases h
      · rename_i F hF
        obtain ⟨h1, h2⟩ := tst_s h
        simp only [Bool.and_eq_true] at h1
        obtain ⟨fn, c, an, a0, a1, a2, a3, a4, a5, a6⟩ := hT f F hF
        exact ctr_of hm a0 (fun f args H res H' h => runX_s hm hT hlib k f args H res H' h) a1 a2 a3 a4 a5 (by rw [a6]; exact h1.1) h1.2 (bodyX_s (fun _ _ _ _ _ h => h) h2)
end Go.Abs

namespace Go.Abs
open Go
def compT (P : Program) (an : FuncId → Ann) (f : FuncId) : Option Fn := match P.funcs[f]? with
  | some fn => (match fn.body with
    | some c => (match callable P f with
      | true => (match compC P (an f) fn.ntmps c, rsC P fn.results.toList with
        | some ac, some rs => some ⟨ac, rs, fn.ntmps⟩
        | _, _ => none)
      | false => none)
    | none => none)
  | none => none
def an0 : Ann := { opn := [], gl := fun _ => none, frz := fun _ => [] }
theorem compT_ok {P : Program} {W0 : World} {an : FuncId → Ann} (h : ∀ f g cells, (an f).gl g = some cells → GlobOK W0 g cells) : TabOK P W0 (compT P an) := by
  intro f F hF
  unfold compT at hF
  split at hF
  · rename_i fn hfn
    split at hF
    · rename_i c hc
      split at hF
      · rename_i hcal
        split at hF
        · rename_i ac rs hac hrs
          cases hF
          exact ⟨fn, c, an f, h f, hfn, hc, hcal, hac, hrs, rfl⟩
        · cases hF
      · cases hF
    · cases hF
  · cases hF
end Go.Abs
