/- Open appends, sound. -/
import Derived.Test.YthmcdebdkbhbmaaGreatDoorB6
namespace Go.Abs
open Go
section ops
variable {P : Program} {W0 : World} {κ : Gh} {σ : Log} {a : Act} {w : World} {id : Nat} {F : Log → Prop} {call : CallP} {o : Oper} {Q : Exit → Act → World → Prop} {d : Nat} {z : Option Nat}

theorem s_appM (hs : RepS W0 κ σ a w) (hf : Fresh κ id) {t e : TypeId} {sz by_ : Nat} {x y : Operand} {x' y' : Opd} {z1 z2 : Option Nat} {ie : TypeInfo} {zv : Value}
    (ho : o.op = .call { callee := .builtin .append, args := #[x, y], argTypes := #[t, t] }) (hd : o.dst = some d) (hx : opdC z1 x = some x') (hy : opdC z2 y = some y')
    (hu : P.underlying t = some (.slice e)) (hie : P.info? e = some ie) (hsz : ie.size = sz) (hby : ie.bytes = by_) (hz : ie.zero = some zv) (hzs : zv.cells.size = sz) (hsz0 : 0 < sz)
    (hN : d < a.tmps.size) (h : eff call σ id (.appM d sz by_ x' y') F) : o.wp P a w (After W0 κ σ a w id F) Q := by
  have hrx := opd_rep hs hx
  have hry := opd_rep hs hy
  simp only [eff] at h
  split at h
  · rename_i q1 e1 t1 q2 e2 t2 he1 he2
    rw [he1] at hrx
    rw [he2] at hry
    split at h
    · rename_i hb1 hb2
      have hq1 := Nat.eq_of_beq_eq_true hb1
      have hq2 := Nat.eq_of_beq_eq_true hb2
      subst hq1; subst hq2
      obtain ⟨hD1, hT1⟩ := hrx.sl_inv
      obtain ⟨hD2, _⟩ := hry.sl_inv
      obtain ⟨off, hoff, hoffT, hpos2, hRoom, hF⟩ : ∃ off : Option Nat, (∀ k, off = some k → look σ (.t k) = some (.tk true)) ∧ (t1 = .full ∧ off = none ∨ ∃ k, t1 = .t k ∧ off = some k) ∧
          0 < e2.length ∧ Room (e1.length + e2.length) by_ ∧ F ((.s d, .av (.mx sz e1 (id + 1) e2.length (.t (id + 1)))) :: (.b (id + 1), .bx (e2.flatten.map dcell)) :: (.t (id + 1), .tk true) :: (.t id, .tk false) :: (.t id, .tk true) :: (match off with | some k => [(.t k, .tk false)] | none => [])) := by
        split at h
        · exact h.elim
        · exact ⟨none, by simp, .inl ⟨rfl, rfl⟩, h.1.1, h.1.2, h.2⟩
        · rename_i k
          split at h
          · rename_i hk
            exact ⟨some k, fun k' e => by cases e; exact hk, .inr ⟨k, rfl, rfl⟩, h.1.1, h.1.2, h.2⟩
          · exact h.elim
      have hidk : ∀ k, off = some k → k ≠ id := fun k hk e => hf.dt id (Nat.le_refl _) (by omega) (e ▸ (hs.toks k (hoff k hk)).1)
      have hid : ¬ κ.Dt id := hf.dt id (Nat.le_refl _) (by omega)
      have hmul2 : 0 < e2.length * sz := Nat.mul_pos hpos2 hsz0
      -- a new row
      have grown : ∀ (L1 L2 : List Value) (Z : Array Value) (newCap : Nat), Flat κ.I w sz e1 L1 → Flat κ.I w sz e2 L2 → e1.length + e2.length ≤ newCap → Z.size = (newCap - (e1.length + e2.length)) * sz → ∀ (dr : Nat),
          (execOp a.eval o).run P w = .ok (.value (.slice (some ⟨w.heap.size, 0, none⟩) (e1.length + e2.length) newCap)) (({ w with drawn := dr } : World).alloc (.cells (L1.toArray ++ L2.toArray ++ Z) e)) →
          o.wp P a w (After W0 κ σ a w id F) Q := by
        intro L1 L2 Z newCap f1 f2 hcap hZ dr hrun
        have hsize : (L1.toArray ++ L2.toArray ++ Z).size = newCap * sz := by
          simp only [Array.size_append, List.size_toArray, hZ, f1.len, f2.len, ← Nat.add_mul]
          congr 1; omega
        have hle1 : e1.length * sz ≤ newCap * sz := Nat.mul_le_mul_right _ (by omega)
        obtain ⟨r1, r2, r3⟩ := (hs.drawn dr).rowTok off hoff hid (L1.toArray ++ L2.toArray ++ Z) e (e1.length * sz) (newCap * sz) (by omega) _ rfl
        have hcell : ∀ j, (({ w with drawn := dr } : World).alloc (.cells (L1.toArray ++ L2.toArray ++ Z) e)).cell? ⟨w.heap.size, j, none⟩ = (L1.toArray ++ L2.toArray ++ Z)[j]? := fun j =>
          cell?_of_cells (heap_alloc_new (w := { w with drawn := dr }))
        have mono := fun {els : List (List Data)} {L : List Value} (fl : Flat κ.I w sz els L) =>
          (fl.mono (w := w) (w' := { w with drawn := dr }) (fun _ _ h => h) (fun _ _ _ => rfl)).mono (I' := fun b o => κ.I b o ∨ (b = ({ w with drawn := dr } : World).heap.size ∧ o < e1.length * sz)) (w' := ({ w with drawn := dr } : World).alloc (.cells (L1.toArray ++ L2.toArray ++ Z) e)) r3.I_ r3.cell
        have hsh := (mono f1).shut (b := w.heap.size) (o := 0) (cap := newCap) (by omega) (fun k hk => .inr ⟨rfl, by omega⟩) (fun k hk => by
          rw [Nat.zero_add, hcell, Array.append_assoc, Array.getElem?_append_left (by rw [List.size_toArray, f1.len]; exact hk), List.getElem?_toArray])
        obtain ⟨κ2, q1, q2, q3, q4, q5⟩ := open_step (id := id + 1) (off := 0) (cap := newCap) (p := e1.length * sz) (g := w.heap.size) (e1 := e1) r1 (k := id) (by simp [look_cons])
          (fun hh => hf.db (id + 1) (by omega) (by omega) hh) (fun hh => hh.elim (hf.dt (id + 1) (by omega) (by omega)) (fun e => by omega)) (by omega) (by simp) hmul2 hcap (mono f2)
          (heap_alloc_new (w := { w with drawn := dr })) (fun j hj => by
            rw [Array.append_assoc, Array.getElem?_append_right (by rw [List.size_toArray, f1.len]; omega), List.size_toArray, f1.len, Nat.add_sub_cancel_left, Array.getElem?_append_left (by rw [List.size_toArray]; exact hj), List.getElem?_toArray]) (by omega) hsh
        refine wp_value hrun ?_
        rw [hd]
        refine ⟨_, κ2, hF, q1.put hN q3, (((Step.drawn dr).trans r2).trans q2).trans Step.put, put_size, ⟨fun b hb => ?_, fun k hk => ?_⟩⟩
        · rcases q4 b hb with h | h
          · exact .inl h
          · exact .inr ⟨by omega, by omega⟩
        · rcases q5 k hk with h | h
          · exact h.elim .inl fun e => .inr ⟨by omega, by omega⟩
          · exact .inr ⟨by omega, by omega⟩
      have hexec : ∀ v1 v2, a.eval x = v1 → a.eval y = v2 → ∀ r w', (Builtin.append_ #[t, t] o.type #[v1, v2]).run P w = .ok r w' → (execOp a.eval o).run P w = .ok (.value r) w' := by
        intro v1 v2 h1 h2 r w' hr
        simp [execOp, ho, resolve, invoke, builtin, h1, h2, hr]
      subst hsz
      rcases hD2.flat hsz0 with ⟨A2, hv2, hn2⟩ | ⟨b2, o2, cap2, L2, hv2, hcap2, f2, hI2, hc2⟩
      · rw [hn2] at hpos2; simp at hpos2
      · have hnews : ∀ j u, L2[j]? = some u → w.cell? ((⟨b2, o2, none⟩ : Addr).add j) = some u := by
          intro j u hj
          have hjl : j < e2.length * ie.size := by rw [← f2.len]; exact (List.getElem?_eq_some_iff.1 hj).1
          rw [addr_add, hc2 j hjl, hj]
        have hone := f2.one hsz0
        have h63 : e1.length + e2.length ≤ 9223372036854775807 := hRoom.1
        have hbb := hRoom.2
        rw [← hby] at hbb
        rcases hD1.flat hsz0 with ⟨A1, hv1, hn1⟩ | ⟨b1, o1, cap1, L1, hv1, hcap1, f1, hI1, hc1⟩
        · have he1 : e1.length = 0 := by rw [hn1]; rfl
          have hr := run_append_nil' (P := P) w t o.type e ie zv A1 hu hie hz ⟨b2, o2, none⟩ e2.length cap2 L2 f2.len hnews (by omega) (by omega) (by rw [he1, Nat.zero_add] at hbb; omega)
          have f1 : Flat κ.I w ie.size e1 [] := by rw [hn1]; exact Flat.nil _ _ _
          refine grown [] L2 (Builtin.zeroCells zv.cells (grownCap w e2.length 0 e - e2.length)) (grownCap w e2.length 0 e) f1 f2 (by rw [he1, Nat.zero_add]; exact grownCap_ge _ _ _ _) (by rw [size_zeroCells, hzs, he1, Nat.zero_add]) (w.drawn + 1) ?_
          refine hexec _ _ hv1 hv2 _ _ ?_
          rw [hr]
          simp only [he1, Nat.zero_add]
          congr 2
          simp
        · have hholds : ∀ j u, L1[j]? = some u → w.cell? ((⟨b1, o1, none⟩ : Addr).add j) = some u := by
            intro j u hj
            have hjl : j < e1.length * ie.size := by rw [← f1.len]; exact (List.getElem?_eq_some_iff.1 hj).1
            rw [addr_add, hc1 j hjl, hj]
          by_cases hroom : e1.length + e2.length ≤ cap1
          · obtain ⟨k, hk, ho'⟩ : ∃ k, t1 = .t k ∧ off = some k := by
              rcases hoffT with ⟨rfl, _⟩ | h
              · exact absurd (hT1 _ _ _ hv1) (by omega)
              · exact h
            subst hk
            have hτ := hT1.2 _ _ _ hv1 (by omega)
            simp only at hτ
            have hlk := hoff k ho'
            have hmul : e1.length * ie.size + e2.length * ie.size ≤ cap1 * ie.size := by rw [← Nat.add_mul]; exact Nat.mul_le_mul_right _ hroom
            have hlo : (κ.τ k).2.1 < (κ.τ k).2.2 := by rw [hτ]; simp only; omega
            obtain ⟨hblk, cur, te, hg, hfit⟩ := (hs.toks k hlk).2 hlo
            rw [hτ] at hblk hg hfit
            simp only at hblk hg hfit
            have hL2 : L2.length = e2.length * ie.size := f2.len
            have hr := run_append_room' (P := P) (w := w) t o.type e ie hu hie b1 o1 e1.length cap1 cur te hg ⟨b2, o2, none⟩ e2.length cap2 L2 f2.len hnews hone hroom (by rw [hL2]; omega)
            have hsplice := fun j => arr_splice (C := cur) (vs := L2) (o := o1 + e1.length * ie.size) (by rw [hL2]; omega) j
            have hsplsz := arr_splice_size (C := cur) (vs := L2) (o := o1 + e1.length * ie.size) (by rw [hL2]; omega)
            obtain ⟨s1, s2, s3⟩ := hs.spare hlk (g := b1) (arr := (cur.toList.take (o1 + e1.length * ie.size) ++ L2 ++ cur.toList.drop (o1 + e1.length * ie.size + L2.length)).toArray) hg hsplsz (by
              intro j hj
              rw [hsplice j, if_neg]
              intro hh
              apply hj
              rw [hτ]
              exact ⟨rfl, hh.1, by simp only; omega⟩)
            obtain ⟨r1, r2, r3⟩ := s1.retok (some k) (fun k' e => by cases e; exact hlk) hid (fun k' e => by cases e; exact hidk k ho') (fun _ _ => False) (b1, o1 + e1.length * ie.size, o1 + cap1 * ie.size)
              (fun _ _ h => h.elim)
              (by
                intro _
                refine ⟨hblk, _, te, setRow_heap w b1 cur _ te (0, 0) hg, ?_⟩
                rw [hsplsz]; exact hfit)
              (by
                intro b q hh
                have hin : inSp (κ.τ k) b q := by rw [hτ]; exact hh
                exact ⟨s1.sepI b q (.inr ⟨k, hlk, hin⟩), k, rfl, hin⟩)
              _ rfl
            have f1' := ((f1.mono s3.I_ s3.cell).mono r3.I_ r3.cell)
            have f2' := ((f2.mono s3.I_ s3.cell).mono r3.I_ r3.cell)
            have hsh := f1'.shut (b := b1) (o := o1) (cap := cap1) hcap1 (fun j hj => .inl (hI1 j hj)) (fun j hj => by
              rw [cell?_of_cells (setRow_heap w b1 cur _ te (0, 0) hg), hsplice, if_neg (by omega)]
              have := hc1 j hj
              rw [cell?_of_cells hg] at this
              exact this)
            obtain ⟨κ2, q1, q2, q3, q4, q5⟩ := open_step (id := id + 1) (off := o1) (cap := cap1) (p := o1 + e1.length * ie.size) (g := b1) (e1 := e1) r1 (k := id) (by simp [look_cons])
              (fun hh => hf.db (id + 1) (by omega) (by omega) hh) (fun hh => hh.elim (hf.dt (id + 1) (by omega) (by omega)) (fun e => by omega)) rfl (by simp) hmul2 hroom f2'
              (setRow_heap w b1 cur _ te (0, 0) hg) (fun j hj => by
                rw [hsplice, if_pos (by omega)]
                congr 1; omega) (by rw [hsplsz]; exact hfit) hsh
            refine wp_value (hexec _ _ hv1 hv2 _ _ hr) ?_
            rw [hd]
            rw [ho'] at hF
            refine ⟨_, κ2, hF, q1.put hN q3, ((s2.trans r2).trans q2).trans Step.put, put_size, ⟨fun b hb => ?_, fun k hk => ?_⟩⟩
            · rcases q4 b hb with h | h
              · exact .inl h
              · exact .inr ⟨by omega, by omega⟩
            · rcases q5 k hk with h | h
              · exact h.elim .inl fun e => .inr ⟨by omega, by omega⟩
              · exact .inr ⟨by omega, by omega⟩
          · have hr := run_append_grow (P := P) w t o.type e ie zv hu hie hz ⟨b1, o1, none⟩ e1.length cap1 L1 f1.len hholds ⟨b2, o2, none⟩ e2.length cap2 L2 f2.len hnews (by omega) (by omega) (growslice_fits (by omega) hbb)
            refine grown L1 L2 (Builtin.zeroCells zv.cells (grownCap w (e1.length + e2.length) cap1 e - (e1.length + e2.length))) (grownCap w (e1.length + e2.length) cap1 e) f1 f2 (grownCap_ge _ _ _ _) (by rw [size_zeroCells, hzs]) (w.drawn + 1) ?_
            exact hexec _ _ hv1 hv2 _ _ hr
    · exact h.elim
  · exact h.elim
end ops
end Go.Abs
