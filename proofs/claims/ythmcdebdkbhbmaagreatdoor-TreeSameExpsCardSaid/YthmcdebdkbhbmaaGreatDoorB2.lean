/- Slices made, capacities, tables. -/
import Derived.Test.YthmcdebdkbhbmaaGreatDoorA9
import Derived.Laws.MakeOwn
namespace Go.Abs
open Go

theorem flatten_replicate_get {α : Type} (z : List α) : ∀ (n j : Nat), (List.replicate n z).flatten[j]? = if j < n * z.length then z[j % z.length]? else none
  | 0, j => by simp
  | n + 1, j => by
    rw [List.replicate_succ, List.flatten_cons]
    by_cases h : j < z.length
    · rw [List.getElem?_append_left h, if_pos (by rw [Nat.succ_mul]; omega), Nat.mod_eq_of_lt h]
    · rw [List.getElem?_append_right (by omega), flatten_replicate_get z n (j - z.length)]
      have h1 : j % z.length = (j - z.length) % z.length := by rw [Nat.mod_eq_sub_mod (by omega)]
      rw [h1]
      by_cases h2 : j - z.length < n * z.length
      · rw [if_pos h2, if_pos (by rw [Nat.succ_mul]; omega)]
      · rw [if_neg h2, if_neg (by rw [Nat.succ_mul]; omega)]

/-- what a package-level variable holds when the call begins -/
def GlobOK (W0 : World) (g : Nat) (cells : List Data) : Prop := g < W0.heap.size ∧ ∀ (j : Nat) (d : Data), cells[j]? = some d → ∃ c, W0.cell? ⟨g, j, none⟩ = some c ∧ RepD (fun b _ => b < W0.heap.size) W0 d c

section ops
variable {P : Program} {W0 : World} {κ : Gh} {σ : Log} {a : Act} {w : World} {id : Nat} {F : Log → Prop} {call : CallP} {o : Oper} {Q : Exit → Act → World → Prop} {d : Nat} {z : Option Nat}

theorem RepS.oldcell (hs : RepS W0 κ σ a w) {b q : Nat} (hb : b < W0.heap.size) : w.cell? ⟨b, q, none⟩ = W0.cell? ⟨b, q, none⟩ := by
  have h := hs.amb b hb
  simp [World.cell?, h]

theorem RepS.glob (hs : RepS W0 κ σ a w) {g : Nat} {cells : List Data} (hg : GlobOK W0 g cells) : RepV κ w (.elp cells 0) (.pointer (some ⟨g, 0, none⟩)) := by
  have := RepV.elp (κ := κ) (w := w) cells 0 g 0 fun j dd hj => by
    obtain ⟨c, h1, h2⟩ := hg.2 j dd hj
    rw [Nat.zero_add]
    exact ⟨c, hs.old g j hg.1, (hs.oldcell hg.1).trans h1, h2.mono (fun b o hb => hs.old b o hb) (fun b o hb => hs.oldcell hb)⟩
  simpa using this

theorem s_iaG (hs : RepS W0 κ σ a w) {t e : TypeId} {g n sz : Nat} {y : Operand} {y' : Opd} {cells : List Data} (ho : o.op = .indexAddr t (.global g) y) (hd : o.dst = some d) (hy : opdC z y = some y')
    (hu : P.underlying t = some (.array n e)) (hn : (P.info? e).map (·.size) = some sz) (hc : cells.length = n * sz) (hsz : 0 < sz) (hg : GlobOK W0 g cells) (hN : d < a.tmps.size) (h : eff call σ id (.iaG d cells sz y') F) : o.wp P a w (After W0 κ σ a w id F) Q := by
  have hry := opd_rep hs hy
  simp only [eff] at h
  split at h
  · rename_i k i he
    rw [he] at hry
    have ey := hry.sc_inv
    simp only [Sc.val] at ey
    obtain ⟨⟨h0, h1⟩, hF⟩ := h
    have hin : i < n := by
      rcases Nat.lt_or_ge i.toNat n with h | h
      · omega
      · have := Nat.mul_le_mul_right sz h
        omega
    have hp : RepV κ w (.elp cells (i.toNat * sz)) (.pointer (some ⟨g, 0 + i.toNat * sz, none⟩)) := by
      obtain ⟨b, q, e1, e2⟩ := (hs.glob hg).elp_inv
      cases e1
      exact .elp cells _ g 0 e2
    refine wp_value (x := .pointer (some ⟨g, 0 + i.toNat * sz, none⟩)) (w' := w) ?_ (by rw [hd]; exact .put hs hN hp hF)
    have eg : a.eval (.global g) = .pointer (some ⟨g, 0, none⟩) := rfl
    simp [execOp, ho, ey, eg, Instr.indexAt, asIntOf, run_underlying hu, h0, hin, run_sizeOf' hn, addr_add, Instr.sureAddr]
  · exact h.elim

theorem s_cap (hs : RepS W0 κ σ a w) {t e : TypeId} {x : Operand} {x' : Opd} (ho : o.op = .call { callee := .builtin .cap, args := #[x], argTypes := #[t] }) (hd : o.dst = some d) (hx : opdC z x = some x')
    (hu : P.underlying t = some (.slice e)) (hN : d < a.tmps.size) (h : eff call σ id (.cap d x') F) : o.wp P a w (After W0 κ σ a w id F) Q := by
  have hr := opd_rep hs hx
  simp only [eff] at h
  split at h
  · rename_i zz els he
    rw [he] at hr
    obtain ⟨hD, hT⟩ := hr.sl_inv
    obtain ⟨A, cap, hA⟩ := hD.len
    have hcap : cap = els.length := by
      cases A with
      | none => rw [hA] at hD; cases hD; rfl
      | some A => exact (hT A _ _ hA).symm
    subst hcap
    refine wp_value (x := .int .i64 els.length) (w' := w) ?_ (by rw [hd]; exact .put hs hN (.sc (.i .i64 els.length)) h)
    simp [execOp, ho, hA, resolve, invoke, builtin, Builtin.cap_, run_underlying hu, goInt]
  · rename_i zz els b n he
    rw [he] at hr
    obtain ⟨off, cap, _, _, _, _, hT, hA⟩ := hr.mx_inv
    have hcap : els.length + n = cap := hT _ _ _ rfl
    subst hcap
    refine wp_value (x := .int .i64 ((els.length + n : Nat) : Int)) (w' := w) ?_ (by rw [hd]; exact .put hs hN (.sc (.i .i64 ((els.length + n : Nat) : Int))) h)
    simp [execOp, ho, hA, resolve, invoke, builtin, Builtin.cap_, run_underlying hu, goInt]
  · exact h.elim

theorem s_inv (hs : RepS W0 κ σ a w) {t : TypeId} {x : Operand} {x' : Opd} (ho : o.op = .unOp .xor t x) (hd : o.dst = some d) (hx : opdC z x = some x') (hN : d < a.tmps.size)
    (h : eff call σ id (.bin d .xor (.c (.sc (.i .i64 (-1)))) x') F) : o.wp P a w (After W0 κ σ a w id F) Q := by
  have hr := opd_rep hs hx
  simp only [eff] at h
  have e0 : ev σ (.c (.sc (.i .i64 (-1)))) = .sc (.i .i64 (-1)) := rfl
  rw [e0] at h
  simp only [binP] at h
  split at h
  · rename_i k m k' n he1 he2
    cases he1
    rw [he2] at hr
    have e := hr.sc_inv
    simp only [Sc.val] at e
    cases k' <;> simp only [ikBeq] at h <;> first | exact h.elim | skip
    simp only [binI] at h
    refine wp_value (x := .int .i64 (bits .xor .i64 (-1) n)) (w' := w) ?_ (by rw [hd]; exact .put hs hN (.sc (.i .i64 (bits .xor .i64 (-1) n))) h)
    simp [execOp, ho, e, unary_xor, intBits_xor, IntKind.signed]
  · rename_i he _; cases he
  · exact h.elim

theorem s_mk (hs : RepS W0 κ σ a w) (hf : Fresh κ id) {t e : TypeId} {sz by_ : Nat} {x : Operand} {x' : Opd} {zl : List AV} {i : TypeInfo} {v : Value}
    (ho : o.op = .makeSlice t x x) (hd : o.dst = some d) (hx : opdC z x = some x') (hu : P.underlying t = some (.slice e)) (hi : P.info? e = some i) (hiv : i.zero = some v) (hsz : i.size = sz) (hby : i.bytes = by_)
    (hz : ∀ (κ : Gh) (w : World), RepL κ w zl v.cells) (hvs : v.cells.size = sz) (hN : d < a.tmps.size) (h : eff call σ id (.mk d sz by_ zl x') F) : o.wp P a w (After W0 κ σ a w id F) Q := by
  have hr := opd_rep hs hx
  simp only [eff] at h
  split at h
  · rename_i n he
    rw [he] at hr
    have ex := hr.sc_inv
    simp only [Sc.val] at ex
    obtain ⟨⟨h0, hR1, hR2⟩, hF⟩ := h
    have hzl : zl.length = sz := by rw [← (hz κ w).1, hvs]
    have hrun := run_make (P := P) w t e i v hu hi hiv .i64 .i64 n n h0 (Int.le_refl _) (by
      rw [hby]
      have h1 : ((n.toNat * by_ : Nat) : Int) ≤ 140737488355328 := by omega
      have h2 : ((n.toNat * by_ : Nat) : Int) = n * by_ := by rw [Int.natCast_mul, Int.toNat_of_nonneg h0]
      rw [Int.mul_comm]; omega) (by omega)
    have hexec : (execOp a.eval o).run P w = .ok (.value (.slice (some ⟨w.heap.size, 0, none⟩) n.toNat n.toNat)) (w.alloc (.cells (madeCells v.cells (n.toNat * sz)) e)) := by
      simp only [execOp, ho, ex]
      rw [hsz] at hrun
      simp [hrun]
    have hL : RepL κ w (List.replicate n.toNat zl).flatten (madeCells v.cells (n.toNat * sz)) := by
      refine ⟨by rw [size_madeCells]; simp [hzl], ?_, fun j u hj => ?_⟩
      · intro u hu'
        obtain ⟨l, hl, hul⟩ := List.mem_flatten.1 hu'
        rw [List.eq_of_mem_replicate hl] at hul
        exact (hz κ w).2.1 u hul
      · rw [flatten_replicate_get, hzl] at hj
        split at hj
        · rename_i hlt
          have := (hz κ w).2.2 _ u hj
          have e1 : (madeCells v.cells (n.toNat * sz)).getD j undef = v.cells.getD (j % sz) undef := by
            have hszp : 0 < sz := by
              rcases Nat.eq_zero_or_pos sz with h | h
              · subst h; simp at hlt
              · exact h
            have hm : j % sz < v.cells.size := by rw [hvs]; exact Nat.mod_lt _ hszp
            simp [madeCells, Array.getD, hlt, hvs, hm, Nat.mod_lt _ hszp]
          rw [e1]; exact this
        · cases hj
    obtain ⟨h1, h2, h3⟩ := hs.box (hf.db id (Nat.le_refl _) (by omega)) hL e
    refine wp_value hexec ?_
    rw [hd]
    refine ⟨_, _, hF, h1.put hN ?_, h2.trans Step.put, put_size, ⟨?_, fun k hk => .inl hk⟩⟩
    · have hp := RepV.mx (κ := { κ with Db := fun b => κ.Db b ∨ b = id, ι := fun b => if b = id then (w.heap.size, 0) else κ.ι b }) (w := w.alloc (.cells (madeCells v.cells (n.toNat * sz)) e)) sz [] id n.toNat .full 0 n.toNat (.inr rfl)
        (by simp) (by simp) (.lst sz [] _ _ _ (fun _ _ => undef) (Nat.zero_le _) (by simp) (by simp) (by simp) (by simp)) (fun A m c ev => by cases ev; simp)
      simpa using hp
    · rintro b (hb | rfl)
      · exact .inl hb
      · exact .inr ⟨Nat.le_refl _, by omega⟩
  · exact h.elim
end ops
end Go.Abs
