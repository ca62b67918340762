/- Room made by zeros, and structs held against each other. -/
import Derived.Test.YthmcdebdkbhbmaaGreatDoorB7
import Derived.Laws.StructEq
namespace Go.Abs
open Go
theorem run_append_zeros {P : Program} (w : World) (t tn ty e : TypeId) (i : TypeInfo) (z : Value) (kn : IntKind) (base : Option Addr) (ht : P.underlying t = some (.slice e)) (htn : P.underlying tn = some (.int kn)) (hi : P.info? e = some i) (hz : i.zero = some z)
    (n : Nat) (h0 : 0 < n) (hs : 0 < i.size) (h63 : (n : Int) ≤ 9223372036854775807) (h48 : n * i.bytes ≤ 281474976710656) :
    (Builtin.append_ #[t, tn] ty #[.slice base 0 0, .int .i64 n]).run P w =
      .ok (.slice (some ⟨w.heap.size, 0, none⟩) n (grownCap w n 0 e)) (w.drew.alloc (.cells (Builtin.zeroCells z.cells n ++ Builtin.zeroCells z.cells (grownCap w n 0 e - n)) e)) := by
  have hn : n ≠ 0 := by omega
  have hw : IntKind.i64.wrap (n : Int) = n := by rw [IntKind.wrap_i64]; omega
  have h63' : ¬ (9223372036854775807 < (n : Int)) := by omega
  have h48' : ¬ (281474976710656 < Builtin.nextslicecap n 0 * i.bytes) := by rw [nextslicecap_zero h0]; omega
  have h48i : ¬ (281474976710656 < (n : Int) * (i.bytes : Int)) := by
    rw [← Int.natCast_mul]
    omega
  have hneg : ¬ ((n : Int) < 0) := by omega
  have hns : ¬ (n * i.size = 0) := Nat.mul_ne_zero hn (by omega)
  have hf : ∀ (w : World), (Builtin.firstCells i.size 0 (.slice base 0 0)).run P w = .ok #[] w := by
    intro w
    cases base with
    | none => simp [run_firstCells_none]
    | some b => simpa using run_firstCells_some (P := P) w i.size 0 b 0 0 [] (by simp) (by simp)
  simp [Builtin.append_, run_underlying ht, run_underlying htn, sizeOf, typeInfo, zeroValue, hi, hz, asInt, asIntOf, hw, hn, hneg, hns, h63', h48', h48i, Question.forced, hf, newRow, grownCap]

section ops
variable {P : Program} {W0 : World} {κ : Gh} {σ : Log} {a : Act} {w : World} {id : Nat} {F : Log → Prop} {call : CallP} {o : Oper} {Q : Exit → Act → World → Prop} {d : Nat} {z : Option Nat}

theorem s_appZ (hs : RepS W0 κ σ a w) (hf : Fresh κ id) {t tn e : TypeId} {sz by_ : Nat} {x y : Operand} {x' y' : Opd} {z1 z2 : Option Nat} {ie : TypeInfo} {v : Value} {kn : IntKind} {zl : List AV} {zd : List Data}
    (ho : o.op = .call { callee := .builtin .append, args := #[x, y], argTypes := #[t, tn] }) (hd : o.dst = some d) (hx : opdC z1 x = some x') (hy : opdC z2 y = some y')
    (hu : P.underlying t = some (.slice e)) (hun : P.underlying tn = some (.int kn)) (hie : P.info? e = some ie) (hiv : ie.zero = some v) (hsz : ie.size = sz) (hby : ie.bytes = by_)
    (hz : ∀ (κ : Gh) (w : World), RepL κ w zl v.cells) (hvs : v.cells.size = sz) (hcd : cellsD zl = some zd) (hsz0 : 0 < sz)
    (hN : d < a.tmps.size) (h : eff call σ id (.appZ d sz by_ zd x' y') F) : o.wp P a w (After W0 κ σ a w id F) Q := by
  have hrx := opd_rep hs hx
  have hry := opd_rep hs hy
  simp only [eff] at h
  split at h
  · rename_i q n he1 he2
    rw [he1] at hrx
    rw [he2] at hry
    split at h
    · rename_i hb1
      have hq1 := Nat.eq_of_beq_eq_true hb1
      subst hq1
      obtain ⟨hD1, hT1⟩ := hrx.sl_inv
      have ex := hry.sc_inv
      simp only [Sc.val] at ex
      obtain ⟨⟨h0, hR1, hR2⟩, hF⟩ := h
      obtain ⟨m, rfl⟩ : ∃ m : Nat, n = (m : Int) := ⟨n.toNat, by omega⟩
      simp only [Int.toNat_natCast] at hR1 hR2 hF
      have hm0 : 0 < m := by omega
      obtain ⟨base, hv1⟩ : ∃ base, a.eval x = .slice base 0 0 := by
        subst hsz
        rcases hD1.flat hsz0 with ⟨A1, hv1, hn1⟩ | ⟨b1, o1, cap1, L1, hv1, hcap1, f1, hI1, hc1⟩
        · exact ⟨_, hv1⟩
        · have := hT1 _ _ _ hv1
          subst this
          exact ⟨_, hv1⟩
      have hzl : zl.length = sz := by rw [← (hz κ w).1, hvs]
      obtain ⟨hzd, hcell⟩ := cellsD_spec hcd
      have hid : ¬ κ.Dt id := hf.dt id (Nat.le_refl _) (by omega)
      have hrun := run_append_zeros (P := P) w t tn o.type e ie v kn base hu hun hie hiv m hm0 (by omega) (by omega) (by rw [hby]; omega)
      have hexec : (execOp a.eval o).run P w = .ok (.value (.slice (some ⟨w.heap.size, 0, none⟩) m (grownCap w m 0 e))) (w.drew.alloc (.cells (Builtin.zeroCells v.cells m ++ Builtin.zeroCells v.cells (grownCap w m 0 e - m)) e)) := by
        simp [execOp, ho, resolve, invoke, builtin, hv1, ex, hrun]
      have hcap := grownCap_ge w m 0 e
      generalize grownCap w m 0 e = newCap at hexec hcap
      -- the zeros, as a list of values
      have hL2 : Flat κ.I w sz (List.replicate m zd) (Builtin.zeroCells v.cells m).toList := by
        refine ⟨by rw [Array.length_toList, size_zeroCells, hvs, List.length_replicate], fun e' he' => by rw [List.eq_of_mem_replicate he', hzd, hzl], fun p q e' dd he' hd' => ?_⟩
        rw [List.getElem?_replicate] at he'
        split at he'
        · rename_i hlt
          cases he'
          have hql : q < zl.length := by rw [← hzd]; exact (List.getElem?_eq_some_iff.1 hd').1
          have hqs : q < sz := by omega
          obtain ⟨d', g1, g2⟩ := hcell q _ (List.getElem?_eq_getElem hql)
          rw [hd'] at g1
          cases g1
          have hlt2 : p * sz + q < m * sz := by
            have : p * sz + sz ≤ m * sz := by rw [← Nat.succ_mul]; exact Nat.mul_le_mul_right _ hlt
            omega
          have hm : (p * sz + q) % sz = q := by rw [Nat.mul_comm, Nat.mul_add_mod]; exact Nat.mod_eq_of_lt hqs
          have hget : (Builtin.zeroCells v.cells m).toList.getD (p * sz + q) undef = v.cells.getD q undef := by
            simp [Builtin.zeroCells, List.getD_eq_getElem?_getD, hvs, hlt2, hm, hqs, Array.getD]
          rw [hget]
          exact cellD_rep ((hz κ w).2.2 q _ (List.getElem?_eq_getElem hql)) g2
        · cases he'
      have hsize : (Builtin.zeroCells v.cells m ++ Builtin.zeroCells v.cells (newCap - m)).size = newCap * sz := by
        rw [Array.size_append, size_zeroCells, size_zeroCells, hvs, ← Nat.add_mul]; congr 1; omega
      obtain ⟨r1, r2, r3⟩ := (hs.drawn (w.drawn + 1)).rowTok none (by simp) hid (Builtin.zeroCells v.cells m ++ Builtin.zeroCells v.cells (newCap - m)) e 0 (newCap * sz) (by omega) _ rfl
      have f2 := (hL2.mono (w := w) (w' := { w with drawn := w.drawn + 1 }) (fun _ _ h => h) (fun _ _ _ => rfl)).mono r3.I_ r3.cell
      have f1 : Flat (fun b o => κ.I b o ∨ (b = ({ w with drawn := w.drawn + 1 } : World).heap.size ∧ o < 0)) (({ w with drawn := w.drawn + 1 } : World).alloc (.cells (Builtin.zeroCells v.cells m ++ Builtin.zeroCells v.cells (newCap - m)) e)) sz [] [] := Flat.nil _ _ _
      have hsh := f1.shut (b := w.heap.size) (o := 0) (cap := newCap) (by simp) (fun k hk => by simp at hk) (fun k hk => by simp at hk)
      obtain ⟨κ2, q1, q2, q3, q4, q5⟩ := open_step (id := id + 1) (off := 0) (cap := newCap) (p := 0) (g := w.heap.size) (e1 := []) (e2 := List.replicate m zd) r1 (k := id) (by simp [look_cons])
        (fun hh => hf.db (id + 1) (by omega) (by omega) hh) (fun hh => hh.elim (hf.dt (id + 1) (by omega) (by omega)) (fun e => by omega)) (by simp) (by simp) (by rw [List.length_replicate]; exact Nat.mul_pos hm0 hsz0) (by simpa using hcap) f2
        (heap_alloc_new (w := { w with drawn := w.drawn + 1 })) (fun j hj => by
          rw [Nat.zero_add, Array.getElem?_append_left (by simpa using hj), Array.getElem?_toList]) (by omega) hsh
      refine wp_value hexec ?_
      rw [hd]
      simp only [List.length_replicate, List.length_nil, Nat.zero_add] at q3
      refine ⟨_, κ2, hF, q1.put hN q3, (((Step.drawn _).trans r2).trans q2).trans Step.put, put_size, ⟨fun b hb => ?_, fun k hk => ?_⟩⟩
      · rcases q4 b hb with h | h
        · exact .inl h
        · exact .inr ⟨by omega, by omega⟩
      · rcases q5 k hk with h | h
        · exact h.elim .inl fun e => .inr ⟨by omega, by omega⟩
        · exact .inr ⟨by omega, by omega⟩
    · exact h.elim
  · exact h.elim

/-- the fields' kinds: cells one behind the other, of bools, ints and strings -/
def okEq (P : Program) : List Field → Nat → Option (List Nat)
  | [], _ => some []
  | f :: fs, i => match decide (f.name ≠ "_" ∧ f.offset = i), okEq P fs (i + 1), P.underlying f.type with
    | true, some ks, some .bool => some (0 :: ks)
    | true, some ks, some (.int _) => some (1 :: ks)
    | true, some ks, some .string => some (2 :: ks)
    | _, _, _ => none

theorem run_part {t : TypeId} {xs : Array Value} {i : Nat} {v : Value} (ha : aggOf P t = some false) (h : xs[i]? = some v) : (part t xs i).run P w = .ok v w := by
  simp [part, run_isAgg' ha, h]

theorem beqL_toList (a b : List UInt8) : ((ByteArray.mk a.toArray).toList == (ByteArray.mk b.toArray).toList) = beqL a b := by
  rw [ByteArray.toList_eq, ByteArray.toList_eq]
  simp [beqL, Bool.beq_eq_decide_eq]

theorem eqF : ∀ {fs : List Field} {i dep : Nat} {ks : List Nat} {l m : List AV} {b : Bool} {xs ys : Array Value}, okEq P fs i = some ks → eqL ks l m = some b →
    (∀ j c, l[j]? = some (.sc c) → xs[i + j]? = some c.val) → (∀ j c, m[j]? = some (.sc c) → ys[i + j]? = some c.val) → (Op.eqFields (dep + 1) xs ys fs).run P w = .ok b w
  | [], i, dep, ks, l, m, b, xs, ys, hk, he, hx, hy => by
    simp only [okEq, Option.some.injEq] at hk; subst hk
    unfold eqL at he
    split at he <;> first | contradiction | skip
    cases he; simp [Op.eqFields]
  | f :: fs, i, dep, ks, l, m, b, xs, ys, hk, he, hx, hy => by
    simp only [okEq] at hk
    have nxt : ∀ {k : Nat} {ks' : List Nat} {x y : Sc} {r s : List AV} {c b' : Bool}, okEq P fs (i + 1) = some ks' → eqL ks' r s = some b' → l = .sc x :: r → m = .sc y :: s → f.name ≠ "_" → f.offset = i → aggOf P f.type = some false →
        (Op.equalIn (dep + 1) f.type x.val y.val).run P w = .ok c w → (Op.eqFields (dep + 1) xs ys (f :: fs)).run P w = .ok (c && b') w := by
      intro k ks' x y r s c b' h1 h2 h3 h4 h5 h6 h7 h8
      subst h3; subst h4
      have ih := eqF (dep := dep) h1 h2 (xs := xs) (ys := ys) (fun j c hj => by have := hx (j + 1) c (by simpa using hj); rwa [show i + (j + 1) = i + 1 + j by omega] at this)
        (fun j c hj => by have := hy (j + 1) c (by simpa using hj); rwa [show i + (j + 1) = i + 1 + j by omega] at this)
      have p1 := run_part (P := P) (w := w) h7 (by have := hx 0 x rfl; simpa using this)
      have p2 := run_part (P := P) (w := w) h7 (by have := hy 0 y rfl; simpa using this)
      simp only [Op.eqFields, if_pos h5, h6, Sem.run_bind, p1, p2, Result.andThen_ok, h8]
      cases c
      · simp
      · simpa using ih
    split at hk <;> first | (cases hk; done) | skip
    all_goals
      rename_i ks' hd hks hu
      cases hk
      obtain ⟨g1, g2⟩ := of_decide_eq_true hd
      unfold eqL at he
      split at he <;> first | contradiction | (rename_i hcx; simp at hcx; done) | skip
    · rename_i ks2 x r y s hh
      cases hh
      split at he
      · rename_i b' hb'
        cases he
        exact nxt (k := 0) hks hb' rfl rfl g1 g2 (by simp [aggOf, hu]) (run_equalIn_bool' w dep f.type x y hu)
      · cases he
    · rename_i ks2 k x r k' y s hh
      cases hh
      split at he
      · rename_i hkk
        obtain ⟨rfl, _⟩ := ikBeq_eq hkk
        split at he
        · rename_i b' hb'
          cases he
          refine nxt (k := 0) hks hb' rfl rfl g1 g2 (by simp [aggOf, hu]) ?_
          have := run_equalIn_int (P := P) w dep f.type k _ x y hu
          rw [show (x == y) = decide (x = y) from rfl] at this; exact this
        · cases he
      · cases he
    · rename_i ks2 x r y s hh
      cases hh
      split at he
      · rename_i b' hb'
        cases he
        refine nxt (k := 0) hks hb' rfl rfl g1 g2 (by simp [aggOf, hu]) ?_
        have := run_equalIn_string (P := P) w dep f.type ⟨x.toArray⟩ ⟨y.toArray⟩ hu
        rw [beqL_toList] at this
        exact this
      · cases he

theorem s_eqA (hs : RepS W0 κ σ a w) {b : BinOp} {ng : Bool} {t1 t2 : TypeId} {x y : Operand} {x' y' : Opd} {z1 z2 : Option Nat} {fs : Array Field} {ks : List Nat} (ho : o.op = .binOp b t1 x y t2) (hd : o.dst = some d) (hx : opdC z1 x = some x') (hy : opdC z2 y = some y')
    (hb : negC b = some ng) (hu : P.underlying t1 = some (.struct fs)) (hk : okEq P fs.toList 0 = some ks) (hst : P.stoodInHeld t1 = false) (hg : P.eqGuardType P.depth t1 = false) (hN : d < a.tmps.size) (h : eff call σ id (.eqA d ng ks x' y') F) : o.wp P a w (After W0 κ σ a w id F) Q := by
  have hrx := opd_rep hs hx
  have hry := opd_rep hs hy
  simp only [eff] at h
  split at h
  · rename_i l m he1 he2
    rw [he1] at hrx
    rw [he2] at hry
    obtain ⟨xs, ex, hxs, _, hx'⟩ := hrx.agg_inv
    obtain ⟨ys, ey, hys, _, hy'⟩ := hry.agg_inv
    split at h
    · rename_i v hv
      have cells : ∀ {l : List AV} {xs : Array Value}, xs.size = l.length → (∀ (j : Nat) (v : AV), l[j]? = some v → RepV κ w v (xs.getD j undef)) → ∀ j c, l[j]? = some (.sc c) → xs[0 + j]? = some c.val := by
        intro l xs hs h j c hj
        have hjl : j < xs.size := by rw [hs]; exact (List.getElem?_eq_some_iff.1 hj).1
        have := (h j _ hj).sc_inv
        rw [Array.getD_eq_getD_getElem?, Array.getElem?_eq_getElem hjl, Option.getD_some] at this
        rw [Nat.zero_add, Array.getElem?_eq_getElem hjl, this]
      have hfo : P.fieldsOf t1 = fs := by simp [Program.fieldsOf, hu]
      have hrun : (Op.equalIn 10000 t1 (.agg xs) (.agg ys)).run P w = .ok v w := by
        rw [run_equalIn_agg w 9999 t1 xs ys (by rw [hfo]; exact hu) hst, hfo]
        exact eqF (dep := 9998) hk hv (cells hxs hx') (cells hys hy')
      have hgd := run_eqGuard_agg (P := P) w b t1 x y xs ys hg
      cases b <;> simp only [negC, Option.some.injEq, reduceCtorEq] at hb <;> subst hb <;> simp only at h
      · refine wp_value (x := .bool v) (w' := w) ?_ (by rw [hd]; exact .put hs hN (.sc (.b v)) h)
        have key : (binOp .eql t1 (.agg xs) (.agg ys)).run P w = .ok (.bool v) w := by rw [run_eql_struct, hrun]; rfl
        simp [execOp, ho, ex, ey, hgd, key]
      · refine wp_value (x := .bool (!v)) (w' := w) ?_ (by rw [hd]; exact .put hs hN (.sc (.b (!v))) h)
        have key : (binOp .neq t1 (.agg xs) (.agg ys)).run P w = .ok (.bool (!v)) w := by rw [run_neq_struct, hrun]; rfl
        simp [execOp, ho, ex, ey, hgd, key]
    · exact h.elim
  · exact h.elim
end ops
end Go.Abs
