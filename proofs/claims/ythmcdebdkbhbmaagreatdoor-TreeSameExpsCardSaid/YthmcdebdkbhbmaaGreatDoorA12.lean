/- The compiler of operations, and that each compiled operation is sound. -/
import Derived.Test.YthmcdebdkbhbmaaGreatDoorA11
namespace Go.Abs
open Go

theorem wk1_refl {v : AV} : wk1 v v := by
  cases v <;> simp [wk1]

theorem ren1_closed {v : AV} {id : Nat} (h : in1 0 0 v = true) : ren1 [] [] id v = v := by
  cases v <;> try rfl
  · rename_i z e t
    cases t <;> first | rfl | (simp [in1, Nat.blt_eq] at h)
  · simp [in1, Nat.blt_eq] at h
  · rename_i z e b n t
    cases t <;> simp only [in1] at h <;> (try split at h) <;> simp_all [Nat.blt_eq]

theorem wk1_erase {v : AV} {id : Nat} (h : in1 0 0 (erase v) = true) : wk1 v (ren1 [] [] id (erase v)) := by
  rw [ren1_closed h]
  cases v <;> simp [erase, wk1]

theorem wkL1_map {f : AV → AV} : ∀ {l : List AV}, (∀ v, v ∈ l → wk1 v (f v)) → wkL1 l (l.map f)
  | [], _ => trivial
  | x :: l, h => ⟨h x (by simp), wkL1_map fun v hv => h v (by simp [hv])⟩

theorem wk2_erase {v : AV} {id : Nat} (h : in2 0 0 (eraseA v) = true) : wk2 v (ren2 [] [] id (eraseA v)) := by
  cases v with
  | agg l =>
    have e : ren2 [] [] id (eraseA (.agg l)) = .agg (l.map fun v => ren1 [] [] id (erase v)) := by simp [eraseA, ren2]
    rw [e]
    refine wkL1_map fun v hv => wk1_erase (inL1_spec (show inL1 0 0 (l.map erase) = true from h) _ (List.mem_map_of_mem (f := erase) hv))
  | fn f c =>
    have e : ren2 [] [] id (eraseA (.fn f c)) = .fn f (c.map (ren1 [] [] id)) := rfl
    rw [e]
    refine ⟨rfl, wkL1_map fun v hv => ?_⟩
    rw [ren1_closed (inL1_spec (show inL1 0 0 c = true from h) v hv)]
    exact wk1_refl
  | sc c => exact rfl
  | sl z e t => exact ⟨rfl, rfl, .inl rfl⟩
  | ptr b o => simp [in2, eraseA, erase, in1, Nat.blt_eq] at h
  | elp c o => exact rfl
  | mx z e b n t => cases t <;> simp only [in2, eraseA, erase, in1] at h <;> (try split at h) <;> simp_all [Nat.blt_eq]
  | tup => cases h
  | bad => cases h

theorem wkL2_erase {id : Nat} : ∀ {l : List AV}, inL2 0 0 (l.map eraseA) = true → wkL2 l ((l.map eraseA).map (ren2 [] [] id))
  | [], _ => trivial
  | x :: l, h => by
    have h1 := inL2_spec h (eraseA x) (by simp)
    refine ⟨wk2_erase h1, wkL2_erase ?_⟩
    simp only [List.map_cons, inL2, h1] at h
    exact h

theorem tokN_zero {l : List AV} (h : inL2 0 0 l = true) : tokN l [] = 0 := by
  have : allToks l [] = [] := by
    cases hh : allToks l [] with
    | nil => rfl
    | cons k r =>
      have := allToks_in (args := l) (H := []) (nb := 0) (nb' := 0) (nt := 0) (fun v hv => inR_of_in2 (inL2_spec h v hv)) rfl k (by rw [hh]; simp)
      omega
  unfold tokN
  unfold allToks at this
  rw [this]; rfl

section
variable {P : Program} {W0 : World} {κ : Gh} {σ : Log} {a : Act} {w : World} {id : Nat} {F : Log → Prop} {call : CallP} {o : Oper} {Q : Exit → Act → World → Prop}

theorem callP_sound (hcall : ∀ f args H res H', call f args H res H' → Ctr P W0 f args H res H') (hs : RepS W0 κ σ a w) (hf : Fresh κ id) {d : Option Nat} {f : FuncId} {args : List AV} {vals : Array Value} (hsz : vals.size = args.length)
    (hv : ∀ (j : Nat) (v : AV), args[j]? = some v → RepV κ w v (vals.getD j undef)) (hN : ∀ d', d = some d' → d' < a.tmps.size) (h : callP call σ id d f args F) :
    callable P f = true ∧ Calls P f vals w fun e w' => ∃ v, e = .returned v ∧ After W0 κ σ a w id F (a.put d v) w' := by
  rcases h with ⟨res, hc, ⟨h1, h2⟩, hF⟩ | ⟨bs, ts, args', H, H', res, hc, ⟨n1, n2, n3, n4, n5, n6, i1, i2, i3, i4, w1, w2, w3⟩, hF⟩
  · refine callG (bs := []) (ts := []) (H := []) (H' := []) hs hf hsz hv hN (hcall _ _ _ _ _ hc) rfl rfl (Nat.le_refl _) (by simp) (by simp) (tokN_zero h1).symm h1 rfl h2 rfl (wkL2_erase h1) trivial trivial ?_
    simpa [newBoxes, offToks] using hF
  · exact callG hs hf hsz hv hN (hcall _ _ _ _ _ hc) n1 n2 (Nat.le_of_ble_eq_true n3) (Nat.le_of_ble_eq_true n4) (Nat.le_of_ble_eq_true n5) (Nat.eq_of_beq_eq_true n6) i1 i2 i3 i4 w1 w2 w3 hF

theorem run_callFunc' {f : FuncId} (h : callable P f = true) (args : Array Value) : (callFunc f args).run P w = .ok (.enter f args) w := by
  unfold callable at h
  split at h
  · rename_i fn hfn
    simp only [Bool.and_eq_true, Bool.not_eq_true'] at h
    obtain ⟨h1, h2⟩ := h
    have e1 : ¬ fn.name = "runtime.NumGoroutine" := by simpa using h1
    have e2 : ¬ fn.body = none := by
      cases hbb : fn.body <;> simp [hbb] at h2 ⊢
    simp only [callFunc, Sem.run_bind]
    have hp : (program : Go.Sem Program).run P w = .ok P w := rfl
    rw [hp]
    simp [hfn, e1, e2]
  · cases h

theorem s_call (hcall : ∀ f args H res H', call f args H res H' → Ctr P W0 f args H res H') (hs : RepS W0 κ σ a w) (hf : Fresh κ id) {c : Call} {fo : Operand} {f' : Opd} {ys : List Opd} {ts : List TypeId} {z : Option Nat}
    (ho : o.op = .call c) (hc : c.callee = .value fo) (hx : opdC z fo = some f') (hy : opdsC P c.args.toList ts = some ys) (hN : ∀ d', o.dst = some d' → d' < a.tmps.size)
    (h : eff call σ id (.call o.dst f' ys) F) : o.wp P a w (After W0 κ σ a w id F) Q := by
  have hr := opd_rep hs hx
  simp only [eff] at h
  split at h
  · rename_i f caps he
    rw [he] at hr
    obtain ⟨vs, e, hvs, hcv⟩ := hr.fn_inv
    obtain ⟨g1, g2⟩ := opdsC_spec hy
    have hlen : (c.args.map a.eval).size = (evs σ ys).length := by rw [Array.size_map, evs_length, ← g1, Array.length_toList]
    obtain ⟨h1, h2⟩ := callP_sound (P := P) (vals := c.args.map a.eval ++ vs) hcall hs hf (by rw [Array.size_append, List.length_append, hlen, hvs]) (by
      intro j v hj
      rw [Array.getD_eq_getD_getElem?]
      by_cases hjl : j < (evs σ ys).length
      · rw [List.getElem?_append_left hjl] at hj
        have := evs_rep hs g2 g1 j v hj
        rw [Array.getElem?_append_left (by rw [hlen]; exact hjl)]
        rw [Array.getD_eq_getD_getElem?] at this
        simpa using this
      · rw [List.getElem?_append_right (by omega)] at hj
        have := hcv _ v hj
        rw [Array.getElem?_append_right (by rw [hlen]; omega), hlen]
        rwa [Array.getD_eq_getD_getElem?] at this) hN h
    unfold Oper.wp
    have hrun : (execOp a.eval o).run P w = .ok (.enter f (c.args.map a.eval ++ vs)) w := by
      simp only [execOp, ho, resolve, hc, e, Deferred.ofValue, Sem.run_bind, Sem.run_pure, Result.andThen_ok, invoke, Array.empty_append]
      exact run_callFunc' h1 _
    rw [hrun]
    refine h2.mono ?_
    rintro e' w' ⟨v, rfl, hA⟩
    exact hA
  · exact h.elim

def compO (P : Program) (o : Oper) : Option AOp :=
  match o.op, o.dst with
  | .move x, some d => match opdC (elemSz P o.type) x with | some x => some (.mv d x) | none => none
  | .assign x, some d => match opdC (elemSz P o.type) x with | some x => some (.mv d x) | none => none
  | .pick c x y, some d => match opdC none c, opdC (elemSz P o.type) x, opdC (elemSz P o.type) y with
    | some c, some x, some y => some (.pick d c x y)
    | _, _, _ => none
  | .box t x, some d => match opdC (elemSz P t) x with | some x => some (.box d x) | none => none
  | .alloc t, some d => match zcells P t with | some l => some (.alloc d l) | none => none
  | .build t ps, some d => match P.underlying t with
    | some (.struct fs) => match sizesOK P fs, zcells P t, bldC P fs ps.toList with
      | true, some z, some l => some (.build d z l)
      | _, _, _ => none
    | _ => none
  | .buildSlice t n ps, some d => match P.underlying t with
    | some (.slice e) => match P.info? e with
      | some ie => match ie.zero, decide (n * ie.size ≤ 2 ^ 24 ∧ 0 < n ∧ 0 < ie.size), partsC (elemSz P e) 0 ps.toList with
        | some _, true, some xs => if xs.length = n then some (.bsl d ie.size xs) else none
        | _, _, _ => none
      | none => none
    | _ => none
  | .load t x, some d => match aggOf P t, (P.info? t).map (·.size), opdC none x with
    | some ag, some n, some x => some (.ld d n ag x)
    | _, _, _ => none
  | .store t x y, none => match (P.info? t).map (·.size), opdC none x, opdC (elemSz P t) y with
    | some n, some x, some y => some (.st x n y)
    | _, _, _ => none
  | .nilCheck x, some d => match opdC none x with | some x => some (.nc d x) | none => none
  | .binOp b t1 x y _, some d => match opdC none x, opdC none y with
    | some x, some y => match P.underlying t1 with
      | some .bool => match negC b with | some ng => some (.binB d ng x y) | none => none
      | _ => match compB b with | some b => some (.bin d b x y) | none => none
    | _, _ => none
  | .unOp .not _ x, some d => match opdC none x with | some x => some (.no d x) | none => none
  | .fieldAddr t x i, some d => match P.underlying t with
    | some (.struct fs) => match fs[i]? with
      | some f => match (P.info? f.type).map (·.size), opdC none x with
        | some n, some x => if n = 0 then none else some (.fa d x f.offset)
        | _, _ => none
      | none => none
    | _ => none
  | .field t x i, some d => match P.underlying t with
    | some (.struct fs) => match fs[i]? with
      | some f => match (P.info? f.type).map (·.size), aggOf P f.type, opdC none x with
        | some n, some ag, some x => some (.fld d x f.offset n ag)
        | _, _, _ => none
      | none => none
    | _ => none
  | .indexAddr t x y, some d => match P.underlying t with
    | some (.slice e) => match (P.info? e).map (·.size), opdC none x, opdC none y with
      | some n, some x, some y => some (.ia d n x y)
      | _, _, _ => none
    | _ => none
  | .index t x y, some d => match P.underlying t with
    | some .string => match opdC none x, opdC none y with
      | some x, some y => some (.ix d x y)
      | _, _ => none
    | _ => none
  | .slice t x lo hi mx, some d => match P.underlying t with
    | some .string => match opdC none x, optC lo, optC hi, mx with
      | some x, some lo, some hi, none => some (.slS d x lo hi)
      | _, _, _, _ => none
    | some (.slice e) => match (P.info? e).map (·.size), opdC none x, optC lo with
      | some n, some x, some lo' => match optC hi, optC mx with
        | some hi', some mx' => if mx.isSome = true ∧ hi.isSome = false then none else some (.slL d n x lo' hi' mx')
        | _, _ => none
      | _, _, _ => none
    | _ => none
  | .convert t1 t2 x, some d => match P.underlying t1, P.underlying t2, opdC none x with
    | some (.int _), some (.int k), some x => some (.cvi d k x)
    | _, _, _ => none
  | .extract x i, some d => match opdC none x with | some x => some (.ext d x i) | none => none
  | .makeFunc (.func f) ⟨[]⟩ cs, some d => match opdsC P cs.toList [] with | some ys => some (.mkf d f ys) | none => none
  | .call c, dst => match c.callee with
    | .value f => match opdC none f, opdsC P c.args.toList c.argTypes.toList with
      | some f, some ys => some (.call dst f ys)
      | _, _ => none
    | .builtin .len => match dst, c with
      | some d, { callee := _, args := ⟨[x]⟩, argTypes := ⟨[t]⟩ } => match P.underlying t, opdC none x with
        | some .string, some x => some (.lenS d x)
        | some (.slice _), some x => some (.len d x)
        | _, _ => none
      | _, _ => none
    | .builtin .append => match dst, c with
      | some d, { callee := _, args := ⟨[x, y]⟩, argTypes := ⟨[t, t']⟩ } => if t = t' then match P.underlying t with
        | some (.slice e) => match P.info? e with
          | some ie => match ie.zero, opdC (elemSz P t) x, opdC (elemSz P t) y with
            | some z, some x, some y => if z.cells.size = ie.size ∧ 0 < ie.size then some (.app d ie.size ie.bytes x y) else none
            | _, _, _ => none
          | none => none
        | _ => none
        else none
      | _, _ => none
    | .builtin .max => match dst, c with
      | some d, { callee := _, args := ⟨[x, y]⟩, argTypes := _ } => match opdC none x, opdC none y with
        | some x, some y => some (.mx d x y)
        | _, _ => none
      | _, _ => none
    | _ => none
  | _, _ => none

theorem eff_sound (hcall : ∀ f args H res H', call f args H res H' → Ctr P W0 f args H res H') (hs : RepS W0 κ σ a w) (hf : Fresh κ id) {g : AOp} (hg : compO P o = some g) (hN : ∀ d', o.dst = some d' → d' < a.tmps.size)
    (h : eff call σ id g F) : o.wp P a w (After W0 κ σ a w id F) Q := by
  unfold compO at hg
  split at hg
  · rename_i x d ho hd
    split at hg <;> first | cases hg | skip
    exact s_mv hs (.inl ho) hd (by assumption) (hN d hd) h
  · rename_i x d ho hd
    split at hg <;> first | cases hg | skip
    exact s_mv hs (.inr ho) hd (by assumption) (hN d hd) h
  · rename_i c x y d ho hd
    split at hg <;> first | cases hg | skip
    exact s_pick hs ho hd (by assumption) (by assumption) (by assumption) (hN d hd) h
  · rename_i t x d ho hd
    split at hg <;> first | cases hg | skip
    exact s_box hs hf ho hd (by assumption) (hN d hd) h
  · rename_i t d ho hd
    split at hg <;> first | cases hg | skip
    exact s_alloc hs hf ho hd (by assumption) (hN d hd) h
  · rename_i t ps d ho hd
    split at hg <;> first | cases hg | skip
    rename_i fs hu
    split at hg <;> first | cases hg | skip
    exact s_build hs ho hd hu (by assumption) (by assumption) (by assumption) (hN d hd) h
  · rename_i t n ps d ho hd
    split at hg <;> first | cases hg | skip
    rename_i e hu
    split at hg <;> first | cases hg | skip
    rename_i ie hie
    split at hg <;> first | cases hg | skip
    rename_i zv xs hz hdec hps
    split at hg <;> first | cases hg | skip
    rename_i hlen
    obtain ⟨h1, h2, h3⟩ := of_decide_eq_true hdec
    exact s_bsl hs ho hd hu hie hz rfl h1 h2 h3 hps hlen (hN d hd) h
  · rename_i t x d ho hd
    split at hg <;> first | cases hg | skip
    exact s_ld hs ho hd (by assumption) (by assumption) (by assumption) (hN d hd) h
  · rename_i t x y ho hd
    split at hg <;> first | cases hg | skip
    exact s_st hs ho hd (by assumption) (by assumption) (by assumption) h
  · rename_i x d ho hd
    split at hg <;> first | cases hg | skip
    exact s_nc hs ho hd (by assumption) (hN d hd) h
  · rename_i b t1 x y t2 d ho hd
    split at hg <;> first | cases hg | skip
    split at hg
    · split at hg <;> first | cases hg | skip
      exact s_binB hs ho hd (by assumption) (by assumption) (by assumption) (by assumption) (hN d hd) h
    · split at hg <;> first | cases hg | skip
      exact s_bin hs ho hd (by assumption) (by assumption) (by assumption) (hN d hd) h
  · rename_i t x d ho hd
    split at hg <;> first | cases hg | skip
    exact s_no hs ho hd (by assumption) (hN d hd) h
  · rename_i t x i d ho hd
    split at hg <;> first | cases hg | skip
    rename_i fs hu
    split at hg <;> first | cases hg | skip
    rename_i f hfi
    split at hg <;> first | cases hg | skip
    split at hg <;> first | cases hg | skip
    exact s_fa hs ho hd (by assumption) hu hfi (by assumption) (by assumption) (hN d hd) h
  · rename_i t x i d ho hd
    split at hg <;> first | cases hg | skip
    rename_i fs hu
    split at hg <;> first | cases hg | skip
    rename_i f hfi
    split at hg <;> first | cases hg | skip
    exact s_fld hs ho hd (by assumption) hu hfi (by assumption) (by assumption) (hN d hd) h
  · rename_i t x y d ho hd
    split at hg <;> first | cases hg | skip
    rename_i e hu
    split at hg <;> first | cases hg | skip
    exact s_ia hs ho hd (by assumption) (by assumption) hu (by assumption) (hN d hd) h
  · rename_i t x y d ho hd
    split at hg <;> first | cases hg | skip
    rename_i hu
    split at hg <;> first | cases hg | skip
    exact s_ix hs ho hd (by assumption) (by assumption) hu (hN d hd) h
  · rename_i t x lo hi mx d ho hd
    split at hg <;> first | cases hg | skip
    · rename_i hu
      split at hg <;> first | cases hg | skip
      exact s_slS hs ho hd (by assumption) (by assumption) (by assumption) hu (hN d hd) h
    · rename_i e hu
      split at hg <;> first | cases hg | skip
      split at hg <;> first | cases hg | skip
      split at hg <;> first | cases hg | skip
      rename_i hm
      exact s_slL hs hf ho hd (by assumption) (by assumption) (by assumption) (by assumption) (fun hh => by
        cases hi with
        | some _ => rfl
        | none => exact absurd ⟨hh, rfl⟩ hm) hu (by assumption) (hN d hd) h
  · rename_i t1 t2 x d ho hd
    split at hg <;> first | cases hg | skip
    exact s_cvi hs ho hd (by assumption) (by assumption) (by assumption) (hN d hd) h
  · rename_i x i d ho hd
    split at hg <;> first | cases hg | skip
    exact s_ext hs ho hd (by assumption) (hN d hd) h
  · rename_i f cs d ho hd
    split at hg <;> first | cases hg | skip
    exact s_mkf hs ho hd (by assumption) (hN d hd) h
  · rename_i c ho
    split at hg
    · rename_i fo hc
      split at hg <;> first | cases hg | skip
      exact s_call hcall hs hf ho hc (by assumption) (by assumption) hN h
    · rename_i hc
      split at hg <;> first | cases hg | skip
      rename_i d cal x t hd
      simp only at hc
      subst hc
      split at hg <;> first | cases hg | skip
      · exact s_lenS hs ho hd (by assumption) (by assumption) (hN d hd) h
      · exact s_len hs ho hd (by assumption) (by assumption) (hN d hd) h
    · rename_i hc
      split at hg <;> first | cases hg | skip
      rename_i d cal x y t t' hd
      simp only at hc
      subst hc
      split at hg <;> first | cases hg | skip
      rename_i htt
      subst htt
      split at hg <;> first | cases hg | skip
      rename_i e hu
      split at hg <;> first | cases hg | skip
      rename_i ie hie
      split at hg <;> first | cases hg | skip
      rename_i zv x' y' hz hx hy
      split at hg <;> first | cases hg | skip
      rename_i hh
      exact s_app hs hf ho hd hx hy hu hie rfl rfl hz hh.1 hh.2 (hN d hd) h
    · rename_i hc
      split at hg <;> first | cases hg | skip
      rename_i d cal x y tss hd
      simp only at hc
      subst hc
      split at hg <;> first | cases hg | skip
      exact s_mx hs ho hd (by assumption) (by assumption) (hN d hd) h
    · cases hg
  · cases hg
end
end Go.Abs
