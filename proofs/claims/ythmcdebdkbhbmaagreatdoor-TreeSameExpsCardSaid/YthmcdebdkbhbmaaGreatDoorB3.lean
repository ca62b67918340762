/- The compiler of operations, annotated: which slices are made open, what the tables hold. -/
import Derived.Test.YthmcdebdkbhbmaaGreatDoorA12
import Derived.Test.YthmcdebdkbhbmaaGreatDoorB8
namespace Go.Abs
open Go

structure Ann where
  opn : List Nat
  gl : Nat → Option (List Data)
  frz : Nat → List Nat
  cut : Nat → Bool := fun _ => false

def special (P : Program) (an : Ann) (o : Oper) : Option AOp :=
  match o.op, o.dst with
  | .makeSlice t (.tmp i) (.tmp j), some d => match Nat.beq i j, P.underlying t, an.opn.contains d with
    | true, some (.slice e), true => match P.info? e, zcells P e with
      | some ie, some zl => if zl.length = ie.size then some (.mk d ie.size ie.bytes zl (.t i)) else none
      | _, _ => none
    | true, some (.slice e), false => match P.info? e, zcells P e with
      | some ie, some zl => match cellsD zl with
        | some zd => if zl.length = ie.size then some (.mkF d ie.size ie.bytes zd (.t i)) else none
        | none => none
      | _, _ => none
    | _, _, _ => none
  | .indexAddr t (.global g) y, some d => match P.underlying t, an.gl g, opdC none y with
    | some (.array n e), some cells, some y => match (P.info? e).map (·.size) with
      | some sz => if cells.length = n * sz ∧ 0 < sz then some (.iaG d cells sz y) else none
      | none => none
    | _, _, _ => none
  | .unOp .xor _ x, some d => match opdC none x with
    | some x => some (.bin d .xor (.c (.sc (.i .i64 (-1)))) x)
    | none => none
  | .call { callee := .builtin .cap, args := ⟨[x]⟩, argTypes := ⟨[t]⟩ }, some d => match P.underlying t, opdC none x with
    | some (.slice _), some x => some (.cap d x)
    | _, _ => none
  | .call { callee := .builtin .append, args := ⟨[x, y]⟩, argTypes := ⟨[t, t']⟩ }, some d => match P.underlying t, P.underlying t' with
    | some (.slice e), some (.int _) => match P.info? e, zcells P e, opdC (elemSz P t) x, opdC none y with
      | some ie, some zl, some x, some y => match cellsD zl with
        | some zd => if zl.length = ie.size ∧ 0 < ie.size then some (.appZ d ie.size ie.bytes zd x y) else none
        | none => none
      | _, _, _, _ => none
    | some (.slice e), _ => match an.opn.contains d with
      | true => if t = t' then match P.info? e with
          | some ie => match ie.zero, opdC (elemSz P t) x, opdC (elemSz P t) y with
            | some z, some x, some y => if z.cells.size = ie.size ∧ 0 < ie.size then some (.appM d ie.size ie.bytes x y) else none
            | _, _, _ => none
          | none => none
        else none
      | false => none
    | _, _ => none
  | .binOp b t x y _, some d => match P.underlying t with
    | some (.struct fs) => match negC b, opdC none x, opdC none y, okEq P fs.toList 0, P.stoodInHeld t, P.eqGuardType P.depth t with
      | some ng, some x, some y, some ks, false, false => some (.eqA d ng ks x y)
      | _, _, _, _, _, _ => none
    | _ => none
  | _, _ => none

def compO2 (P : Program) (an : Ann) (o : Oper) : Option AOp := match special P an o with
  | some g => some g
  | none => compO P o

section
variable {P : Program} {W0 : World} {κ : Gh} {σ : Log} {a : Act} {w : World} {id : Nat} {F : Log → Prop} {call : CallP} {o : Oper} {Q : Exit → Act → World → Prop}

theorem eff_sound2 {an : Ann} (hG : ∀ g cells, an.gl g = some cells → GlobOK W0 g cells) (hcall : ∀ f args H res H', call f args H res H' → Ctr P W0 f args H res H') (hs : RepS W0 κ σ a w) (hf : Fresh κ id) {g : AOp} (hg : compO2 P an o = some g) (hN : ∀ d', o.dst = some d' → d' < a.tmps.size)
    (h : eff call σ id g F) : o.wp P a w (After W0 κ σ a w id F) Q := by
  unfold compO2 at hg
  split at hg
  · rename_i g' hsp
    cases hg
    unfold special at hsp
    split at hsp
    · rename_i t i j d ho hd
      split at hsp <;> first | cases hsp | skip
      rename_i e hij hu hop
      split at hsp <;> first | cases hsp | skip
      rename_i ie zl hie hzl
      split at hsp <;> first | cases hsp | skip
      rename_i hlen
      have hij' := Nat.eq_of_beq_eq_true hij
      subst hij'
      obtain ⟨i', v, h1, h2, h3⟩ := zcells_ok hzl
      rw [hie] at h1
      cases h1
      exact s_mk (z := none) hs hf ho hd rfl hu hie h2 rfl rfl h3 (by rw [← hlen]; exact (h3 κ w).1) (hN d hd) h
      rename_i e hij hu hop
      split at hsp <;> first | cases hsp | skip
      rename_i ie zl hie hzl
      split at hsp <;> first | cases hsp | skip
      rename_i zd hzd
      split at hsp <;> first | cases hsp | skip
      rename_i hlen
      have hij' := Nat.eq_of_beq_eq_true hij
      subst hij'
      obtain ⟨i', v, h1, h2, h3⟩ := zcells_ok hzl
      rw [hie] at h1
      cases h1
      exact s_mkF (z := none) hs ho hd rfl hu hie h2 rfl rfl h3 (by rw [← hlen]; exact (h3 κ w).1) hzd (hN d hd) h
    · rename_i t gl y d ho hd
      split at hsp <;> first | cases hsp | skip
      rename_i n e cells y' hu hgl hy
      split at hsp <;> first | cases hsp | skip
      rename_i sz hsz
      split at hsp <;> first | cases hsp | skip
      rename_i hh
      exact s_iaG hs ho hd hy hu hsz hh.1 hh.2 (hG _ _ hgl) (hN d hd) h
    · rename_i t x d ho hd
      split at hsp <;> first | cases hsp | skip
      rename_i x' hx
      exact s_inv hs ho hd hx (hN d hd) h
    · rename_i x t d ho hd
      split at hsp <;> first | cases hsp | skip
      rename_i e x' hu hx
      exact s_cap hs ho hd hx hu (hN d hd) h
    · rename_i x y t t' d ho hd
      split at hsp <;> first | (cases hsp; done) | skip
      · rename_i e kn hu hun
        split at hsp <;> first | (cases hsp; done) | skip
        rename_i ie zl x' y' hie hzl hx hy
        split at hsp <;> first | (cases hsp; done) | skip
        rename_i zd hzd
        split at hsp <;> first | (cases hsp; done) | skip
        rename_i hh
        cases hsp
        obtain ⟨i', v, h1, h2, h3⟩ := zcells_ok hzl
        rw [hie] at h1
        cases h1
        exact s_appZ hs hf ho hd hx hy hu hun hie h2 rfl rfl h3 (by rw [← hh.1]; exact (h3 κ w).1) hzd hh.2 (hN d hd) h
      · rename_i e hu _
        split at hsp <;> first | (cases hsp; done) | skip
        split at hsp <;> first | (cases hsp; done) | skip
        rename_i htt
        subst htt
        split at hsp <;> first | (cases hsp; done) | skip
        rename_i ie hie
        split at hsp <;> first | (cases hsp; done) | skip
        rename_i zv x' y' hz hx hy
        split at hsp <;> first | (cases hsp; done) | skip
        rename_i hh
        cases hsp
        exact s_appM hs hf ho hd hx hy hu hie rfl rfl hz hh.1 hh.2 (hN d hd) h
    · rename_i b t x y t2 d ho hd
      split at hsp <;> first | (cases hsp; done) | skip
      rename_i fs hu
      split at hsp <;> first | (cases hsp; done) | skip
      rename_i ng x' y' ks h1 h2 h3 h4 h5 h6
      cases hsp
      exact s_eqA hs ho hd h2 h3 h1 hu h4 h5 h6 (hN d hd) h
    · cases hsp
  · exact eff_sound hcall hs hf hg hN h
end
end Go.Abs
