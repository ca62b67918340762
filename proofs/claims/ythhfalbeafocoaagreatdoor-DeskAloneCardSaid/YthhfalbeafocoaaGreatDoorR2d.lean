/- From a contract of the machine to a row's closing condition. -/
import Derived.Test.YthhfalbeafocoaaGreatDoorR0
import Derived.Test.YthhfalbeafocoaaGreatDoorMc
import Derived.ProofKit
import Derived.OpenShut
import Derived.Deep.DeepHandedRow
import Derived.Lib.LaidTab
import Derived.LaidMore
import Derived.ReadAgain
import Derived.Stop.Joined
namespace Go.Abs
open Go Go.RowKit Go.ChangeShapes Go.WideShapes
/-- nothing is owned -/
def κ0 (W : World) : Gh := ⟨oldI W, fun _ => False, fun _ => False, fun _ => (0, 0), fun _ => (0, 0, 0)⟩
theorem ctr_enter {P : Program} {W : World} {f : FuncId} {avs : List AV} {args : Array Value} (h : Ctr P W f avs [] (.sc (.b true)) []) (hsz : args.size = avs.length) (htok : allToks avs [] = [])
    (hv : ∀ (j : Nat) (v : AV), avs[j]? = some v → RepV (κ0 W) W v (args.getD j undef)) : Calls P f args W fun e W' => e = .returned (.bool true) ∧ Below W.heap.size W W' := by
  have nb : ∀ i l, look (initLog avs []) (.b i) ≠ some (.bx l) := by
    intro i l hh; rw [look_init_b] at hh; simp at hh
  have nt : ∀ k, look (initLog avs []) (.t k) ≠ some (.tk true) := by
    intro k hh; rw [look_init_t, htok] at hh; simp at hh
  have no : ∀ b o, ¬ Own (κ0 W) (initLog avs []) b o := by
    rintro b o (⟨i, l, hl, _⟩ | ⟨k, hk, _⟩)
    · exact nb _ _ hl
    · exact nt _ hk
  refine (h.2 (κ0 W) W args hsz (fun b hb => hb.elim) (fun k hk => hk.elim) ⟨?_, fun b l hl => absurd hl (nb _ _), fun b b' l l' hl => absurd hl (nb _ _), fun k hk => absurd hk (nt _), fun k k' hk => absurd hk (nt _), fun k i l hk => absurd hk (nt _), fun b o ho => absurd ho (no b o), fun b o hI => hI, fun b o hI => hI, Nat.le_refl _, fun b _ => rfl, rfl, rfl, rfl, rfl⟩).mono ?_
  · intro n v hn
    rw [look_init_s] at hn
    cases hj : avs[n]? with
    | none => rw [hj] at hn; cases hn
    | some u =>
      rw [hj] at hn
      simp only [Option.map_some, Option.some.injEq, Cell.av.injEq] at hn
      subst hn
      exact hv n u hj
  · rintro e W' ⟨v, κ', rfl, r, s⟩
    have hval := r.slots 0 (.sc (.b true)) (by unfold finLog; rw [look_init_s]; rfl)
    have e1 : v = .bool true := by have := hval.sc_inv; simpa [Sc.val] using this
    subst e1
    exact ⟨rfl, s.chg.os, s.chg.tape, s.chg.output, s.chg.size, fun b hb => s.chg.same b hb fun o => no b o⟩
theorem kept_below {W W' : World} (h : Below W.heap.size W W') (may : MemPlace → Prop) : W.keptBut W' may := by
  refine ⟨h.os, h.output, fun i hi => ?_⟩
  rw [h.block i hi]
  cases W.heap[i]? with
  | none => trivial
  | some o => cases o with
    | cells c t fr => exact ⟨rfl, rfl, rfl, fun _ _ => rfl⟩
    | map es clock => exact .inr ⟨rfl, rfl⟩
    | _ => rfl
section
variable {H : Type} {enc : TypeId × Value → H} {P : Program}
/-- the arguments read as they read -/
theorem args_same {W W' : World} (hb : Below W.heap.size W W') (hl : laidOutB P = true) (hm : mapsRowed P = true) (hz : ((List.range P.types.size).all fun t => match P.underlying t with | some (.slice e) => decide (0 < P.cellsOf e) | _ => true) = true)
    {ts : List TypeId} (hts : ∀ t, t ∈ ts → t < P.types.size) {vs : List Value} {ds : List (DataW H)} {ps : List MemPlace} (h : DataW.TrodAll enc P W 0 (fun _ => true) true ts vs ds ps) :
    DataW.TrodAll enc P W' 0 (fun b => decide (b < W.heap.size)) true ts vs ds ps := by
  have hlt := h.lt
  have carry : ∀ {ts : List TypeId} {vs : List Value} {ds : List (DataW H)} {ps : List MemPlace}, DataW.TrodAll enc P W 0 (fun _ => true) true ts vs ds ps → (∀ p, p ∈ ps → p.block < W.heap.size) → DataW.TrodAll enc P W' 0 (fun _ => true) true ts vs ds ps := by
    intro ts
    induction ts with
    | nil => intro vs ds ps h _; cases vs <;> cases ds <;> first | exact h | exact h.elim
    | cons t ts ih =>
      intro vs ds ps h hp
      cases vs with
      | nil => cases ds <;> exact h.elim
      | cons v vs =>
        cases ds with
        | nil => exact h.elim
        | cons d ds =>
          obtain ⟨p, q, ⟨n, h1⟩, h2, rfl⟩ := h
          refine ⟨p, q, ⟨n, DataW.trod_carry n _ _ _ h1 fun x hx => ?_⟩, ih h2 (fun x hx => hp x (List.mem_append_right _ hx)), rfl⟩
          have hx' := hp x (List.mem_append_left _ hx)
          cases x with
          | cell b o => show World.cell? _ _ = World.cell? _ _; simp only [World.cell?]; rw [hb.block b hx']
          | map b => exact hb.block b hx'
  exact (carry h hlt).respare (kids_rows hl hm) (slices_full_of P hz) hts fun p hp => by simpa using hlt p hp
/-- THE CLOSING CONDITION of a law that answers true -/
theorem law_post {fn : Func} {spec : ChangeSpec} {W W' : World} {args : Array Value} {ds : List (DataW H)} {before : List MemPlace} (hl : laidOutB P = true) (hm : mapsRowed P = true) (hz : ((List.range P.types.size).all fun t => match P.underlying t with | some (.slice e) => decide (0 < P.cellsOf e) | _ => true) = true)
    (hts : ∀ t, t ∈ fn.params.toList → t < P.types.size) {tb : TypeId} (hr : fn.resultTypes = #[tb]) (htb : P.underlying tb = some .bool) (hvars : spec.vars = []) (hspec : spec.fn H ds = { results := [.lit (.bool true)], args := ds })
    (hW : DataW.Whole enc P fn.params.toList spec.vars false W args.toList ds [] before) (hb : Below W.heap.size W W') : spec.post enc P fn false true false false W args (.bool true) W' := by
  have hW' := hW
  obtain ⟨p, q, hA, hV, rfl, _, _⟩ := hW
  refine ⟨ds, [], p ++ q, [], p, [], hW', ?_, ?_, ?_, kept_below hb _, fun h => by cases h⟩
  · rw [hr, List.append_nil, hspec]
    exact trodAll_mk1 (shut_bool htb true)
  · rw [List.append_nil, hspec]
    exact args_same hb hl hm hz hts hA
  · rw [List.append_nil, hspec, hvars]
    rfl
/-- what the list gives: a table -/
theorem tab_of_laid {W : World} {laid : List (String × DataW Unit)} {name : String} {k : IntKind} {zs : List Int} {g : Nat} {t e : TypeId} {n : Nat}
    (hg : P.globalNamed name = some g) (hty : (P.globals[g]?).map (·.type) = some t) (ht : P.underlying t = some (.array n e)) (he : P.underlying e = some (.int k)) (hce : P.cellsOf e = 1) (hct : P.cellsOf t = n)
    (hmem : (name, Lib.tabData k zs) ∈ laid) (h : laidMet P laid W) : Lib.TabIs P W name k zs := by
  obtain ⟨ps, hL, _⟩ := h
  have go : ∀ (L : List (String × DataW Unit)) (ps : List MemPlace), DataW.LaidVars P W L ps → (name, Lib.tabData k zs) ∈ L → Lib.TabIs P W name k zs := by
    intro L
    induction L with
    | nil => intro ps _ h; simp at h
    | cons x r ih =>
      intro ps h hm
      obtain ⟨g', t', cs, fuel, p, q, hg', ht', hvar, hd, hr, _⟩ := h
      rcases List.mem_cons.1 hm with rfl | hm
      · obtain rfl := Option.some.inj (hg.symm.trans hg')
        obtain rfl := Option.some.inj (hty.symm.trans ht')
        unfold Lib.TabIs
        rw [hvar, ← Lib.cells_of_tab ht he hce hct hd]
      · exact ih q hr hm
  exact go laid ps hL hmem
end
end Go.Abs
