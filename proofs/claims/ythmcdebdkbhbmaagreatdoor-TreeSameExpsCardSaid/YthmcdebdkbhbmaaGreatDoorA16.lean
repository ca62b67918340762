/- A region that draws its order. -/
import Derived.Test.YthmcdebdkbhbmaaGreatDoorA15
namespace Go.Abs
open Go

section
variable {P : Program} {W0 : World} {call : CallP} {Q : Exit → Act → World → Prop} {N : Nat} {ops : Array Oper} {an : Ann}

structure Ids (κ : Gh) (id n : Nat) (S : Nat → Bool) : Prop where
  db : ∀ b, κ.Db b → b < id ∨ ∃ j, j < n ∧ S j = true ∧ id + 100 * j ≤ b ∧ b < id + 100 * j + 100
  dt : ∀ b, κ.Dt b → b < id ∨ ∃ j, j < n ∧ S j = true ∧ id + 100 * j ≤ b ∧ b < id + 100 * j + 100

theorem Ids.fresh {κ : Gh} {id n i : Nat} {S : Nat → Bool} (h : Ids κ id n S) (hid : 1000 ≤ id) (hS : S i = false) : Fresh κ (id + 100 * i) := by
  refine ⟨by omega, fun b h1 h2 hb => ?_, fun b h1 h2 hb => ?_⟩
  · rcases h.db b hb with q | ⟨j, _, q1, q2, q3⟩
    · omega
    · have : j = i := by omega
      subst this; rw [hS] at q1; cases q1
  · rcases h.dt b hb with q | ⟨j, _, q1, q2, q3⟩
    · omega
    · have : j = i := by omega
      subst this; rw [hS] at q1; cases q1

theorem Ids.grow {κ κ' : Gh} {id n i : Nat} {S : Nat → Bool} (h : Ids κ id n S) (hi : i < n) (g : Grow κ κ' (id + 100 * i)) : Ids κ' id n (fun k => S k || decide (k = i)) := by
  refine ⟨fun b hb => ?_, fun b hb => ?_⟩
  · rcases g.db b hb with q | q
    · rcases h.db b q with q | ⟨j, q0, q1, q2, q3⟩
      · exact .inl q
      · exact .inr ⟨j, q0, by simp [q1], q2, q3⟩
    · exact .inr ⟨i, hi, by simp, q.1, q.2⟩
  · rcases g.dt b hb with q | q
    · rcases h.dt b q with q | ⟨j, q0, q1, q2, q3⟩
      · exact .inl q
      · exact .inr ⟨j, q0, by simp [q1], q2, q3⟩
    · exact .inr ⟨i, hi, by simp, q.1, q.2⟩

theorem draw_sound (hG : ∀ g cells, an.gl g = some cells → GlobOK W0 g cells) (hcall : ∀ f args H res H', call f args H res H' → Ctr P W0 f args H res H') {gs : List GOp} (hgs : compL P an N ops ops.toList = some gs) (hE : edgesOK ops.toList 0 = true)
    {κ : Gh} {σ : Log} {a : Act} {w : World} {id : Nat} {K : Log → Prop} (hs : RepS W0 κ σ a w) (hb : Bel κ id) (hN : a.tmps.size = N) (h : aopsD call gs (masks ops.toList []) 0 id σ [] K)
    (hQ : ∀ σ' κ' a' w', K σ' → RepS W0 κ' σ' a' w' → Step κ σ w κ' σ' w' → a'.tmps.size = N → Bel κ' (id + 100 * gs.length) → Q .normal a' w') :
    wpAny P .any ops Q ops.size (Array.replicate ops.size false) a w := by
  obtain ⟨ds, htr⟩ := aopsD_tr h
  obtain ⟨⟨σf, hσf, hK⟩, hex⟩ := TrOK_spec htr
  obtain ⟨hlen, hcomp⟩ := compL_spec hgs
  have hn : gs.length = ops.size := by rw [hlen, Array.length_toList]
  have hop : ∀ i : Nat, ops.toList[i]? = ops[i]? := fun i => Array.getElem?_toList
  have hEd : ∀ (i : Nat) (o : Oper) (e : Edge), ops[i]? = some o → e ∈ o.after.toList → Region.binds .any e = true → e.on < i := fun i o e h1 h2 h3 => by
    have := edgesOK_spec hE i o e (by rw [hop]; exact h1) h2 h3
    omega
  have hgood := masks_good hEd ops.toList [] (fun i => by rw [List.length_nil, Nat.zero_add, hop]) (fun j m hj => by cases hj)
  let δ := dL ds
  let R := rL ds
  have hmask : ∀ i, i < ops.size → ∃ m, (masks ops.toList [])[i]? = some m := fun i hi => ⟨_, List.getElem?_eq_getElem (by rw [masks_length]; simpa using hi)⟩
  have hwk : ∀ {loc k}, wr δ loc k = true ↔ loc ∈ keysL (δ k) := by
    intro loc k
    rw [mem_keys]; unfold wr
    cases look (δ k) loc <;> simp
  -- two that don't wait for each other don't meddle
  have hconf : ∀ i k m, i < k → k < ops.size → (masks ops.toList [])[k]? = some m → bitOf m i = true ∨ ((∀ loc, wr δ loc i = true → loc ∉ R k) ∧ (∀ loc, wr δ loc i = true → wr δ loc k = false) ∧ ∀ loc, loc ∈ R i → wr δ loc k = false) := by
    intro i k m hik hk hm
    obtain ⟨_, p, fs', k1, k2, _, k4⟩ := hex k gs[k] (List.getElem?_eq_getElem (by omega))
    rw [hm] at k1; cases k1
    have hmem := k4 i hik
    rw [Nat.zero_add] at hmem
    rcases confl_false k2 _ _ _ hmem with hh | ⟨h1, h2, h3⟩
    · exact .inl hh
    · refine .inr ⟨fun loc hw => meets_false h1 loc (hwk.1 hw), fun loc hw => ?_, fun loc hr => ?_⟩
      · cases hh : wr δ loc k with
        | false => rfl
        | true => exact absurd (hwk.1 hh) (meets_false h2 loc (hwk.1 hw))
      · cases hh : wr δ loc k with
        | false => rfl
        | true => exact absurd (hwk.1 hh) (meets_false h3 loc hr)
  -- an operation that isn't in the set: nobody behind it that meddles is in the set
  have hback : ∀ (S : Nat → Bool) (i k : Nat), Closed ops (fun j => S j = true) → S i = false → i < k → k < ops.size → S k = true → (∀ loc, wr δ loc i = true → wr δ loc k = false) ∧ ∀ loc, loc ∈ R i → wr δ loc k = false := by
    intro S i k hS hi hik hk hSk
    obtain ⟨m, hm⟩ := hmask k hk
    rcases hconf i k m hik hk hm with hh | ⟨_, h2, h3⟩
    · have := hgood k m hm i hh _ hS fun o e ho he hb => hS k o e hSk ho he hb
      have this' : S i = true := this
      rw [hi] at this'; cases this'
    · exact ⟨h2, h3⟩
  have main : ∀ (fuel : Nat) (listed : Array Bool) (κ' : Gh) (a' : Act) (w' : World), listed.size = ops.size → Closed ops (fun j => listed.getD j false = true) →
      ((List.range ops.size).filter fun k => !listed.getD k false).length ≤ fuel → RepS W0 κ' (runS δ σ ops.size fun k => listed.getD k false) a' w' →
      Step κ σ w κ' (runS δ σ ops.size fun k => listed.getD k false) w' → a'.tmps.size = N → Ids κ' id ops.size (fun k => listed.getD k false) → wpAny P .any ops Q fuel listed a' w' := by
    intro fuel
    have done : ∀ (listed : Array Bool) (κ' : Gh) (a' : Act) (w' : World), (∀ k, k < ops.size → listed.getD k false = true) → RepS W0 κ' (runS δ σ ops.size fun k => listed.getD k false) a' w' →
        Step κ σ w κ' (runS δ σ ops.size fun k => listed.getD k false) w' → a'.tmps.size = N → Ids κ' id ops.size (fun k => listed.getD k false) → Q .normal a' w' := by
      intro listed κ' a' w' hall r s n ids
      have e : (List.range ops.size).filter (fun k => listed.getD k false) = List.range ops.size := List.filter_eq_self.2 fun k hk => hall k (List.mem_range.1 hk)
      have e2 : runS δ σ ops.size (fun k => listed.getD k false) = lay δ σ (List.range gs.length) := by unfold runS; rw [e, hn]
      rw [e2] at r s
      refine hQ σf κ' a' w' hK (r.same hσf) (Step.same (fun _ => rfl) hσf s) n ⟨by have := hb.ge; omega, fun b hbb => ?_, fun b hbb => ?_⟩
      · rcases ids.db b hbb with q | ⟨j, q0, _, q2, q3⟩
        · omega
        · rw [hn]; omega
      · rcases ids.dt b hbb with q | ⟨j, q0, _, q2, q3⟩
        · omega
        · rw [hn]; omega
    induction fuel with
    | zero =>
      intro listed κ' a' w' hsz hS hf r s n ids
      have hall : ∀ k, k < ops.size → listed.getD k false = true := by
        intro k hk
        cases hh : listed.getD k false with
        | true => rfl
        | false =>
          have : k ∈ ((List.range ops.size).filter fun k => !listed.getD k false) := List.mem_filter.2 ⟨List.mem_range.2 hk, by simp only [hh]; rfl⟩
          have := List.length_pos_of_mem this
          omega
      refine ⟨?_, done listed κ' a' w' hall r s n ids⟩
      unfold Region.ready
      rw [List.filter_eq_nil_iff]
      intro k hk
      have hk' := List.mem_range.1 hk
      have := hall k hk'
      have e : listed.getD k true = true := by
        rw [Array.getD_eq_getD_getElem?] at this ⊢
        rw [Array.getElem?_eq_getElem (by omega)] at this ⊢
        exact this
      simp [e]
    | succ fuel ih =>
      intro listed κ' a' w' hsz hS hf r s n ids
      have gd : ∀ k, k < ops.size → listed.getD k true = listed.getD k false := by
        intro k hk
        rw [Array.getD_eq_getD_getElem?, Array.getD_eq_getD_getElem?, Array.getElem?_eq_getElem (by omega)]; rfl
      refine ⟨fun hr => ?_, fun i hi => ?_⟩
      · refine done listed κ' a' w' ?_ r s n ids
        intro k
        induction k using Nat.strongRecOn with
        | _ k ihk =>
          intro hk
          cases hh : listed.getD k false with
          | true => rfl
          | false =>
            have : k ∈ Region.ready .any ops listed := by
              unfold Region.ready
              refine List.mem_filter.2 ⟨List.mem_range.2 hk, ?_⟩
              rw [gd k hk, hh, Array.getElem?_eq_getElem hk]
              simp only [Bool.not_false, Bool.true_and, Option.map_some, Option.getD_some]
              rw [Array.all_eq_true]
              intro j hj
              cases hb' : Region.binds .any (ops[k].after[j]) with
              | false => rfl
              | true =>
                have hlt := hEd k ops[k] _ (Array.getElem?_eq_getElem hk) (by simp) hb'
                simpa using ihk _ hlt (by omega)
            rw [hr] at this; cases this
      · unfold Region.ready at hi
        obtain ⟨hi1, hi2⟩ := List.mem_filter.1 hi
        have hin := List.mem_range.1 hi1
        rw [Bool.and_eq_true, gd i hin] at hi2
        have hSi : listed.getD i false = false := by simpa using hi2.1
        have hedge : ∀ (o : Oper) (e : Edge), ops[i]? = some o → e ∈ o.after.toList → Region.binds .any e = true → listed.getD e.on false = true := by
          intro o e ho he hb'
          have h2 := hi2.2
          rw [ho] at h2
          simp only [Option.map_some, Option.getD_some] at h2
          rw [← Array.all_toList] at h2
          have := List.all_eq_true.1 h2 e he
          rw [hb'] at this
          simpa using this
        have ho : ops[i]? = some ops[i] := Array.getElem?_eq_getElem hin
        obtain ⟨g, hg, hcg⟩ := hcomp i ops[i] (by rw [hop]; exact ho)
        obtain ⟨hexec, _⟩ := hex i g hg
        obtain ⟨c1, c2, c3, _⟩ := compG_spec hcg
        have agree : ∀ loc, loc ∈ R i ∨ loc ∈ keysL (δ i) → look (runS δ σ ops.size fun k => listed.getD k false) loc = look (lay δ σ (List.range i)) loc := by
          intro loc hloc
          rw [← runS_lt (Nat.le_of_lt hin)]
          refine look_runS_congr fun k hk hw => ?_
          by_cases h1 : k < i
          · have : listed.getD k false = true := by
              obtain ⟨m, hm⟩ := hmask i hin
              rcases hconf k i m h1 hin hm with hh | ⟨q1, q2, _⟩
              · exact hgood i m hm k hh _ hS hedge
              · rcases hloc with hl | hl
                · exact absurd hl (q1 loc hw)
                · have := q2 loc hw; rw [hwk.2 hl] at this; cases this
            simp only [this, h1, decide_true]
          · by_cases h2 : k = i
            · subst h2; rw [hSi]; simp
            · have : listed.getD k false = false := by
                cases hh : listed.getD k false with
                | false => rfl
                | true =>
                  obtain ⟨q1, q2⟩ := hback _ i k hS hSi (by omega) hk hh
                  rcases hloc with hl | hl
                  · have := q2 loc hl; rw [hw] at this; cases this
                  · have := q1 loc (hwk.2 hl); rw [hw] at this; cases this
              simp only [this, h1, decide_false]
        have hS' : (fun k => (listed.setIfInBounds i true).getD k false) = fun k => listed.getD k false || decide (k = i) := by
          funext k
          rw [Array.getD_eq_getD_getElem?, Array.getD_eq_getD_getElem?, Array.getElem?_setIfInBounds]
          by_cases hk : i = k
          · subst hk; simp [hsz, hin]
          · have : ¬ k = i := fun e => hk e.symm
            simp [hk, this]
        have hadd := runS_add (δ := δ) (σ := σ) (n := ops.size) hin (S := fun k => listed.getD k false) (by
          intro loc k hk hSk hwi hwk'
          by_cases h1 : k < i
          · exact h1
          · by_cases h2 : k = i
            · subst h2
              have hSk' : listed.getD k false = true := hSk
              rw [hSi] at hSk'; cases hSk'
            · have := (hback _ i k hS hSi (by omega) hk hSk).1 loc hwi
              rw [hwk'] at this; cases this)
        have hclosed : Closed ops (fun j => (listed.setIfInBounds i true).getD j false = true) := by
          intro k o e hk ho' he hb'
          have hk' : (listed.setIfInBounds i true).getD k false = (listed.getD k false || decide (k = i)) := congrFun hS' k
          have he'' : (listed.setIfInBounds i true).getD e.on false = (listed.getD e.on false || decide (e.on = i)) := congrFun hS' e.on
          have hk2 : (listed.setIfInBounds i true).getD k false = true := hk
          show (listed.setIfInBounds i true).getD e.on false = true
          rw [he'']
          rw [hk'] at hk2
          have hk := hk2
          rw [Bool.or_eq_true] at hk ⊢
          rcases hk with hk | hk
          · exact .inl (hS k o e hk ho' he hb')
          · have : k = i := of_decide_eq_true hk
            subst this
            exact .inl (hedge o e ho' he hb')
        have hcount : ((List.range ops.size).filter fun k => !(listed.setIfInBounds i true).getD k false).length ≤ fuel := by
          have := filter_len_lt (l := List.range ops.size) (p := fun k => !listed.getD k false) (q := fun k => !(listed.setIfInBounds i true).getD k false) (by
            intro k _ hk
            have e : (listed.setIfInBounds i true).getD k false = (listed.getD k false || decide (k = i)) := congrFun hS' k
            have hk : (!(listed.setIfInBounds i true).getD k false) = true := hk
            rw [e] at hk
            cases hh : listed.getD k false with
            | false => rfl
            | true => rw [hh] at hk; simp at hk) hi1 (by simp only [hSi]; rfl) (by
            have e : (listed.setIfInBounds i true).getD i false = (listed.getD i false || decide (i = i)) := congrFun hS' i
            rw [e]; simp)
          omega
        have step : ∀ (κ'' : Gh) (a'' : Act) (w'' : World), RepS W0 κ'' (δ i ++ runS δ σ ops.size fun k => listed.getD k false) a'' w'' → Step κ' (runS δ σ ops.size fun k => listed.getD k false) w' κ'' (δ i ++ runS δ σ ops.size fun k => listed.getD k false) w'' →
            a''.tmps.size = N → Grow κ' κ'' (id + 100 * i) → wpAny P .any ops Q fuel (listed.setIfInBounds i true) a'' w'' := by
          intro κ'' a'' w'' r' s' n' gr
          refine ih _ κ'' a'' w'' (by simp [hsz]) hclosed hcount ?_ ?_ n' ?_
          · rw [hS']; exact r'.same hadd
          · rw [hS']; exact s.trans (Step.same (fun _ => rfl) hadd s')
          · rw [hS']; exact ids.grow hin gr
        unfold wpOp
        rw [ho]
        simp only
        have hd : ∀ d', ops[i].dst = some d' → d' < a'.tmps.size := fun d' h' => by rw [n]; exact c2 d' h'
        rcases hexec _ agree with ⟨hv, heff⟩ | ⟨hv, hδ⟩
        · rw [guard_real r hcg hv, if_pos rfl]
          refine .inl (Oper.wp_mono ?_ (eff_sound2 (Q := Q) hG hcall r (ids.fresh hb.ge hSi) c1 hd heff))
          rintro a'' w'' ⟨δ', κ'', rfl, r', s', n', gr⟩
          exact step κ'' a'' w'' r' s' (n'.trans n) gr
        · rw [guard_real r hcg hv]
          simp only [Bool.false_eq_true, if_false]
          obtain ⟨r', s'⟩ := skip_rep r hd
          have hdst : dstL ops[i].dst (.tup []) = δ i := by rw [← c3]; exact hδ.symm
          rw [hdst] at r' s'
          exact step κ' _ w' r' s' (put_size.trans n) (Grow.refl _ _)
  have hfalse : ∀ k, (Array.replicate ops.size false).getD k false = false := by
    intro k
    rw [Array.getD_eq_getD_getElem?, Array.getElem?_replicate]
    split <;> rfl
  have e0 : runS δ σ ops.size (fun k => (Array.replicate ops.size false).getD k false) = σ := by
    unfold runS
    have : (List.range ops.size).filter (fun k => (Array.replicate ops.size false).getD k false) = [] := by
      rw [List.filter_eq_nil_iff]; intro k _; rw [hfalse]; simp
    rw [this]; rfl
  refine main ops.size _ κ a w (by simp) ?_ ?_ (by rw [e0]; exact hs) (by rw [e0]; exact Step.refl _ _ _) hN ⟨fun b hbb => .inl (hb.db b hbb), fun b hbb => .inl (hb.dt b hbb)⟩
  · intro k o e hk
    have hk' : (Array.replicate ops.size false).getD k false = true := hk
    rw [hfalse] at hk'; cases hk'
  · exact Nat.le_trans (List.length_filter_le _ _) (by simp)
end
end Go.Abs
