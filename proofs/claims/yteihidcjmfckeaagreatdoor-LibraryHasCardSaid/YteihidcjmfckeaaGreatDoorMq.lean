/- Recorded calls as a library. -/
import Derived.Test.YteihidcjmfckeaaGreatDoorMp
set_option linter.all false
namespace Go.Abs
open Go
structure RecC where
 f : FuncId
 a : List AV
 H : List (List AV)
 r : AV × List (List AV)
def oU (f : FuncId) (args : List AV) (H : List (List AV)) (cs : List RecC) : Option (AV × List (List AV)) := match cs with
 | [] => none
 | c :: r => match Nat.beq f c.f with
   | false => oU f args H r
   | true => match dK (fi 4) args c.a with
     | false => oU f args H r
     | true => match dK (dK (fi 4)) H c.H with
       | false => oU f args H r
       | true => some c.r
def mH (cs : List RecC) (lib : FuncId → List AV → List (List AV) → Option (AV × List (List AV))) (f : FuncId) (args : List AV) (H : List (List AV)) : Option (AV × List (List AV)) :=
 match oU f args H cs with
 | some r => some r
 | none => lib f args H
def ak (P : Program) (W0 : World) (c : RecC) : Prop := Ctr P W0 c.f c.a c.H c.r.1 c.r.2
theorem lookR_ok {P : Program} {W0 : World} {f : FuncId} {args : List AV} {H : List (List AV)} {res : AV} {H' : List (List AV)} : ∀ {cs : List RecC}, (∀ c ∈ cs, ak P W0 c) → oU f args H cs = some (res, H') → Ctr P W0 f args H res H'
 | [], _, h => by cases h
 | c :: r, hc, h => by
   have ih := lookR_ok (f := f) (args := args) (H := H) (res := res) (H' := H') (cs := r) fun c h => hc c (List.mem_cons_of_mem _ h)
   unfold oU at h
   split at h
   ·exact ih h
   ·rename_i e1
    split at h
    ·exact ih h
    ·rename_i e2
     split at h
     ·exact ih h
     ·rename_i e3
      have h0 := hc c List.mem_cons_self
      unfold ak at h0
      rw [Option.some.inj h] at h0
      rw [Nat.eq_of_beq_eq_true e1, bB (dH 4) e2, bB (fun a b h => bB (dH 4) h) e3]
      exact h0
theorem libS_ok {P : Program} {W0 : World} {cs : List RecC} {lib : FuncId → List AV → List (List AV) → Option (AV × List (List AV))} (hc : ∀ c ∈ cs, ak P W0 c) (hl : ∀ f args H res H', lib f args H = some (res, H') → Ctr P W0 f args H res H') : ∀ f args H res H', mH cs lib f args H = some (res, H') → Ctr P W0 f args H res H' := by
 intro f args H res H' h
 unfold mH at h
 split at h
 ·rename_i r hr; rw [Option.some.inj h] at hr; exact lookR_ok hc hr
 ·exact hl _ _ _ _ _ h
def RunOK (T : FuncId → Option Fn) (lib : FuncId → List AV → List (List AV) → Option (AV × List (List AV))) (c : RecC) : Prop := ar T lib 60 c.f c.a c.H = some c.r
theorem RunOK.ok {P : Program} {W0 : World} {T : FuncId → Option Fn} {lib : FuncId → List AV → List (List AV) → Option (AV × List (List AV))} {c : RecC} (h : RunOK T lib c) (hm : P.follows .mixedOrders = true) (hT : TabOK P W0 T) (hlib : ∀ f args H res H', lib f args H = some (res, H') → Ctr P W0 f args H res H') : ak P W0 c := i7 hm hT hlib 60 c.f c.a c.H c.r.1 c.r.2 h
end Go.Abs
namespace Go.Abs
open Go
def eqX (a b : AV) : Bool := match a, b with
 | .mpv (.m []), .mpv (.m []) => true
 | a, b => fi 4 a b
theorem eqX_s (a b : AV) (h : eqX a b = true) : a = b := by
 unfold eqX at h
 split at h
 ·rfl
 ·exact dH 4 _ _ h
def jh (f : FuncId) (args : List AV) (H : List (List AV)) (cs : List RecC) : Option (AV × List (List AV)) := match cs with
 | [] => none
 | c :: r => match Nat.beq f c.f with
   | false => jh f args H r
   | true => match dK eqX args c.a with
     | false => jh f args H r
     | true => match dK (dK eqX) H c.H with
       | false => jh f args H r
       | true => some c.r
def bE (cs : List RecC) (lib : FuncId → List AV → List (List AV) → Option (AV × List (List AV))) (f : FuncId) (args : List AV) (H : List (List AV)) : Option (AV × List (List AV)) :=
 match jh f args H cs with
 | some r => some r
 | none => lib f args H
theorem oT {P : Program} {W0 : World} {f : FuncId} {args : List AV} {H : List (List AV)} {res : AV} {H' : List (List AV)} : ∀ {cs : List RecC}, (∀ c ∈ cs, ak P W0 c) → jh f args H cs = some (res, H') → Ctr P W0 f args H res H'
 | [], _, h => by cases h
 | c :: r, hc, h => by
   have ih := oT (f := f) (args := args) (H := H) (res := res) (H' := H') (cs := r) fun c h => hc c (List.mem_cons_of_mem _ h)
   unfold jh at h
   split at h
   ·exact ih h
   ·rename_i e1
    split at h
    ·exact ih h
    ·rename_i e2
     split at h
     ·exact ih h
     ·rename_i e3
      have h0 := hc c List.mem_cons_self
      unfold ak at h0
      rw [Option.some.inj h] at h0
      rw [Nat.eq_of_beq_eq_true e1, bB eqX_s e2, bB (fun a b h => bB eqX_s h) e3]
      exact h0
theorem fH {P : Program} {W0 : World} {cs : List RecC} {lib : FuncId → List AV → List (List AV) → Option (AV × List (List AV))} (hc : ∀ c ∈ cs, ak P W0 c) (hl : ∀ f args H res H', lib f args H = some (res, H') → Ctr P W0 f args H res H') : ∀ f args H res H', bE cs lib f args H = some (res, H') → Ctr P W0 f args H res H' := by
 intro f args H res H' h
 unfold bE at h
 split at h
 ·rename_i r hr; rw [Option.some.inj h] at hr; exact oT hc hr
 ·exact hl _ _ _ _ _ h
end Go.Abs
namespace Go.Abs
open Go
def erA2 : AV → AV
 | .agg l => .agg (l.map erS)
 | v => erS v
def erA3 : AV → AV
 | .tup l => .tup (l.map erA2)
 | v => erA2 v
theorem wkL1_erS : ∀ {l m : List AV}, wkL1 (l.map erS) m → wkL1 l m
 | [], [], _ => trivial
 | [], _ :: _, h => h
 | _ :: _, [], h => h
 | _ :: _, _ :: _, h => ⟨wk1_erS h.1, wkL1_erS h.2⟩
theorem bL {x y : AV} (h : wk2 (erA2 x) y) : wk2 x y := by
 cases x <;> try exact wk2_erS h
 cases y <;> first | (cases h; done) | skip
 exact wkL1_erS h
theorem mM : ∀ {l m : List AV}, dW (l.map erA2) m → dW l m
 | [], [], _ => trivial
 | [], _ :: _, h => h
 | _ :: _, [], h => h
 | _ :: _, _ :: _, h => ⟨bL h.1, mM h.2⟩
theorem wk3_erA3 {x y : AV} (h : wk3 (erA3 x) y) : wk3 x y := by
 cases x with
 | tup l => cases y <;> first | exact mM h | exact h | (cases h; done)
 | sc c => exact (bL (x := .sc c) h : wk2 _ _)
 | sl z e t => exact (bL (x := .sl z e t) h : wk2 _ _)
 | agg l => exact (bL (x := .agg l) h : wk2 _ _)
 | ptr b o => exact (bL (x := .ptr b o) h : wk2 _ _)
 | elp a b => exact (bL (x := .elp a b) h : wk2 _ _)
 | mx a b c d e => exact (bL (x := .mx a b c d e) h : wk2 _ _)
 | fn a b => exact (bL (x := .fn a b) h : wk2 _ _)
 | fb a b c => exact (bL (x := .fb a b c) h : wk2 _ _)
 | mr a => exact (bL (x := .mr a) h : wk2 _ _)
 | mpv a => exact (bL (x := .mpv a) h : wk2 _ _)
 | mm a b => exact (bL (x := .mm a b) h : wk2 _ _)
 | cs a b c d e f => exact (bL (x := .cs a b c d e f) h : wk2 _ _)
 | bad => exact (bL (x := .bad) h : wk2 _ _)
theorem jn {σ : Log} {v : AV} {nb nt : Nat} {res : AV} {H' : List (List AV)} (h : FinOK σ (erA3 v) nb nt res H') : FinOK σ v nb nt res H' := by
 obtain ⟨bn, tn, h1, h2, h3, h4⟩ := h.ex
 exact ⟨bn, tn, h1, wk3_erA3 h2, h3, h4⟩
variable {R : Type}
theorem restT_s {call : aP} {rc : Rec} (hrc : ∀ f args H res H', rc f args H = some (res, H') → call f args H res H') {c : AC} {rs : List (Nat × Nat)} {args : List AV} {H : List (List AV)} {res : AV} {H' : List (List AV)} {nx : Nat} {z : St} {σ : Log}
  (hz : lkT z = look σ) (h : mK rc c nx z (fun e _ z => match e with
  | .e _ => none
  | _ => cM (lkT z) rs fun v => dS (lkT z) v H.length (e8 args H)) = some (res, H')) : awp call c nx σ fun e _ σ => match e with
  | .e _ => False
  | _ => resP σ rs fun v => FinOK σ v H.length (cz args H) res H' := by
 rw [dz] at h
 refine e6 hrc c hz h fun e n z σ hz h => ?_
 cases e with
 | e i => cases h
 | n =>
   have h : cM (lkT z) rs (fun v => dS (lkT z) v H.length (cz args H)) = some (res, H') := h
   rw [hz, dw] at h; simp only [eq] at h; exact dN h fun l h => by match l, h with | [v], h => exact bX h | [], h => exact bX h | _ :: _ :: _, h => exact bX h
 | r =>
   have h : cM (lkT z) rs (fun v => dS (lkT z) v H.length (cz args H)) = some (res, H') := h
   rw [hz, dw] at h; simp only [eq] at h; exact dN h fun l h => by match l, h with | [v], h => exact bX h | [], h => exact bX h | _ :: _ :: _, h => exact bX h
noncomputable def bodyE (rc : Rec) (c : AC) (rs : List (Nat × Nat)) (args : List AV) (H : List (List AV)) : Option (AV × List (List AV)) :=
 mK rc c 1000 (apT (en args H) St0) fun e _ z => match e with
  | .e _ => none
  | _ => cM (lkT z) rs fun v => dS (lkT z) (erA3 v) H.length (e8 args H)
theorem bodyE_s {call : aP} {rc : Rec} (hrc : ∀ f args H res H', rc f args H = some (res, H') → call f args H res H') {c : AC} {rs : List (Nat × Nat)} {args : List AV} {H : List (List AV)} {res : AV} {H' : List (List AV)}
  (h : bodyE rc c rs args H = some (res, H')) : be call c rs args H res H' := by
 have h0 : lkT (apT (ap args H) St0) = look (ap args H) := by
  have := dJ St0_lk (ap args H)
  rwa [List.append_nil] at this
 have h : mK rc c 1000 (apT (en args H) St0) (fun e _ z => match e with
  | .e _ => none
  | _ => cM (lkT z) rs fun v => dS (lkT z) (erA3 v) H.length (e8 args H)) = some (res, H') := h
 rw [jJ, dz] at h
 refine e6 hrc c h0 h fun e n z σ hz h => ?_
 cases e with
 | e i => cases h
 | n =>
   have h : cM (lkT z) rs (fun v => dS (lkT z) (erA3 v) H.length (cz args H)) = some (res, H') := h
   rw [hz, dw] at h; simp only [eq] at h; exact dN h fun l h => by match l, h with | [v], h => exact jn (bX h) | [], h => exact jn (bX h) | _ :: _ :: _, h => exact jn (bX h)
 | r =>
   have h : cM (lkT z) rs (fun v => dS (lkT z) (erA3 v) H.length (cz args H)) = some (res, H') := h
   rw [hz, dw] at h; simp only [eq] at h; exact dN h fun l h => by match l, h with | [v], h => exact jn (bX h) | [], h => exact jn (bX h) | _ :: _ :: _, h => exact jn (bX h)
noncomputable def runE (T : FuncId → Option Fn) (lib : FuncId → List AV → List (List AV) → Option (AV × List (List AV))) (k : Nat) : Rec := fun f args H => match T f with
 | none => none
 | some F => tst (Nat.ble args.length F.nt && Nat.ble (H.length + e8 args H) 900 && !(F.tk.any (noRoom args))) (bodyE (ar T lib k) F.ac F.rs args H)
theorem runE_s {P : Program} {W0 : World} {T : FuncId → Option Fn} {lib : FuncId → List AV → List (List AV) → Option (AV × List (List AV))} (hm : P.follows .mixedOrders = true) (hT : TabOK P W0 T) (hlib : ∀ f args H res H', lib f args H = some (res, H') → Ctr P W0 f args H res H')
  {k : Nat} {f : FuncId} {args : List AV} {H : List (List AV)} {res : AV} {H' : List (List AV)} (h : runE T lib k f args H = some (res, H')) : Ctr P W0 f args H res H' := by
 simp only [runE] at h
 split at h
 ·cases h
 ·rename_i F hF
  obtain ⟨h1, h2⟩ := br h
  rw [Bool.and_eq_true] at h1
  have h1 := h1.1
  simp only [Bool.and_eq_true] at h1
  obtain ⟨fn, c, an, a0, a1, a2, a3, a4, a5, a6⟩ := hT f F hF
  exact ctr_of hm a0 (fun f args H res H' h => i7 hm hT hlib k f args H res H' h) a1 a2 a3 a4 a5 (by rw [a6]; exact h1.1) (by rw [← dz]; exact h1.2) (bodyE_s (fun _ _ _ _ _ h => h) h2)
end Go.Abs
namespace Go.Abs
theorem kb {call : aP} {ops : List GOp} {y : AC} {nx m : Nat} {σ : Log} {Q : Ex → Nat → Log → Prop} (hm : nx + 100 * ops.length = m) (h : ∀ K : Log → Prop, (∀ σ', awp call y m σ' Q → K σ') → aops call ops nx σ K) : awp call (.seq (.reg ops) y) nx σ Q := by
 subst hm
 exact h (fun σ' => awp call y (nx + 100 * ops.length) σ' Q) (fun _ h => h)
theorem seq_assoc {call : aP} {a b y : AC} {nx : Nat} {σ : Log} {Q : Ex → Nat → Log → Prop} (h : awp call (.seq a (.seq b y)) nx σ Q) : awp call (.seq (.seq a b) y) nx σ Q := by
 have e : awp call (.seq a (.seq b y)) nx σ Q = awp call (.seq (.seq a b) y) nx σ Q := by
  show awp call a nx σ _ = awp call a nx σ _
  congr 1
 exact e ▸ h
theorem seq_cond {call : aP} {x : Opd} {t e y : AC} {nx : Nat} {σ : Log} {Q : Ex → Nat → Log → Prop} (v : Bool) (hx : ev σ x = .sc (.b v)) (hf : v = false → awp call (.seq e y) nx (setB x false σ) Q) (ht : v = true → awp call (.seq t y) nx (setB x true σ) Q) : awp call (.seq (.cond x t e) y) nx σ Q := by
 have h : (match ev σ x with
  | .sc (.b v) => @Bool.rec (fun _ => Prop) (awp call (.seq e y) nx (setB x false σ) Q) (awp call (.seq t y) nx (setB x true σ) Q) v
  | _ => False) := by
  rw [hx]; cases v
  ·exact hf rfl
  ·exact ht rfl
 exact h
theorem seq_skip {call : aP} {y : AC} {nx : Nat} {σ : Log} {Q : Ex → Nat → Log → Prop} (h : awp call y nx σ Q) : awp call (.seq .skip y) nx σ Q := h
end Go.Abs
