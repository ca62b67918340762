/- Passes over boxes that do not stop at scalars. -/
import Derived.Test.YteihidcjmfckeaaGreatDoorMd
set_option linter.all false
namespace Go.Abs
open Go
def pO : AV → Bool | .sc _ => true | _ => false
def bx2q (l : List Nat) (v : AV) : List Nat := match pO v with | true => l | false => bx2 l v
theorem bx2q_eq : bx2q = bx2 := by funext l v; cases v <;> rfl
def tk2q (σ : Lk) (l : List Nat) (v : AV) : List Nat := match pO v with | true => l | false => tk2F σ l v
theorem tk2q_eq {σ : Lk} : tk2q σ = tk2F σ := by funext l v; cases v <;> rfl
def un2q (bs ts : List Nat) (v : AV) : Option AV := match pO v with | true => some v | false => un2 bs ts v
theorem un2q_eq {bs ts : List Nat} : un2q bs ts = un2 bs ts := by funext v; cases v <;> rfl
def in2q (nb nt : Nat) (v : AV) : Bool := match pO v with | true => true | false => in2 nb nt v
theorem in2q_eq {nb nt : Nat} : in2q nb nt = in2 nb nt := by funext v; cases v <;> rfl
def ren2q (bs ts : List Nat) (id : Nat) (v : AV) : AV := match pO v with | true => v | false => ren2 bs ts id v
theorem ren2q_eq {bs ts : List Nat} {id : Nat} : ren2q bs ts id = ren2 bs ts id := by funext v; cases v <;> rfl
noncomputable def jK (f : List Nat → AV → List Nat) (l : List Nat) (c : List AV) : List Nat := @List.rec AV (fun _ => List Nat → List Nat) (fun l => l) (fun v _ ih l => ih (f l v)) c l
theorem iJ {f : List Nat → AV → List Nat} : ∀ {c : List AV} {l : List Nat}, jK f l c = c.foldl f l
 | [], _ => rfl
 | v :: c, l => iJ (c := c) (l := f l v)
noncomputable def ky (bs ts : List Nat) (c : List AV) : Option (List AV) := @List.rec AV (fun _ => Option (List AV)) (some []) (fun x _ ih => match un2q bs ts x with | none => none | some y => match ih with | none => none | some s => some (y :: s)) c
theorem kw {bs ts : List Nat} : ∀ {c : List AV}, ky bs ts c = pr bs ts c
 | [] => rfl
 | x :: c => by
   show (match un2q bs ts x with | none => none | some y => match ky bs ts c with | none => none | some s => some (y :: s)) = _
   rw [un2q_eq, kw]; rfl
noncomputable def lQ (nb nt : Nat) (c : List AV) : Bool := @List.rec AV (fun _ => Bool) true (fun x _ ih => match in2q nb nt x with | true => ih | false => false) c
theorem iI {nb nt : Nat} : ∀ {c : List AV}, lQ nb nt c = cX nb nt c
 | [] => rfl
 | x :: c => by
   show (match in2q nb nt x with | true => lQ nb nt c | false => false) = _
   rw [in2q_eq, iI]; rfl
noncomputable def eA (c : List AV) : Bool := @List.rec AV (fun _ => Bool) true (fun x _ ih => match pO x with | true => ih | false => false) c
theorem iT {x : AV} {c : List AV} (h : eA (x :: c) = true) : (∃ s, x = .sc s) ∧ eA c = true := by
 have h : (match pO x with | true => eA c | false => false) = true := h
 cases x <;> first | exact ⟨⟨_, rfl⟩, h⟩ | cases h
noncomputable def pT (f : List Nat → AV → List Nat) (l : List Nat) (c : List AV) : List Nat := match eA c with | true => l | false => jK f l c
theorem fold1_sc {f : List Nat → AV → List Nat} (hf : ∀ l s, f l (.sc s) = l) : ∀ {c : List AV} {l : List Nat}, eA c = true → jK f l c = l
 | [], _, _ => rfl
 | x :: c, l, h => by
   obtain ⟨⟨s, rfl⟩, h⟩ := iT h
   show jK f (f l (.sc s)) c = l
   rw [hf]; exact fold1_sc (c := c) hf h
theorem o7 {f : List Nat → AV → List Nat} (hf : ∀ l s, f l (.sc s) = l) {c : List AV} {l : List Nat} : pT f l c = jK f l c := by
 unfold pT; split
 ·rename_i h; exact (fold1_sc hf h).symm
 ·rfl
noncomputable def unL2r (bs ts : List Nat) (c : List AV) : Option (List AV) := match eA c with | true => some c | false => ky bs ts c
theorem unL2_sc {bs ts : List Nat} : ∀ {c : List AV}, eA c = true → ky bs ts c = some c
 | [], _ => rfl
 | x :: c, h => by
   obtain ⟨⟨s, rfl⟩, h⟩ := iT h
   show (match un2q bs ts (.sc s) with | none => none | some y => match ky bs ts c with | none => none | some s => some (y :: s)) = _
   rw [unL2_sc (c := c) h]; rfl
theorem unL2r_eq {bs ts : List Nat} {c : List AV} : unL2r bs ts c = ky bs ts c := by
 unfold unL2r; split
 ·rename_i h; exact (unL2_sc h).symm
 ·rfl
noncomputable def inL2r (nb nt : Nat) (c : List AV) : Bool := match eA c with | true => true | false => lQ nb nt c
theorem inL2_sc {nb nt : Nat} : ∀ {c : List AV}, eA c = true → lQ nb nt c = true
 | [], _ => rfl
 | x :: c, h => by
   obtain ⟨⟨s, rfl⟩, h⟩ := iT h
   exact inL2_sc (c := c) h
theorem inL2r_eq {nb nt : Nat} {c : List AV} : inL2r nb nt c = lQ nb nt c := by
 unfold inL2r; split
 ·rename_i h; exact (inL2_sc h).symm
 ·rfl
noncomputable def inHq (nb nt : Nat) : List (List AV) → Bool
 | [] => true
 | x :: r => match inL2r nb nt x with | true => inHq nb nt r | false => false
theorem kj {nb nt : Nat} : ∀ {H : List (List AV)}, inHq nb nt H = inH nb nt H
 | [] => rfl
 | x :: H => by simp only [inHq, inH, inL2r_eq, iI, kj (H := H)]; rfl
noncomputable def mN (c : List AV) : List Nat := @List.rec AV (fun _ => List Nat) [] (fun x _ ih => match pO x with | true => ih | false => aZ x ++ ih) c
theorem toksL_eq : ∀ {c : List AV}, mN c = c.flatMap aZ
 | [] => rfl
 | x :: c => by
   show (match pO x with | true => mN c | false => aZ x ++ mN c) = _
   rw [List.flatMap_cons, toksL_eq]
   cases x <;> rfl
noncomputable def pv (c : List AV) : List Nat := match eA c with | true => [] | false => mN c
theorem toksL_sc : ∀ {c : List AV}, eA c = true → mN c = []
 | [], _ => rfl
 | x :: c, h => by
   obtain ⟨⟨s, rfl⟩, h⟩ := iT h
   exact toksL_sc (c := c) h
theorem toksLr_eq {c : List AV} : pv c = mN c := by
 unfold pv; split
 ·rename_i h; exact (toksL_sc h).symm
 ·rfl
noncomputable def kB (H : List (List AV)) : List Nat := @List.rec (List AV) (fun _ => List Nat) [] (fun x _ ih => pv x ++ ih) H
theorem fq : ∀ {H : List (List AV)}, kB H = H.flatMap fun h => h.flatMap aZ
 | [] => rfl
 | x :: H => by
   show pv x ++ kB H = _
   rw [List.flatMap_cons, toksLr_eq, toksL_eq, fq]
noncomputable def allTk (args : List AV) (H : List (List AV)) : List Nat := args.flatMap toks ++ kB H
noncomputable def e8 (args : List AV) (H : List (List AV)) : Nat := (allTk args H).foldr (fun k m => Nat.max (k + 1) m) 0
theorem dz {args : List AV} {H : List (List AV)} : e8 args H = cz args H := by unfold e8 cz allTk; rw [fq]
noncomputable def js (σ : Lk) : Nat → List Nat → List Nat → List Nat
 | 0, _, l => l
 | _ + 1, [], l => l
 | n + 1, b :: todo, l => match σ (.b b) with
   | some (.bx c) => (match pT bx2q l c with | l2 => js σ n (todo ++ l2.drop l.length) l2)
   | _ => js σ n todo l
theorem gh {σ : Lk} : ∀ {n : Nat} {todo l : List Nat}, js σ n todo l = jt σ n todo l
 | 0, _, _ => rfl
 | n + 1, [], _ => rfl
 | n + 1, b :: todo, l => by
   simp only [js, jt, o7 (f := bx2) (fun _ _ => rfl), iJ, bx2q_eq]
   cases hb : σ (.b b) with
   | none => exact gh
   | some c => cases c <;> exact gh
noncomputable def tkHq (σ : Lk) : List Nat → List Nat → List Nat
 | [], l => l
 | b :: r, l => match σ (.b b) with
   | some (.bx c) => tkHq σ r (pT (tk2q σ) l c)
   | _ => tkHq σ r l
theorem ka {σ : Lk} : ∀ {bs l : List Nat}, tkHq σ bs l = tkHF σ bs l
 | [], _ => rfl
 | b :: r, l => by
   simp only [tkHq, tkHF, o7 (f := tk2F σ) (fun _ _ => rfl), iJ, tk2q_eq]
   cases hb : σ (.b b) with
   | none => exact ka
   | some c => cases c <;> exact ka
noncomputable def unHq (σ : Lk) (bs ts : List Nat) : List Nat → Option (List (List AV))
 | [] => some []
 | b :: r => match σ (.b b) with
   | some (.bx l) => (match unL2r bs ts l with
     | none => none
     | some h => match unHq σ bs ts r with | none => none | some H => some (h :: H))
   | _ => none
theorem pu {σ : Lk} {bs ts : List Nat} : ∀ {xs : List Nat}, unHq σ bs ts xs = unHF σ bs ts xs
 | [] => rfl
 | b :: r => by
   simp only [unHq, unHF, unL2r_eq, kw, pu (xs := r)]
   cases hb : σ (.b b) with
   | none => rfl
   | some c => cases c <;> rfl
noncomputable def pR (rc : Rec) (σ : Lk) (f : FuncId) (args : List AV) : Option (AV × List (List AV) × List Nat × List Nat) :=
 match js σ 100 (jK bx2q [] args) (jK bx2q [] args) with
 | bs => match tkHq σ bs (jK (tk2q σ) [] args) with
   | ts => match ky bs ts args, unHq σ bs ts bs with
     | some args', some H => (match rc f args' H with
       | some (res, H') => (match bm bs && bm ts && Nat.ble bs.length H'.length && Nat.ble H'.length (bs.length + 50) && Nat.ble (bs.length + ts.length) 900 && Nat.beq ts.length (e8 args' H) &&
          lQ bs.length ts.length args' && inHq bs.length ts.length H && inR H'.length (ts.length + 50) res && inHq H'.length (ts.length + 50) H' && lC σ ts with
         | true => some (res, H', bs, ts)
         | false => none)
       | none => none)
     | _, _ => none
theorem fullXQ_eq {rc : Rec} {σ : Log} {f : FuncId} {args : List AV} : pR rc (look σ) f args = o5 rc σ f args := by
 have e : o5 rc σ f args = pS rc (look σ) f args := by kernel_rfl
 rw [e]
 simp only [pR, pS, gh, ka, iJ, bx2q_eq, tk2q_eq, kw, pu, dz, iI, kj]
 rfl
noncomputable def oS (bs ts : List Nat) (id : Nat) : Nat → List (List AV) → Log
 | _, [] => []
 | n, h :: H => (.b (rb bs id n), .bx (match eA h with | true => h | false => h.map (ren2q bs ts id))) :: oS bs ts id (n + 1) H
theorem ren2_sc {bs ts : List Nat} {id : Nat} : ∀ {c : List AV}, eA c = true → c.map (ren2 bs ts id) = c
 | [], _ => rfl
 | x :: c, h => by
   obtain ⟨⟨s, rfl⟩, h⟩ := iT h
   rw [List.map_cons, ren2_sc (c := c) h]; rfl
theorem newBq_eq {bs ts : List Nat} {id : Nat} : ∀ {H : List (List AV)} {n : Nat}, oS bs ts id n H = aK bs ts id n H
 | [], _ => rfl
 | h :: H, n => by
   simp only [oS, aK, newBq_eq (H := H), ren2q_eq]
   split
   ·rename_i hs; rw [ren2_sc hs]
   ·rfl
noncomputable def dS (σ : Lk) (v : AV) (nb nt : Nat) : Option (AV × List (List AV)) :=
 match js σ 100 (bx3 (upN nb) v) (bx3 (upN nb) v) with
 | bs => match tkHq σ bs (tk3F σ (upN nt) v) with
   | ts => match un3 bs ts v, unHq σ bs ts bs with
     | some res, some H' => tst (bm bs && bm ts && (bs.take nb == upN nb) && (ts.take nt == upN nt) && inR bs.length ts.length res && inHq bs.length ts.length H' &&
      lC σ ((toks res ++ kB H').map (rb ts 0))) (some (res, H'))
     | _, _ => none
theorem eq {σ : Log} {v : AV} {nb nt : Nat} : dS (look σ) v nb nt = finX σ v nb nt := by
 have e : finX σ v nb nt = finXF (look σ) v nb nt := by kernel_rfl
 rw [e]
 simp only [dS, finXF, gh, ka, pu, kj, fq]
 rfl
noncomputable def en (args : List AV) (H : List (List AV)) : Log := gz 0 args ++ gA 0 H ++ gy (allTk args H)
theorem jJ {args : List AV} {H : List (List AV)} : en args H = ap args H := by unfold en ap allTk; rw [fq]
noncomputable def p7 {R : Type} (rc : Rec) (σ : Lk) (id : Nat) (d : Option Nat) (f : FuncId) (args : List AV) (F : Log → Option R) : Option R :=
 match (match lQ 0 0 (args.map aU) with
  | true => (match rc f (args.map aU) [] with
    | some (res, H') => (match inR H'.length 50 res && inHq H'.length 50 H' && Nat.ble H'.length 50 && Nat.beq (e8 (args.map aU) []) 0 with
      | true => some (res, H')
      | false => none)
    | none => none)
  | false => none) with
 | some (res, []) => F (bp d (ren [] [] id res) ++ bA [] id (toks res))
 | some (res, h :: H') => F (bp d (ren [] [] id res) ++ oS [] [] id 0 (h :: H') ++ bA [] id (toks res ++ kB (h :: H')) ++ bh [])
 | none => match pR rc σ f (args.map erS) with
   | some (res, H', bs, ts) => F (bp d (ren bs ts id res) ++ oS bs ts id 0 H' ++ bA ts id (toks res ++ kB H') ++ bh ts)
   | none => match pR rc σ f args with
     | some (res, H', bs, ts) => F (bp d (ren bs ts id res) ++ oS bs ts id 0 H' ++ bA ts id (toks res ++ kB H') ++ bh ts)
     | none => none
theorem callXQ_eq {R : Type} {rc : Rec} {σ : Log} {id : Nat} {d : Option Nat} {f : FuncId} {args : List AV} {F : Log → Option R} : p7 rc (look σ) id d f args F = pc rc σ id d f args F := by
 simp only [p7, pc, fullXQ_eq, iI, kj, dz, fq, newBq_eq]
 rfl
end Go.Abs
