/- The program's trees as Lean data, and how they are spelt in the machine. -/
import Derived.Test.YthmcdebdkbhbmaaGreatDoorC1
namespace Go.Abs
open Go
abbrev S := List UInt8
inductive Exp | mk (op nm : S) (n : Int) (args : List Exp)
def sD (s : S) : Data := .sc (.s s)
def iD (n : Int) : Data := .sc (.i .i64 n)
mutual
def Exp.d : Exp → List Data | .mk a b n l => [.sc (.s a), .sc (.s b), .sc (.i .i64 n), .lst 4 (expsD l)]
def expsD : List Exp → List (List Data) | [] => [] | x :: r => x.d :: expsD r
end
/-- an expression, handed over -/
def eE (x : Exp) : AV := .agg (x.d.map dcell)
/-- expressions, handed over -/
def eL (l : List Exp) : AV := .sl 4 (expsD l) .none
theorem expsD_length : ∀ l, (expsD l).length = l.length | [] => rfl | _ :: r => by simp [expsD, expsD_length r]
theorem expsD_map : ∀ l : List Exp, expsD l = l.map Exp.d | [] => rfl | x :: r => by simp [expsD, expsD_map r]
theorem expsD_get {l : List Exp} {i : Nat} {x : Exp} (h : l[i]? = some x) : (expsD l)[i]? = some x.d := by rw [expsD_map]; simp [h]
mutual
def sameE : Exp → Exp → Bool | .mk a b n l, .mk a' b' n' l' => beqL a a' && (beqL b b' && (decide (n = n') && sameL l l'))
def sameL : List Exp → List Exp → Bool | [], [] => true | x :: r, y :: s => sameE x y && sameL r s | _, _ => false
end
theorem ctr_body {P : Program} {W0 : World} {an : Ann} {an' : FuncId → Ann} (hm : P.follows .mixedOrders = true) {f : FuncId} {F : Fn} (hF : compT P an' f = some F) (ha' : an' f = an) (hG : ∀ g cells, an.gl g = some cells → GlobOK W0 g cells)
    {args : List AV} {H : List (List AV)} {res : AV} {H' : List (List AV)} (ha : Nat.ble args.length F.nt = true) (hH : Nat.ble (H.length + tokN args H) 900 = true)
    (h : Body (Ctr P W0) F.ac F.rs args H res H') : Ctr P W0 f args H res H' := by
  subst ha'
  unfold compT at hF
  split at hF
  · rename_i fn hfn
    split at hF
    · rename_i c hc
      split at hF
      · rename_i hcal
        split at hF
        · rename_i ac rs hac hrs
          cases hF
          exact ctr_of hm hG (fun _ _ _ _ _ h => h) hfn hc hcal hac hrs ha hH h
        · cases hF
      · cases hF
    · cases hF
  · cases hF
end Go.Abs
namespace Go.Abs
open Go
theorem brec {A B : Prop} {t : Bool} (h1 : t = false → A) (h2 : t = true → B) : @Bool.rec (fun _ => Prop) A B t := by
  cases t with
  | false => exact h1 rfl
  | true => exact h2 rfl
theorem fin_sc {σ : Log} {c c' : Sc} (h : c' = c) : FinOK σ (.sc c') 0 0 (.sc c) [] := by subst h; exact ⟨⟨[], [], ⟨rfl, rfl, rfl, rfl⟩, rfl, trivial, trivial⟩⟩
theorem fin_b {σ : Log} {c c' : Bool} (h : c' = c) : FinOK σ (.sc (.b c')) 0 0 (.sc (.b c)) [] := fin_sc (by rw [h])
theorem fin_i {σ : Log} {c c' : Int} {k : IntKind} (h : c' = c) : FinOK σ (.sc (.i k c')) 0 0 (.sc (.i k c)) [] := fin_sc (by rw [h])
theorem fin_s {σ : Log} {c c' : S} (h : c' = c) : FinOK σ (.sc (.s c')) 0 0 (.sc (.s c)) [] := fin_sc (by rw [h])
/-- the loop's head: the state is st a, μ a falls -/
def JJ {α : Type} (N : Nat) (μ : α → Nat) (st : α → Log) (I : α → Prop) (m n : Nat) (σ : Log) : Prop := ∃ a, (m = μ a ∧ n = N ∧ I a) ∧ σ = st a
theorem nxt {α : Type} {N : Nat} {μ : α → Nat} {st : α → Log} {I : α → Prop} {m : Nat} {σ' : Log} (a : α) (h : μ a < m ∧ I a) (hle : Le σ' N (st a)) : ∃ m' n'' σ'', m' < m ∧ Le σ' n'' σ'' ∧ JJ N μ st I m' n'' σ'' :=
  ⟨_, _, _, h.1, hle, a, ⟨rfl, rfl, h.2⟩, rfl⟩
theorem LoopP.st {f : Nat → Log → (Ex → Nat → Log → Prop) → Prop} {Q : Ex → Nat → Log → Prop} {nx : Nat} {σ : Log} {α : Type} (N : Nat) (μ : α → Nat) (st : α → Log) (I : α → Prop) (a0 : α) (h0 : Le σ N (st a0)) (i0 : I a0)
    (hk : ∀ a, I a → f N (st a) fun e n' σ' => match e with
      | .n => ∃ m' n'' σ'', m' < μ a ∧ Le σ' n'' σ'' ∧ JJ N μ st I m' n'' σ''
      | .e i => Q (.e i) n' σ'
      | .r => Q .r n' σ') : LoopP f Q nx σ :=
  .inv (JJ N μ st I) ⟨μ a0, N, st a0, h0, a0, ⟨rfl, rfl, i0⟩, rfl⟩ (by
    rintro m n σ ⟨a, ⟨rfl, rfl, ia⟩, rfl⟩
    exact hk a ia)
theorem le_of {σ σ' : Log} {N : Nat} (h1 : Nat.ble 1000 N = true) (h2 : belowC N σ' = true) (h3 : leP [] σ σ') : Le σ N σ' := ⟨[], ⟨rfl, by simp, h1, h2⟩, h3⟩
end Go.Abs
namespace Go.Abs
open Go
mutual
/-- no text and no list is longer than the reach -/
def Exp.ok : Exp → Prop | .mk a b n l => (a.length ≤ 140737488355328 ∧ b.length ≤ 140737488355328 ∧ Fits .i64 n) ∧ l.length ≤ 140737488355328 ∧ oksE l
def oksE : List Exp → Prop | [] => True | x :: r => x.ok ∧ oksE r
end
theorem oksE_get : ∀ {l : List Exp} {k : Nat} {x : Exp}, oksE l → l[k]? = some x → x.ok
  | [], _, _, _, h => by simp at h
  | y :: r, 0, x, h, hx => by simp at hx; subst hx; exact h.1
  | y :: r, k + 1, x, h, hx => oksE_get (k := k) h.2 (by simpa using hx)
mutual
theorem sameE_refl : ∀ x, sameE x x = true | .mk a b n l => by simp [sameE, beqL, sameL_refl l]
theorem sameL_refl : ∀ l, sameL l l = true | [] => by simp [sameL] | x :: r => by simp [sameL, sameE_refl x, sameL_refl r]
end
theorem sameL_len : ∀ {l m : List Exp}, l.length ≠ m.length → sameL l m = false
  | [], [], h => absurd rfl h
  | [], _ :: _, _ => rfl
  | _ :: _, [], _ => rfl
  | x :: r, y :: s, h => by simp [sameL, sameL_len (l := r) (m := s) (by simpa using h)]
theorem drop_get {α : Type} {l : List α} {k : Nat} {x : α} (h : l[k]? = some x) : l.drop k = x :: l.drop (k + 1) := by
  obtain ⟨h1, h2⟩ := List.getElem?_eq_some_iff.1 h
  rw [List.drop_eq_getElem_cons h1, h2]
theorem get_of_lt {α : Type} {l : List α} {k : Nat} (h : k < l.length) : ∃ x, l[k]? = some x := ⟨_, List.getElem?_eq_getElem h⟩
theorem size_get {l : List Exp} {k : Nat} {x : Exp} (h : l[k]? = some x) : SizeOf.sizeOf x < SizeOf.sizeOf l := List.sizeOf_lt_of_mem (List.mem_of_getElem? h)
end Go.Abs
