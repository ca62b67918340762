/- The reader of the reference: its small steps. -/
import Derived.Test.YthmcdebdkbhbmaaGreatDoorMi
import Derived.Test.YthmcdebdkbhbmaaGreatDoorMk
import Derived.Test.YthmcdebdkbhbmaaGreatDoorMh
import Derived.Test.YthmcdebdkbhbmaaGreatDoorMj
import Derived.Test.YthmcdebdkbhbmaaGreatDoorMn
set_option maxRecDepth 100000
namespace Go.Abs
open Go.Proofs
abbrev Mem := List (Int × (Exp × Nat × Bool))
def entM (x : Exp × Nat × Bool) : List Data := x.1.d ++ [.sc (.i .i64 (x.2.1 : Nat)), .sc (.b x.2.2)]
def encM (M : Mem) : List (Int × List Data) := M.map fun p => (p.1, entM p.2)
def mbx (M : Mem) : List AV := [.mpv (encM M)]
def rbx (l : List T) (s : PS) : List AV := [.sl 3 (toksD l) .none, .sc (.i .i64 (s.a : Nat)), .sc (.b s.bad), .mr 1]
theorem fin_rb {σ : Log} {v res : AV} {l : List T} {s' : PS} {M : Mem} {e : List (List Data)} {t : Tok} {x : Int} {y : Bool} {es : List (Int × List Data)} (hb : look σ (.b 0) = some (.bx [.sl 3 e t, .sc (.i .i64 x), .sc (.b y), .mr 1])) (hm : look σ (.b 1) = some (.bx [.mpv es])) (hes : es = encM M)
    (hv : v = res) (he : e = toksD l) (hx : x = (s'.a : Nat)) (hy : y = s'.bad)
    (h1 : inR 2 0 res = true) (h2 : wk3 res (ren [0, 1] [] 0 res)) (h3 : toks res = []) : FinOK σ v 2 0 res [rbx l s', mbx M] := by
  subst hv; subst he; subst hx; subst hy; subst hes
  refine ⟨⟨[], [], ⟨rfl, rfl, h1, rfl⟩, h2, ?_, ?_⟩⟩
  · refine ⟨?_, ?_, trivial⟩
    · show (match look σ (.b 0) with | some (.bx l') => wkL2 l' _ | _ => False)
      rw [hb]
      exact ⟨⟨rfl, rfl, .inl rfl⟩, rfl, rfl, rfl, trivial⟩
    · show (match look σ (.b 1) with | some (.bx l') => wkL2 l' _ | _ => False)
      rw [hm]
      exact ⟨rfl, trivial⟩
  · rw [h3]; exact trivial
theorem pPeek_not {l : List T} {s : PS} (h : s.bad = true ∨ l.length ≤ s.a) : pPeek l s = t0 := by
  simp only [pPeek]
  rcases h with h | h
  · simp [h]
  · cases s.bad with
    | true => rfl
    | false => rw [List.getD_eq_getElem?_getD, List.getElem?_eq_none h]; rfl
/-- the text and the kind of the next token -/
def lookA (t : T) : AV := .tup [.sc (.s t.2.1), .sc (.s t.1)]
def F118 : Fn := ⟨.seq (.reg [⟨none, .mv 4 (.c (.sc (.s [])))⟩, ⟨none, .mv 5 (.c (.sc (.s [])))⟩]) (.seq (.seq (.regD [⟨none, .mv 6 (.t 0)⟩, ⟨none, .nc 7 (.t 6)⟩, ⟨none, .fa 8 (.t 7) 2⟩, ⟨none, .ld 9 1 false (.t 8)⟩, ⟨none, .mv 10 (.t 9)⟩, ⟨some (10, false), .mv 11 (.t 0)⟩, ⟨some (10, false), .nc 12 (.t 11)⟩, ⟨some (10, false), .fa 13 (.t 12) 1⟩, ⟨some (10, false), .ld 14 1 false (.t 13)⟩, ⟨some (10, false), .mv 15 (.t 1)⟩, ⟨some (10, false), .bin 16 .add (.t 14) (.t 15)⟩, ⟨some (10, false), .mv 17 (.t 0)⟩, ⟨some (10, false), .nc 18 (.t 17)⟩, ⟨some (10, false), .fa 19 (.t 18) 0⟩, ⟨some (10, false), .ld 20 1 false (.t 19)⟩, ⟨some (10, false), .len 21 (.t 20)⟩, ⟨some (10, false), .bin 22 .geq (.t 16) (.t 21)⟩, ⟨none, .pick 23 (.t 10) (.c (.sc (.b true))) (.t 22)⟩] [0, 1, 3, 7, 15, 31, 63, 127, 255, 31, 1023, 31, 2079, 6175, 14367, 30751, 65535, 131071]) (.cond (.t 23) (.seq (.reg [⟨none, .mv 4 (.c (.sc (.s [])))⟩, ⟨none, .mv 5 (.c (.sc (.s [])))⟩]) .ret) .skip)) (.seq (.regD [⟨none, .mv 24 (.t 0)⟩, ⟨none, .nc 25 (.t 24)⟩, ⟨none, .fa 26 (.t 25) 0⟩, ⟨none, .ld 27 1 false (.t 26)⟩, ⟨none, .mv 28 (.t 0)⟩, ⟨none, .nc 29 (.t 28)⟩, ⟨none, .fa 30 (.t 29) 1⟩, ⟨none, .ld 31 1 false (.t 30)⟩, ⟨none, .mv 32 (.t 1)⟩, ⟨none, .bin 33 .add (.t 31) (.t 32)⟩, ⟨none, .ia 34 3 (.t 27) (.t 33)⟩, ⟨none, .fa 35 (.t 34) 1⟩, ⟨none, .ld 36 1 false (.t 35)⟩, ⟨none, .mv 37 (.t 0)⟩, ⟨none, .nc 38 (.t 37)⟩, ⟨none, .fa 39 (.t 38) 0⟩, ⟨none, .ld 40 1 false (.t 39)⟩, ⟨none, .mv 41 (.t 0)⟩, ⟨none, .nc 42 (.t 41)⟩, ⟨none, .fa 43 (.t 42) 1⟩, ⟨none, .ld 44 1 false (.t 43)⟩, ⟨none, .mv 45 (.t 1)⟩, ⟨none, .bin 46 .add (.t 44) (.t 45)⟩, ⟨none, .ia 47 3 (.t 40) (.t 46)⟩, ⟨none, .fa 48 (.t 47) 0⟩, ⟨none, .ld 49 1 false (.t 48)⟩, ⟨none, .mv 4 (.t 36)⟩, ⟨none, .mv 5 (.t 49)⟩] [0, 1, 3, 7, 0, 16, 48, 112, 0, 496, 1023, 2047, 4095, 0, 8192, 24576, 57344, 0, 131072, 393216, 917504, 0, 4063232, 8380416, 16769024, 33546240, 8191, 134217727]) .ret)), [(4, 0), (5, 0)], 50⟩
def F60 : Fn := ⟨.seq (.reg [⟨none, .mv 4 (.c (.sc (.b false)))⟩]) (.seq (.reg [⟨none, .mv 8 (.t 0)⟩, ⟨none, .call (some 9) (.c (.fn 118 [])) [.t 8, .c (.sc (.i .i64 0))]⟩, ⟨none, .mv 7 (.t 9)⟩, ⟨none, .ext 10 (.t 7) 0⟩, ⟨none, .ext 11 (.t 7) 1⟩, ⟨none, .mv 5 (.t 10)⟩, ⟨none, .mv 6 (.t 11)⟩]) (.seq (.reg [⟨none, .mv 12 (.t 5)⟩, ⟨none, .mv 13 (.t 1)⟩, ⟨none, .bin 14 .eql (.t 12) (.t 13)⟩, ⟨none, .mv 15 (.t 14)⟩, ⟨some (15, true), .mv 16 (.t 6)⟩, ⟨some (15, true), .bin 17 .eql (.t 16) (.c (.sc (.s [107, 101, 121])))⟩, ⟨some (15, true), .mv 18 (.t 17)⟩, ⟨some (18, false), .mv 19 (.t 6)⟩, ⟨some (18, false), .bin 20 .eql (.t 19) (.c (.sc (.s [115, 105, 103, 110])))⟩, ⟨some (15, true), .pick 21 (.t 18) (.c (.sc (.b true))) (.t 20)⟩, ⟨none, .pick 22 (.t 15) (.t 21) (.c (.sc (.b false)))⟩, ⟨none, .mv 4 (.t 22)⟩]) .ret)), [(4, 0)], 23⟩
def F120 : Fn := ⟨.seq (.reg [⟨none, .mv 4 (.c (.sc (.s [])))⟩]) (.seq (.reg [⟨none, .mv 8 (.t 0)⟩, ⟨none, .call (some 9) (.c (.fn 118 [])) [.t 8, .c (.sc (.i .i64 0))]⟩, ⟨none, .mv 7 (.t 9)⟩, ⟨none, .ext 10 (.t 7) 0⟩, ⟨none, .ext 11 (.t 7) 1⟩, ⟨none, .mv 5 (.t 10)⟩, ⟨none, .mv 6 (.t 11)⟩]) (.seq (.seq (.reg [⟨none, .mv 12 (.t 6)⟩, ⟨none, .mv 13 (.t 1)⟩, ⟨none, .bin 14 .neq (.t 12) (.t 13)⟩]) (.cond (.t 14) (.reg [⟨none, .mv 15 (.t 0)⟩, ⟨none, .nc 16 (.t 15)⟩, ⟨none, .fa 17 (.t 16) 2⟩, ⟨none, .st (.t 17) 1 (.c (.sc (.b true)))⟩]) .skip)) (.seq (.reg [⟨none, .mv 18 (.t 0)⟩, ⟨none, .nc 19 (.t 18)⟩, ⟨none, .fa 20 (.t 19) 1⟩, ⟨none, .ld 21 1 false (.t 20)⟩, ⟨none, .bin 22 .add (.t 21) (.c (.sc (.i .i64 1)))⟩, ⟨none, .nc 23 (.t 18)⟩, ⟨none, .fa 24 (.t 23) 1⟩, ⟨none, .st (.t 24) 1 (.t 22)⟩]) (.seq (.reg [⟨none, .mv 25 (.t 5)⟩, ⟨none, .mv 4 (.t 25)⟩]) .ret)))), [(4, 0)], 26⟩
def F119 : Fn := ⟨.seq (.reg [⟨none, .mv 4 (.c (.sc (.i .i64 0)))⟩]) (.block 0 (.loop (.seq (.seq (.reg [⟨none, .mv 5 (.t 4)⟩, ⟨none, .mv 6 (.t 1)⟩, ⟨none, .len 7 (.t 6)⟩, ⟨none, .bin 8 .lss (.t 5) (.t 7)⟩]) (.cond (.t 8) .skip (.exit 0))) (.seq (.block 1 (.seq (.seq (.reg [⟨none, .mv 11 (.t 0)⟩, ⟨none, .mv 12 (.t 1)⟩, ⟨none, .mv 13 (.t 4)⟩, ⟨none, .ia 14 1 (.t 12) (.t 13)⟩, ⟨none, .ld 15 1 false (.t 14)⟩, ⟨none, .call (some 16) (.c (.fn 60 [])) [.t 11, .t 15]⟩, ⟨none, .no 17 (.t 16)⟩]) (.cond (.t 17) (.reg [⟨none, .mv 18 (.t 0)⟩, ⟨none, .nc 19 (.t 18)⟩, ⟨none, .fa 20 (.t 19) 2⟩, ⟨none, .st (.t 20) 1 (.c (.sc (.b true)))⟩]) .skip)) (.reg [⟨none, .mv 21 (.t 0)⟩, ⟨none, .nc 22 (.t 21)⟩, ⟨none, .fa 23 (.t 22) 1⟩, ⟨none, .ld 24 1 false (.t 23)⟩, ⟨none, .bin 25 .add (.t 24) (.c (.sc (.i .i64 1)))⟩, ⟨none, .nc 26 (.t 21)⟩, ⟨none, .fa 27 (.t 26) 1⟩, ⟨none, .st (.t 27) 1 (.t 25)⟩]))) (.reg [⟨none, .mv 9 (.t 4)⟩, ⟨none, .bin 10 .add (.t 9) (.c (.sc (.i .i64 1)))⟩, ⟨none, .mv 4 (.t 10)⟩]))))), [], 28⟩
theorem F118_ok : compT Tryz.prog (fun _ => an0) 118 = some F118 := by kernel_rfl
theorem F60_ok : compT Tryz.prog (fun _ => an0) 60 = some F60 := by kernel_rfl
theorem F120_ok : compT Tryz.prog (fun _ => an0) 120 = some F120 := by kernel_rfl
theorem F119_ok : compT Tryz.prog (fun _ => an0) 119 = some F119 := by kernel_rfl
set_option maxHeartbeats 4000000 in
theorem b118 (W0 : Go.World) (l : List T) (s : PS) (M : Mem) (hl : l.length ≤ 140737488355328) (hs : s.a ≤ 4611686018427387904) : Body (Ctr Tryz.prog W0) F118.ac F118.rs [.ptr 0 0, .sc (.i .i64 (0))] [rbx l s, mbx M] (lookA (pPeek l s)) [rbx l (s), mbx (M)] := by
  obtain ⟨a, bad⟩ := s
  simp only at hs
  conv => whnf
  refine brec (fun h1 => ?_) (fun h1 => ?_)
  · have h1' : bad = false := h1
    conv => whnf
    refine And.intro (by constructor <;> ((try simp only); omega)) ?_
    conv => whnf
    refine brec (fun h2 => ?_) (fun h2 => ?_)
    · have h2' : ¬ ((toksD l).length : Int) ≤ (a : Int) + 0 := by simpa using h2
      rw [toksD_length] at h2'
      obtain ⟨t, ht⟩ := get_of_lt (l := l) (k := a) (by omega)
      have dt : (toksD l)[((a : Int) + 0).toNat]? = some (tokD t) := by rw [show ((a : Int) + 0).toNat = a by omega]; exact toksD_get ht
      have e : pPeek l ⟨a, bad⟩ = t := by simp [pPeek, h1', ht]
      rw [e]
      obtain ⟨k, x, p⟩ := t
      refine Eq.mpr awp_r ?_
      refine Eq.mpr aopsD_r ?_
      conv => whnf
      refine And.intro (by constructor <;> ((try simp only); omega)) ?_
      conv => whnf
      refine ⟨_, ⟨by omega, dt⟩, ?_⟩
      conv => whnf
      refine And.intro (by constructor <;> ((try simp only); omega)) ?_
      conv => whnf
      refine ⟨_, ⟨by omega, dt⟩, ?_⟩
      conv => whnf
      refine fin_rb rfl rfl (rfl) (rfl) rfl (rfl) (rfl) rfl (⟨rfl, rfl, trivial⟩) rfl
    · have h2' : ((toksD l).length : Int) ≤ (a : Int) + 0 := by simpa using h2
      rw [toksD_length] at h2'
      rw [pPeek_not (.inr (by simp only; omega))]
      conv => whnf
      refine fin_rb rfl rfl (rfl) (rfl) rfl (rfl) (rfl) rfl (⟨rfl, rfl, trivial⟩) rfl
  · have h1' : bad = true := h1
    rw [pPeek_not (.inl h1')]
    conv => whnf
    refine fin_rb rfl rfl (rfl) (rfl) rfl (rfl) (rfl) rfl (⟨rfl, rfl, trivial⟩) rfl
theorem c118 (W0 : Go.World) (l : List T) (s : PS) (M : Mem) (hl : l.length ≤ 140737488355328) (hs : s.a ≤ 4611686018427387904) : Ctr Tryz.prog W0 118 [.ptr 0 0, .sc (.i .i64 (0))] [rbx l s, mbx M] (lookA (pPeek l s)) [rbx l (s), mbx (M)] :=
  ctr_body follows F118_ok rfl (fun _ _ h => by cases h) rfl rfl (b118 W0 l s M hl hs)
set_option maxHeartbeats 4000000 in
theorem b60 (W0 : Go.World) (l : List T) (s : PS) (M : Mem) (x : S) (hl : l.length ≤ 140737488355328) (hs : s.a ≤ 4611686018427387904) : Body (Ctr Tryz.prog W0) F60.ac F60.rs [.ptr 0 0, .sc (.s x)] [rbx l s, mbx M] (.sc (.b (pIs l s x))) [rbx l (s), mbx (M)] := by
  obtain ⟨a, bad⟩ := s
  simp only at hs
  repeat' ((conv => whnf); (first | with_reducible refine brec (fun _ => ?_) (fun _ => ?_) | (refine callP.full [0, 1] [] [.ptr 0 0, .sc (.i .i64 (0))] [rbx l _, mbx _] [rbx l _, mbx _] _ (c118 W0 l ⟨a, bad⟩ M hl hs) ⟨rfl, rfl, rfl, rfl, rfl, rfl, rfl, rfl, rfl, rfl, ⟨rfl, rfl, trivial⟩, ⟨⟨⟨rfl, rfl, .inr rfl⟩, rfl, rfl, rfl, trivial⟩, ⟨rfl, trivial⟩, trivial⟩, trivial⟩ ?_) | fail))
  all_goals (conv => whnf)
  all_goals (first | refine fin_rb rfl rfl (rfl) (congrArg (fun b => AV.sc (Sc.b b)) (by simp_all [pIs])) rfl (rfl) (rfl) rfl (rfl) rfl)
theorem c60 (W0 : Go.World) (l : List T) (s : PS) (M : Mem) (x : S) (hl : l.length ≤ 140737488355328) (hs : s.a ≤ 4611686018427387904) : Ctr Tryz.prog W0 60 [.ptr 0 0, .sc (.s x)] [rbx l s, mbx M] (.sc (.b (pIs l s x))) [rbx l (s), mbx (M)] :=
  ctr_body follows F60_ok rfl (fun _ _ h => by cases h) rfl rfl (b60 W0 l s M x hl hs)
def rTake (l : List T) (s : PS) (kd : S) : PS := ⟨s.a + 1, s.bad || !beqL (pPeek l s).1 kd⟩
def rWant (l : List T) (s : PS) (x : S) : PS := ⟨s.a + 1, s.bad || !pIs l s x⟩
set_option maxHeartbeats 4000000 in
theorem b120 (W0 : Go.World) (l : List T) (s : PS) (M : Mem) (x : S) (hl : l.length ≤ 140737488355328) (hs : s.a ≤ 4611686018427387904) : Body (Ctr Tryz.prog W0) F120.ac F120.rs [.ptr 0 0, .sc (.s x)] [rbx l s, mbx M] (.sc (.s (pPeek l s).2.1)) [rbx l (rTake l s x), mbx (M)] := by
  obtain ⟨a, bad⟩ := s
  simp only at hs
  repeat' ((conv => whnf); (first | with_reducible refine brec (fun _ => ?_) (fun _ => ?_) | (refine callP.full [0, 1] [] [.ptr 0 0, .sc (.i .i64 (0))] [rbx l _, mbx _] [rbx l _, mbx _] _ (c118 W0 l ⟨a, bad⟩ M hl hs) ⟨rfl, rfl, rfl, rfl, rfl, rfl, rfl, rfl, rfl, rfl, ⟨rfl, rfl, trivial⟩, ⟨⟨⟨rfl, rfl, .inr rfl⟩, rfl, rfl, rfl, trivial⟩, ⟨rfl, trivial⟩, trivial⟩, trivial⟩ ?_) | (refine And.intro (by constructor <;> ((try simp only); omega)) ?_) | fail))
  all_goals (conv => whnf)
  all_goals (rename_i h1; simp only [rTake, Bool.not_eq_true', Bool.not_eq_false'] at h1 ⊢; simp only [h1, Bool.not_false, Bool.not_true, Bool.or_false, Bool.or_true])
  all_goals (first | refine fin_rb rfl rfl (rfl) (rfl) rfl (rfl) (rfl) rfl (rfl) rfl)
theorem c120 (W0 : Go.World) (l : List T) (s : PS) (M : Mem) (x : S) (hl : l.length ≤ 140737488355328) (hs : s.a ≤ 4611686018427387904) : Ctr Tryz.prog W0 120 [.ptr 0 0, .sc (.s x)] [rbx l s, mbx M] (.sc (.s (pPeek l s).2.1)) [rbx l (rTake l s x), mbx (M)] :=
  ctr_body follows F120_ok rfl (fun _ _ h => by cases h) rfl rfl (b120 W0 l s M x hl hs)
set_option maxHeartbeats 4000000 in
theorem b119 (W0 : Go.World) (l : List T) (s : PS) (M : Mem) (x : S) (hl : l.length ≤ 140737488355328) (hs : s.a ≤ 4611686018427387904) : Body (Ctr Tryz.prog W0) F119.ac F119.rs [.ptr 0 0, .sl 1 [[.sc (.s x)]] .none] [rbx l s, mbx M] (.tup []) [rbx l (rWant l s x), mbx M] := by
  obtain ⟨a, bad⟩ := s
  simp only at hs
  conv => whnf
  refine .runs 3 ?_
  repeat' ((conv => whnf); (first | with_reducible refine brec (fun _ => ?_) (fun _ => ?_) | (refine callP.full [0, 1] [] [.ptr 0 0, .sc (.s x)] [rbx l _, mbx _] [rbx l _, mbx _] _ (c60 W0 l ⟨a, bad⟩ M x hl hs) ⟨rfl, rfl, rfl, rfl, rfl, rfl, rfl, rfl, rfl, rfl, ⟨rfl, rfl, trivial⟩, ⟨⟨⟨rfl, rfl, .inr rfl⟩, rfl, rfl, rfl, trivial⟩, ⟨rfl, trivial⟩, trivial⟩, trivial⟩ ?_) | refine ⟨_, ⟨by decide, rfl⟩, ?_⟩ | (refine And.intro (by constructor <;> ((try simp only); omega)) ?_) | fail))
  all_goals (conv => whnf)
  all_goals (rename_i h1; simp only [rWant, Bool.not_eq_true', Bool.not_eq_false'] at h1 ⊢; simp only [h1, Bool.not_false, Bool.not_true, Bool.or_false, Bool.or_true])
  all_goals (first | refine fin_rb rfl rfl (rfl) (rfl) rfl (rfl) (rfl) rfl (trivial) rfl)
theorem c119 (W0 : Go.World) (l : List T) (s : PS) (M : Mem) (x : S) (hl : l.length ≤ 140737488355328) (hs : s.a ≤ 4611686018427387904) : Ctr Tryz.prog W0 119 [.ptr 0 0, .sl 1 [[.sc (.s x)]] .none] [rbx l s, mbx M] (.tup []) [rbx l (rWant l s x), mbx M] :=
  ctr_body follows F119_ok rfl (fun _ _ h => by cases h) rfl rfl (b119 W0 l s M x hl hs)
end Go.Abs

set_option maxRecDepth 100000
namespace Go.Abs
open Go.Proofs
def F133 : Fn := ⟨.seq (.reg [⟨none, .mv 2 (.c (.sc (.i .i64 0)))⟩, ⟨none, .mv 3 (.c (.sc (.i .i64 0)))⟩]) (.seq (.seq (.reg [⟨none, .mv 6 (.t 0)⟩, ⟨none, .lenS 7 (.t 6)⟩, ⟨none, .bin 8 .lss (.t 7) (.c (.sc (.i .i64 1)))⟩, ⟨none, .mv 9 (.t 8)⟩, ⟨some (9, false), .mv 10 (.t 0)⟩, ⟨some (9, false), .lenS 11 (.t 10)⟩, ⟨some (9, false), .bin 12 .gtr (.t 11) (.c (.sc (.i .i64 9)))⟩, ⟨none, .pick 13 (.t 9) (.c (.sc (.b true))) (.t 12)⟩, ⟨none, .mv 14 (.t 13)⟩, ⟨some (14, false), .mv 15 (.t 0)⟩, ⟨some (14, false), .lenS 16 (.t 15)⟩, ⟨some (14, false), .bin 17 .gtr (.t 16) (.c (.sc (.i .i64 1)))⟩, ⟨some (14, false), .mv 18 (.t 17)⟩, ⟨some (18, true), .mv 19 (.t 0)⟩, ⟨some (18, true), .ix 20 (.t 19) (.c (.sc (.i .i64 0)))⟩, ⟨some (18, true), .bin 21 .eql (.t 20) (.c (.sc (.i .u8 48)))⟩, ⟨some (14, false), .pick 22 (.t 18) (.t 21) (.c (.sc (.b false)))⟩, ⟨none, .pick 23 (.t 14) (.c (.sc (.b true))) (.t 22)⟩]) (.cond (.t 23) (.seq (.reg [⟨none, .mv 2 (.c (.sc (.i .i64 0)))⟩, ⟨none, .mv 3 (.c (.sc (.i .i64 3)))⟩]) .ret) .skip)) (.seq (.reg [⟨none, .mv 4 (.c (.sc (.i .i64 0)))⟩]) (.seq (.seq (.reg [⟨none, .mv 5 (.c (.sc (.i .i64 0)))⟩]) (.block 0 (.loop (.seq (.seq (.reg [⟨none, .mv 24 (.t 5)⟩, ⟨none, .mv 25 (.t 0)⟩, ⟨none, .lenS 26 (.t 25)⟩, ⟨none, .bin 27 .lss (.t 24) (.t 26)⟩]) (.cond (.t 27) .skip (.exit 0))) (.seq (.block 1 (.seq (.seq (.reg [⟨none, .mv 30 (.t 0)⟩, ⟨none, .mv 31 (.t 5)⟩, ⟨none, .ix 32 (.t 30) (.t 31)⟩, ⟨none, .call (some 33) (.c (.fn 130 [])) [.t 32]⟩, ⟨none, .no 34 (.t 33)⟩]) (.cond (.t 34) (.seq (.reg [⟨none, .mv 2 (.c (.sc (.i .i64 0)))⟩, ⟨none, .mv 3 (.c (.sc (.i .i64 3)))⟩]) .ret) .skip)) (.reg [⟨none, .mv 35 (.t 4)⟩, ⟨none, .bin 36 .mul (.c (.sc (.i .i64 10))) (.t 35)⟩, ⟨none, .mv 37 (.t 0)⟩, ⟨none, .mv 38 (.t 5)⟩, ⟨none, .ix 39 (.t 37) (.t 38)⟩, ⟨none, .bin 40 .sub (.t 39) (.c (.sc (.i .u8 48)))⟩, ⟨none, .cvi 41 .i64 (.t 40)⟩, ⟨none, .bin 42 .add (.t 36) (.t 41)⟩, ⟨none, .mv 4 (.t 42)⟩]))) (.reg [⟨none, .mv 28 (.t 5)⟩, ⟨none, .bin 29 .add (.t 28) (.c (.sc (.i .i64 1)))⟩, ⟨none, .mv 5 (.t 29)⟩])))))) (.seq (.reg [⟨none, .mv 43 (.t 4)⟩, ⟨none, .mv 2 (.t 43)⟩, ⟨none, .mv 3 (.c (.sc (.i .i64 0)))⟩]) .ret)))), [(2, 0), (3, 0)], 44⟩
def F122 : Fn := ⟨.seq (.reg [⟨none, .mv 2 (.c (.sc (.i .i64 0)))⟩]) (.seq (.reg [⟨none, .mv 6 (.t 0)⟩, ⟨none, .call (some 7) (.c (.fn 120 [])) [.t 6, .c (.sc (.s [105, 110, 116]))]⟩, ⟨none, .call (some 8) (.c (.fn 133 [])) [.t 7]⟩, ⟨none, .mv 5 (.t 8)⟩, ⟨none, .ext 9 (.t 5) 0⟩, ⟨none, .ext 10 (.t 5) 1⟩, ⟨none, .mv 3 (.t 9)⟩, ⟨none, .mv 4 (.t 10)⟩]) (.seq (.seq (.reg [⟨none, .mv 11 (.t 4)⟩, ⟨none, .bin 12 .neq (.t 11) (.c (.sc (.i .i64 0)))⟩]) (.cond (.t 12) (.reg [⟨none, .mv 13 (.t 0)⟩, ⟨none, .nc 14 (.t 13)⟩, ⟨none, .fa 15 (.t 14) 2⟩, ⟨none, .st (.t 15) 1 (.c (.sc (.b true)))⟩]) .skip)) (.seq (.reg [⟨none, .mv 16 (.t 3)⟩, ⟨none, .mv 2 (.t 16)⟩]) .ret))), [(2, 0)], 17⟩
def F123 : Fn := ⟨.seq (.reg [⟨none, .mv 4 (.c (.sc (.s [])))⟩]) (.seq (.reg [⟨none, .mv 8 (.t 0)⟩, ⟨none, .call (some 9) (.c (.fn 118 [])) [.t 8, .c (.sc (.i .i64 0))]⟩, ⟨none, .mv 7 (.t 9)⟩, ⟨none, .ext 10 (.t 7) 0⟩, ⟨none, .ext 11 (.t 7) 1⟩, ⟨none, .mv 5 (.t 10)⟩, ⟨none, .mv 6 (.t 11)⟩]) (.seq (.seq (.reg [⟨none, .mv 12 (.t 5)⟩, ⟨none, .mv 13 (.t 1)⟩, ⟨none, .call (some 14) (.c (.fn 121 [])) [.t 12, .t 13]⟩, ⟨none, .no 15 (.t 14)⟩, ⟨none, .mv 16 (.t 15)⟩, ⟨some (16, false), .mv 17 (.t 6)⟩, ⟨some (16, false), .bin 18 .neq (.t 17) (.c (.sc (.s [107, 101, 121])))⟩, ⟨some (16, false), .mv 19 (.t 18)⟩, ⟨some (19, true), .mv 20 (.t 6)⟩, ⟨some (19, true), .bin 21 .neq (.t 20) (.c (.sc (.s [115, 105, 103, 110])))⟩, ⟨some (16, false), .pick 22 (.t 19) (.t 21) (.c (.sc (.b false)))⟩, ⟨none, .pick 23 (.t 16) (.c (.sc (.b true))) (.t 22)⟩]) (.cond (.t 23) (.reg [⟨none, .mv 24 (.t 0)⟩, ⟨none, .nc 25 (.t 24)⟩, ⟨none, .fa 26 (.t 25) 2⟩, ⟨none, .st (.t 26) 1 (.c (.sc (.b true)))⟩]) .skip)) (.seq (.reg [⟨none, .mv 27 (.t 0)⟩, ⟨none, .nc 28 (.t 27)⟩, ⟨none, .fa 29 (.t 28) 1⟩, ⟨none, .ld 30 1 false (.t 29)⟩, ⟨none, .bin 31 .add (.t 30) (.c (.sc (.i .i64 1)))⟩, ⟨none, .nc 32 (.t 27)⟩, ⟨none, .fa 33 (.t 32) 1⟩, ⟨none, .st (.t 33) 1 (.t 31)⟩]) (.seq (.reg [⟨none, .mv 34 (.t 5)⟩, ⟨none, .mv 4 (.t 34)⟩]) .ret)))), [(4, 0)], 35⟩
theorem F133_ok : compT Tryz.prog (fun _ => an0) 133 = some F133 := by kernel_rfl
theorem F122_ok : compT Tryz.prog (fun _ => an0) 122 = some F122 := by kernel_rfl
theorem F123_ok : compT Tryz.prog (fun _ => an0) 123 = some F123 := by kernel_rfl
theorem int_ok {s : S} (h1 : 1 ≤ s.length) (h9 : s.length ≤ 9) (hd : ∀ c ∈ s, digI ((c.toNat : Nat) : Int) = true) (hz : s.length = 1 ∨ preB s [48] = false) : validT [105, 110, 116] s = true := by
  match s, h1, h9, hd, hz with
  | c :: t, h1, h9, hd, hz =>
    have hc := hd c (by simp)
    have hs : smallI ((c.toNat : Nat) : Int) = false := by
      simp only [digI, Bool.and_eq_true, decide_eq_true_eq] at hc
      simp only [smallI, Bool.and_eq_false_iff, decide_eq_false_iff_not]
      left; omega
    have hw : wordN (c :: t) = 0 := by simp only [wordN, hs]
    have hdn : digN (c :: t) = t.length + 1 := by
      simp only [digN]
      cases hp : preB (c :: t) [48] with
      | true =>
        rcases hz with hz | hz
        · have hz' : t.length + 1 = 1 := hz
          show 1 = t.length + 1
          omega
        · rw [hp] at hz; cases hz
      | false => simp only; rw [digsN_all _ hd]; rfl
    have ht : (c :: t).take (t.length + 1) = c :: t := List.take_of_length_le (by simp)
    have h9' : decide (((t.length + 1 : Nat) : Int) ≤ 9) = true := (have h9'' : t.length + 1 ≤ 9 := h9; decide_eq_true (by omega))
    have e : firstT (c :: t) = ([105, 110, 116], c :: t, true) := by simp only [firstT, hw, hdn, ht, h9']
    simp [validT, e, beqL]
theorem int_spec2 {s : S} (h : validT [105, 110, 116] s = true) : s.length ≤ 9 ∧ 1 ≤ s.length ∧ (∀ c ∈ s, digI ((c.toNat : Nat) : Int) = true) ∧ (s.length = 1 ∨ preB s [48] = false) := by
  obtain ⟨a, b, c⟩ := int_spec h
  refine ⟨a, by cases s with | nil => exact absurd rfl b | cons x r => simp, c, ?_⟩
  cases hp : preB s [48] with
  | false => exact .inr rfl
  | true =>
    left
    simp only [validT, Bool.and_eq_true] at h
    obtain ⟨h1, h2, h3⟩ := h
    match s, b, c, hp, h1, h2, h3 with
    | x :: r, _, c, hp, h1, h2, h3 =>
      have hc := c x (by simp)
      have hs : smallI ((x.toNat : Nat) : Int) = false := by
        simp only [digI, Bool.and_eq_true, decide_eq_true_eq] at hc
        simp only [smallI, Bool.and_eq_false_iff, decide_eq_false_iff_not]
        left; omega
      have hw : wordN (x :: r) = 0 := by simp only [wordN, hs]
      have hd : digN (x :: r) = 1 := by simp only [digN, hp]
      simp only [firstT, hw, hd] at h3
      have := congrArg List.length (beqL_iff.1 h3)
      simp at this
      simp [this]
theorem num_bad {s : S} (h : validT [105, 110, 116] s = false) : numV s = 0 ∧ numC s = 3 := by simp [numV, numC, h]
theorem dec_val {b : UInt8} (h : digI ((b.toNat : Nat) : Int) = true) : Go.Lib.digitVal b = some (b.toNat - 48) := by
  simp only [digI, Bool.and_eq_true, decide_eq_true_eq] at h
  simp only [Go.Lib.digitVal]; rw [if_pos (by omega)]
theorem num_good {s : S} {m : Nat} (h : validT [105, 110, 116] s = true) (hm : Go.Lib.decFrom 0 s = some m) : numV s = m ∧ numC s = 0 := by
  obtain ⟨h9, h1, hd, _⟩ := int_spec2 h
  have ha : Go.Lib.atoi s = some (m : Int) := by
    match s, h1, hd, hm with
    | c :: t, _, hd, hm =>
      have hb := hd c (by simp)
      simp only [digI, Bool.and_eq_true, decide_eq_true_eq] at hb
      have h1 : (c == 45) = false := by
        cases hc : c == 45 with
        | false => rfl
        | true => simp only [beq_iff_eq] at hc; subst hc; simp at hb
      have h2 : (c == 43) = false := by
        cases hc : c == 43 with
        | false => rfl
        | true => simp only [beq_iff_eq] at hc; subst hc; simp at hb
      simp only [Go.Lib.atoi, h1, h2, Bool.false_eq_true, if_false, Go.Lib.decNat, List.isEmpty_cons]
      rw [hm]; rfl
  simp [numV, numC, h, ha]
set_option maxHeartbeats 4000000 in
theorem b133 (W0 : Go.World) (s : S) (hl : s.length ≤ 140737488355328) : Body (Ctr Tryz.prog W0) F133.ac F133.rs [.sc (.s s)] [] (.tup [.sc (.i .i64 (numV s)), .sc (.i .i64 (numC s))]) [] := by
  have fin3 : ∀ {σ : Log}, validT [105, 110, 116] s = false → FinOK σ (.tup [.sc (.i .i64 0), .sc (.i .i64 3)]) 0 0 (.tup [.sc (.i .i64 (numV s)), .sc (.i .i64 (numC s))]) [] := by
    intro σ h
    obtain ⟨e1, e2⟩ := num_bad h
    rw [e1, e2]
    exact fin0 rfl ⟨rfl, rfl, trivial⟩ rfl
  have notv : ¬ (s.length ≤ 9 ∧ 1 ≤ s.length ∧ (∀ c ∈ s, digI ((c.toNat : Nat) : Int) = true) ∧ (s.length = 1 ∨ preB s [48] = false)) → validT [105, 110, 116] s = false := by
    intro h
    cases hv : validT [105, 110, 116] s with
    | false => rfl
    | true => exact absurd (int_spec2 hv) h
  conv => whnf
  refine brec (fun g1 => ?_) (fun g1 => ?_)
  · have g1' : 1 ≤ s.length := by simp at g1; omega
    conv => whnf
    refine brec (fun g2 => ?_) (fun g2 => ?_)
    · have g2' : s.length ≤ 9 := by simp at g2; omega
      conv => whnf
      refine brec (fun g3 => ?_) (fun g3 => ?_)
      · have hz : s.length = 1 ∨ preB s [48] = false := by left; simp at g3; omega
        have hlen : ((s.length : Nat) : Int) = s.length := rfl
        refine .st (α := Nat × Nat) 9000 (fun x => s.length - x.1) (fun x => [(.s 0, .av (.sc (.s s))), (.s 4, .av (.sc (.i .i64 (x.2 : Nat)))), (.s 5, .av (.sc (.i .i64 (x.1 : Nat))))])
          (fun x => x.1 ≤ s.length ∧ Go.Lib.decFrom 0 (s.take x.1) = some x.2 ∧ (∀ c ∈ s.take x.1, digI ((c.toNat : Nat) : Int) = true) ∧ x.2 < 10 ^ x.1) (0, 0) ?_ ⟨Nat.zero_le _, rfl, by simp, by decide⟩ ?_
        · (refine le_of rfl rfl ?_; repeat' (first | exact rfl | exact trivial | refine ⟨?_, ?_⟩))
        · rintro ⟨k, m⟩ ⟨hk, hm, hd, hb⟩
          simp only at hk hm hd hb
          have hb9 : m < 1000000000 := Nat.lt_of_lt_of_le hb (by have : 10 ^ k ≤ 10 ^ 9 := Nat.pow_le_pow_right (by decide) (by omega); simpa using this)
          conv => whnf
          refine brec (fun q1 => ?_) (fun q1 => ?_)
          · have q1' : k = s.length := by simp at q1; omega
            subst q1'
            rw [List.take_length] at hm hd
            obtain ⟨e1, e2⟩ := num_good (int_ok g1' g2' hd hz) hm
            rw [e1, e2]
            conv => whnf
            exact fin0 rfl ⟨rfl, rfl, trivial⟩ rfl
          · have q1' : k < s.length := by simp at q1; omega
            obtain ⟨b, hx⟩ := get_of_lt q1'
            have htk : s.take (k + 1) = s.take k ++ [b] := by rw [List.take_add_one, hx]; rfl
            conv => whnf
            refine ⟨b, ⟨Int.natCast_nonneg _, hx⟩, ?_⟩
            conv => whnf
            refine callP.pure _ (c130 W0 _) ⟨rfl, rfl⟩ ?_
            conv => whnf
            refine brec (fun q2 => ?_) (fun q2 => ?_)
            · have q2' : digI ((b.toNat : Nat) : Int) = true := by simpa using q2
              have q3 := q2'
              simp only [digI, Bool.and_eq_true, decide_eq_true_eq] at q3
              have hm2 : Go.Lib.decFrom 0 (s.take (k + 1)) = some (m * 10 + (b.toNat - 48)) := by rw [htk]; exact decFrom_app _ _ _ _ _ hm (dec_val q2')
              have hd2 : ∀ c ∈ s.take (k + 1), digI ((c.toNat : Nat) : Int) = true := by
                intro c hc
                rw [htk, List.mem_append] at hc
                rcases hc with hc | hc
                · exact hd c hc
                · rw [List.mem_singleton.1 hc]; exact q2'
              conv => whnf
              refine And.intro (by constructor <;> omega) ?_
              conv => whnf
              refine ⟨b, ⟨Int.natCast_nonneg _, hx⟩, ?_⟩
              repeat' ((conv => whnf); (first | (refine And.intro (by constructor <;> omega) ?_) | fail))
              conv => whnf
              refine nxt (k + 1, m * 10 + (b.toNat - 48)) ⟨by simp only; omega, by simp only; omega, hm2, hd2, by simp only [Nat.pow_succ]; omega⟩ ?_
              (refine le_of rfl rfl ?_; repeat' (first | exact rfl | exact trivial | exact congrArg (fun z => AV.sc (Sc.i .i64 z)) (by omega) | refine ⟨?_, ?_⟩))
            · have q2' : ¬ digI ((b.toNat : Nat) : Int) = true := by simpa using q2
              conv => whnf
              exact fin3 (notv (fun hh => q2' (hh.2.2.1 b (List.mem_of_getElem? hx))))
      · obtain ⟨c, t, hs⟩ : ∃ c t, s = c :: t := by cases s with | nil => simp at g1' | cons c t => exact ⟨c, t, rfl⟩
        conv => whnf
        refine ⟨c, ⟨by decide, by rw [hs]; rfl⟩, ?_⟩
        conv => whnf
        have g3' : 1 < s.length := by simp at g3; omega
        refine brec (fun g4 => ?_) (fun g4 => ?_)
        · have hz : s.length = 1 ∨ preB s [48] = false := by
            right
            have g4' : ¬ ((c.toNat : Nat) : Int) = 48 := by simpa using g4
            rw [hs]
            simp [preB, beqL]
            intro hc
            subst hc
            exact g4' rfl
          have hlen : ((s.length : Nat) : Int) = s.length := rfl
          refine .st (α := Nat × Nat) 9000 (fun x => s.length - x.1) (fun x => [(.s 0, .av (.sc (.s s))), (.s 4, .av (.sc (.i .i64 (x.2 : Nat)))), (.s 5, .av (.sc (.i .i64 (x.1 : Nat))))])
            (fun x => x.1 ≤ s.length ∧ Go.Lib.decFrom 0 (s.take x.1) = some x.2 ∧ (∀ c ∈ s.take x.1, digI ((c.toNat : Nat) : Int) = true) ∧ x.2 < 10 ^ x.1) (0, 0) ?_ ⟨Nat.zero_le _, rfl, by simp, by decide⟩ ?_
          · (refine le_of rfl rfl ?_; repeat' (first | exact rfl | exact trivial | refine ⟨?_, ?_⟩))
          · rintro ⟨k, m⟩ ⟨hk, hm, hd, hb⟩
            simp only at hk hm hd hb
            have hb9 : m < 1000000000 := Nat.lt_of_lt_of_le hb (by have : 10 ^ k ≤ 10 ^ 9 := Nat.pow_le_pow_right (by decide) (by omega); simpa using this)
            conv => whnf
            refine brec (fun q1 => ?_) (fun q1 => ?_)
            · have q1' : k = s.length := by simp at q1; omega
              subst q1'
              rw [List.take_length] at hm hd
              obtain ⟨e1, e2⟩ := num_good (int_ok g1' g2' hd hz) hm
              rw [e1, e2]
              conv => whnf
              exact fin0 rfl ⟨rfl, rfl, trivial⟩ rfl
            · have q1' : k < s.length := by simp at q1; omega
              obtain ⟨b, hx⟩ := get_of_lt q1'
              have htk : s.take (k + 1) = s.take k ++ [b] := by rw [List.take_add_one, hx]; rfl
              conv => whnf
              refine ⟨b, ⟨Int.natCast_nonneg _, hx⟩, ?_⟩
              conv => whnf
              refine callP.pure _ (c130 W0 _) ⟨rfl, rfl⟩ ?_
              conv => whnf
              refine brec (fun q2 => ?_) (fun q2 => ?_)
              · have q2' : digI ((b.toNat : Nat) : Int) = true := by simpa using q2
                have q3 := q2'
                simp only [digI, Bool.and_eq_true, decide_eq_true_eq] at q3
                have hm2 : Go.Lib.decFrom 0 (s.take (k + 1)) = some (m * 10 + (b.toNat - 48)) := by rw [htk]; exact decFrom_app _ _ _ _ _ hm (dec_val q2')
                have hd2 : ∀ c ∈ s.take (k + 1), digI ((c.toNat : Nat) : Int) = true := by
                  intro c hc
                  rw [htk, List.mem_append] at hc
                  rcases hc with hc | hc
                  · exact hd c hc
                  · rw [List.mem_singleton.1 hc]; exact q2'
                conv => whnf
                refine And.intro (by constructor <;> omega) ?_
                conv => whnf
                refine ⟨b, ⟨Int.natCast_nonneg _, hx⟩, ?_⟩
                repeat' ((conv => whnf); (first | (refine And.intro (by constructor <;> omega) ?_) | fail))
                conv => whnf
                refine nxt (k + 1, m * 10 + (b.toNat - 48)) ⟨by simp only; omega, by simp only; omega, hm2, hd2, by simp only [Nat.pow_succ]; omega⟩ ?_
                (refine le_of rfl rfl ?_; repeat' (first | exact rfl | exact trivial | exact congrArg (fun z => AV.sc (Sc.i .i64 z)) (by omega) | refine ⟨?_, ?_⟩))
              · have q2' : ¬ digI ((b.toNat : Nat) : Int) = true := by simpa using q2
                conv => whnf
                exact fin3 (notv (fun hh => q2' (hh.2.2.1 b (List.mem_of_getElem? hx))))
        · have g4' : ((c.toNat : Nat) : Int) = 48 := by simpa using g4
          conv => whnf
          refine fin3 (notv (fun hh => ?_))
          rcases hh.2.2.2 with h | h
          · omega
          · have hc : c = 48 := UInt8.toNat_inj.1 (by show c.toNat = 48; omega)
            rw [hs, hc] at h
            simp [preB, beqL] at h
    · conv => whnf
      exact fin3 (notv (by simp at g2; omega))
  · conv => whnf
    exact fin3 (notv (by simp at g1; omega))
theorem c133 (W0 : Go.World) (s : S) (hl : s.length ≤ 140737488355328) : Ctr Tryz.prog W0 133 [.sc (.s s)] [] (.tup [.sc (.i .i64 (numV s)), .sc (.i .i64 (numC s))]) [] :=
  ctr_body follows F133_ok rfl (fun _ _ h => by cases h) rfl (by rfl) (b133 W0 s hl)
/-- an int is taken -/
def rNum (l : List T) (s : PS) : PS := ⟨s.a + 1, (s.bad || !beqL (pPeek l s).1 [105, 110, 116]) || !decide (numC (pPeek l s).2.1 = 0)⟩
def rWord (l : List T) (s : PS) (W : List S) : PS := ⟨s.a + 1, s.bad || !(hasB (pPeek l s).2.1 W && (beqL (pPeek l s).1 [107, 101, 121] || beqL (pPeek l s).1 [115, 105, 103, 110]))⟩
set_option maxHeartbeats 4000000 in
theorem b122 (W0 : Go.World) (l : List T) (s : PS) (M : Mem) (hl : l.length ≤ 140737488355328) (ht : tOK l) (hs : s.a ≤ 4611686018427387904) : Body (Ctr Tryz.prog W0) F122.ac F122.rs [.ptr 0 0] [rbx l s, mbx M] (.sc (.i .i64 (numV (pPeek l s).2.1))) [rbx l (rNum l s), mbx (M)] := by
  have hx := pPeek_ok (s := s) ht
  obtain ⟨a, bad⟩ := s
  simp only at hs
  repeat' ((conv => whnf); (first | with_reducible refine brec (fun _ => ?_) (fun _ => ?_) | (refine callP.full [0, 1] [] [.ptr 0 0, .sc (.s [105, 110, 116])] [rbx l _, mbx _] [rbx l _, mbx _] _ (c120 W0 l ⟨a, bad⟩ M [105, 110, 116] hl hs) ⟨rfl, rfl, rfl, rfl, rfl, rfl, rfl, rfl, rfl, rfl, ⟨rfl, rfl, trivial⟩, ⟨⟨⟨rfl, rfl, .inr rfl⟩, rfl, rfl, rfl, trivial⟩, ⟨rfl, trivial⟩, trivial⟩, trivial⟩ ?_) | (refine callP.pure _ (c133 W0 _ (Nat.le_trans hx (by decide))) ⟨rfl, rfl⟩ ?_) | (refine And.intro (by constructor <;> ((try simp only); omega)) ?_) | fail))
  all_goals (conv => whnf)
  all_goals (rename_i h1; simp only [rNum, rTake, Bool.not_eq_true', Bool.not_eq_false', decide_eq_false_iff_not, decide_eq_true_eq, Decidable.not_not] at h1 ⊢; simp only [h1, decide_true, decide_false, Bool.not_false, Bool.not_true, Bool.or_false, Bool.or_true])
  all_goals (first | refine fin_rb rfl rfl (rfl) (rfl) rfl (rfl) (rfl) rfl (rfl) rfl)
theorem c122 (W0 : Go.World) (l : List T) (s : PS) (M : Mem) (hl : l.length ≤ 140737488355328) (ht : tOK l) (hs : s.a ≤ 4611686018427387904) : Ctr Tryz.prog W0 122 [.ptr 0 0] [rbx l s, mbx M] (.sc (.i .i64 (numV (pPeek l s).2.1))) [rbx l (rNum l s), mbx (M)] :=
  ctr_body follows F122_ok rfl (fun _ _ h => by cases h) rfl rfl (b122 W0 l s M hl ht hs)
set_option maxHeartbeats 4000000 in
theorem b123 (W0 : Go.World) (l : List T) (s : PS) (M : Mem) (hl : l.length ≤ 140737488355328) (t : S) (W : List S) (h121 : ∀ x : S, Ctr Tryz.prog W0 121 [.sc (.s x), .sc (.s t)] [] (.sc (.b (hasB x W))) []) (hs : s.a ≤ 4611686018427387904) : Body (Ctr Tryz.prog W0) F123.ac F123.rs [.ptr 0 0, .sc (.s t)] [rbx l s, mbx M] (.sc (.s (pPeek l s).2.1)) [rbx l (rWord l s W), mbx (M)] := by
  obtain ⟨a, bad⟩ := s
  simp only at hs
  repeat' ((conv => whnf); (first | with_reducible refine brec (fun _ => ?_) (fun _ => ?_) | (refine callP.full [0, 1] [] [.ptr 0 0, .sc (.i .i64 (0))] [rbx l _, mbx _] [rbx l _, mbx _] _ (c118 W0 l ⟨a, bad⟩ M hl hs) ⟨rfl, rfl, rfl, rfl, rfl, rfl, rfl, rfl, rfl, rfl, ⟨rfl, rfl, trivial⟩, ⟨⟨⟨rfl, rfl, .inr rfl⟩, rfl, rfl, rfl, trivial⟩, ⟨rfl, trivial⟩, trivial⟩, trivial⟩ ?_) | (refine callP.pure _ (h121 _) ⟨rfl, rfl⟩ ?_) | (refine And.intro (by constructor <;> ((try simp only); omega)) ?_) | fail))
  all_goals (conv => whnf)
  all_goals (simp only [rWord]; simp_all only [Bool.not_eq_true', Bool.not_eq_false', Bool.not_false, Bool.not_true, Bool.or_false, Bool.or_true, Bool.true_and, Bool.false_and, Bool.and_true, Bool.and_false, Bool.true_or, Bool.false_or])
  all_goals (first | refine fin_rb rfl rfl (rfl) (rfl) rfl (rfl) (rfl) rfl (rfl) rfl)
theorem c123 (W0 : Go.World) (l : List T) (s : PS) (M : Mem) (hl : l.length ≤ 140737488355328) (t : S) (W : List S) (h121 : ∀ x : S, Ctr Tryz.prog W0 121 [.sc (.s x), .sc (.s t)] [] (.sc (.b (hasB x W))) []) (hs : s.a ≤ 4611686018427387904) : Ctr Tryz.prog W0 123 [.ptr 0 0, .sc (.s t)] [rbx l s, mbx M] (.sc (.s (pPeek l s).2.1)) [rbx l (rWord l s W), mbx (M)] :=
  ctr_body follows F123_ok rfl (fun _ _ h => by cases h) rfl rfl (b123 W0 l s M hl t W h121 hs)
end Go.Abs
