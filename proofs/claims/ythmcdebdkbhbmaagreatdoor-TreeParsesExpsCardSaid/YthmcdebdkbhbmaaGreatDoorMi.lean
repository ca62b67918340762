/- One step of a region that draws its order, by equations. -/
import Derived.Test.YthmcdebdkbhbmaaGreatDoorC4
import Derived.Test.YthmcdebdkbhbmaaGreatDoorMe
import Derived.Test.YthmcdebdkbhbmaaGreatDoorMg
import Derived.Test.YthmcdebdkbhbmaaGreatDoorMh
set_option maxRecDepth 100000
namespace Go.Abs
theorem aopsD_n0 {call : CallP} {o : AOp} {r : List GOp} {p : Nat} {ps : List Nat} {j id : Nat} {σ : Log} {fs : List (Nat × List Loc × List Loc)} {K : Log → Prop} : aopsD call (⟨none, o⟩ :: r) (p :: ps) j id σ fs K = eff call σ id o (fun δ => fls (o.rd σ) fun R => fls (keysL δ) fun W => match confl p R W fs with
        | true => False
        | false => aopsD call r ps (j + 1) (id + 100) (δ ++ σ) ((j, R, W) :: fs) K) := rfl
theorem awp_r {P : Go.Program} {W0 : Go.World} {ops : List GOp} {pre : List Nat} {y : AC} {nx : Nat} {σ : Log} {Q : Ex → Nat → Log → Prop} : awp (Ctr P W0) (.seq (.regD ops pre) y) nx σ Q = aopsD (Ctr P W0) ops pre 0 nx σ [] (fun σ => awp (Ctr P W0) y (nx + 100 * ops.length) σ Q) := rfl
theorem aopsD_r {P : Go.Program} {W0 : Go.World} {o : AOp} {r : List GOp} {p : Nat} {ps : List Nat} {j id : Nat} {σ : Log} {fs : List (Nat × List Loc × List Loc)} {K : Log → Prop} : aopsD (Ctr P W0) (⟨none, o⟩ :: r) (p :: ps) j id σ fs K = eff (Ctr P W0) σ id o (fun δ => fls (o.rd σ) fun R => fls (keysL δ) fun W => match confl p R W fs with
        | true => False
        | false => aopsD (Ctr P W0) r ps (j + 1) (id + 100) (δ ++ σ) ((j, R, W) :: fs) K) := rfl
end Go.Abs

set_option maxRecDepth 100000
namespace Go.Abs
open Go.Proofs
/-- the younger log's token 9000 is the elder's k -/
theorem le_tok {σ σ' : Log} {N : Nat} (k : Nat) (h1 : Nat.ble 1000 N = true) (h2 : belowC N σ' = true) (h4 : (lowToks σ').all (fun j => !([k] : List Nat).contains j) = true) (h5 : nodupB [k] = true) (h3 : leP [(9000, k)] σ σ') : Le σ N σ' := ⟨[(9000, k)], ⟨h5, h4, h1, h2⟩, h3⟩
theorem fin_sl {σ : Log} {z : Nat} {e e' : List (List Data)} {t : Tok} (h : e = e') : FinOK σ (.sl z e t) 0 0 (.sl z e' .none) [] := by
  subst h; exact ⟨⟨[], [], ⟨rfl, rfl, rfl, rfl⟩, ⟨rfl, rfl, .inl rfl⟩, trivial, trivial⟩⟩
theorem strsD_append (a b : List S) : strsD (a ++ b) = strsD a ++ strsD b := by simp [strsD]
def lstsD (ls : List (List S)) : List (List Data) := ls.map fun l => [.lst 1 (strsD l)]
def lstsL (ls : List (List S)) : AV := .sl 1 (lstsD ls) .none
theorem lstsD_length (ls : List (List S)) : (lstsD ls).length = ls.length := by simp [lstsD]
theorem lstsD_get {ls : List (List S)} {i : Nat} {l : List S} (h : ls[i]? = some l) : (lstsD ls)[i]? = some [.lst 1 (strsD l)] := by simp [lstsD, h]
theorem flat_take {ls : List (List S)} {k : Nat} {l : List S} (h : ls[k]? = some l) : (ls.take (k + 1)).flatten = (ls.take k).flatten ++ l := by
  obtain ⟨h1, h2⟩ := List.getElem?_eq_some_iff.1 h
  rw [List.take_succ_eq_append_getElem h1, h2]; simp
theorem flat_len {ls : List (List S)} {k : Nat} : (ls.take k).flatten.length ≤ ls.flatten.length := by
  have := congrArg (fun l => (List.flatten l).length) (List.take_append_drop k ls)
  simp only [List.flatten_append, List.length_append] at this
  omega
def F161 : Fn := ⟨.seq (.reg [⟨none, .mv 4 (.c (.sl 1 [] .full))⟩]) (.seq (.seq (.reg [⟨none, .mv 5 (.t 1)⟩, ⟨none, .bin 6 .lss (.t 5) (.c (.sc (.i .i64 0)))⟩]) (.cond (.t 6) .stuck .skip)) (.seq (.seq (.reg [⟨none, .mv 8 (.t 1)⟩, ⟨none, .mv 9 (.t 0)⟩, ⟨none, .cap 10 (.t 9)⟩, ⟨none, .mv 11 (.t 0)⟩, ⟨none, .len 12 (.t 11)⟩, ⟨none, .bin 13 .sub (.t 10) (.t 12)⟩, ⟨none, .bin 14 .sub (.t 8) (.t 13)⟩, ⟨none, .mv 1 (.t 14)⟩]) (.seq (.reg [⟨none, .mv 15 (.t 1)⟩, ⟨none, .bin 16 .gtr (.t 15) (.c (.sc (.i .i64 0)))⟩]) (.cond (.t 16) (.reg [⟨none, .mv 17 (.t 0)⟩, ⟨none, .mv 18 (.t 0)⟩, ⟨none, .cap 19 (.t 18)⟩, ⟨none, .slL 20 1 (.t 17) none (some (.t 19)) none⟩, ⟨none, .mv 21 (.t 1)⟩, ⟨none, .appZ 22 1 16 [.sc (.s [])] (.t 20) (.t 21)⟩, ⟨none, .mv 23 (.t 0)⟩, ⟨none, .len 24 (.t 23)⟩, ⟨none, .slL 25 1 (.t 22) none (some (.t 24)) none⟩, ⟨none, .mv 0 (.t 25)⟩]) .skip))) (.seq (.reg [⟨none, .mv 26 (.t 0)⟩, ⟨none, .mv 4 (.t 26)⟩]) .ret))), [(4, 0)], 27⟩
def F87 : Fn := ⟨.seq (.reg [⟨none, .mv 2 (.c (.sl 1 [] .full))⟩]) (.seq (.reg [⟨none, .mv 3 (.c (.sc (.i .i64 0)))⟩]) (.seq (.seq (.reg [⟨none, .mv 9 (.t 0)⟩, ⟨none, .len 10 (.t 9)⟩, ⟨none, .mv 11 (.c (.sc (.i .i64 0)))⟩]) (.block 0 (.loop (.seq (.reg [⟨none, .bin 12 .lss (.t 11) (.t 10)⟩]) (.seq (.cond (.t 12) .skip (.exit 0)) (.seq (.block 1 (.seq (.reg [⟨none, .ia 13 1 (.t 9) (.t 11)⟩, ⟨none, .ld 14 1 false (.t 13)⟩, ⟨none, .mv 5 (.t 14)⟩]) (.seq (.reg [⟨none, .mv 15 (.t 3)⟩, ⟨none, .mv 16 (.t 5)⟩, ⟨none, .len 17 (.t 16)⟩, ⟨none, .bin 18 .add (.t 15) (.t 17)⟩, ⟨none, .mv 3 (.t 18)⟩]) (.seq (.reg [⟨none, .mv 19 (.t 3)⟩, ⟨none, .bin 20 .lss (.t 19) (.c (.sc (.i .i64 0)))⟩]) (.cond (.t 20) .stuck .skip))))) (.reg [⟨none, .bin 22 .add (.t 11) (.c (.sc (.i .i64 1)))⟩, ⟨none, .mv 11 (.t 22)⟩]))))))) (.seq (.reg [⟨none, .mv 23 (.t 3)⟩, ⟨none, .call (some 24) (.c (.fn 161 [])) [.c (.sl 1 [] .full), .t 23]⟩, ⟨none, .mv 6 (.t 24)⟩]) (.seq (.seq (.reg [⟨none, .mv 25 (.t 0)⟩, ⟨none, .len 26 (.t 25)⟩, ⟨none, .mv 27 (.c (.sc (.i .i64 0)))⟩]) (.block 2 (.loop (.seq (.reg [⟨none, .bin 28 .lss (.t 27) (.t 26)⟩]) (.seq (.cond (.t 28) .skip (.exit 2)) (.seq (.block 3 (.seq (.reg [⟨none, .ia 29 1 (.t 25) (.t 27)⟩, ⟨none, .ld 30 1 false (.t 29)⟩, ⟨none, .mv 8 (.t 30)⟩]) (.reg [⟨none, .mv 31 (.t 6)⟩, ⟨none, .mv 32 (.t 8)⟩, ⟨none, .app 33 1 16 (.t 31) (.t 32)⟩, ⟨none, .mv 6 (.t 33)⟩]))) (.reg [⟨none, .bin 34 .add (.t 27) (.c (.sc (.i .i64 1)))⟩, ⟨none, .mv 27 (.t 34)⟩]))))))) (.seq (.reg [⟨none, .mv 35 (.t 6)⟩, ⟨none, .mv 2 (.t 35)⟩]) .ret))))), [(2, 0)], 36⟩
def F88 : Fn := ⟨.seq (.reg [⟨none, .mv 6 (.c (.sl 1 [] .full))⟩]) (.seq (.reg [⟨none, .mv 7 (.t 0)⟩, ⟨none, .bsl 8 1 [.t 7]⟩, ⟨none, .mv 9 (.t 1)⟩, ⟨none, .mv 10 (.t 2)⟩, ⟨none, .bsl 11 1 [.t 10]⟩, ⟨none, .bsl 12 1 [.t 8, .t 9, .t 11]⟩, ⟨none, .call (some 13) (.c (.fn 87 [])) [.t 12]⟩, ⟨none, .mv 6 (.t 13)⟩]) .ret), [(6, 0)], 14⟩
def F134 : Fn := ⟨.seq (.reg [⟨none, .mv 2 (.c (.sc (.s [])))⟩]) (.seq (.seq (.reg [⟨none, .mv 3 (.t 0)⟩, ⟨none, .bin 4 .eql (.t 3) (.c (.sc (.i .i64 0)))⟩]) (.cond (.t 4) (.seq (.reg [⟨none, .mv 2 (.c (.sc (.s [102, 97, 108, 115, 101])))⟩]) .ret) .skip)) (.seq (.reg [⟨none, .mv 2 (.c (.sc (.s [116, 114, 117, 101])))⟩]) .ret)), [(2, 0)], 5⟩
theorem F161_ok : compT Tryz.prog (fun _ => an0) 161 = some F161 := by kernel_rfl
theorem F87_ok : compT Tryz.prog (fun _ => an0) 87 = some F87 := by kernel_rfl
theorem F88_ok : compT Tryz.prog (fun _ => an0) 88 = some F88 := by kernel_rfl
theorem F134_ok : compT Tryz.prog (fun _ => an0) 134 = some F134 := by kernel_rfl
theorem b161z (W0 : Go.World) : Body (Ctr Tryz.prog W0) F161.ac F161.rs [.sl 1 [] .full, .sc (.i .i64 0)] [] (.sl 1 [] .full) [] := by
  conv => whnf
  refine And.intro (by constructor <;> simp) ?_
  conv => whnf
  refine And.intro (by constructor <;> simp) ?_
  conv => whnf
  exact fin0 rfl ⟨rfl, rfl, .inr rfl⟩ rfl
theorem b161p (W0 : Go.World) (n : Nat) (h0 : 0 < n) (hn : n ≤ 1099511627776) : Body (Ctr Tryz.prog W0) F161.ac F161.rs [.sl 1 [] .full, .sc (.i .i64 n)] [] (.sl 1 [] (.t 0)) [] := by
  conv => whnf
  refine And.intro (by constructor <;> simp) ?_
  conv => whnf
  refine And.intro (by constructor <;> simp <;> omega) ?_
  conv => whnf
  refine brec (fun h2 => ?_) (fun h2 => ?_)
  · simp at h2; omega
  · conv => whnf
    refine ⟨.full, ⟨by simp, .inr ⟨rfl, rfl⟩⟩, ?_⟩
    conv => whnf
    refine And.intro ⟨by simpa using h2, by constructor <;> (simp; omega)⟩ ?_
    conv => whnf
    refine And.intro ⟨by simp, ?_⟩ ?_
    · refine ⟨by simp, ?_⟩
      cases n with
      | zero => rfl
      | succ n => cases n <;> rfl
    conv => whnf
    exact ⟨⟨[], [3100], ⟨rfl, rfl, rfl, rfl⟩, ⟨rfl, rfl, .inr rfl⟩, trivial, ⟨trivial, trivial⟩⟩⟩
theorem c161z (W0 : Go.World) : Ctr Tryz.prog W0 161 [.sl 1 [] .full, .sc (.i .i64 0)] [] (.sl 1 [] .full) [] :=
  ctr_body follows F161_ok rfl (fun _ _ h => by cases h) rfl rfl (b161z W0)
theorem c161p (W0 : Go.World) (n : Nat) (h0 : 0 < n) (hn : n ≤ 1099511627776) : Ctr Tryz.prog W0 161 [.sl 1 [] .full, .sc (.i .i64 n)] [] (.sl 1 [] (.t 0)) [] :=
  ctr_body follows F161_ok rfl (fun _ _ h => by cases h) rfl rfl (b161p W0 n h0 hn)
set_option maxHeartbeats 4000000 in
theorem b87 (W0 : Go.World) (ls : List (List S)) (hl : ls.length ≤ 1099511627776) (hn : ls.flatten.length ≤ 1099511627776) : Body (Ctr Tryz.prog W0) F87.ac F87.rs [lstsL ls] [] (.sl 1 (strsD ls.flatten) .none) [] := by
  conv => whnf
  refine .st 2000 (fun k => ls.length - k) (fun k => [(.s 0, .av (lstsL ls)), (.s 9, .av (lstsL ls)), (.s 10, .av (.sc (.i .i64 ((lstsD ls).length : Nat)))), (.s 11, .av (.sc (.i .i64 (k : Nat)))), (.s 3, .av (.sc (.i .i64 ((ls.take k).flatten.length : Nat))))])
    (fun k => k ≤ ls.length) 0 ?_ (Nat.zero_le _) ?_
  · (refine le_of rfl rfl ?_; repeat' (first | exact rfl | exact trivial | refine ⟨?_, ?_⟩))
  · intro k hk
    conv => whnf
    refine brec (fun h2 => ?_) (fun h2 => ?_)
    · simp only [lstsD_length, decide_eq_false_iff_not] at h2
      have e1 : k = ls.length := by omega
      subst e1
      rw [List.take_length]
      clear h2 hk
      conv => whnf
      cases hz : ls.flatten.length with
      | zero =>
        refine callP.full [] [] [.sl 1 [] .full, .sc (.i .i64 0)] [] [] (.sl 1 [] .full) (c161z W0) ⟨rfl, rfl, rfl, rfl, rfl, rfl, rfl, rfl, rfl, rfl, ⟨⟨rfl, rfl, .inr rfl⟩, rfl, trivial⟩, trivial, trivial⟩ ?_
        conv => whnf
        refine .st 10000 (fun k => ls.length - k) (fun k => [(.s 0, .av (lstsL ls)), (.s 25, .av (lstsL ls)), (.s 26, .av (.sc (.i .i64 ((lstsD ls).length : Nat)))), (.s 27, .av (.sc (.i .i64 (k : Nat)))), (.s 6, .av (.sl 1 (strsD (ls.take k).flatten) (.t 9000))), (.t 9000, .tk true)])
          (fun k => k ≤ ls.length) 0 ?_ (Nat.zero_le _) ?_
        · (refine le_of rfl rfl ?_; repeat' (first | exact rfl | exact trivial | refine ⟨?_, ?_⟩))
        · intro k hk
          conv => whnf
          refine brec (fun h2 => ?_) (fun h2 => ?_)
          · simp only [lstsD_length, decide_eq_false_iff_not] at h2
            have e1 : k = ls.length := by omega
            conv => whnf
            exact fin_sl (by rw [e1, List.take_length])
          · simp only [lstsD_length, decide_eq_true_eq] at h2
            obtain ⟨x, hx⟩ := get_of_lt (l := ls) (k := k) (by omega)
            have dx := lstsD_get hx
            have ft := flat_take hx
            have fl := flat_len (ls := ls) (k := k + 1)
            rw [ft, List.length_append] at fl
            conv => whnf
            refine ⟨_, ⟨Int.natCast_nonneg _, dx⟩, ?_⟩
            conv => whnf
            refine And.intro (by rw [strsD_length, strsD_length]; constructor <;> omega) ?_
            conv => whnf
            refine And.intro (by constructor <;> omega) ?_
            conv => whnf
            refine nxt (k + 1) ⟨by omega, by omega⟩ ?_
            rw [ft, strsD_append]
            (apply le_tok (h1 := rfl); (case h3 => repeat' (first | exact rfl | exact trivial | refine ⟨?_, ?_⟩)); all_goals exact rfl)
      | succ m =>
        refine callP.full [] [] [.sl 1 [] .full, .sc (.i .i64 (m + 1 : Nat))] [] [] (.sl 1 [] (.t 0)) (c161p W0 (m + 1) (by omega) (by omega)) ⟨rfl, rfl, rfl, rfl, rfl, rfl, rfl, rfl, rfl, rfl, ⟨⟨rfl, rfl, .inr rfl⟩, rfl, trivial⟩, trivial, trivial⟩ ?_
        conv => whnf
        refine .st 10000 (fun k => ls.length - k) (fun k => [(.s 0, .av (lstsL ls)), (.s 25, .av (lstsL ls)), (.s 26, .av (.sc (.i .i64 ((lstsD ls).length : Nat)))), (.s 27, .av (.sc (.i .i64 (k : Nat)))), (.s 6, .av (.sl 1 (strsD (ls.take k).flatten) (.t 9000))), (.t 9000, .tk true)])
          (fun k => k ≤ ls.length) 0 ?_ (Nat.zero_le _) ?_
        · (apply le_tok (h1 := rfl); (case h3 => repeat' (first | exact rfl | exact trivial | refine ⟨?_, ?_⟩)); all_goals exact rfl)
        · intro k hk
          conv => whnf
          refine brec (fun h2 => ?_) (fun h2 => ?_)
          · simp only [lstsD_length, decide_eq_false_iff_not] at h2
            have e1 : k = ls.length := by omega
            conv => whnf
            exact fin_sl (by rw [e1, List.take_length])
          · simp only [lstsD_length, decide_eq_true_eq] at h2
            obtain ⟨x, hx⟩ := get_of_lt (l := ls) (k := k) (by omega)
            have dx := lstsD_get hx
            have ft := flat_take hx
            have fl := flat_len (ls := ls) (k := k + 1)
            rw [ft, List.length_append] at fl
            conv => whnf
            refine ⟨_, ⟨Int.natCast_nonneg _, dx⟩, ?_⟩
            conv => whnf
            refine And.intro (by rw [strsD_length, strsD_length]; constructor <;> omega) ?_
            conv => whnf
            refine And.intro (by constructor <;> omega) ?_
            conv => whnf
            refine nxt (k + 1) ⟨by omega, by omega⟩ ?_
            rw [ft, strsD_append]
            (apply le_tok (h1 := rfl); (case h3 => repeat' (first | exact rfl | exact trivial | refine ⟨?_, ?_⟩)); all_goals exact rfl)
    · simp only [lstsD_length, decide_eq_true_eq] at h2
      obtain ⟨x, hx⟩ := get_of_lt (l := ls) (k := k) (by omega)
      have dx := lstsD_get hx
      have ft := flat_take hx
      have fl := flat_len (ls := ls) (k := k + 1)
      rw [ft, List.length_append] at fl
      conv => whnf
      refine ⟨_, ⟨Int.natCast_nonneg _, dx⟩, ?_⟩
      conv => whnf
      refine And.intro (by rw [strsD_length]; constructor <;> omega) ?_
      conv => whnf
      refine And.intro (by constructor <;> omega) ?_
      conv => whnf
      refine nxt (k + 1) ⟨by omega, by omega⟩ ?_
      rw [ft, List.length_append, ← strsD_length x]
      (refine le_of rfl rfl ?_; repeat' (first | exact rfl | exact trivial | refine ⟨?_, ?_⟩))
end Go.Abs

set_option maxRecDepth 100000
namespace Go.Abs
open Go.Proofs
theorem c87 (W0 : Go.World) (ls : List (List S)) (hl : ls.length ≤ 1099511627776) (hn : ls.flatten.length ≤ 1099511627776) : Ctr Tryz.prog W0 87 [lstsL ls] [] (.sl 1 (strsD ls.flatten) .none) [] :=
  ctr_body follows F87_ok rfl (fun _ _ h => by cases h) rfl rfl (b87 W0 ls hl hn)
def aroundW (a : S) (l : List S) (b : S) : List S := [[a], l, [b]].flatten
def truthW (n : Int) : S := bif decide (n = 0) then [102, 97, 108, 115, 101] else [116, 114, 117, 101]
def commaT (r : List (List S)) : List S := (r.map fun w => [44] :: w).flatten
def commaJ : List (List S) → List S | [] => [] | w :: r => w ++ commaT r
theorem commaJ_take : ∀ {ws : List (List S)} {k : Nat} {w : List S}, ws[k]? = some w → commaJ (ws.take (k + 1)) = commaJ (ws.take k) ++ ((if 0 < k then [[44]] else []) ++ w)
  | [], _, _, h => by simp at h
  | v :: r, 0, w, h => by simp at h; subst h; simp [commaJ, commaT]
  | v :: r, k + 1, w, h => by
    have h' : r[k]? = some w := by simpa using h
    have : (r.map fun w => [44] :: w)[k]? = some ([44] :: w) := by simp [h']
    have e := flat_take this
    simp only [List.take_succ_cons, commaJ, commaT, ← List.map_take] at e ⊢
    rw [e]; simp
theorem commaJ_take_le (ws : List (List S)) : ∀ k, (commaJ (ws.take k)).length ≤ (commaJ ws).length := by
  intro k
  cases ws with
  | nil => simp
  | cons w r => cases k with
    | zero => simp [commaJ]
    | succ k =>
      simp only [List.take_succ_cons, commaJ, commaT, List.map_take, List.length_append]
      exact Nat.add_le_add_left flat_len _
def opW (nm : S) : List (List S) → List S
  | [] => []
  | [w] => [[nm], w].flatten
  | w :: v :: _ => bif hasB nm [[109, 105, 110], [109, 97, 120]] then [[nm], w, v].flatten else [w, [nm], v].flatten
mutual
def wE : Exp → List S
  | .mk d nm n l =>
    bif hasB d [[105, 110, 116]] then [Go.Lib.itoa n] else
    bif hasB d [[98, 111, 111, 108]] then [truthW n] else
    bif hasB d [[118, 97, 114]] then [nm] else
    bif hasB d [[111, 112]] then aroundW [40] (opW nm (wEs l)) [41] else
    bif hasB d [[110, 111, 110, 101], [114, 101, 97, 100], [103, 101, 116], [99, 111, 117, 110, 116]] then [[40], d, nm, [41]] else
    bif hasB d [[97, 116]] then [[nm], aroundW [91] (commaJ (wEs l)) [93]].flatten else
    bif hasB d [[99, 97, 108, 108]] then [[nm], aroundW [40] (commaJ (wEs l)) [41]].flatten else
    bif hasB d [[108, 111, 119], [104, 105, 103, 104]] then [[40], d, nm, Go.Lib.itoa n, [41]] else
    bif hasB d [[110, 116, 104]] then aroundW [40] ([[d, nm, Go.Lib.itoa n], (wEs l).headD []].flatten) [41] else
    aroundW [40] ([[d, nm], aroundW [91] (commaJ (wEs l)) [93]].flatten) [41]
def wEs : List Exp → List (List S) | [] => [] | x :: r => wE x :: wEs r
end
mutual
def cE : Exp → Nat | .mk _ _ _ l => cL l + 1
def cL : List Exp → Nat | [] => 0 | x :: r => cE x + cL r
end
theorem wEs_length : ∀ l, (wEs l).length = l.length | [] => rfl | _ :: r => by simp [wEs, wEs_length r]
theorem wEs_get : ∀ {l : List Exp} {k : Nat} {x : Exp}, l[k]? = some x → (wEs l)[k]? = some (wE x)
  | [], _, _, h => by simp at h
  | y :: r, 0, x, h => by simp at h; subst h; simp [wEs]
  | y :: r, k + 1, x, h => by simpa [wEs] using wEs_get (k := k) (by simpa using h)
theorem commaJ_len : ∀ ws : List (List S), (commaJ ws).length ≤ ws.flatten.length + ws.length
  | [] => by simp [commaJ]
  | w :: r => by
    have : ∀ r : List (List S), (commaT r).length = r.flatten.length + r.length := by
      intro r; induction r with
      | nil => rfl
      | cons v r ih => simp only [commaT, List.map_cons, List.flatten_cons, List.length_append, List.length_cons] at ih ⊢; rw [ih]; omega
    simp only [commaJ, List.length_append, this, List.flatten_cons, List.length_cons]; omega
theorem opW_len (nm : S) : ∀ ws : List (List S), (opW nm ws).length ≤ ws.flatten.length + 1
  | [] => by simp [opW]
  | [w] => by simp [opW]
  | w :: v :: r => by simp only [opW]; cases hasB nm [[109, 105, 110], [109, 97, 120]] <;> simp <;> omega
theorem cond_len {c : Bool} {a b : List S} {n : Nat} (h1 : a.length + 1 ≤ n) (h2 : b.length + 1 ≤ n) : (bif c then a else b).length + 1 ≤ n := by cases c <;> assumption
mutual
theorem wE_len : ∀ x, (wE x).length + 1 ≤ 10 * cE x
  | .mk d nm n l => by
    have h1 := wEs_len l
    have h2 := commaJ_len (wEs l)
    have h3 := opW_len nm (wEs l)
    have h4 : ((wEs l).headD []).length ≤ (wEs l).flatten.length := by cases wEs l <;> simp
    have h5 := wEs_length l
    simp only [wE, cE, aroundW]
    repeat' apply cond_len
    all_goals (simp only [List.length_cons, List.length_nil, List.flatten_cons, List.flatten_nil, List.length_append]; omega)
theorem wEs_len : ∀ l, (wEs l).flatten.length + l.length ≤ 10 * cL l
  | [] => by simp [wEs]
  | x :: r => by have := wE_len x; have := wEs_len r; simp only [wEs, List.flatten_cons, List.length_append, List.length_cons, cL]; omega
end
mutual
theorem cL_len : ∀ l, l.length ≤ cL l
  | [] => by simp
  | x :: r => by have := cL_len r; have := cE_pos x; simp only [List.length_cons, cL]; omega
theorem cE_pos : ∀ x, 1 ≤ cE x | .mk _ _ _ _ => by simp [cE]
end
set_option maxHeartbeats 2000000 in
theorem b88 (W0 : Go.World) (a : S) (l : List S) (b : S) (hl : l.length ≤ 8589934592) : Body (Ctr Tryz.prog W0) F88.ac F88.rs [.sc (.s a), .sl 1 (strsD l) .none, .sc (.s b)] [] (.sl 1 (strsD (aroundW a l b)) .none) [] := by
  repeat' ((conv => whnf); (first | with_reducible refine brec (fun _ => ?_) (fun _ => ?_) | (refine callP.pure _ (c87 W0 [[a], l, [b]] (by simp) (by simp; omega)) ⟨rfl, rfl⟩ ?_) | fail))
  all_goals ((conv => whnf); exact fin_sl rfl)
theorem c88 (W0 : Go.World) (a : S) (l : List S) (b : S) (hl : l.length ≤ 8589934592) : Ctr Tryz.prog W0 88 [.sc (.s a), .sl 1 (strsD l) .none, .sc (.s b)] [] (.sl 1 (strsD (aroundW a l b)) .none) [] :=
  ctr_body follows F88_ok rfl (fun _ _ h => by cases h) rfl (by rfl) (b88 W0 a l b hl)
set_option maxHeartbeats 2000000 in
theorem b134 (W0 : Go.World) (n : Int) : Body (Ctr Tryz.prog W0) F134.ac F134.rs [.sc (.i .i64 n)] [] (.sc (.s (truthW n))) [] := by
  repeat' ((conv => whnf); (first | with_reducible refine brec (fun _ => ?_) (fun _ => ?_) | fail))
  all_goals ((conv => whnf); refine fin_s ?_; simp_all [truthW])
theorem c134 (W0 : Go.World) (n : Int) : Ctr Tryz.prog W0 134 [.sc (.i .i64 n)] [] (.sc (.s (truthW n))) [] :=
  ctr_body follows F134_ok rfl (fun _ _ h => by cases h) rfl (by rfl) (b134 W0 n)
def F136 : Fn := ⟨.seq (.reg [⟨none, .mv 2 (.c (.sl 1 [] .full))⟩]) (.seq (.reg [⟨none, .mv 3 (.c (.sl 1 [] .full))⟩]) (.seq (.seq (.reg [⟨none, .mv 6 (.t 0)⟩, ⟨none, .len 7 (.t 6)⟩, ⟨none, .mv 8 (.c (.sc (.i .i64 0)))⟩]) (.block 0 (.loop (.seq (.reg [⟨none, .bin 9 .lss (.t 8) (.t 7)⟩]) (.seq (.cond (.t 9) .skip (.exit 0)) (.seq (.block 1 (.seq (.reg [⟨none, .mv 10 (.t 8)⟩, ⟨none, .ia 11 4 (.t 6) (.t 8)⟩, ⟨none, .ld 12 4 true (.t 11)⟩, ⟨none, .alloc 5 [.sc (.s []), .sc (.s []), .sc (.i .i64 0), .sl 4 [] .full]⟩, ⟨none, .mv 4 (.t 10)⟩, ⟨none, .st (.t 5) 4 (.t 12)⟩]) (.seq (.seq (.reg [⟨none, .mv 13 (.t 4)⟩, ⟨none, .bin 14 .gtr (.t 13) (.c (.sc (.i .i64 0)))⟩]) (.cond (.t 14) (.reg [⟨none, .mv 15 (.t 3)⟩, ⟨none, .bsl 16 1 [.c (.sc (.s [44]))]⟩, ⟨none, .app 17 1 16 (.t 15) (.t 16)⟩, ⟨none, .mv 3 (.t 17)⟩]) .skip)) (.reg [⟨none, .mv 18 (.t 3)⟩, ⟨none, .ld 19 4 true (.t 5)⟩, ⟨none, .call (some 20) (.c (.fn 66 [])) [.t 19]⟩, ⟨none, .app 21 1 16 (.t 18) (.t 20)⟩, ⟨none, .mv 3 (.t 21)⟩])))) (.reg [⟨none, .bin 22 .add (.t 8) (.c (.sc (.i .i64 1)))⟩, ⟨none, .mv 8 (.t 22)⟩]))))))) (.seq (.reg [⟨none, .mv 23 (.t 3)⟩, ⟨none, .mv 2 (.t 23)⟩]) .ret))), [(2, 0)], 24⟩
def F135 : Fn := ⟨.seq (.reg [⟨none, .box 1 (.t 0)⟩, ⟨none, .mv 2 (.c (.sl 1 [] .full))⟩]) (.seq (.reg [⟨none, .fa 4 (.t 1) 3⟩, ⟨none, .ld 5 1 false (.t 4)⟩, ⟨none, .ia 6 4 (.t 5) (.c (.sc (.i .i64 0)))⟩, ⟨none, .ld 7 4 true (.t 6)⟩, ⟨none, .call (some 8) (.c (.fn 66 [])) [.t 7]⟩, ⟨none, .mv 3 (.t 8)⟩]) (.seq (.block 0 (.seq (.reg [⟨none, .fa 10 (.t 1) 3⟩, ⟨none, .ld 11 1 false (.t 10)⟩, ⟨none, .len 12 (.t 11)⟩, ⟨none, .bin 13 .eql (.t 12) (.c (.sc (.i .i64 1)))⟩, ⟨none, .mv 9 (.t 13)⟩]) (.cond (.t 9) (.seq (.reg [⟨none, .fa 14 (.t 1) 1⟩, ⟨none, .ld 15 1 false (.t 14)⟩, ⟨none, .bsl 16 1 [.t 15]⟩, ⟨none, .mv 17 (.t 3)⟩, ⟨none, .bsl 18 1 [.t 16, .t 17]⟩, ⟨none, .call (some 19) (.c (.fn 87 [])) [.t 18]⟩, ⟨none, .mv 2 (.t 19)⟩]) .ret) (.seq (.reg [⟨none, .fa 21 (.t 1) 1⟩, ⟨none, .ld 22 1 false (.t 21)⟩, ⟨none, .bin 23 .eql (.t 22) (.c (.sc (.s [109, 105, 110])))⟩, ⟨none, .mv 24 (.t 23)⟩, ⟨some (24, false), .fa 25 (.t 1) 1⟩, ⟨some (24, false), .ld 26 1 false (.t 25)⟩, ⟨some (24, false), .bin 27 .eql (.t 26) (.c (.sc (.s [109, 97, 120])))⟩, ⟨none, .pick 28 (.t 24) (.c (.sc (.b true))) (.t 27)⟩, ⟨none, .mv 20 (.t 28)⟩]) (.cond (.t 20) (.seq (.regD [⟨none, .fa 29 (.t 1) 1⟩, ⟨none, .ld 30 1 false (.t 29)⟩, ⟨none, .bsl 31 1 [.t 30]⟩, ⟨none, .mv 32 (.t 3)⟩, ⟨none, .fa 33 (.t 1) 3⟩, ⟨none, .ld 34 1 false (.t 33)⟩, ⟨none, .ia 35 4 (.t 34) (.c (.sc (.i .i64 1)))⟩, ⟨none, .ld 36 4 true (.t 35)⟩, ⟨none, .call (some 37) (.c (.fn 66 [])) [.t 36]⟩, ⟨none, .bsl 38 1 [.t 31, .t 32, .t 37]⟩, ⟨none, .call (some 39) (.c (.fn 87 [])) [.t 38]⟩, ⟨none, .mv 2 (.t 39)⟩] [0, 1, 3, 0, 0, 16, 48, 112, 240, 511, 1023, 2047]) .ret) .skip))))) (.seq (.regD [⟨none, .mv 40 (.t 3)⟩, ⟨none, .fa 41 (.t 1) 1⟩, ⟨none, .ld 42 1 false (.t 41)⟩, ⟨none, .bsl 43 1 [.t 42]⟩, ⟨none, .fa 44 (.t 1) 3⟩, ⟨none, .ld 45 1 false (.t 44)⟩, ⟨none, .ia 46 4 (.t 45) (.c (.sc (.i .i64 1)))⟩, ⟨none, .ld 47 4 true (.t 46)⟩, ⟨none, .call (some 48) (.c (.fn 66 [])) [.t 47]⟩, ⟨none, .bsl 49 1 [.t 40, .t 43, .t 48]⟩, ⟨none, .call (some 50) (.c (.fn 87 [])) [.t 49]⟩, ⟨none, .mv 2 (.t 50)⟩] [0, 0, 2, 6, 0, 16, 48, 112, 240, 511, 1023, 2047]) .ret))), [(2, 0)], 51⟩
def F66 : Fn := ⟨.seq (.reg [⟨none, .box 1 (.t 0)⟩, ⟨none, .mv 2 (.c (.sl 1 [] .full))⟩]) (.seq (.reg [⟨none, .fa 4 (.t 1) 2⟩, ⟨none, .ld 5 1 false (.t 4)⟩, ⟨none, .call (some 6) (.c (.fn 86 [])) [.t 5]⟩, ⟨none, .mv 3 (.t 6)⟩]) (.seq (.seq (.reg [⟨none, .fa 7 (.t 1) 0⟩, ⟨none, .ld 8 1 false (.t 7)⟩]) (.block 0 (.seq (.reg [⟨none, .bin 10 .eql (.t 8) (.c (.sc (.s [105, 110, 116])))⟩, ⟨none, .mv 9 (.t 10)⟩]) (.cond (.t 9) (.seq (.reg [⟨none, .mv 11 (.t 3)⟩, ⟨none, .bsl 12 1 [.t 11]⟩, ⟨none, .mv 2 (.t 12)⟩]) .ret) (.seq (.reg [⟨none, .bin 14 .eql (.t 8) (.c (.sc (.s [98, 111, 111, 108])))⟩, ⟨none, .mv 13 (.t 14)⟩]) (.cond (.t 13) (.seq (.reg [⟨none, .fa 15 (.t 1) 2⟩, ⟨none, .ld 16 1 false (.t 15)⟩, ⟨none, .call (some 17) (.c (.fn 134 [])) [.t 16]⟩, ⟨none, .bsl 18 1 [.t 17]⟩, ⟨none, .mv 2 (.t 18)⟩]) .ret) (.seq (.reg [⟨none, .bin 20 .eql (.t 8) (.c (.sc (.s [118, 97, 114])))⟩, ⟨none, .mv 19 (.t 20)⟩]) (.cond (.t 19) (.seq (.reg [⟨none, .fa 21 (.t 1) 1⟩, ⟨none, .ld 22 1 false (.t 21)⟩, ⟨none, .bsl 23 1 [.t 22]⟩, ⟨none, .mv 2 (.t 23)⟩]) .ret) (.seq (.reg [⟨none, .bin 25 .eql (.t 8) (.c (.sc (.s [111, 112])))⟩, ⟨none, .mv 24 (.t 25)⟩]) (.cond (.t 24) (.seq (.reg [⟨none, .ld 26 4 true (.t 1)⟩, ⟨none, .call (some 27) (.c (.fn 135 [])) [.t 26]⟩, ⟨none, .call (some 28) (.c (.fn 88 [])) [.c (.sc (.s [40])), .t 27, .c (.sc (.s [41]))]⟩, ⟨none, .mv 2 (.t 28)⟩]) .ret) (.seq (.seq (.reg [⟨none, .bin 30 .eql (.t 8) (.c (.sc (.s [110, 111, 110, 101])))⟩, ⟨none, .mv 29 (.t 30)⟩]) (.cond (.t 29) .skip (.seq (.reg [⟨none, .bin 31 .eql (.t 8) (.c (.sc (.s [114, 101, 97, 100])))⟩, ⟨none, .mv 29 (.t 31)⟩]) (.cond (.t 29) .skip (.seq (.reg [⟨none, .bin 32 .eql (.t 8) (.c (.sc (.s [103, 101, 116])))⟩, ⟨none, .mv 29 (.t 32)⟩]) (.cond (.t 29) .skip (.reg [⟨none, .bin 33 .eql (.t 8) (.c (.sc (.s [99, 111, 117, 110, 116])))⟩, ⟨none, .mv 29 (.t 33)⟩]))))))) (.cond (.t 29) (.seq (.reg [⟨none, .fa 34 (.t 1) 0⟩, ⟨none, .ld 35 1 false (.t 34)⟩, ⟨none, .fa 36 (.t 1) 1⟩, ⟨none, .ld 37 1 false (.t 36)⟩, ⟨none, .bsl 38 1 [.c (.sc (.s [40])), .t 35, .t 37, .c (.sc (.s [41]))]⟩, ⟨none, .mv 2 (.t 38)⟩]) .ret) (.seq (.reg [⟨none, .bin 40 .eql (.t 8) (.c (.sc (.s [97, 116])))⟩, ⟨none, .mv 39 (.t 40)⟩]) (.cond (.t 39) (.seq (.regD [⟨none, .fa 41 (.t 1) 1⟩, ⟨none, .ld 42 1 false (.t 41)⟩, ⟨none, .bsl 43 1 [.t 42]⟩, ⟨none, .fa 44 (.t 1) 3⟩, ⟨none, .ld 45 1 false (.t 44)⟩, ⟨none, .call (some 46) (.c (.fn 136 [])) [.t 45]⟩, ⟨none, .call (some 47) (.c (.fn 88 [])) [.c (.sc (.s [91])), .t 46, .c (.sc (.s [93]))]⟩, ⟨none, .bsl 48 1 [.t 43, .t 47]⟩, ⟨none, .call (some 49) (.c (.fn 87 [])) [.t 48]⟩, ⟨none, .mv 2 (.t 49)⟩] [0, 1, 3, 0, 8, 24, 56, 127, 255, 511]) .ret) (.seq (.reg [⟨none, .bin 51 .eql (.t 8) (.c (.sc (.s [99, 97, 108, 108])))⟩, ⟨none, .mv 50 (.t 51)⟩]) (.cond (.t 50) (.seq (.regD [⟨none, .fa 52 (.t 1) 1⟩, ⟨none, .ld 53 1 false (.t 52)⟩, ⟨none, .bsl 54 1 [.t 53]⟩, ⟨none, .fa 55 (.t 1) 3⟩, ⟨none, .ld 56 1 false (.t 55)⟩, ⟨none, .call (some 57) (.c (.fn 136 [])) [.t 56]⟩, ⟨none, .call (some 58) (.c (.fn 88 [])) [.c (.sc (.s [40])), .t 57, .c (.sc (.s [41]))]⟩, ⟨none, .bsl 59 1 [.t 54, .t 58]⟩, ⟨none, .call (some 60) (.c (.fn 87 [])) [.t 59]⟩, ⟨none, .mv 2 (.t 60)⟩] [0, 1, 3, 0, 8, 24, 56, 127, 255, 511]) .ret) (.seq (.seq (.reg [⟨none, .bin 62 .eql (.t 8) (.c (.sc (.s [108, 111, 119])))⟩, ⟨none, .mv 61 (.t 62)⟩]) (.cond (.t 61) .skip (.reg [⟨none, .bin 63 .eql (.t 8) (.c (.sc (.s [104, 105, 103, 104])))⟩, ⟨none, .mv 61 (.t 63)⟩]))) (.cond (.t 61) (.seq (.reg [⟨none, .fa 64 (.t 1) 0⟩, ⟨none, .ld 65 1 false (.t 64)⟩, ⟨none, .fa 66 (.t 1) 1⟩, ⟨none, .ld 67 1 false (.t 66)⟩, ⟨none, .mv 68 (.t 3)⟩, ⟨none, .bsl 69 1 [.c (.sc (.s [40])), .t 65, .t 67, .t 68, .c (.sc (.s [41]))]⟩, ⟨none, .mv 2 (.t 69)⟩]) .ret) (.seq (.reg [⟨none, .bin 71 .eql (.t 8) (.c (.sc (.s [110, 116, 104])))⟩, ⟨none, .mv 70 (.t 71)⟩]) (.cond (.t 70) (.seq (.regD [⟨none, .fa 72 (.t 1) 0⟩, ⟨none, .ld 73 1 false (.t 72)⟩, ⟨none, .fa 74 (.t 1) 1⟩, ⟨none, .ld 75 1 false (.t 74)⟩, ⟨none, .mv 76 (.t 3)⟩, ⟨none, .bsl 77 1 [.t 73, .t 75, .t 76]⟩, ⟨none, .fa 78 (.t 1) 3⟩, ⟨none, .ld 79 1 false (.t 78)⟩, ⟨none, .ia 80 4 (.t 79) (.c (.sc (.i .i64 0)))⟩, ⟨none, .ld 81 4 true (.t 80)⟩, ⟨none, .call (some 82) (.c (.fn 66 [])) [.t 81]⟩, ⟨none, .bsl 83 1 [.t 77, .t 82]⟩, ⟨none, .call (some 84) (.c (.fn 87 [])) [.t 83]⟩, ⟨none, .call (some 85) (.c (.fn 88 [])) [.c (.sc (.s [40])), .t 84, .c (.sc (.s [41]))]⟩, ⟨none, .mv 2 (.t 85)⟩] [0, 1, 0, 4, 0, 31, 0, 64, 192, 448, 960, 2047, 4095, 8191, 16383]) .ret) .skip)))))))))))))))))))) (.seq (.regD [⟨none, .fa 86 (.t 1) 0⟩, ⟨none, .ld 87 1 false (.t 86)⟩, ⟨none, .fa 88 (.t 1) 1⟩, ⟨none, .ld 89 1 false (.t 88)⟩, ⟨none, .bsl 90 1 [.t 87, .t 89]⟩, ⟨none, .fa 91 (.t 1) 3⟩, ⟨none, .ld 92 1 false (.t 91)⟩, ⟨none, .call (some 93) (.c (.fn 136 [])) [.t 92]⟩, ⟨none, .call (some 94) (.c (.fn 88 [])) [.c (.sc (.s [91])), .t 93, .c (.sc (.s [93]))]⟩, ⟨none, .bsl 95 1 [.t 90, .t 94]⟩, ⟨none, .call (some 96) (.c (.fn 87 [])) [.t 95]⟩, ⟨none, .call (some 97) (.c (.fn 88 [])) [.c (.sc (.s [40])), .t 96, .c (.sc (.s [41]))]⟩, ⟨none, .mv 2 (.t 97)⟩] [0, 1, 0, 4, 15, 0, 32, 96, 224, 511, 1023, 2047, 4095]) .ret))), [(2, 0)], 98⟩
theorem F136_ok : compT Tryz.prog (fun _ => an0) 136 = some F136 := by kernel_rfl
theorem F135_ok : compT Tryz.prog (fun _ => an0) 135 = some F135 := by kernel_rfl
theorem F66_ok : compT Tryz.prog (fun _ => an0) 66 = some F66 := by kernel_rfl
set_option maxHeartbeats 4000000 in
theorem b136 (W0 : Go.World) (l : List Exp) (hl : l.length ≤ 1073741824) (hw : (commaJ (wEs l)).length ≤ 4294967296) (hc : ∀ y, y ∈ l → Ctr Tryz.prog W0 66 [eE y] [] (.sl 1 (strsD (wE y)) .none) []) :
    Body (Ctr Tryz.prog W0) F136.ac F136.rs [eL l] [] (.sl 1 (strsD (commaJ (wEs l))) .none) [] := by
  have hle : ∀ k, (commaJ ((wEs l).take k)).length ≤ (commaJ (wEs l)).length := commaJ_take_le _
  conv => whnf
  refine .st 10000 (fun k => l.length - k) (fun k => [(.s 6, .av (eL l)), (.s 7, .av (.sc (.i .i64 ((expsD l).length : Nat)))), (.s 8, .av (.sc (.i .i64 (k : Nat)))), (.s 3, .av (.sl 1 (strsD (commaJ ((wEs l).take k))) (.t 9000))), (.t 9000, .tk true)])
    (fun k => k ≤ l.length) 0 ?_ (Nat.zero_le _) ?_
  · (refine le_of rfl rfl ?_; repeat' (first | exact rfl | exact trivial | refine ⟨?_, ?_⟩))
  · intro k hk
    conv => whnf
    refine brec (fun h2 => ?_) (fun h2 => ?_)
    · simp only [expsD_length, decide_eq_false_iff_not] at h2
      have e1 : k = l.length := by omega
      conv => whnf
      exact fin_sl (by rw [e1, ← wEs_length, List.take_length])
    · simp only [expsD_length, decide_eq_true_eq] at h2
      obtain ⟨x, hx⟩ := get_of_lt (l := l) (k := k) (by omega)
      have dx := expsD_get hx
      have ct := commaJ_take (wEs_get hx)
      have cl := hle (k + 1)
      have hm := hc x (List.mem_of_getElem? hx)
      cases x with | mk xa xb xn xl =>
      rw [ct, List.length_append, List.length_append] at cl
      conv => whnf
      refine ⟨_, ⟨Int.natCast_nonneg _, dx⟩, ?_⟩
      conv => whnf
      refine brec (fun h3 => ?_) (fun h3 => ?_)
      · have hk0 : k = 0 := by simp at h3; omega
        subst hk0
        rw [if_neg (by omega)] at ct cl
        have c0 : commaJ ((wEs l).take 0) = [] := rfl
        rw [c0] at ct cl
        simp only [List.length_nil, List.nil_append] at ct cl
        conv => whnf
        refine callP.pure _ hm ⟨rfl, rfl⟩ ?_
        conv => whnf
        refine And.intro (by rw [strsD_length, strsD_length, c0]; constructor <;> (simp only [List.length_nil]; omega)) ?_
        conv => whnf
        refine And.intro (by constructor <;> omega) ?_
        conv => whnf
        refine nxt 1 ⟨by omega, by omega⟩ ?_
        rw [ct]
        (apply le_tok (h1 := rfl); (case h3 => repeat' (first | exact rfl | exact trivial | refine ⟨?_, ?_⟩)); all_goals exact rfl)
      · have hk0 : 0 < k := by simpa using h3
        rw [if_pos hk0] at ct cl
        simp only [List.length_cons, List.length_nil] at cl
        conv => whnf
        refine And.intro (by rw [strsD_length]; constructor <;> (simp; omega)) ?_
        conv => whnf
        refine callP.pure _ hm ⟨rfl, rfl⟩ ?_
        conv => whnf
        refine And.intro (by rw [strsD_length, List.length_append, strsD_length]; constructor <;> (simp; omega)) ?_
        conv => whnf
        refine And.intro (by constructor <;> omega) ?_
        conv => whnf
        refine nxt (k + 1) ⟨by omega, by omega⟩ ?_
        have ct2 : strsD (commaJ ((wEs l).take (k + 1))) = strsD (commaJ ((wEs l).take k)) ++ [[.sc (.s [44])]] ++ strsD (wE (.mk xa xb xn xl)) := by
          rw [ct, strsD_append, strsD_append, ← List.append_assoc]; rfl
        rw [ct2]
        (apply le_tok (h1 := rfl); (case h3 => repeat' (first | exact rfl | exact trivial | refine ⟨?_, ?_⟩)); all_goals exact rfl)
theorem c136 (W0 : Go.World) (l : List Exp) (hl : l.length ≤ 1073741824) (hw : (commaJ (wEs l)).length ≤ 4294967296) (hc : ∀ y, y ∈ l → Ctr Tryz.prog W0 66 [eE y] [] (.sl 1 (strsD (wE y)) .none) []) :
    Ctr Tryz.prog W0 136 [eL l] [] (.sl 1 (strsD (commaJ (wEs l))) .none) [] :=
  ctr_body follows F136_ok rfl (fun _ _ h => by cases h) rfl rfl (b136 W0 l hl hw hc)
set_option maxHeartbeats 4000000 in
theorem b135 (W0 : Go.World) (d nm : S) (n : Int) (l : List Exp) (hl : l.length = 1 ∨ l.length = 2) (hw : (wEs l).flatten.length ≤ 4294967296) (hc : ∀ y, y ∈ l → Ctr Tryz.prog W0 66 [eE y] [] (.sl 1 (strsD (wE y)) .none) []) :
    Body (Ctr Tryz.prog W0) F135.ac F135.rs [eE (.mk d nm n l)] [] (.sl 1 (strsD (opW nm (wEs l))) .none) [] := by
  match l, hl with
  | [x], _ =>
    have hx := hc x (by simp)
    simp only [wEs, List.flatten_cons, List.flatten_nil, List.length_append, List.length_nil] at hw
    cases x with | mk xa xb xn xl =>
    conv => whnf
    refine ⟨_, ⟨Int.le_refl _, rfl⟩, ?_⟩
    conv => whnf
    refine callP.pure _ hx ⟨rfl, rfl⟩ ?_
    conv => whnf
    refine callP.pure _ (c87 W0 [[nm], wE (.mk xa xb xn xl)] (by simp) (by simp; omega)) ⟨rfl, rfl⟩ ?_
    conv => whnf
    exact fin_sl rfl
  | [x, y], _ =>
    have hx := hc x (by simp)
    have hy := hc y (by simp)
    simp only [wEs, List.flatten_cons, List.flatten_nil, List.length_append, List.length_nil] at hw
    cases x with | mk xa xb xn xl =>
    cases y with | mk ya yb yn yl =>
    conv => whnf
    refine ⟨_, ⟨Int.le_refl _, rfl⟩, ?_⟩
    conv => whnf
    refine callP.pure _ hx ⟨rfl, rfl⟩ ?_
    repeat' ((conv => whnf); (first | with_reducible refine brec (fun _ => ?_) (fun _ => ?_) | (refine callP.pure _ (hy) ⟨rfl, rfl⟩ ?_) | (refine callP.pure _ (c87 W0 [[nm], wE (.mk xa xb xn xl), wE (.mk ya yb yn yl)] (by simp) (by simp; omega)) ⟨rfl, rfl⟩ ?_) | (refine callP.pure _ (c87 W0 [wE (.mk xa xb xn xl), [nm], wE (.mk ya yb yn yl)] (by simp) (by simp; omega)) ⟨rfl, rfl⟩ ?_) | (refine ⟨_, ⟨by decide, rfl⟩, ?_⟩) | fail))
    all_goals ((conv => whnf); refine fin_sl ?_; simp_all [opW, hasB, wEs])
theorem c135 (W0 : Go.World) (d nm : S) (n : Int) (l : List Exp) (hl : l.length = 1 ∨ l.length = 2) (hw : (wEs l).flatten.length ≤ 4294967296) (hc : ∀ y, y ∈ l → Ctr Tryz.prog W0 66 [eE y] [] (.sl 1 (strsD (wE y)) .none) []) :
    Ctr Tryz.prog W0 135 [eE (.mk d nm n l)] [] (.sl 1 (strsD (opW nm (wEs l))) .none) [] :=
  ctr_body follows F135_ok rfl (fun _ _ h => by cases h) rfl rfl (b135 W0 d nm n l hl hw hc)
theorem wellL_mem : ∀ {l : List Exp} {x : Exp}, wellL l = true → x ∈ l → wellE x = true
  | y :: r, x, h, hm => by
    simp only [wellL, Bool.and_eq_true] at h
    rcases List.mem_cons.1 hm with rfl | hm
    · exact h.1
    · exact wellL_mem h.2 hm
theorem cL_mem : ∀ {l : List Exp} {x : Exp}, x ∈ l → cE x ≤ cL l
  | y :: r, x, hm => by
    simp only [cL]
    rcases List.mem_cons.1 hm with rfl | hm
    · omega
    · have := cL_mem hm; omega
theorem well_op {d nm : S} {n : Int} {k : Nat} (h : headE d nm n k = true) (ho : beqL d [111, 112] = true) : k = 1 ∨ k = 2 := by
  have hd : d = [111, 112] := by simpa [beqL] using ho
  subst hd
  simp only [headE, hasB, operandsN] at h
  simp [beqL] at h
  obtain ⟨_, h1, h2⟩ := h
  revert h2
  split <;> (try split) <;> intro h2 <;> omega
theorem well_nth {d nm : S} {n : Int} {k : Nat} (h : headE d nm n k = true) (ho : beqL d [110, 116, 104] = true) : k = 1 := by
  have hd : d = [110, 116, 104] := by simpa [beqL] using ho
  subst hd
  simp only [headE, hasB] at h
  simp [beqL] at h
  exact h.2.2.2
set_option maxHeartbeats 16000000 in
theorem b66n (W0 : Go.World) (hk : Wk W0) (d nm : S) (n : Int) (hx : (Exp.mk d nm n []).ok) (hh : headE d nm n 0 = true) : Body (Ctr Tryz.prog W0) F66.ac F66.rs [eE (.mk d nm n [])] [] (.sl 1 (strsD (wE (.mk d nm n []))) .none) [] := by
  have hop := well_op hh
  have hnth := well_nth hh
  have hc : ∀ y, y ∈ ([] : List Exp) → Ctr Tryz.prog W0 66 [eE y] [] (.sl 1 (strsD (wE y)) .none) [] := by simp
  have hfl : (wEs []).flatten.length ≤ 4294967296 := by simp [wEs]
  have h2 := commaJ_len (wEs [])
  have h3 := opW_len nm (wEs [])
  have h5 := wEs_length []
  have hll : ([] : List Exp).length = 0 := rfl
  repeat' ((conv => whnf); (first | with_reducible refine brec (fun _ => ?_) (fun _ => ?_) | (refine callP.pure _ (itoa_ctr W0 hk.pow n hx.1.2.2) ⟨rfl, rfl⟩ ?_) | (refine callP.pure _ (c134 W0 n) ⟨rfl, rfl⟩ ?_) | (refine callP.pure _ (c135 W0 d nm n [] (hop (by assumption)) hfl hc) ⟨rfl, rfl⟩ ?_) | (refine callP.pure _ (c88 W0 [40] (opW nm (wEs [])) [41] (by omega)) ⟨rfl, rfl⟩ ?_) | (refine callP.pure _ (c136 W0 [] (by omega) (by omega) hc) ⟨rfl, rfl⟩ ?_) | (refine callP.pure _ (c88 W0 [91] (commaJ (wEs [])) [93] (by omega)) ⟨rfl, rfl⟩ ?_) | (refine callP.pure _ (c88 W0 [40] (commaJ (wEs [])) [41] (by omega)) ⟨rfl, rfl⟩ ?_) | (refine callP.pure _ (c87 W0 [[nm], aroundW [91] (commaJ (wEs [])) [93]] (by simp) (by simp [aroundW]; omega)) ⟨rfl, rfl⟩ ?_) | (refine callP.pure _ (c87 W0 [[nm], aroundW [40] (commaJ (wEs [])) [41]] (by simp) (by simp [aroundW]; omega)) ⟨rfl, rfl⟩ ?_) | (refine callP.pure _ (c87 W0 [[d, nm], aroundW [91] (commaJ (wEs [])) [93]] (by simp) (by simp [aroundW]; omega)) ⟨rfl, rfl⟩ ?_) | (refine callP.pure _ (c88 W0 [40] ([[d, nm], aroundW [91] (commaJ (wEs [])) [93]].flatten) [41] (by simp [aroundW]; omega)) ⟨rfl, rfl⟩ ?_) | ((exfalso; have := hnth (by assumption); omega)) | fail))
  all_goals ((conv => whnf); first | (refine fin_sl ?_; simp_all [wE, hasB, aroundW, wEs]; done) | (refine fin_sl ?_; simp_all [wE, hasB, aroundW, wEs, strsD]; done))
set_option maxHeartbeats 16000000 in
theorem b66c (W0 : Go.World) (hk : Wk W0) (d nm : S) (n : Int) (ya yb : S) (yn : Int) (yl r : List Exp) (hx : (Exp.mk d nm n (.mk ya yb yn yl :: r)).ok) (hh : headE d nm n (r.length + 1) = true) (hfl : (wEs (.mk ya yb yn yl :: r)).flatten.length ≤ 2147483648) (hl : r.length ≤ 2097152)
    (hc : ∀ y, y ∈ Exp.mk ya yb yn yl :: r → Ctr Tryz.prog W0 66 [eE y] [] (.sl 1 (strsD (wE y)) .none) []) : Body (Ctr Tryz.prog W0) F66.ac F66.rs [eE (.mk d nm n (.mk ya yb yn yl :: r))] [] (.sl 1 (strsD (wE (.mk d nm n (.mk ya yb yn yl :: r)))) .none) [] := by
  have hop := well_op hh
  have hnth := well_nth hh
  have hfl := Nat.le_trans hfl (show 2147483648 ≤ 4294967296 by decide)
  have h2 := commaJ_len (wEs (.mk ya yb yn yl :: r))
  have h3 := opW_len nm (wEs (.mk ya yb yn yl :: r))
  have h5 := wEs_length (.mk ya yb yn yl :: r)
  have hll : (Exp.mk ya yb yn yl :: r).length = r.length + 1 := rfl
  have h4 : (wE (.mk ya yb yn yl)).length ≤ (wEs (.mk ya yb yn yl :: r)).flatten.length := by simp [wEs]
  have hcy := hc (.mk ya yb yn yl) (by simp)
  repeat' ((conv => whnf); (first | with_reducible refine brec (fun _ => ?_) (fun _ => ?_) | (refine callP.pure _ (itoa_ctr W0 hk.pow n hx.1.2.2) ⟨rfl, rfl⟩ ?_) | (refine callP.pure _ (c134 W0 n) ⟨rfl, rfl⟩ ?_) | (refine callP.pure _ (c135 W0 d nm n (.mk ya yb yn yl :: r) (hop (by assumption)) hfl hc) ⟨rfl, rfl⟩ ?_) | (refine callP.pure _ (c88 W0 [40] (opW nm (wEs (.mk ya yb yn yl :: r))) [41] (by omega)) ⟨rfl, rfl⟩ ?_) | (refine callP.pure _ (c136 W0 (.mk ya yb yn yl :: r) (by omega) (by omega) hc) ⟨rfl, rfl⟩ ?_) | (refine callP.pure _ (c88 W0 [91] (commaJ (wEs (.mk ya yb yn yl :: r))) [93] (by omega)) ⟨rfl, rfl⟩ ?_) | (refine callP.pure _ (c88 W0 [40] (commaJ (wEs (.mk ya yb yn yl :: r))) [41] (by omega)) ⟨rfl, rfl⟩ ?_) | (refine callP.pure _ (c87 W0 [[nm], aroundW [91] (commaJ (wEs (.mk ya yb yn yl :: r))) [93]] (by simp) (by simp [aroundW]; omega)) ⟨rfl, rfl⟩ ?_) | (refine callP.pure _ (c87 W0 [[nm], aroundW [40] (commaJ (wEs (.mk ya yb yn yl :: r))) [41]] (by simp) (by simp [aroundW]; omega)) ⟨rfl, rfl⟩ ?_) | (refine callP.pure _ (c87 W0 [[d, nm], aroundW [91] (commaJ (wEs (.mk ya yb yn yl :: r))) [93]] (by simp) (by simp [aroundW]; omega)) ⟨rfl, rfl⟩ ?_) | (refine callP.pure _ (c88 W0 [40] ([[d, nm], aroundW [91] (commaJ (wEs (.mk ya yb yn yl :: r))) [93]].flatten) [41] (by simp [aroundW]; omega)) ⟨rfl, rfl⟩ ?_) | (refine callP.pure _ (hcy) ⟨rfl, rfl⟩ ?_) | (refine callP.pure _ (c87 W0 [[d, nm, Go.Lib.itoa n], wE (.mk ya yb yn yl)] (by simp) (by simp; omega)) ⟨rfl, rfl⟩ ?_) | (refine callP.pure _ (c88 W0 [40] ([[d, nm, Go.Lib.itoa n], wE (.mk ya yb yn yl)].flatten) [41] (by simp; omega)) ⟨rfl, rfl⟩ ?_) | (refine ⟨_, ⟨Int.le_refl _, rfl⟩, ?_⟩) | fail))
  all_goals ((conv => whnf); first | (refine fin_sl ?_; simp_all [wE, hasB, aroundW, wEs]; done) | (refine fin_sl ?_; simp_all [wE, hasB, aroundW, wEs, strsD]; done))
theorem c66 (W0 : Go.World) (hk : Wk W0) : ∀ (x : Exp), x.ok → wellE x = true → cE x ≤ 1048576 → Ctr Tryz.prog W0 66 [eE x] [] (.sl 1 (strsD (wE x)) .none) []
  | .mk d nm n l, hx, hw, hcn => by
    simp only [wellE, Bool.and_eq_true] at hw
    simp only [cE] at hcn
    have hc : ∀ y, y ∈ l → Ctr Tryz.prog W0 66 [eE y] [] (.sl 1 (strsD (wE y)) .none) [] := fun y hy => c66 W0 hk y (oksE_mem hx.2.2 hy) (wellL_mem hw.2 hy) (by have := cL_mem hy; omega)
    have h1 := wEs_len l
    have h1' := cL_len l
    cases l with
    | nil => exact ctr_body follows F66_ok rfl (fun _ _ h => by cases h) rfl rfl (b66n W0 hk d nm n hx hw.1)
    | cons y r =>
      cases y with | mk ya yb yn yl =>
      exact ctr_body follows F66_ok rfl (fun _ _ h => by cases h) rfl rfl (b66c W0 hk d nm n ya yb yn yl r hx hw.1 (by omega) (by simp only [List.length_cons] at h1'; omega) hc)
termination_by x => SizeOf.sizeOf x
decreasing_by
  have := List.sizeOf_lt_of_mem hy
  simp; omega
end Go.Abs

set_option maxRecDepth 100000
namespace Go.Abs
open Go.Proofs
def F45 : Fn := ⟨.seq (.reg [⟨none, .mv 2 (.c (.sc (.s [])))⟩]) (.seq (.reg [⟨none, .mv 3 (.t 0)⟩, ⟨none, .call (some 4) (.c (.fn 49 [])) [.t 3, .c (.sc (.s [32]))]⟩, ⟨none, .mv 2 (.t 4)⟩]) .ret), [(2, 0)], 5⟩
def F24 : Fn := ⟨.seq (.reg [⟨none, .box 1 (.t 0)⟩, ⟨none, .mv 2 (.c (.sc (.s [])))⟩, ⟨none, .mv 3 (.c (.sc (.i .i64 0)))⟩]) (.seq (.seq (.reg [⟨none, .ld 4 4 true (.t 1)⟩, ⟨none, .call (some 5) (.c (.fn 26 [])) [.t 4]⟩, ⟨none, .no 6 (.t 5)⟩]) (.cond (.t 6) (.seq (.reg [⟨none, .mv 2 (.c (.sc (.s [])))⟩, ⟨none, .mv 3 (.c (.sc (.i .i64 20)))⟩]) .ret) .skip)) (.seq (.reg [⟨none, .ld 7 4 true (.t 1)⟩, ⟨none, .call (some 8) (.c (.fn 66 [])) [.t 7]⟩, ⟨none, .call (some 9) (.c (.fn 45 [])) [.t 8]⟩, ⟨none, .mv 2 (.t 9)⟩, ⟨none, .mv 3 (.c (.sc (.i .i64 0)))⟩]) .ret)), [(2, 0), (3, 0)], 10⟩
theorem F45_ok : compT Tryz.prog (fun _ => an0) 45 = some F45 := by kernel_rfl
theorem F24_ok : compT Tryz.prog (fun _ => an0) 24 = some F24 := by kernel_rfl
set_option maxHeartbeats 2000000 in
theorem b45 (W0 : Go.World) (l : List S) (hl : l.length ≤ 140737488355328) (hj : (Go.Lib.join l [32]).length ≤ 140737488355328) : Body (Ctr Tryz.prog W0) F45.ac F45.rs [.sl 1 (strsD l) .none] [] (.sc (.s (Go.Lib.join l [32]))) [] := by
  repeat' ((conv => whnf); (first | with_reducible refine brec (fun _ => ?_) (fun _ => ?_) | (refine callP.pure _ (join_ctr W0 l [32] hl hj) ⟨rfl, rfl⟩ ?_) | fail))
  all_goals ((conv => whnf); exact fin_s rfl)
theorem c45 (W0 : Go.World) (l : List S) (hl : l.length ≤ 140737488355328) (hj : (Go.Lib.join l [32]).length ≤ 140737488355328) : Ctr Tryz.prog W0 45 [.sl 1 (strsD l) .none] [] (.sc (.s (Go.Lib.join l [32]))) [] :=
  ctr_body follows F45_ok rfl (fun _ _ h => by cases h) rfl (by rfl) (b45 W0 l hl hj)
def txtA (t : S) (e : Int) : AV := .tup [.sc (.s t), .sc (.i .i64 e)]
theorem fin_tx {σ : Log} {t t' : S} {e e' : Int} (h1 : t' = t) (h2 : e' = e) : FinOK σ (txtA t' e') 0 0 (txtA t e) [] := by
  subst h1; subst h2; exact fin0 rfl ⟨rfl, rfl, trivial⟩ rfl
def fmtT (x : Exp) : S := bif validE x then Go.Lib.join (wE x) [32] else []
def fmtC (x : Exp) : Int := bif validE x then 0 else 20
mutual
theorem nE_cE : ∀ x, nE x = cE x | .mk _ _ _ l => by simp [nE, cE, nL_cL l]
theorem nL_cL : ∀ l, nL l = cL l | [] => rfl | x :: r => by simp [nL, cL, nE_cE x, nL_cL r]
end
set_option maxHeartbeats 4000000 in
theorem b24 (W0 : Go.World) (hk : Wk W0) (x : Exp) (hx : x.ok) (hc : cE x ≤ 1048576) (hj : (Go.Lib.join (wE x) [32]).length ≤ 140737488355328) : Body (Ctr Tryz.prog W0) F24.ac F24.rs [eE x] [] (txtA (fmtT x) (fmtC x)) [] := by
  have hn := nE_cE x
  have hl := wE_len x
  cases x with | mk a b n l =>
  conv => whnf
  refine callP.pure _ (c26 W0 hk (.mk a b n l) hx (by omega)) ⟨rfl, rfl⟩ ?_
  conv => whnf
  refine brec (fun h => ?_) (fun h => ?_)
  · rw [Bool.not_eq_false'] at h
    have hw : wellE (.mk a b n l) = true := by
      simp only [validE, Bool.and_eq_true] at h
      exact h.2
    conv => whnf
    refine callP.pure _ (c66 W0 hk (.mk a b n l) hx hw hc) ⟨rfl, rfl⟩ ?_
    conv => whnf
    refine callP.pure _ (c45 W0 (wE (.mk a b n l)) (by omega) hj) ⟨rfl, rfl⟩ ?_
    conv => whnf
    exact fin_tx (by simp [fmtT, h]) (by simp [fmtC, h])
  · rw [Bool.not_eq_true'] at h
    conv => whnf
    exact fin_tx (by simp [fmtT, h]) (by simp [fmtC, h])
theorem c24 (W0 : Go.World) (hk : Wk W0) (x : Exp) (hx : x.ok) (hc : cE x ≤ 1048576) (hj : (Go.Lib.join (wE x) [32]).length ≤ 140737488355328) : Ctr Tryz.prog W0 24 [eE x] [] (txtA (fmtT x) (fmtC x)) [] :=
  ctr_body follows F24_ok rfl (fun _ _ h => by cases h) rfl (by cases x; rfl) (b24 W0 hk x hx hc hj)
end Go.Abs
