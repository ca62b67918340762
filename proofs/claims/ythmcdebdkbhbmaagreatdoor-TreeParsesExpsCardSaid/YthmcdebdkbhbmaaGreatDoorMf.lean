/- What is an expression: the program. -/
import Derived.Test.YthmcdebdkbhbmaaGreatDoorMe
set_option maxRecDepth 100000
namespace Go.Abs
open Go.Proofs
def isOpB (s : S) : Bool := hasB s [[43], [42], [109, 105, 110], [109, 97, 120], [38], [124]]
def operandsN (s : S) : Int := match hasB s [[43], [45], [42], [47], [37], [60], [60, 61], [61, 61], [38], [124], [109, 105, 110], [109, 97, 120]] with
  | true => 2
  | false => match hasB s [[33], [105, 110, 116]] with
    | true => 1
    | false => 0
def headE (d nm : S) (n : Int) (k : Nat) : Bool :=
  bif hasB d [[105, 110, 116]] then beqL nm [] && (decide (0 ≤ n) && (decide (n ≤ 999999999) && decide (k = 0))) else
  bif hasB d [[98, 111, 111, 108]] then beqL nm [] && (decide (0 ≤ n) && (decide (n ≤ 1) && decide (k = 0))) else
  bif hasB d [[111, 112]] then decide (n = 0) && (decide (k ≠ 0) && decide (operandsN nm = k)) else
  bif hasB d [[110, 111, 110, 101]] then isOpB nm && (decide (n = 0) && decide (k = 0)) else
  bif hasB d [[118, 97, 114], [114, 101, 97, 100], [103, 101, 116], [99, 111, 117, 110, 116]] then isNameB nm && (decide (n = 0) && decide (k = 0)) else
  bif hasB d [[108, 111, 119], [104, 105, 103, 104]] then isNameB nm && (decide (0 ≤ n) && (decide (n ≤ 2) && decide (k = 0))) else
  bif hasB d [[97, 116], [111, 114, 100], [104, 97, 115]] then isNameB nm && (decide (n = 0) && (decide (1 ≤ k) && decide (k ≤ 3))) else
  bif hasB d [[110, 116, 104]] then isNameB nm && (decide (0 ≤ n) && (decide (n ≤ 2) && decide (k = 1))) else
  bif hasB d [[99, 97, 108, 108]] then isNameB nm && decide (n = 0) else false
mutual
def wellE : Exp → Bool | .mk a b n l => headE a b n l.length && wellL l
def wellL : List Exp → Bool | [] => true | x :: r => wellE x && wellL r
end
def F186 : Fn := ⟨.seq (.reg [⟨none, .mv 2 (.c (.sc (.b false)))⟩]) (.seq (.reg [⟨none, .mv 3 (.t 0)⟩, ⟨none, .bin 4 .eql (.t 3) (.c (.sc (.s [43])))⟩, ⟨none, .mv 5 (.t 4)⟩, ⟨some (5, false), .mv 6 (.t 0)⟩, ⟨some (5, false), .bin 7 .eql (.t 6) (.c (.sc (.s [42])))⟩, ⟨none, .pick 8 (.t 5) (.c (.sc (.b true))) (.t 7)⟩, ⟨none, .mv 9 (.t 8)⟩, ⟨some (9, false), .mv 10 (.t 0)⟩, ⟨some (9, false), .bin 11 .eql (.t 10) (.c (.sc (.s [109, 105, 110])))⟩, ⟨none, .pick 12 (.t 9) (.c (.sc (.b true))) (.t 11)⟩, ⟨none, .mv 13 (.t 12)⟩, ⟨some (13, false), .mv 14 (.t 0)⟩, ⟨some (13, false), .bin 15 .eql (.t 14) (.c (.sc (.s [109, 97, 120])))⟩, ⟨none, .pick 16 (.t 13) (.c (.sc (.b true))) (.t 15)⟩, ⟨none, .mv 17 (.t 16)⟩, ⟨some (17, false), .mv 18 (.t 0)⟩, ⟨some (17, false), .bin 19 .eql (.t 18) (.c (.sc (.s [38])))⟩, ⟨none, .pick 20 (.t 17) (.c (.sc (.b true))) (.t 19)⟩, ⟨none, .mv 21 (.t 20)⟩, ⟨some (21, false), .mv 22 (.t 0)⟩, ⟨some (21, false), .bin 23 .eql (.t 22) (.c (.sc (.s [124])))⟩, ⟨none, .pick 24 (.t 21) (.c (.sc (.b true))) (.t 23)⟩, ⟨none, .mv 2 (.t 24)⟩]) .ret), [(2, 0)], 25⟩
def F185 : Fn := ⟨.seq (.reg [⟨none, .mv 2 (.c (.sc (.i .i64 0)))⟩]) (.seq (.seq (.reg [⟨none, .mv 3 (.t 0)⟩]) (.block 0 (.seq (.seq (.reg [⟨none, .bin 5 .eql (.t 3) (.c (.sc (.s [43])))⟩, ⟨none, .mv 4 (.t 5)⟩]) (.cond (.t 4) .skip (.seq (.reg [⟨none, .bin 6 .eql (.t 3) (.c (.sc (.s [45])))⟩, ⟨none, .mv 4 (.t 6)⟩]) (.cond (.t 4) .skip (.seq (.reg [⟨none, .bin 7 .eql (.t 3) (.c (.sc (.s [42])))⟩, ⟨none, .mv 4 (.t 7)⟩]) (.cond (.t 4) .skip (.seq (.reg [⟨none, .bin 8 .eql (.t 3) (.c (.sc (.s [47])))⟩, ⟨none, .mv 4 (.t 8)⟩]) (.cond (.t 4) .skip (.seq (.reg [⟨none, .bin 9 .eql (.t 3) (.c (.sc (.s [37])))⟩, ⟨none, .mv 4 (.t 9)⟩]) (.cond (.t 4) .skip (.seq (.reg [⟨none, .bin 10 .eql (.t 3) (.c (.sc (.s [60])))⟩, ⟨none, .mv 4 (.t 10)⟩]) (.cond (.t 4) .skip (.seq (.reg [⟨none, .bin 11 .eql (.t 3) (.c (.sc (.s [60, 61])))⟩, ⟨none, .mv 4 (.t 11)⟩]) (.cond (.t 4) .skip (.seq (.reg [⟨none, .bin 12 .eql (.t 3) (.c (.sc (.s [61, 61])))⟩, ⟨none, .mv 4 (.t 12)⟩]) (.cond (.t 4) .skip (.seq (.reg [⟨none, .bin 13 .eql (.t 3) (.c (.sc (.s [38])))⟩, ⟨none, .mv 4 (.t 13)⟩]) (.cond (.t 4) .skip (.seq (.reg [⟨none, .bin 14 .eql (.t 3) (.c (.sc (.s [124])))⟩, ⟨none, .mv 4 (.t 14)⟩]) (.cond (.t 4) .skip (.seq (.reg [⟨none, .bin 15 .eql (.t 3) (.c (.sc (.s [109, 105, 110])))⟩, ⟨none, .mv 4 (.t 15)⟩]) (.cond (.t 4) .skip (.reg [⟨none, .bin 16 .eql (.t 3) (.c (.sc (.s [109, 97, 120])))⟩, ⟨none, .mv 4 (.t 16)⟩]))))))))))))))))))))))) (.cond (.t 4) (.seq (.reg [⟨none, .mv 2 (.c (.sc (.i .i64 2)))⟩]) .ret) (.seq (.seq (.reg [⟨none, .bin 18 .eql (.t 3) (.c (.sc (.s [33])))⟩, ⟨none, .mv 17 (.t 18)⟩]) (.cond (.t 17) .skip (.reg [⟨none, .bin 19 .eql (.t 3) (.c (.sc (.s [105, 110, 116])))⟩, ⟨none, .mv 17 (.t 19)⟩]))) (.cond (.t 17) (.seq (.reg [⟨none, .mv 2 (.c (.sc (.i .i64 1)))⟩]) .ret) .skip)))))) (.seq (.reg [⟨none, .mv 2 (.c (.sc (.i .i64 0)))⟩]) .ret)), [(2, 0)], 20⟩
def F137 : Fn := ⟨.seq (.reg [⟨none, .box 1 (.t 0)⟩, ⟨none, .mv 2 (.c (.sc (.b false)))⟩]) (.seq (.reg [⟨none, .fa 6 (.t 1) 3⟩, ⟨none, .ld 7 1 false (.t 6)⟩, ⟨none, .len 8 (.t 7)⟩, ⟨none, .mv 3 (.t 8)⟩]) (.seq (.regD [⟨none, .fa 9 (.t 1) 2⟩, ⟨none, .ld 10 1 false (.t 9)⟩, ⟨none, .bin 11 .eql (.t 10) (.c (.sc (.i .i64 0)))⟩, ⟨none, .mv 4 (.c (.sc (.b true)))⟩, ⟨none, .mv 5 (.t 11)⟩] [0, 1, 3, 0, 15]) (.seq (.seq (.reg [⟨none, .fa 12 (.t 1) 0⟩, ⟨none, .ld 13 1 false (.t 12)⟩]) (.block 0 (.seq (.seq (.reg [⟨none, .bin 15 .eql (.t 13) (.c (.sc (.s [105, 110, 116])))⟩, ⟨none, .mv 14 (.t 15)⟩]) (.cond (.t 14) .skip (.reg [⟨none, .bin 16 .eql (.t 13) (.c (.sc (.s [98, 111, 111, 108])))⟩, ⟨none, .mv 14 (.t 16)⟩]))) (.cond (.t 14) (.seq (.reg [⟨none, .fa 17 (.t 1) 1⟩, ⟨none, .ld 18 1 false (.t 17)⟩, ⟨none, .bin 19 .eql (.t 18) (.c (.sc (.s [])))⟩, ⟨none, .mv 4 (.t 19)⟩]) (.reg [⟨none, .fa 20 (.t 1) 2⟩, ⟨none, .ld 21 1 false (.t 20)⟩, ⟨none, .bin 22 .geq (.t 21) (.c (.sc (.i .i64 0)))⟩, ⟨none, .mv 23 (.t 22)⟩, ⟨some (23, true), .fa 24 (.t 1) 2⟩, ⟨some (23, true), .ld 25 1 false (.t 24)⟩, ⟨some (23, true), .bin 26 .leq (.t 25) (.c (.sc (.i .i64 1)))⟩, ⟨some (23, true), .mv 27 (.t 26)⟩, ⟨some (27, false), .fa 28 (.t 1) 0⟩, ⟨some (27, false), .ld 29 1 false (.t 28)⟩, ⟨some (27, false), .bin 30 .eql (.t 29) (.c (.sc (.s [105, 110, 116])))⟩, ⟨some (27, false), .mv 31 (.t 30)⟩, ⟨some (31, true), .fa 32 (.t 1) 2⟩, ⟨some (31, true), .ld 33 1 false (.t 32)⟩, ⟨some (31, true), .bin 34 .leq (.t 33) (.c (.sc (.i .i64 999999999)))⟩, ⟨some (27, false), .pick 35 (.t 31) (.t 34) (.c (.sc (.b false)))⟩, ⟨some (23, true), .pick 36 (.t 27) (.c (.sc (.b true))) (.t 35)⟩, ⟨none, .pick 37 (.t 23) (.t 36) (.c (.sc (.b false)))⟩, ⟨none, .mv 5 (.t 37)⟩])) (.seq (.reg [⟨none, .bin 39 .eql (.t 13) (.c (.sc (.s [111, 112])))⟩, ⟨none, .mv 38 (.t 39)⟩]) (.cond (.t 38) (.seq (.seq (.reg [⟨none, .mv 40 (.t 3)⟩, ⟨none, .bin 41 .eql (.t 40) (.c (.sc (.i .i64 0)))⟩, ⟨none, .mv 42 (.t 41)⟩, ⟨some (42, false), .fa 43 (.t 1) 1⟩, ⟨some (42, false), .ld 44 1 false (.t 43)⟩, ⟨some (42, false), .call (some 45) (.c (.fn 185 [])) [.t 44]⟩, ⟨some (42, false), .mv 46 (.t 3)⟩, ⟨some (42, false), .bin 47 .neq (.t 45) (.t 46)⟩, ⟨none, .pick 48 (.t 42) (.c (.sc (.b true))) (.t 47)⟩]) (.cond (.t 48) (.seq (.reg [⟨none, .mv 2 (.c (.sc (.b false)))⟩]) .ret) .skip)) (.reg [⟨none, .mv 3 (.c (.sc (.i .i64 0)))⟩])) (.seq (.reg [⟨none, .bin 50 .eql (.t 13) (.c (.sc (.s [110, 111, 110, 101])))⟩, ⟨none, .mv 49 (.t 50)⟩]) (.cond (.t 49) (.reg [⟨none, .fa 51 (.t 1) 1⟩, ⟨none, .ld 52 1 false (.t 51)⟩, ⟨none, .call (some 53) (.c (.fn 186 [])) [.t 52]⟩, ⟨none, .mv 4 (.t 53)⟩]) (.seq (.seq (.reg [⟨none, .bin 55 .eql (.t 13) (.c (.sc (.s [118, 97, 114])))⟩, ⟨none, .mv 54 (.t 55)⟩]) (.cond (.t 54) .skip (.seq (.reg [⟨none, .bin 56 .eql (.t 13) (.c (.sc (.s [114, 101, 97, 100])))⟩, ⟨none, .mv 54 (.t 56)⟩]) (.cond (.t 54) .skip (.seq (.reg [⟨none, .bin 57 .eql (.t 13) (.c (.sc (.s [103, 101, 116])))⟩, ⟨none, .mv 54 (.t 57)⟩]) (.cond (.t 54) .skip (.reg [⟨none, .bin 58 .eql (.t 13) (.c (.sc (.s [99, 111, 117, 110, 116])))⟩, ⟨none, .mv 54 (.t 58)⟩]))))))) (.cond (.t 54) (.reg [⟨none, .fa 59 (.t 1) 1⟩, ⟨none, .ld 60 1 false (.t 59)⟩, ⟨none, .call (some 61) (.c (.fn 168 [])) [.t 60]⟩, ⟨none, .mv 4 (.t 61)⟩]) (.seq (.seq (.reg [⟨none, .bin 63 .eql (.t 13) (.c (.sc (.s [108, 111, 119])))⟩, ⟨none, .mv 62 (.t 63)⟩]) (.cond (.t 62) .skip (.reg [⟨none, .bin 64 .eql (.t 13) (.c (.sc (.s [104, 105, 103, 104])))⟩, ⟨none, .mv 62 (.t 64)⟩]))) (.cond (.t 62) (.seq (.reg [⟨none, .fa 65 (.t 1) 1⟩, ⟨none, .ld 66 1 false (.t 65)⟩, ⟨none, .call (some 67) (.c (.fn 168 [])) [.t 66]⟩, ⟨none, .mv 4 (.t 67)⟩]) (.reg [⟨none, .fa 68 (.t 1) 2⟩, ⟨none, .ld 69 1 false (.t 68)⟩, ⟨none, .bin 70 .geq (.t 69) (.c (.sc (.i .i64 0)))⟩, ⟨none, .mv 71 (.t 70)⟩, ⟨some (71, true), .fa 72 (.t 1) 2⟩, ⟨some (71, true), .ld 73 1 false (.t 72)⟩, ⟨some (71, true), .bin 74 .lss (.t 73) (.c (.sc (.i .i64 3)))⟩, ⟨none, .pick 75 (.t 71) (.t 74) (.c (.sc (.b false)))⟩, ⟨none, .mv 5 (.t 75)⟩])) (.seq (.seq (.reg [⟨none, .bin 77 .eql (.t 13) (.c (.sc (.s [97, 116])))⟩, ⟨none, .mv 76 (.t 77)⟩]) (.cond (.t 76) .skip (.seq (.reg [⟨none, .bin 78 .eql (.t 13) (.c (.sc (.s [111, 114, 100])))⟩, ⟨none, .mv 76 (.t 78)⟩]) (.cond (.t 76) .skip (.reg [⟨none, .bin 79 .eql (.t 13) (.c (.sc (.s [104, 97, 115])))⟩, ⟨none, .mv 76 (.t 79)⟩]))))) (.cond (.t 76) (.seq (.seq (.reg [⟨none, .mv 80 (.t 3)⟩, ⟨none, .bin 81 .lss (.t 80) (.c (.sc (.i .i64 1)))⟩, ⟨none, .mv 82 (.t 81)⟩, ⟨some (82, false), .mv 83 (.t 3)⟩, ⟨some (82, false), .bin 84 .gtr (.t 83) (.c (.sc (.i .i64 3)))⟩, ⟨none, .pick 85 (.t 82) (.c (.sc (.b true))) (.t 84)⟩]) (.cond (.t 85) (.seq (.reg [⟨none, .mv 2 (.c (.sc (.b false)))⟩]) .ret) .skip)) (.reg [⟨none, .fa 86 (.t 1) 1⟩, ⟨none, .ld 87 1 false (.t 86)⟩, ⟨none, .call (some 88) (.c (.fn 168 [])) [.t 87]⟩, ⟨none, .mv 4 (.t 88)⟩, ⟨none, .mv 3 (.c (.sc (.i .i64 0)))⟩])) (.seq (.reg [⟨none, .bin 90 .eql (.t 13) (.c (.sc (.s [110, 116, 104])))⟩, ⟨none, .mv 89 (.t 90)⟩]) (.cond (.t 89) (.seq (.reg [⟨none, .fa 91 (.t 1) 1⟩, ⟨none, .ld 92 1 false (.t 91)⟩, ⟨none, .call (some 93) (.c (.fn 168 [])) [.t 92]⟩, ⟨none, .mv 4 (.t 93)⟩]) (.seq (.reg [⟨none, .fa 94 (.t 1) 2⟩, ⟨none, .ld 95 1 false (.t 94)⟩, ⟨none, .bin 96 .geq (.t 95) (.c (.sc (.i .i64 0)))⟩, ⟨none, .mv 97 (.t 96)⟩, ⟨some (97, true), .fa 98 (.t 1) 2⟩, ⟨some (97, true), .ld 99 1 false (.t 98)⟩, ⟨some (97, true), .bin 100 .lss (.t 99) (.c (.sc (.i .i64 3)))⟩, ⟨none, .pick 101 (.t 97) (.t 100) (.c (.sc (.b false)))⟩, ⟨none, .mv 5 (.t 101)⟩]) (.reg [⟨none, .mv 102 (.t 3)⟩, ⟨none, .bin 103 .sub (.t 102) (.c (.sc (.i .i64 1)))⟩, ⟨none, .mv 3 (.t 103)⟩]))) (.seq (.reg [⟨none, .bin 105 .eql (.t 13) (.c (.sc (.s [99, 97, 108, 108])))⟩, ⟨none, .mv 104 (.t 105)⟩]) (.cond (.t 104) (.reg [⟨none, .fa 106 (.t 1) 1⟩, ⟨none, .ld 107 1 false (.t 106)⟩, ⟨none, .call (some 108) (.c (.fn 168 [])) [.t 107]⟩, ⟨none, .mv 4 (.t 108)⟩, ⟨none, .mv 3 (.c (.sc (.i .i64 0)))⟩]) (.seq (.reg [⟨none, .mv 2 (.c (.sc (.b false)))⟩]) .ret))))))))))))))))))) (.seq (.reg [⟨none, .mv 109 (.t 3)⟩, ⟨none, .bin 110 .eql (.t 109) (.c (.sc (.i .i64 0)))⟩, ⟨none, .mv 111 (.t 110)⟩, ⟨some (111, true), .mv 112 (.t 4)⟩, ⟨none, .pick 113 (.t 111) (.t 112) (.c (.sc (.b false)))⟩, ⟨none, .mv 114 (.t 113)⟩, ⟨some (114, true), .mv 115 (.t 5)⟩, ⟨none, .pick 116 (.t 114) (.t 115) (.c (.sc (.b false)))⟩, ⟨none, .mv 117 (.t 116)⟩, ⟨some (117, true), .fa 118 (.t 1) 3⟩, ⟨some (117, true), .ld 119 1 false (.t 118)⟩, ⟨some (117, true), .call (some 120) (.c (.fn 69 [])) [.t 119]⟩, ⟨none, .pick 121 (.t 117) (.t 120) (.c (.sc (.b false)))⟩, ⟨none, .mv 2 (.t 121)⟩]) .ret)))), [(2, 0)], 122⟩
def F69 : Fn := ⟨.seq (.reg [⟨none, .mv 2 (.c (.sc (.b false)))⟩]) (.seq (.seq (.reg [⟨none, .mv 5 (.t 0)⟩, ⟨none, .len 6 (.t 5)⟩, ⟨none, .mv 7 (.c (.sc (.i .i64 0)))⟩]) (.block 0 (.loop (.seq (.reg [⟨none, .bin 8 .lss (.t 7) (.t 6)⟩]) (.seq (.cond (.t 8) .skip (.exit 0)) (.seq (.block 1 (.seq (.reg [⟨none, .ia 9 4 (.t 5) (.t 7)⟩, ⟨none, .ld 10 4 true (.t 9)⟩, ⟨none, .alloc 4 [.sc (.s []), .sc (.s []), .sc (.i .i64 0), .sl 4 [] .full]⟩, ⟨none, .st (.t 4) 4 (.t 10)⟩]) (.seq (.reg [⟨none, .ld 11 4 true (.t 4)⟩, ⟨none, .call (some 12) (.c (.fn 137 [])) [.t 11]⟩, ⟨none, .no 13 (.t 12)⟩]) (.cond (.t 13) (.seq (.reg [⟨none, .mv 2 (.c (.sc (.b false)))⟩]) .ret) .skip)))) (.reg [⟨none, .bin 14 .add (.t 7) (.c (.sc (.i .i64 1)))⟩, ⟨none, .mv 7 (.t 14)⟩]))))))) (.seq (.reg [⟨none, .mv 2 (.c (.sc (.b true)))⟩]) .ret)), [(2, 0)], 15⟩
theorem F186_ok : compT Tryz.prog (fun _ => an0) 186 = some F186 := by kernel_rfl
theorem F185_ok : compT Tryz.prog (fun _ => an0) 185 = some F185 := by kernel_rfl
theorem F137_ok : compT Tryz.prog (fun _ => an0) 137 = some F137 := by kernel_rfl
theorem F69_ok : compT Tryz.prog (fun _ => an0) 69 = some F69 := by kernel_rfl
set_option maxHeartbeats 2000000 in
theorem b186 (W0 : Go.World) (s : S) : Body (Ctr Tryz.prog W0) F186.ac F186.rs [.sc (.s s)] [] (.sc (.b (isOpB s))) [] := by
  repeat' ((conv => whnf); (first | with_reducible refine brec (fun _ => ?_) (fun _ => ?_) | fail))
  all_goals ((conv => whnf); refine fin_b ?_; simp_all [isOpB, hasB])
theorem c186 (W0 : Go.World) (s : S) : Ctr Tryz.prog W0 186 [.sc (.s s)] [] (.sc (.b (isOpB s))) [] :=
  ctr_body follows F186_ok rfl (fun _ _ h => by cases h) rfl (by rfl) (b186 W0 s)
set_option maxHeartbeats 2000000 in
theorem b185 (W0 : Go.World) (s : S) : Body (Ctr Tryz.prog W0) F185.ac F185.rs [.sc (.s s)] [] (.sc (.i .i64 (operandsN s))) [] := by
  repeat' ((conv => whnf); (first | with_reducible refine brec (fun _ => ?_) (fun _ => ?_) | fail))
  all_goals ((conv => whnf); refine fin_i ?_; simp_all [operandsN, hasB])
theorem c185 (W0 : Go.World) (s : S) : Ctr Tryz.prog W0 185 [.sc (.s s)] [] (.sc (.i .i64 (operandsN s))) [] :=
  ctr_body follows F185_ok rfl (fun _ _ h => by cases h) rfl (by rfl) (b185 W0 s)
set_option maxHeartbeats 8000000 in
theorem b137 (W0 : Go.World) (hk : Wk W0) (x : Exp) (hx : x.ok) (h69 : ∀ l, l.length ≤ 140737488355328 → oksE l → SizeOf.sizeOf l < SizeOf.sizeOf x → Ctr Tryz.prog W0 69 [eL l] [] (.sc (.b (wellL l))) []) : Body (Ctr Tryz.prog W0) F137.ac F137.rs [eE x] [] (.sc (.b (wellE x))) [] := by
  cases x with | mk a b n l =>
  have hlen := expsD_length l
  have hln := hx.2.1
  repeat' ((conv => whnf); (first | with_reducible refine brec (fun _ => ?_) (fun _ => ?_) | (refine callP.pure _ (c186 W0 b) ⟨rfl, rfl⟩ ?_) | (refine callP.pure _ (c185 W0 b) ⟨rfl, rfl⟩ ?_) | (refine callP.pure _ (c168 W0 hk b hx.1.2.1) ⟨rfl, rfl⟩ ?_) | (refine callP.pure _ (h69 l hx.2.1 hx.2.2 (by simp; omega)) ⟨rfl, rfl⟩ ?_) | (refine And.intro ?_ ?_; (constructor <;> (have := hx.2.1; rw [expsD_length]; omega))) | fail))
  all_goals ((conv => whnf); (refine fin_b ?_; (simp_all [wellE, headE, hasB, expsD_length]; try omega)))
end Go.Abs

set_option maxRecDepth 100000
namespace Go.Abs
open Go.Proofs
theorem b69 (W0 : Go.World) (l : List Exp) (hl : l.length ≤ 140737488355328) (ol : oksE l) (hc : ∀ x, x.ok → SizeOf.sizeOf x < SizeOf.sizeOf l → Ctr Tryz.prog W0 137 [eE x] [] (.sc (.b (wellE x))) []) : Body (Ctr Tryz.prog W0) F69.ac F69.rs [eL l] [] (.sc (.b (wellL l))) [] := by
  conv => whnf
  refine .st 1000 (fun k => l.length - k) (fun k => [(.s 5, .av (eL l)), (.s 6, .av (.sc (.i .i64 ((expsD l).length : Nat)))), (.s 7, .av (.sc (.i .i64 (k : Nat))))])
    (fun k => k ≤ l.length ∧ wellL l = wellL (l.drop k)) 0 ?_ ⟨Nat.zero_le _, rfl⟩ ?_
  · (refine le_of rfl rfl ?_; repeat' (first | exact rfl | exact trivial | refine ⟨?_, ?_⟩))
  · rintro k ⟨hk', he⟩
    conv => whnf
    refine brec (fun h2 => ?_) (fun h2 => ?_)
    · simp only [expsD_length, decide_eq_false_iff_not] at h2
      have e1 : l.drop k = [] := by simp; omega
      have he : wellL l = true := by rw [he, e1]; simp [wellL]
      clear e1 h2 hk'
      conv => whnf
      exact fin_b he.symm
    · simp only [expsD_length, decide_eq_true_eq] at h2
      obtain ⟨x, hx⟩ := get_of_lt (l := l) (k := k) (by omega)
      have dx := expsD_get hx
      have ox := oksE_get ol hx
      have sx := size_get hx
      rw [drop_get hx, wellL] at he
      cases x with | mk a b n args =>
      conv => whnf
      refine ⟨_, ⟨Int.natCast_nonneg _, dx⟩, ?_⟩
      conv => whnf
      refine callP.pure _ (hc _ ox sx) ⟨rfl, rfl⟩ ?_
      conv => whnf
      refine brec (fun h3 => ?_) (fun h3 => ?_)
      · have h4 : wellE (.mk a b n args) = true := by rw [Bool.not_eq_false'] at h3; exact h3
        conv => whnf
        refine ⟨?_, ?_⟩
        · constructor <;> omega
        · conv => whnf
          refine nxt (k + 1) ⟨by omega, by omega, ?_⟩ ?_
          · rw [he, h4, Bool.true_and]
          · (refine le_of rfl rfl ?_; repeat' (first | exact rfl | exact trivial | refine ⟨?_, ?_⟩))
      · have h4 : wellE (.mk a b n args) = false := by rw [Bool.not_eq_true'] at h3; exact h3
        have he : wellL l = false := by rw [he, h4, Bool.false_and]
        conv => whnf
        exact fin_b he.symm
theorem c137s (W0 : Go.World) (hk : Wk W0) : ∀ (n : Nat), (∀ x : Exp, SizeOf.sizeOf x < n → x.ok → Ctr Tryz.prog W0 137 [eE x] [] (.sc (.b (wellE x))) []) ∧
    (∀ l : List Exp, SizeOf.sizeOf l < n → l.length ≤ 140737488355328 → oksE l → Ctr Tryz.prog W0 69 [eL l] [] (.sc (.b (wellL l))) [])
  | 0 => ⟨fun _ h => absurd h (Nat.not_lt_zero _), fun _ h => absurd h (Nat.not_lt_zero _)⟩
  | n + 1 => by
    obtain ⟨ih1, ih2⟩ := c137s W0 hk n
    refine ⟨fun x h hx => ?_, fun l h hl ol => ?_⟩
    · refine ctr_body follows F137_ok rfl (fun _ _ h => by cases h) rfl ?_ (b137 W0 hk x hx fun l hl ol hs => ih2 l (by omega) hl ol)
      cases x; rfl
    · exact ctr_body follows F69_ok rfl (fun _ _ h => by cases h) rfl rfl (b69 W0 l hl ol fun x hx hs => ih1 x (by omega) hx)
theorem c69 (W0 : Go.World) (hk : Wk W0) (l : List Exp) (hl : l.length ≤ 140737488355328) (ol : oksE l) : Ctr Tryz.prog W0 69 [eL l] [] (.sc (.b (wellL l))) [] := (c137s W0 hk _).2 l (Nat.lt_succ_self _) hl ol
end Go.Abs
