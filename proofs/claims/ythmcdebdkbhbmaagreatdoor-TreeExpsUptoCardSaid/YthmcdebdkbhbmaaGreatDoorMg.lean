/- The shapes of statements: the program. -/
import Derived.Test.YthmcdebdkbhbmaaGreatDoorMf
import Derived.Test.YthmcdebdkbhbmaaGreatDoorMd
set_option maxRecDepth 100000
namespace Go.Abs
open Go.Proofs
structure Shp where
  nm : Bool
  least : Int
  most : Int
  bodies : Int
  upTo : Int
  names : Bool
  folds : Bool
  text : S
  ok : Bool
def shpOf (d : S) (k : Nat) : Shp :=
  bif hasB d [[118, 97, 114], [115, 101, 116], [103, 105, 118, 101], [97, 100, 100], [102, 105, 108, 108]] then ⟨true, 1, 1, 0, 0, false, false, [], true⟩ else
  bif hasB d [[112, 117, 116]] then ⟨true, 2, 4, 0, 0, false, false, [], true⟩ else
  bif hasB d [[100, 111, 109]] then ⟨true, 3, 9, 0, 0, false, false, [107, 105, 110, 100], decide (((k : Int) % 3) = 0)⟩ else
  bif hasB d [[114, 101, 115, 105, 122, 101]] then ⟨true, 3, 9, 0, 0, false, false, [], decide (((k : Int) % 3) = 0)⟩ else
  bif hasB d [[97, 114, 114]] then ⟨true, 1, 1, 0, 0, false, false, [110, 97, 109, 101], true⟩ else
  bif hasB d [[115, 105, 110, 103, 108, 101], [97, 116, 111, 109, 105, 99]] then ⟨true, 0, 0, 0, 0, false, false, [], true⟩ else
  bif hasB d [[105, 102]] then ⟨false, 1, 1, 2, 2, false, false, [], true⟩ else
  bif hasB d [[119, 104, 105, 108, 101], [111, 110]] then ⟨false, 1, 1, 1, 1, false, false, [], true⟩ else
  bif hasB d [[102, 111, 114]] then ⟨false, 0, 0, 1, 1, true, false, [110, 97, 109, 101], true⟩ else
  bif hasB d [[102, 111, 114, 97, 108, 108]] then ⟨false, 0, 0, 1, 1, true, true, [110, 97, 109, 101], true⟩ else
  bif hasB d [[122, 105, 112]] then ⟨false, 2, 4, 1, 1, true, true, [110, 97, 109, 101], true⟩ else
  bif hasB d [[99, 111, 98, 101, 103, 105, 110]] then ⟨false, 0, 0, 1, 1500, false, false, [], true⟩ else
  bif hasB d [[99, 111, 102, 111, 114, 97, 108, 108]] then ⟨true, 2, 2, 1, 1, false, false, [], true⟩ else
  bif hasB d [[98, 101, 103, 105, 110], [115, 121, 110, 99]] then ⟨false, 0, 0, 1, 1, false, false, [], true⟩ else
  bif hasB d [[119, 114, 105, 116, 101], [100, 111], [114, 101, 116, 117, 114, 110]] then ⟨false, 1, 1, 0, 0, false, false, [], true⟩ else
  bif hasB d [[104, 97, 108, 116]] then ⟨false, 0, 0, 0, 0, false, false, [114, 101, 97, 115, 111, 110], true⟩ else
  bif hasB d [[114, 101, 100, 117, 99, 101], [115, 99, 97, 110]] then ⟨true, 0, 0, 0, 0, true, false, [111, 112], true⟩ else
  bif hasB d [[99, 111, 112, 121]] then ⟨true, 0, 0, 0, 0, true, false, [], true⟩ else
  ⟨false, 0, 0, 0, 0, false, false, [], false⟩
def Shp.a (x : Shp) : AV := .agg [.sc (.b x.nm), .sc (.i .i64 x.least), .sc (.i .i64 x.most), .sc (.i .i64 x.bodies), .sc (.i .i64 x.upTo), .sc (.b x.names), .sc (.b x.folds), .sc (.s x.text)]
def shpA (x : Shp) : AV := .tup [x.a, .sc (.b x.ok)]
theorem fin_r {σ : Log} {v res : AV} (h : res = v) (h1 : inR 0 0 res = true) (h2 : wk3 res (ren [] [] 0 res)) (h3 : toks res = []) : FinOK σ v 0 0 res [] := by subst h; exact fin0 h1 h2 h3
theorem shpA_wk (x : Shp) : wk3 (shpA x) (ren [] [] 0 (shpA x)) := ⟨⟨rfl, rfl, rfl, rfl, rfl, rfl, rfl, rfl, trivial⟩, rfl, trivial⟩
def isKindB (s : S) (n : Int) : Bool :=
  bif hasB s [[119, 104, 111, 108, 101], [98, 108, 111, 99, 107], [99, 121, 99, 108, 105, 99]] then decide (n = 0) else
  bif hasB s [[98, 108, 111, 99, 107, 115]] then decide (1 ≤ n) && decide (n ≤ 99) else false
def oneB (d : S) : Bool := hasB d [[114, 101, 100, 117, 99, 101], [115, 99, 97, 110], [99, 111, 112, 121]]
def textB (x : S) (tx : S) (n : Int) : Bool :=
  bif hasB x [[110, 97, 109, 101]] then isNameB tx else
  bif hasB x [[111, 112]] then isOpB tx else
  bif hasB x [[107, 105, 110, 100]] then isKindB tx n else
  bif hasB x [[114, 101, 97, 115, 111, 110]] then beqL tx [] || isNameB tx else beqL tx []
def F151 : Fn := ⟨.seq (.reg [⟨none, .box 1 (.t 0)⟩, ⟨none, .alloc 2 [.sc (.b false), .sc (.i .i64 0), .sc (.i .i64 0), .sc (.i .i64 0), .sc (.i .i64 0), .sc (.b false), .sc (.b false), .sc (.s [])]⟩, ⟨none, .mv 3 (.c (.sc (.b false)))⟩]) (.seq (.seq (.reg [⟨none, .fa 4 (.t 1) 0⟩, ⟨none, .ld 5 1 false (.t 4)⟩]) (.block 0 (.seq (.seq (.reg [⟨none, .bin 7 .eql (.t 5) (.c (.sc (.s [118, 97, 114])))⟩, ⟨none, .mv 6 (.t 7)⟩]) (.cond (.t 6) .skip (.seq (.reg [⟨none, .bin 8 .eql (.t 5) (.c (.sc (.s [115, 101, 116])))⟩, ⟨none, .mv 6 (.t 8)⟩]) (.cond (.t 6) .skip (.seq (.reg [⟨none, .bin 9 .eql (.t 5) (.c (.sc (.s [103, 105, 118, 101])))⟩, ⟨none, .mv 6 (.t 9)⟩]) (.cond (.t 6) .skip (.seq (.reg [⟨none, .bin 10 .eql (.t 5) (.c (.sc (.s [97, 100, 100])))⟩, ⟨none, .mv 6 (.t 10)⟩]) (.cond (.t 6) .skip (.reg [⟨none, .bin 11 .eql (.t 5) (.c (.sc (.s [102, 105, 108, 108])))⟩, ⟨none, .mv 6 (.t 11)⟩]))))))))) (.cond (.t 6) (.seq (.reg [⟨none, .build 12 [.sc (.b false), .sc (.i .i64 0), .sc (.i .i64 0), .sc (.i .i64 0), .sc (.i .i64 0), .sc (.b false), .sc (.b false), .sc (.s [])] [(0, (1, .c (.sc (.b true)))), (1, (1, .c (.sc (.i .i64 1)))), (2, (1, .c (.sc (.i .i64 1))))]⟩, ⟨none, .st (.t 2) 8 (.t 12)⟩, ⟨none, .mv 3 (.c (.sc (.b true)))⟩]) .ret) (.seq (.reg [⟨none, .bin 14 .eql (.t 5) (.c (.sc (.s [112, 117, 116])))⟩, ⟨none, .mv 13 (.t 14)⟩]) (.cond (.t 13) (.seq (.reg [⟨none, .build 15 [.sc (.b false), .sc (.i .i64 0), .sc (.i .i64 0), .sc (.i .i64 0), .sc (.i .i64 0), .sc (.b false), .sc (.b false), .sc (.s [])] [(0, (1, .c (.sc (.b true)))), (1, (1, .c (.sc (.i .i64 2)))), (2, (1, .c (.sc (.i .i64 4))))]⟩, ⟨none, .st (.t 2) 8 (.t 15)⟩, ⟨none, .mv 3 (.c (.sc (.b true)))⟩]) .ret) (.seq (.reg [⟨none, .bin 17 .eql (.t 5) (.c (.sc (.s [100, 111, 109])))⟩, ⟨none, .mv 16 (.t 17)⟩]) (.cond (.t 16) (.seq (.regD [⟨none, .build 18 [.sc (.b false), .sc (.i .i64 0), .sc (.i .i64 0), .sc (.i .i64 0), .sc (.i .i64 0), .sc (.b false), .sc (.b false), .sc (.s [])] [(0, (1, .c (.sc (.b true)))), (1, (1, .c (.sc (.i .i64 3)))), (2, (1, .c (.sc (.i .i64 9)))), (7, (1, .c (.sc (.s [107, 105, 110, 100]))))]⟩, ⟨none, .fa 19 (.t 1) 5⟩, ⟨none, .ld 20 1 false (.t 19)⟩, ⟨none, .len 21 (.t 20)⟩, ⟨none, .bin 22 .rem (.t 21) (.c (.sc (.i .i64 3)))⟩, ⟨none, .bin 23 .eql (.t 22) (.c (.sc (.i .i64 0)))⟩, ⟨none, .st (.t 2) 8 (.t 18)⟩, ⟨none, .mv 3 (.t 23)⟩] [0, 0, 2, 6, 14, 30, 1, 127]) .ret) (.seq (.reg [⟨none, .bin 25 .eql (.t 5) (.c (.sc (.s [114, 101, 115, 105, 122, 101])))⟩, ⟨none, .mv 24 (.t 25)⟩]) (.cond (.t 24) (.seq (.regD [⟨none, .build 26 [.sc (.b false), .sc (.i .i64 0), .sc (.i .i64 0), .sc (.i .i64 0), .sc (.i .i64 0), .sc (.b false), .sc (.b false), .sc (.s [])] [(0, (1, .c (.sc (.b true)))), (1, (1, .c (.sc (.i .i64 3)))), (2, (1, .c (.sc (.i .i64 9))))]⟩, ⟨none, .fa 27 (.t 1) 5⟩, ⟨none, .ld 28 1 false (.t 27)⟩, ⟨none, .len 29 (.t 28)⟩, ⟨none, .bin 30 .rem (.t 29) (.c (.sc (.i .i64 3)))⟩, ⟨none, .bin 31 .eql (.t 30) (.c (.sc (.i .i64 0)))⟩, ⟨none, .st (.t 2) 8 (.t 26)⟩, ⟨none, .mv 3 (.t 31)⟩] [0, 0, 2, 6, 14, 30, 1, 127]) .ret) (.seq (.reg [⟨none, .bin 33 .eql (.t 5) (.c (.sc (.s [97, 114, 114])))⟩, ⟨none, .mv 32 (.t 33)⟩]) (.cond (.t 32) (.seq (.reg [⟨none, .build 34 [.sc (.b false), .sc (.i .i64 0), .sc (.i .i64 0), .sc (.i .i64 0), .sc (.i .i64 0), .sc (.b false), .sc (.b false), .sc (.s [])] [(0, (1, .c (.sc (.b true)))), (1, (1, .c (.sc (.i .i64 1)))), (2, (1, .c (.sc (.i .i64 1)))), (7, (1, .c (.sc (.s [110, 97, 109, 101]))))]⟩, ⟨none, .st (.t 2) 8 (.t 34)⟩, ⟨none, .mv 3 (.c (.sc (.b true)))⟩]) .ret) (.seq (.seq (.reg [⟨none, .bin 36 .eql (.t 5) (.c (.sc (.s [115, 105, 110, 103, 108, 101])))⟩, ⟨none, .mv 35 (.t 36)⟩]) (.cond (.t 35) .skip (.reg [⟨none, .bin 37 .eql (.t 5) (.c (.sc (.s [97, 116, 111, 109, 105, 99])))⟩, ⟨none, .mv 35 (.t 37)⟩]))) (.cond (.t 35) (.seq (.reg [⟨none, .build 38 [.sc (.b false), .sc (.i .i64 0), .sc (.i .i64 0), .sc (.i .i64 0), .sc (.i .i64 0), .sc (.b false), .sc (.b false), .sc (.s [])] [(0, (1, .c (.sc (.b true))))]⟩, ⟨none, .st (.t 2) 8 (.t 38)⟩, ⟨none, .mv 3 (.c (.sc (.b true)))⟩]) .ret) (.seq (.reg [⟨none, .bin 40 .eql (.t 5) (.c (.sc (.s [105, 102])))⟩, ⟨none, .mv 39 (.t 40)⟩]) (.cond (.t 39) (.seq (.reg [⟨none, .build 41 [.sc (.b false), .sc (.i .i64 0), .sc (.i .i64 0), .sc (.i .i64 0), .sc (.i .i64 0), .sc (.b false), .sc (.b false), .sc (.s [])] [(1, (1, .c (.sc (.i .i64 1)))), (2, (1, .c (.sc (.i .i64 1)))), (3, (1, .c (.sc (.i .i64 2)))), (4, (1, .c (.sc (.i .i64 2))))]⟩, ⟨none, .st (.t 2) 8 (.t 41)⟩, ⟨none, .mv 3 (.c (.sc (.b true)))⟩]) .ret) (.seq (.seq (.reg [⟨none, .bin 43 .eql (.t 5) (.c (.sc (.s [119, 104, 105, 108, 101])))⟩, ⟨none, .mv 42 (.t 43)⟩]) (.cond (.t 42) .skip (.reg [⟨none, .bin 44 .eql (.t 5) (.c (.sc (.s [111, 110])))⟩, ⟨none, .mv 42 (.t 44)⟩]))) (.cond (.t 42) (.seq (.reg [⟨none, .build 45 [.sc (.b false), .sc (.i .i64 0), .sc (.i .i64 0), .sc (.i .i64 0), .sc (.i .i64 0), .sc (.b false), .sc (.b false), .sc (.s [])] [(1, (1, .c (.sc (.i .i64 1)))), (2, (1, .c (.sc (.i .i64 1)))), (3, (1, .c (.sc (.i .i64 1)))), (4, (1, .c (.sc (.i .i64 1))))]⟩, ⟨none, .st (.t 2) 8 (.t 45)⟩, ⟨none, .mv 3 (.c (.sc (.b true)))⟩]) .ret) (.seq (.reg [⟨none, .bin 47 .eql (.t 5) (.c (.sc (.s [102, 111, 114])))⟩, ⟨none, .mv 46 (.t 47)⟩]) (.cond (.t 46) (.seq (.reg [⟨none, .build 48 [.sc (.b false), .sc (.i .i64 0), .sc (.i .i64 0), .sc (.i .i64 0), .sc (.i .i64 0), .sc (.b false), .sc (.b false), .sc (.s [])] [(5, (1, .c (.sc (.b true)))), (7, (1, .c (.sc (.s [110, 97, 109, 101])))), (3, (1, .c (.sc (.i .i64 1)))), (4, (1, .c (.sc (.i .i64 1))))]⟩, ⟨none, .st (.t 2) 8 (.t 48)⟩, ⟨none, .mv 3 (.c (.sc (.b true)))⟩]) .ret) (.seq (.reg [⟨none, .bin 50 .eql (.t 5) (.c (.sc (.s [102, 111, 114, 97, 108, 108])))⟩, ⟨none, .mv 49 (.t 50)⟩]) (.cond (.t 49) (.seq (.reg [⟨none, .build 51 [.sc (.b false), .sc (.i .i64 0), .sc (.i .i64 0), .sc (.i .i64 0), .sc (.i .i64 0), .sc (.b false), .sc (.b false), .sc (.s [])] [(5, (1, .c (.sc (.b true)))), (6, (1, .c (.sc (.b true)))), (7, (1, .c (.sc (.s [110, 97, 109, 101])))), (3, (1, .c (.sc (.i .i64 1)))), (4, (1, .c (.sc (.i .i64 1))))]⟩, ⟨none, .st (.t 2) 8 (.t 51)⟩, ⟨none, .mv 3 (.c (.sc (.b true)))⟩]) .ret) (.seq (.reg [⟨none, .bin 53 .eql (.t 5) (.c (.sc (.s [122, 105, 112])))⟩, ⟨none, .mv 52 (.t 53)⟩]) (.cond (.t 52) (.seq (.reg [⟨none, .build 54 [.sc (.b false), .sc (.i .i64 0), .sc (.i .i64 0), .sc (.i .i64 0), .sc (.i .i64 0), .sc (.b false), .sc (.b false), .sc (.s [])] [(5, (1, .c (.sc (.b true)))), (6, (1, .c (.sc (.b true)))), (7, (1, .c (.sc (.s [110, 97, 109, 101])))), (1, (1, .c (.sc (.i .i64 2)))), (2, (1, .c (.sc (.i .i64 4)))), (3, (1, .c (.sc (.i .i64 1)))), (4, (1, .c (.sc (.i .i64 1))))]⟩, ⟨none, .st (.t 2) 8 (.t 54)⟩, ⟨none, .mv 3 (.c (.sc (.b true)))⟩]) .ret) (.seq (.reg [⟨none, .bin 56 .eql (.t 5) (.c (.sc (.s [99, 111, 98, 101, 103, 105, 110])))⟩, ⟨none, .mv 55 (.t 56)⟩]) (.cond (.t 55) (.seq (.reg [⟨none, .build 57 [.sc (.b false), .sc (.i .i64 0), .sc (.i .i64 0), .sc (.i .i64 0), .sc (.i .i64 0), .sc (.b false), .sc (.b false), .sc (.s [])] [(3, (1, .c (.sc (.i .i64 1)))), (4, (1, .c (.sc (.i .i64 1500))))]⟩, ⟨none, .st (.t 2) 8 (.t 57)⟩, ⟨none, .mv 3 (.c (.sc (.b true)))⟩]) .ret) (.seq (.reg [⟨none, .bin 59 .eql (.t 5) (.c (.sc (.s [99, 111, 102, 111, 114, 97, 108, 108])))⟩, ⟨none, .mv 58 (.t 59)⟩]) (.cond (.t 58) (.seq (.reg [⟨none, .build 60 [.sc (.b false), .sc (.i .i64 0), .sc (.i .i64 0), .sc (.i .i64 0), .sc (.i .i64 0), .sc (.b false), .sc (.b false), .sc (.s [])] [(0, (1, .c (.sc (.b true)))), (1, (1, .c (.sc (.i .i64 2)))), (2, (1, .c (.sc (.i .i64 2)))), (3, (1, .c (.sc (.i .i64 1)))), (4, (1, .c (.sc (.i .i64 1))))]⟩, ⟨none, .st (.t 2) 8 (.t 60)⟩, ⟨none, .mv 3 (.c (.sc (.b true)))⟩]) .ret) (.seq (.seq (.reg [⟨none, .bin 62 .eql (.t 5) (.c (.sc (.s [98, 101, 103, 105, 110])))⟩, ⟨none, .mv 61 (.t 62)⟩]) (.cond (.t 61) .skip (.reg [⟨none, .bin 63 .eql (.t 5) (.c (.sc (.s [115, 121, 110, 99])))⟩, ⟨none, .mv 61 (.t 63)⟩]))) (.cond (.t 61) (.seq (.reg [⟨none, .build 64 [.sc (.b false), .sc (.i .i64 0), .sc (.i .i64 0), .sc (.i .i64 0), .sc (.i .i64 0), .sc (.b false), .sc (.b false), .sc (.s [])] [(3, (1, .c (.sc (.i .i64 1)))), (4, (1, .c (.sc (.i .i64 1))))]⟩, ⟨none, .st (.t 2) 8 (.t 64)⟩, ⟨none, .mv 3 (.c (.sc (.b true)))⟩]) .ret) (.seq (.seq (.reg [⟨none, .bin 66 .eql (.t 5) (.c (.sc (.s [119, 114, 105, 116, 101])))⟩, ⟨none, .mv 65 (.t 66)⟩]) (.cond (.t 65) .skip (.seq (.reg [⟨none, .bin 67 .eql (.t 5) (.c (.sc (.s [100, 111])))⟩, ⟨none, .mv 65 (.t 67)⟩]) (.cond (.t 65) .skip (.reg [⟨none, .bin 68 .eql (.t 5) (.c (.sc (.s [114, 101, 116, 117, 114, 110])))⟩, ⟨none, .mv 65 (.t 68)⟩]))))) (.cond (.t 65) (.seq (.reg [⟨none, .build 69 [.sc (.b false), .sc (.i .i64 0), .sc (.i .i64 0), .sc (.i .i64 0), .sc (.i .i64 0), .sc (.b false), .sc (.b false), .sc (.s [])] [(1, (1, .c (.sc (.i .i64 1)))), (2, (1, .c (.sc (.i .i64 1))))]⟩, ⟨none, .st (.t 2) 8 (.t 69)⟩, ⟨none, .mv 3 (.c (.sc (.b true)))⟩]) .ret) (.seq (.reg [⟨none, .bin 71 .eql (.t 5) (.c (.sc (.s [104, 97, 108, 116])))⟩, ⟨none, .mv 70 (.t 71)⟩]) (.cond (.t 70) (.seq (.reg [⟨none, .build 72 [.sc (.b false), .sc (.i .i64 0), .sc (.i .i64 0), .sc (.i .i64 0), .sc (.i .i64 0), .sc (.b false), .sc (.b false), .sc (.s [])] [(7, (1, .c (.sc (.s [114, 101, 97, 115, 111, 110]))))]⟩, ⟨none, .st (.t 2) 8 (.t 72)⟩, ⟨none, .mv 3 (.c (.sc (.b true)))⟩]) .ret) (.seq (.seq (.reg [⟨none, .bin 74 .eql (.t 5) (.c (.sc (.s [114, 101, 100, 117, 99, 101])))⟩, ⟨none, .mv 73 (.t 74)⟩]) (.cond (.t 73) .skip (.reg [⟨none, .bin 75 .eql (.t 5) (.c (.sc (.s [115, 99, 97, 110])))⟩, ⟨none, .mv 73 (.t 75)⟩]))) (.cond (.t 73) (.seq (.reg [⟨none, .build 76 [.sc (.b false), .sc (.i .i64 0), .sc (.i .i64 0), .sc (.i .i64 0), .sc (.i .i64 0), .sc (.b false), .sc (.b false), .sc (.s [])] [(0, (1, .c (.sc (.b true)))), (5, (1, .c (.sc (.b true)))), (7, (1, .c (.sc (.s [111, 112]))))]⟩, ⟨none, .st (.t 2) 8 (.t 76)⟩, ⟨none, .mv 3 (.c (.sc (.b true)))⟩]) .ret) (.seq (.reg [⟨none, .bin 78 .eql (.t 5) (.c (.sc (.s [99, 111, 112, 121])))⟩, ⟨none, .mv 77 (.t 78)⟩]) (.cond (.t 77) (.seq (.reg [⟨none, .build 79 [.sc (.b false), .sc (.i .i64 0), .sc (.i .i64 0), .sc (.i .i64 0), .sc (.i .i64 0), .sc (.b false), .sc (.b false), .sc (.s [])] [(0, (1, .c (.sc (.b true)))), (5, (1, .c (.sc (.b true))))]⟩, ⟨none, .st (.t 2) 8 (.t 79)⟩, ⟨none, .mv 3 (.c (.sc (.b true)))⟩]) .ret) .skip)))))))))))))))))))))))))))))))))))))) (.seq (.reg [⟨none, .build 80 [.sc (.b false), .sc (.i .i64 0), .sc (.i .i64 0), .sc (.i .i64 0), .sc (.i .i64 0), .sc (.b false), .sc (.b false), .sc (.s [])] []⟩, ⟨none, .st (.t 2) 8 (.t 80)⟩, ⟨none, .mv 3 (.c (.sc (.b false)))⟩]) .ret)), [(2, 8), (3, 0)], 81⟩
def F237 : Fn := ⟨.seq (.reg [⟨none, .mv 4 (.c (.sc (.b false)))⟩]) (.seq (.seq (.reg [⟨none, .mv 5 (.t 0)⟩]) (.block 0 (.seq (.seq (.reg [⟨none, .bin 7 .eql (.t 5) (.c (.sc (.s [119, 104, 111, 108, 101])))⟩, ⟨none, .mv 6 (.t 7)⟩]) (.cond (.t 6) .skip (.seq (.reg [⟨none, .bin 8 .eql (.t 5) (.c (.sc (.s [98, 108, 111, 99, 107])))⟩, ⟨none, .mv 6 (.t 8)⟩]) (.cond (.t 6) .skip (.reg [⟨none, .bin 9 .eql (.t 5) (.c (.sc (.s [99, 121, 99, 108, 105, 99])))⟩, ⟨none, .mv 6 (.t 9)⟩]))))) (.cond (.t 6) (.seq (.reg [⟨none, .mv 10 (.t 1)⟩, ⟨none, .bin 11 .eql (.t 10) (.c (.sc (.i .i64 0)))⟩, ⟨none, .mv 4 (.t 11)⟩]) .ret) (.seq (.reg [⟨none, .bin 13 .eql (.t 5) (.c (.sc (.s [98, 108, 111, 99, 107, 115])))⟩, ⟨none, .mv 12 (.t 13)⟩]) (.cond (.t 12) (.seq (.reg [⟨none, .mv 14 (.t 1)⟩, ⟨none, .bin 15 .geq (.t 14) (.c (.sc (.i .i64 1)))⟩, ⟨none, .mv 16 (.t 15)⟩, ⟨some (16, true), .mv 17 (.t 1)⟩, ⟨some (16, true), .bin 18 .leq (.t 17) (.c (.sc (.i .i64 99)))⟩, ⟨none, .pick 19 (.t 16) (.t 18) (.c (.sc (.b false)))⟩, ⟨none, .mv 4 (.t 19)⟩]) .ret) .skip)))))) (.seq (.reg [⟨none, .mv 4 (.c (.sc (.b false)))⟩]) .ret)), [(4, 0)], 20⟩
def F238 : Fn := ⟨.seq (.reg [⟨none, .box 1 (.t 0)⟩, ⟨none, .mv 2 (.c (.sc (.b false)))⟩]) (.seq (.reg [⟨none, .fa 3 (.t 1) 0⟩, ⟨none, .ld 4 1 false (.t 3)⟩, ⟨none, .bin 5 .eql (.t 4) (.c (.sc (.s [114, 101, 100, 117, 99, 101])))⟩, ⟨none, .mv 6 (.t 5)⟩, ⟨some (6, false), .fa 7 (.t 1) 0⟩, ⟨some (6, false), .ld 8 1 false (.t 7)⟩, ⟨some (6, false), .bin 9 .eql (.t 8) (.c (.sc (.s [115, 99, 97, 110])))⟩, ⟨none, .pick 10 (.t 6) (.c (.sc (.b true))) (.t 9)⟩, ⟨none, .mv 11 (.t 10)⟩, ⟨some (11, false), .fa 12 (.t 1) 0⟩, ⟨some (11, false), .ld 13 1 false (.t 12)⟩, ⟨some (11, false), .bin 14 .eql (.t 13) (.c (.sc (.s [99, 111, 112, 121])))⟩, ⟨none, .pick 15 (.t 11) (.c (.sc (.b true))) (.t 14)⟩, ⟨none, .mv 2 (.t 15)⟩]) .ret), [(2, 0)], 16⟩
def F209 : Fn := ⟨.seq (.reg [⟨none, .box 2 (.t 0)⟩, ⟨none, .box 3 (.t 1)⟩, ⟨none, .mv 4 (.c (.sc (.b false)))⟩]) (.seq (.seq (.reg [⟨none, .fa 5 (.t 3) 7⟩, ⟨none, .ld 6 1 false (.t 5)⟩]) (.block 0 (.seq (.reg [⟨none, .bin 8 .eql (.t 6) (.c (.sc (.s [110, 97, 109, 101])))⟩, ⟨none, .mv 7 (.t 8)⟩]) (.cond (.t 7) (.seq (.reg [⟨none, .fa 9 (.t 2) 2⟩, ⟨none, .ld 10 1 false (.t 9)⟩, ⟨none, .call (some 11) (.c (.fn 168 [])) [.t 10]⟩, ⟨none, .mv 4 (.t 11)⟩]) .ret) (.seq (.reg [⟨none, .bin 13 .eql (.t 6) (.c (.sc (.s [111, 112])))⟩, ⟨none, .mv 12 (.t 13)⟩]) (.cond (.t 12) (.seq (.reg [⟨none, .fa 14 (.t 2) 2⟩, ⟨none, .ld 15 1 false (.t 14)⟩, ⟨none, .call (some 16) (.c (.fn 186 [])) [.t 15]⟩, ⟨none, .mv 4 (.t 16)⟩]) .ret) (.seq (.reg [⟨none, .bin 18 .eql (.t 6) (.c (.sc (.s [107, 105, 110, 100])))⟩, ⟨none, .mv 17 (.t 18)⟩]) (.cond (.t 17) (.seq (.reg [⟨none, .fa 19 (.t 2) 2⟩, ⟨none, .ld 20 1 false (.t 19)⟩, ⟨none, .fa 21 (.t 2) 3⟩, ⟨none, .ld 22 1 false (.t 21)⟩, ⟨none, .call (some 23) (.c (.fn 237 [])) [.t 20, .t 22]⟩, ⟨none, .mv 4 (.t 23)⟩]) .ret) (.seq (.reg [⟨none, .bin 25 .eql (.t 6) (.c (.sc (.s [114, 101, 97, 115, 111, 110])))⟩, ⟨none, .mv 24 (.t 25)⟩]) (.cond (.t 24) (.seq (.reg [⟨none, .fa 26 (.t 2) 2⟩, ⟨none, .ld 27 1 false (.t 26)⟩, ⟨none, .bin 28 .eql (.t 27) (.c (.sc (.s [])))⟩, ⟨none, .mv 29 (.t 28)⟩, ⟨some (29, false), .fa 30 (.t 2) 2⟩, ⟨some (29, false), .ld 31 1 false (.t 30)⟩, ⟨some (29, false), .call (some 32) (.c (.fn 168 [])) [.t 31]⟩, ⟨none, .pick 33 (.t 29) (.c (.sc (.b true))) (.t 32)⟩, ⟨none, .mv 4 (.t 33)⟩]) .ret) .skip)))))))))) (.seq (.reg [⟨none, .fa 34 (.t 2) 2⟩, ⟨none, .ld 35 1 false (.t 34)⟩, ⟨none, .bin 36 .eql (.t 35) (.c (.sc (.s [])))⟩, ⟨none, .mv 4 (.t 36)⟩]) .ret)), [(4, 0)], 37⟩
def F212 : Fn := ⟨.seq (.reg [⟨none, .box 1 (.t 0)⟩, ⟨none, .mv 2 (.c (.sc (.b false)))⟩]) (.seq (.reg [⟨none, .fa 3 (.t 1) 0⟩, ⟨none, .ld 4 1 false (.t 3)⟩, ⟨none, .bin 5 .neq (.t 4) (.c (.sc (.s [118, 97, 114])))⟩, ⟨none, .mv 2 (.t 5)⟩]) .ret), [(2, 0)], 6⟩
def F239 : Fn := ⟨.seq (.reg [⟨none, .mv 4 (.c (.sc (.i .i64 0)))⟩]) (.seq (.seq (.reg [⟨none, .mv 6 (.t 0)⟩, ⟨none, .len 7 (.t 6)⟩, ⟨none, .mv 8 (.c (.sc (.i .i64 0)))⟩]) (.block 0 (.loop (.seq (.reg [⟨none, .bin 9 .lss (.t 8) (.t 7)⟩]) (.seq (.cond (.t 9) .skip (.exit 0)) (.seq (.block 1 (.seq (.reg [⟨none, .mv 10 (.t 8)⟩, ⟨none, .mv 5 (.t 10)⟩]) (.seq (.reg [⟨none, .mv 11 (.t 1)⟩, ⟨none, .mv 12 (.t 0)⟩, ⟨none, .mv 13 (.t 5)⟩, ⟨none, .ia 14 4 (.t 12) (.t 13)⟩, ⟨none, .ld 15 4 true (.t 14)⟩, ⟨none, .call (some 16) (.t 11) [.t 15]⟩]) (.cond (.t 16) (.seq (.reg [⟨none, .mv 17 (.t 5)⟩, ⟨none, .mv 4 (.t 17)⟩]) .ret) .skip)))) (.reg [⟨none, .bin 18 .add (.t 8) (.c (.sc (.i .i64 1)))⟩, ⟨none, .mv 8 (.t 18)⟩]))))))) (.seq (.reg [⟨none, .mv 4 (.c (.sc (.i .i64 (-1))))⟩]) .ret)), [(4, 0)], 19⟩
def F211 : Fn := ⟨.seq (.reg [⟨none, .mv 4 (.c (.sc (.b false)))⟩]) (.seq (.reg [⟨none, .mv 5 (.t 0)⟩, ⟨none, .mv 6 (.t 1)⟩, ⟨none, .call (some 7) (.c (.fn 239 [])) [.t 5, .t 6]⟩, ⟨none, .bin 8 .geq (.t 7) (.c (.sc (.i .i64 0)))⟩, ⟨none, .mv 4 (.t 8)⟩]) .ret), [(4, 0)], 9⟩
theorem F151_ok : compT Tryz.prog (fun _ => an0) 151 = some F151 := by kernel_rfl
theorem F237_ok : compT Tryz.prog (fun _ => an0) 237 = some F237 := by kernel_rfl
theorem F238_ok : compT Tryz.prog (fun _ => an0) 238 = some F238 := by kernel_rfl
theorem F209_ok : compT Tryz.prog (fun _ => an0) 209 = some F209 := by kernel_rfl
theorem F212_ok : compT Tryz.prog (fun _ => an0) 212 = some F212 := by kernel_rfl
theorem F239_ok : compT Tryz.prog (fun _ => an0) 239 = some F239 := by kernel_rfl
theorem F211_ok : compT Tryz.prog (fun _ => an0) 211 = some F211 := by kernel_rfl
def Stm.es : Stm → List Exp | .mk _ _ _ _ _ es _ _ => es
def Stm.o : Stm → S | .mk o _ _ _ _ _ _ _ => o
def Stm.tx : Stm → S | .mk _ _ t _ _ _ _ _ => t
def Stm.n : Stm → Int | .mk _ _ _ n _ _ _ _ => n
set_option maxHeartbeats 8000000 in
theorem b151 (W0 : Go.World) (x : Stm) : Body (Ctr Tryz.prog W0) F151.ac F151.rs [eS x] [] (shpA (shpOf x.o x.es.length)) [] := by
  cases x with | mk o nm tx n ns es fs bs =>
  repeat' ((conv => whnf); (first | with_reducible refine brec (fun _ => ?_) (fun _ => ?_) | (refine And.intro ⟨Int.natCast_nonneg _, by decide⟩ ?_) | fail))
  all_goals ((conv => whnf); (refine fin_r ?_ rfl (shpA_wk _) rfl; (conv => lhs; simp [shpA, Shp.a, shpOf, hasB, Stm.o, Stm.es, *]); (first | rfl | (simp only [expsD_length]; rfl))))
theorem c151 (W0 : Go.World) (x : Stm) : Ctr Tryz.prog W0 151 [eS x] [] (shpA (shpOf x.o x.es.length)) [] :=
  ctr_body follows F151_ok rfl (fun _ _ h => by cases h) rfl (by cases x; rfl) (b151 W0 x)
set_option maxHeartbeats 2000000 in
theorem b237 (W0 : Go.World) (s : S) (n : Int) : Body (Ctr Tryz.prog W0) F237.ac F237.rs [.sc (.s s), .sc (.i .i64 n)] [] (.sc (.b (isKindB s n))) [] := by
  repeat' ((conv => whnf); (first | with_reducible refine brec (fun _ => ?_) (fun _ => ?_) | fail))
  all_goals ((conv => whnf); (refine fin_b ?_; simp_all [isKindB, hasB]; try (intros; omega)))
theorem c237 (W0 : Go.World) (s : S) (n : Int) : Ctr Tryz.prog W0 237 [.sc (.s s), .sc (.i .i64 n)] [] (.sc (.b (isKindB s n))) [] :=
  ctr_body follows F237_ok rfl (fun _ _ h => by cases h) rfl (by rfl) (b237 W0 s n)
set_option maxHeartbeats 2000000 in
theorem b238 (W0 : Go.World) (x : Stm) : Body (Ctr Tryz.prog W0) F238.ac F238.rs [eS x] [] (.sc (.b (oneB x.o))) [] := by
  cases x with | mk o nm tx n ns es fs bs =>
  repeat' ((conv => whnf); (first | with_reducible refine brec (fun _ => ?_) (fun _ => ?_) | fail))
  all_goals ((conv => whnf); (refine fin_b ?_; simp_all [oneB, hasB, Stm.o]))
theorem c238 (W0 : Go.World) (x : Stm) : Ctr Tryz.prog W0 238 [eS x] [] (.sc (.b (oneB x.o))) [] :=
  ctr_body follows F238_ok rfl (fun _ _ h => by cases h) rfl (by cases x; rfl) (b238 W0 x)
set_option maxHeartbeats 2000000 in
theorem b209 (W0 : Go.World) (hk : Wk W0) (x : Stm) (hx : x.ok) (y : Shp) : Body (Ctr Tryz.prog W0) F209.ac F209.rs [eS x, y.a] [] (.sc (.b (textB y.text x.tx x.n))) [] := by
  cases x with | mk o nm tx n ns es fs bs =>
  repeat' ((conv => whnf); (first | with_reducible refine brec (fun _ => ?_) (fun _ => ?_) | (refine callP.pure _ (c168 W0 hk tx hx.1.2.2.1) ⟨rfl, rfl⟩ ?_) | (refine callP.pure _ (c186 W0 tx) ⟨rfl, rfl⟩ ?_) | (refine callP.pure _ (c237 W0 tx n) ⟨rfl, rfl⟩ ?_) | fail))
  all_goals ((conv => whnf); (refine fin_b ?_; simp_all [textB, hasB, Stm.tx, Stm.n]))
theorem c209 (W0 : Go.World) (hk : Wk W0) (x : Stm) (hx : x.ok) (y : Shp) : Ctr Tryz.prog W0 209 [eS x, y.a] [] (.sc (.b (textB y.text x.tx x.n))) [] :=
  ctr_body follows F209_ok rfl (fun _ _ h => by cases h) rfl (by cases x; rfl) (b209 W0 hk x hx y)
end Go.Abs

set_option maxRecDepth 100000
namespace Go.Abs
open Go.Proofs
def Exp.o : Exp → S | .mk o _ _ _ => o
def notVar (x : Exp) : Bool := !beqL x.o [118, 97, 114]
def anyNV : List Exp → Bool | [] => false | x :: r => notVar x || anyNV r
def findNV : List Exp → Nat → Int
  | [], _ => -1
  | x :: r, k => match notVar x with | true => k | false => findNV r (k + 1)
theorem findNV_any : ∀ (l : List Exp) (k : Nat), decide (0 ≤ findNV l k) = anyNV l
  | [], k => rfl
  | x :: r, k => by
    have ih := findNV_any r (k + 1)
    cases h : notVar x with
    | true => simp [findNV, anyNV, h]
    | false => simpa [findNV, anyNV, h] using ih
def allB {α : Type} (f : α → Bool) : List α → Bool | [] => true | x :: r => f x && allB f r
def foldB (f : Fold) : Bool := isNameB f.nm && (isOpB f.op || beqL f.op [60, 45])
def namesB (o : S) (ns : List S) (fs : List Fold) (y : Shp) : Bool := allB isNameB ns && (allB foldB fs &&
  (bif y.names then decide (1 ≤ (ns.length : Int)) && (decide ((ns.length : Int) ≤ 3) && ((decide ((ns.length : Int) = 1) || !oneB o) && (y.folds || decide ((fs.length : Int) = 0)))) else decide ((ns.length : Int) = 0) && decide ((fs.length : Int) = 0)))
def F210 : Fn := ⟨.seq (.reg [⟨none, .box 2 (.t 0)⟩, ⟨none, .box 3 (.t 1)⟩, ⟨none, .mv 4 (.c (.sc (.b false)))⟩]) (.seq (.seq (.reg [⟨none, .fa 10 (.t 2) 4⟩, ⟨none, .ld 11 1 false (.t 10)⟩, ⟨none, .len 12 (.t 11)⟩, ⟨none, .mv 13 (.c (.sc (.i .i64 0)))⟩]) (.block 0 (.loop (.seq (.reg [⟨none, .bin 14 .lss (.t 13) (.t 12)⟩]) (.seq (.cond (.t 14) .skip (.exit 0)) (.seq (.block 1 (.seq (.reg [⟨none, .ia 15 1 (.t 11) (.t 13)⟩, ⟨none, .ld 16 1 false (.t 15)⟩, ⟨none, .mv 6 (.t 16)⟩]) (.seq (.reg [⟨none, .mv 17 (.t 6)⟩, ⟨none, .call (some 18) (.c (.fn 168 [])) [.t 17]⟩, ⟨none, .no 19 (.t 18)⟩]) (.cond (.t 19) (.seq (.reg [⟨none, .mv 4 (.c (.sc (.b false)))⟩]) .ret) .skip)))) (.reg [⟨none, .bin 20 .add (.t 13) (.c (.sc (.i .i64 1)))⟩, ⟨none, .mv 13 (.t 20)⟩]))))))) (.seq (.seq (.reg [⟨none, .fa 21 (.t 2) 6⟩, ⟨none, .ld 22 1 false (.t 21)⟩, ⟨none, .len 23 (.t 22)⟩, ⟨none, .mv 24 (.c (.sc (.i .i64 0)))⟩]) (.block 2 (.loop (.seq (.reg [⟨none, .bin 25 .lss (.t 24) (.t 23)⟩]) (.seq (.cond (.t 25) .skip (.exit 2)) (.seq (.block 3 (.seq (.reg [⟨none, .ia 26 2 (.t 22) (.t 24)⟩, ⟨none, .ld 27 2 true (.t 26)⟩, ⟨none, .alloc 8 [.sc (.s []), .sc (.s [])]⟩, ⟨none, .st (.t 8) 2 (.t 27)⟩]) (.seq (.reg [⟨none, .fa 28 (.t 8) 1⟩, ⟨none, .ld 29 1 false (.t 28)⟩, ⟨none, .call (some 30) (.c (.fn 168 [])) [.t 29]⟩, ⟨none, .no 31 (.t 30)⟩, ⟨none, .mv 32 (.t 31)⟩, ⟨some (32, false), .fa 33 (.t 8) 0⟩, ⟨some (32, false), .ld 34 1 false (.t 33)⟩, ⟨some (32, false), .call (some 35) (.c (.fn 186 [])) [.t 34]⟩, ⟨some (32, false), .no 36 (.t 35)⟩, ⟨some (32, false), .mv 37 (.t 36)⟩, ⟨some (37, true), .fa 38 (.t 8) 0⟩, ⟨some (37, true), .ld 39 1 false (.t 38)⟩, ⟨some (37, true), .bin 40 .neq (.t 39) (.c (.sc (.s [60, 45])))⟩, ⟨some (32, false), .pick 41 (.t 37) (.t 40) (.c (.sc (.b false)))⟩, ⟨none, .pick 42 (.t 32) (.c (.sc (.b true))) (.t 41)⟩]) (.cond (.t 42) (.seq (.reg [⟨none, .mv 4 (.c (.sc (.b false)))⟩]) .ret) .skip)))) (.reg [⟨none, .bin 43 .add (.t 24) (.c (.sc (.i .i64 1)))⟩, ⟨none, .mv 24 (.t 43)⟩]))))))) (.seq (.seq (.reg [⟨none, .fa 44 (.t 3) 5⟩, ⟨none, .ld 45 1 false (.t 44)⟩, ⟨none, .no 46 (.t 45)⟩]) (.cond (.t 46) (.seq (.reg [⟨none, .fa 47 (.t 2) 4⟩, ⟨none, .ld 48 1 false (.t 47)⟩, ⟨none, .len 49 (.t 48)⟩, ⟨none, .bin 50 .eql (.t 49) (.c (.sc (.i .i64 0)))⟩, ⟨none, .mv 51 (.t 50)⟩, ⟨some (51, true), .fa 52 (.t 2) 6⟩, ⟨some (51, true), .ld 53 1 false (.t 52)⟩, ⟨some (51, true), .len 54 (.t 53)⟩, ⟨some (51, true), .bin 55 .eql (.t 54) (.c (.sc (.i .i64 0)))⟩, ⟨none, .pick 56 (.t 51) (.t 55) (.c (.sc (.b false)))⟩, ⟨none, .mv 4 (.t 56)⟩]) .ret) .skip)) (.seq (.reg [⟨none, .fa 57 (.t 2) 4⟩, ⟨none, .ld 58 1 false (.t 57)⟩, ⟨none, .len 59 (.t 58)⟩, ⟨none, .mv 9 (.t 59)⟩]) (.seq (.reg [⟨none, .mv 60 (.t 9)⟩, ⟨none, .bin 61 .geq (.t 60) (.c (.sc (.i .i64 1)))⟩, ⟨none, .mv 62 (.t 61)⟩, ⟨some (62, true), .mv 63 (.t 9)⟩, ⟨some (62, true), .bin 64 .leq (.t 63) (.c (.sc (.i .i64 3)))⟩, ⟨none, .pick 65 (.t 62) (.t 64) (.c (.sc (.b false)))⟩, ⟨none, .mv 66 (.t 65)⟩, ⟨some (66, true), .mv 67 (.t 9)⟩, ⟨some (66, true), .bin 68 .eql (.t 67) (.c (.sc (.i .i64 1)))⟩, ⟨some (66, true), .mv 69 (.t 68)⟩, ⟨some (69, false), .ld 70 8 true (.t 2)⟩, ⟨some (69, false), .call (some 71) (.c (.fn 238 [])) [.t 70]⟩, ⟨some (69, false), .no 72 (.t 71)⟩, ⟨some (66, true), .pick 73 (.t 69) (.c (.sc (.b true))) (.t 72)⟩, ⟨none, .pick 74 (.t 66) (.t 73) (.c (.sc (.b false)))⟩, ⟨none, .mv 75 (.t 74)⟩, ⟨some (75, true), .fa 76 (.t 3) 6⟩, ⟨some (75, true), .ld 77 1 false (.t 76)⟩, ⟨some (75, true), .mv 78 (.t 77)⟩, ⟨some (78, false), .fa 79 (.t 2) 6⟩, ⟨some (78, false), .ld 80 1 false (.t 79)⟩, ⟨some (78, false), .len 81 (.t 80)⟩, ⟨some (78, false), .bin 82 .eql (.t 81) (.c (.sc (.i .i64 0)))⟩, ⟨some (75, true), .pick 83 (.t 78) (.c (.sc (.b true))) (.t 82)⟩, ⟨none, .pick 84 (.t 75) (.t 83) (.c (.sc (.b false)))⟩, ⟨none, .mv 4 (.t 84)⟩]) .ret))))), [(4, 0)], 85⟩
theorem F210_ok : compT Tryz.prog (fun _ => an0) 210 = some F210 := by kernel_rfl
set_option maxHeartbeats 2000000 in
theorem b212 (W0 : Go.World) (x : Exp) : Body (Ctr Tryz.prog W0) F212.ac F212.rs [eE x] [] (.sc (.b (notVar x))) [] := by
  cases x with | mk a b n l =>
  repeat' ((conv => whnf); (first | with_reducible refine brec (fun _ => ?_) (fun _ => ?_) | fail))
  all_goals ((conv => whnf); (refine fin_b ?_; simp_all [notVar, Exp.o]))
theorem c212 (W0 : Go.World) (x : Exp) : Ctr Tryz.prog W0 212 [eE x] [] (.sc (.b (notVar x))) [] :=
  ctr_body follows F212_ok rfl (fun _ _ h => by cases h) rfl (by cases x; rfl) (b212 W0 x)
theorem b239 (W0 : Go.World) (l : List Exp) (hl : l.length ≤ 140737488355328) : Body (Ctr Tryz.prog W0) F239.ac F239.rs [eL l, .fn 212 []] [] (.sc (.i .i64 (findNV l 0))) [] := by
  conv => whnf
  refine .st 1000 (fun k => l.length - k) (fun k => [(.s 0, .av (eL l)), (.s 1, .av (.fn 212 [])), (.s 7, .av (.sc (.i .i64 ((expsD l).length : Nat)))), (.s 8, .av (.sc (.i .i64 (k : Nat))))])
    (fun k => k ≤ l.length ∧ findNV l 0 = findNV (l.drop k) k) 0 ?_ ⟨Nat.zero_le _, rfl⟩ ?_
  · (refine le_of rfl rfl ?_; repeat' (first | exact rfl | exact trivial | refine ⟨?_, ?_⟩))
  · rintro k ⟨hk, he⟩
    conv => whnf
    refine brec (fun h2 => ?_) (fun h2 => ?_)
    · simp only [expsD_length, decide_eq_false_iff_not] at h2
      have e1 : l.drop k = [] := by simp; omega
      rw [e1] at he
      conv => whnf
      exact fin_i (by rw [he]; rfl)
    · simp only [expsD_length, decide_eq_true_eq] at h2
      obtain ⟨x, hx⟩ := get_of_lt (l := l) (k := k) (by omega)
      have dx := expsD_get hx
      rw [drop_get hx, findNV] at he
      cases x with | mk a b n args =>
      conv => whnf
      refine ⟨_, ⟨Int.natCast_nonneg _, dx⟩, ?_⟩
      conv => whnf
      refine callP.pure _ (c212 W0 (.mk a b n args)) ⟨rfl, rfl⟩ ?_
      conv => whnf
      refine brec (fun h3 => ?_) (fun h3 => ?_)
      · simp only [h3] at he
        conv => whnf
        refine ⟨?_, ?_⟩
        · constructor <;> omega
        · conv => whnf
          refine nxt (k + 1) ⟨by omega, by omega, he⟩ ?_
          (refine le_of rfl rfl ?_; repeat' (first | exact rfl | exact trivial | refine ⟨?_, ?_⟩))
      · simp only [h3] at he
        conv => whnf
        exact fin_i he.symm
theorem c239 (W0 : Go.World) (l : List Exp) (hl : l.length ≤ 140737488355328) : Ctr Tryz.prog W0 239 [eL l, .fn 212 []] [] (.sc (.i .i64 (findNV l 0))) [] :=
  ctr_body follows F239_ok rfl (fun _ _ h => by cases h) rfl (by rfl) (b239 W0 l hl)
set_option maxHeartbeats 2000000 in
theorem b211 (W0 : Go.World) (l : List Exp) (hl : l.length ≤ 140737488355328) : Body (Ctr Tryz.prog W0) F211.ac F211.rs [eL l, .fn 212 []] [] (.sc (.b (anyNV l))) [] := by
  repeat' ((conv => whnf); (first | with_reducible refine brec (fun _ => ?_) (fun _ => ?_) | (refine callP.pure _ (c239 W0 l hl) ⟨rfl, rfl⟩ ?_) | fail))
  all_goals ((conv => whnf); exact fin_b (findNV_any l 0))
theorem c211 (W0 : Go.World) (l : List Exp) (hl : l.length ≤ 140737488355328) : Ctr Tryz.prog W0 211 [eL l, .fn 212 []] [] (.sc (.b (anyNV l))) [] :=
  ctr_body follows F211_ok rfl (fun _ _ h => by cases h) rfl (by rfl) (b211 W0 l hl)
set_option maxHeartbeats 8000000 in
theorem b210 (W0 : Go.World) (hk : Wk W0) (x : Stm) (hx0 : x.ok) (y : Shp) : Body (Ctr Tryz.prog W0) F210.ac F210.rs [eS x, y.a] [] (.sc (.b (match x with | .mk o _ _ _ ns _ fs _ => namesB o ns fs y))) [] := by
  cases x with | mk o nm tx n ns es fs bs =>
  show Body (Ctr Tryz.prog W0) F210.ac F210.rs [eS (.mk o nm tx n ns es fs bs), y.a] [] (.sc (.b (namesB o ns fs y))) []
  have hl := hx0.2.1.1
  conv => whnf
  refine .st 3000 (fun k => ns.length - k) (fun k => [(.s 2, .av (.ptr 1000 0)), (.s 3, .av (.ptr 1100 0)), (.b 1000, .bx ((Stm.mk o nm tx n ns es fs bs).d.map dcell)), (.b 1100, .bx [.sc (.b y.nm), .sc (.i .i64 y.least), .sc (.i .i64 y.most), .sc (.i .i64 y.bodies), .sc (.i .i64 y.upTo), .sc (.b y.names), .sc (.b y.folds), .sc (.s y.text)]), (.s 11, .av (strL ns)), (.s 12, .av (.sc (.i .i64 ((strsD ns).length : Nat)))), (.s 13, .av (.sc (.i .i64 (k : Nat))))])
    (fun k => k ≤ ns.length ∧ allB isNameB ns = allB isNameB (ns.drop k)) 0 ?_ ⟨Nat.zero_le _, rfl⟩ ?_
  · (refine le_of rfl rfl ?_; repeat' (first | exact rfl | exact trivial | refine ⟨?_, ?_⟩))
  · rintro k ⟨hk', he⟩
    conv => whnf
    refine brec (fun h2 => ?_) (fun h2 => ?_)
    · simp only [strsD_length, decide_eq_false_iff_not] at h2
      have e1 : ns.drop k = [] := by simp; omega
      have he : allB isNameB ns = true := by rw [he, e1]; simp [allB]
      clear e1 h2 hk'
      conv => whnf
      have hf1 := he
      clear he
      have hl := hx0.2.2.2.1.1
      refine .st 3000 (fun k => fs.length - k) (fun k => [(.s 2, .av (.ptr 1000 0)), (.s 3, .av (.ptr 1100 0)), (.b 1000, .bx ((Stm.mk o nm tx n ns es fs bs).d.map dcell)), (.b 1100, .bx [.sc (.b y.nm), .sc (.i .i64 y.least), .sc (.i .i64 y.most), .sc (.i .i64 y.bodies), .sc (.i .i64 y.upTo), .sc (.b y.names), .sc (.b y.folds), .sc (.s y.text)]), (.s 22, .av (eFs fs)), (.s 23, .av (.sc (.i .i64 ((foldsD fs).length : Nat)))), (.s 24, .av (.sc (.i .i64 (k : Nat))))])
        (fun k => k ≤ fs.length ∧ allB foldB fs = allB foldB (fs.drop k)) 0 ?_ ⟨Nat.zero_le _, rfl⟩ ?_
      · (refine le_of rfl rfl ?_; repeat' (first | exact rfl | exact trivial | refine ⟨?_, ?_⟩))
      · rintro k ⟨hk', he⟩
        conv => whnf
        refine brec (fun h2 => ?_) (fun h2 => ?_)
        · simp only [foldsD_length, decide_eq_false_iff_not] at h2
          have e1 : fs.drop k = [] := by simp; omega
          have he : allB foldB fs = true := by rw [he, e1]; rfl
          clear e1 h2 hk'
          repeat' ((conv => whnf); (first | with_reducible refine brec (fun _ => ?_) (fun _ => ?_) | (refine callP.pure _ (c238 W0 (.mk o nm tx n ns es fs bs)) ⟨rfl, rfl⟩ ?_) | fail))
          all_goals ((conv => whnf); refine fin_b ?_; simp_all [namesB, strsD_length, foldsD_length, Stm.o]; try (intros; omega))
        · simp only [foldsD_length, decide_eq_true_eq] at h2
          obtain ⟨x, hx⟩ := get_of_lt (l := fs) (k := k) (by omega)
          have dx := foldsD_get hx
          have ox := hx0.2.2.2.1.2 _ (List.mem_of_getElem? hx)
          rw [drop_get hx, allB] at he
          obtain ⟨a, b⟩ := x
          conv => whnf
          refine ⟨_, ⟨Int.natCast_nonneg _, dx⟩, ?_⟩
          repeat' ((conv => whnf); (first | with_reducible refine brec (fun _ => ?_) (fun _ => ?_) | (refine callP.pure _ (c168 W0 hk b ox.2) ⟨rfl, rfl⟩ ?_) | (refine callP.pure _ (c186 W0 a) ⟨rfl, rfl⟩ ?_) | fail))
          all_goals (conv => whnf)
          all_goals (first | (refine fin_b ?_; simp_all [namesB, foldB]; done) | (have h4 : foldB ⟨a, b⟩ = true := by simp_all [foldB]); (refine And.intro ?_ ?_; (constructor <;> omega); (conv => whnf); refine nxt (k + 1) ⟨by omega, by omega, by rw [he, h4, Bool.true_and]⟩ ?_; (refine le_of rfl rfl ?_; repeat' (first | exact rfl | exact trivial | refine ⟨?_, ?_⟩))))
    · simp only [strsD_length, decide_eq_true_eq] at h2
      obtain ⟨x, hx⟩ := get_of_lt (l := ns) (k := k) (by omega)
      have dx := strsD_get hx
      have ox := hx0.2.1.2 _ (List.mem_of_getElem? hx)
      rw [drop_get hx, allB] at he

      conv => whnf
      refine ⟨_, ⟨Int.natCast_nonneg _, dx⟩, ?_⟩
      conv => whnf
      refine callP.pure _ (c168 W0 hk x ox) ⟨rfl, rfl⟩ ?_
      conv => whnf
      refine brec (fun h3 => ?_) (fun h3 => ?_)
      · have h4 : isNameB x = true := by rw [Bool.not_eq_false'] at h3; exact h3
        conv => whnf
        refine ⟨?_, ?_⟩
        · constructor <;> omega
        · conv => whnf
          refine nxt (k + 1) ⟨by omega, by omega, ?_⟩ ?_
          · rw [he, h4, Bool.true_and]
          · (refine le_of rfl rfl ?_; repeat' (first | exact rfl | exact trivial | refine ⟨?_, ?_⟩))
      · have h4 : isNameB x = false := by rw [Bool.not_eq_true'] at h3; exact h3
        have he : allB isNameB ns = false := by rw [he, h4, Bool.false_and]
        conv => whnf
        refine fin_b ?_
        simp_all [namesB]
theorem c210 (W0 : Go.World) (hk : Wk W0) (o nm tx : S) (n : Int) (ns : List S) (es : List Exp) (fs : List Fold) (bs : List (List Stm)) (hx : (Stm.mk o nm tx n ns es fs bs).ok) (y : Shp) : Ctr Tryz.prog W0 210 [eS (.mk o nm tx n ns es fs bs), y.a] [] (.sc (.b (namesB o ns fs y))) [] :=
  ctr_body follows F210_ok rfl (fun _ _ h => by cases h) rfl (by rfl) (b210 W0 hk _ hx y)
end Go.Abs

set_option maxRecDepth 100000
namespace Go.Abs
open Go.Proofs
def flatS (o nm tx : S) (n : Int) (ns : List S) (es : List Exp) (fs : List Fold) (nb : Nat) : Bool :=
  (shpOf o es.length).ok && (!((shpOf o es.length).nm != !beqL nm []) && ((!(shpOf o es.length).nm || isNameB nm) && ((beqL (shpOf o es.length).text [107, 105, 110, 100] || decide (n = 0)) &&
  (!decide ((es.length : Int) < (shpOf o es.length).least) && (!decide ((shpOf o es.length).most < (es.length : Int)) && (!decide ((nb : Int) < (shpOf o es.length).bodies) && (!decide ((shpOf o es.length).upTo < (nb : Int)) &&
  (textB (shpOf o es.length).text tx n && (namesB o ns fs (shpOf o es.length) && (wellL es && (!beqL o [122, 105, 112] || !anyNV es)))))))))))
mutual
def wellS : Stm → Bool | .mk o nm tx n ns es fs bs => flatS o nm tx n ns es fs bs.length && wellBs bs
def wellB : List Stm → Bool | [] => true | x :: r => wellS x && wellB r
def wellBs : List (List Stm) → Bool | [] => true | x :: r => wellB x && wellBs r
end
def prmB (p : Prm) : Bool := (bif hasB p.ty [[105, 110, 116], [98, 111, 111, 108], [97, 110, 121]] then decide (p.rk = 0) else bif hasB p.ty [[100, 111, 109, 97, 105, 110], [97, 114, 114, 97, 121]] then decide (0 ≤ p.rk) && decide (p.rk ≤ 3) else false) && isNameB p.nm
def prcB (p : Prc) : Bool := allB prmB p.ps && (hasB p.res [[105, 110, 116], [98, 111, 111, 108], [110, 111, 110, 101]] && (isNameB p.nm && (decide ((p.ps.length : Int) ≤ 6) && wellB p.body)))
def prgB (p : Prg) : Bool := allB prcB p.procs && wellB p.body
def F169 : Fn := ⟨.seq (.reg [⟨none, .box 1 (.t 0)⟩, ⟨none, .mv 2 (.c (.sc (.b false)))⟩]) (.seq (.reg [⟨none, .ld 8 8 true (.t 1)⟩, ⟨none, .call (some 9) (.c (.fn 151 [])) [.t 8]⟩, ⟨none, .mv 7 (.t 9)⟩, ⟨none, .ext 10 (.t 7) 0⟩, ⟨none, .ext 11 (.t 7) 1⟩, ⟨none, .alloc 3 [.sc (.b false), .sc (.i .i64 0), .sc (.i .i64 0), .sc (.i .i64 0), .sc (.i .i64 0), .sc (.b false), .sc (.b false), .sc (.s [])]⟩, ⟨none, .st (.t 3) 8 (.t 10)⟩, ⟨none, .mv 4 (.t 11)⟩]) (.seq (.seq (.reg [⟨none, .mv 12 (.t 4)⟩, ⟨none, .no 13 (.t 12)⟩, ⟨none, .mv 14 (.t 13)⟩, ⟨some (14, false), .fa 15 (.t 3) 0⟩, ⟨some (14, false), .ld 16 1 false (.t 15)⟩, ⟨some (14, false), .fa 17 (.t 1) 1⟩, ⟨some (14, false), .ld 18 1 false (.t 17)⟩, ⟨some (14, false), .bin 19 .neq (.t 18) (.c (.sc (.s [])))⟩, ⟨some (14, false), .binB 20 true (.t 16) (.t 19)⟩, ⟨none, .pick 21 (.t 14) (.c (.sc (.b true))) (.t 20)⟩, ⟨none, .mv 22 (.t 21)⟩, ⟨some (22, false), .fa 23 (.t 3) 0⟩, ⟨some (22, false), .ld 24 1 false (.t 23)⟩, ⟨some (22, false), .mv 25 (.t 24)⟩, ⟨some (25, true), .fa 26 (.t 1) 1⟩, ⟨some (25, true), .ld 27 1 false (.t 26)⟩, ⟨some (25, true), .call (some 28) (.c (.fn 168 [])) [.t 27]⟩, ⟨some (25, true), .no 29 (.t 28)⟩, ⟨some (22, false), .pick 30 (.t 25) (.t 29) (.c (.sc (.b false)))⟩, ⟨none, .pick 31 (.t 22) (.c (.sc (.b true))) (.t 30)⟩, ⟨none, .mv 32 (.t 31)⟩, ⟨some (32, false), .fa 33 (.t 3) 7⟩, ⟨some (32, false), .ld 34 1 false (.t 33)⟩, ⟨some (32, false), .bin 35 .neq (.t 34) (.c (.sc (.s [107, 105, 110, 100])))⟩, ⟨some (32, false), .mv 36 (.t 35)⟩, ⟨some (36, true), .fa 37 (.t 1) 3⟩, ⟨some (36, true), .ld 38 1 false (.t 37)⟩, ⟨some (36, true), .bin 39 .neq (.t 38) (.c (.sc (.i .i64 0)))⟩, ⟨some (32, false), .pick 40 (.t 36) (.t 39) (.c (.sc (.b false)))⟩, ⟨none, .pick 41 (.t 32) (.c (.sc (.b true))) (.t 40)⟩]) (.cond (.t 41) (.seq (.reg [⟨none, .mv 2 (.c (.sc (.b false)))⟩]) .ret) .skip)) (.seq (.seq (.reg [⟨none, .fa 42 (.t 1) 5⟩, ⟨none, .ld 43 1 false (.t 42)⟩, ⟨none, .len 44 (.t 43)⟩, ⟨none, .fa 45 (.t 3) 1⟩, ⟨none, .ld 46 1 false (.t 45)⟩, ⟨none, .bin 47 .lss (.t 44) (.t 46)⟩, ⟨none, .mv 48 (.t 47)⟩, ⟨some (48, false), .fa 49 (.t 1) 5⟩, ⟨some (48, false), .ld 50 1 false (.t 49)⟩, ⟨some (48, false), .len 51 (.t 50)⟩, ⟨some (48, false), .fa 52 (.t 3) 2⟩, ⟨some (48, false), .ld 53 1 false (.t 52)⟩, ⟨some (48, false), .bin 54 .gtr (.t 51) (.t 53)⟩, ⟨none, .pick 55 (.t 48) (.c (.sc (.b true))) (.t 54)⟩, ⟨none, .mv 56 (.t 55)⟩, ⟨some (56, false), .fa 57 (.t 1) 7⟩, ⟨some (56, false), .ld 58 1 false (.t 57)⟩, ⟨some (56, false), .len 59 (.t 58)⟩, ⟨some (56, false), .fa 60 (.t 3) 3⟩, ⟨some (56, false), .ld 61 1 false (.t 60)⟩, ⟨some (56, false), .bin 62 .lss (.t 59) (.t 61)⟩, ⟨none, .pick 63 (.t 56) (.c (.sc (.b true))) (.t 62)⟩, ⟨none, .mv 64 (.t 63)⟩, ⟨some (64, false), .fa 65 (.t 1) 7⟩, ⟨some (64, false), .ld 66 1 false (.t 65)⟩, ⟨some (64, false), .len 67 (.t 66)⟩, ⟨some (64, false), .fa 68 (.t 3) 4⟩, ⟨some (64, false), .ld 69 1 false (.t 68)⟩, ⟨some (64, false), .bin 70 .gtr (.t 67) (.t 69)⟩, ⟨none, .pick 71 (.t 64) (.c (.sc (.b true))) (.t 70)⟩]) (.cond (.t 71) (.seq (.reg [⟨none, .mv 2 (.c (.sc (.b false)))⟩]) .ret) .skip)) (.seq (.seq (.reg [⟨none, .ld 72 8 true (.t 1)⟩, ⟨none, .ld 73 8 true (.t 3)⟩, ⟨none, .call (some 74) (.c (.fn 209 [])) [.t 72, .t 73]⟩, ⟨none, .no 75 (.t 74)⟩, ⟨none, .mv 76 (.t 75)⟩, ⟨some (76, false), .ld 77 8 true (.t 1)⟩, ⟨some (76, false), .ld 78 8 true (.t 3)⟩, ⟨some (76, false), .call (some 79) (.c (.fn 210 [])) [.t 77, .t 78]⟩, ⟨some (76, false), .no 80 (.t 79)⟩, ⟨none, .pick 81 (.t 76) (.c (.sc (.b true))) (.t 80)⟩, ⟨none, .mv 82 (.t 81)⟩, ⟨some (82, false), .fa 83 (.t 1) 5⟩, ⟨some (82, false), .ld 84 1 false (.t 83)⟩, ⟨some (82, false), .call (some 85) (.c (.fn 69 [])) [.t 84]⟩, ⟨some (82, false), .no 86 (.t 85)⟩, ⟨none, .pick 87 (.t 82) (.c (.sc (.b true))) (.t 86)⟩]) (.cond (.t 87) (.seq (.reg [⟨none, .mv 2 (.c (.sc (.b false)))⟩]) .ret) .skip)) (.seq (.seq (.reg [⟨none, .fa 88 (.t 1) 0⟩, ⟨none, .ld 89 1 false (.t 88)⟩, ⟨none, .bin 90 .eql (.t 89) (.c (.sc (.s [122, 105, 112])))⟩, ⟨none, .mv 91 (.t 90)⟩, ⟨some (91, true), .fa 92 (.t 1) 5⟩, ⟨some (91, true), .ld 93 1 false (.t 92)⟩, ⟨some (91, true), .call (some 94) (.c (.fn 211 [])) [.t 93, .c (.fn 212 [])]⟩, ⟨none, .pick 95 (.t 91) (.t 94) (.c (.sc (.b false)))⟩]) (.cond (.t 95) (.seq (.reg [⟨none, .mv 2 (.c (.sc (.b false)))⟩]) .ret) .skip)) (.seq (.seq (.reg [⟨none, .fa 96 (.t 1) 7⟩, ⟨none, .ld 97 1 false (.t 96)⟩, ⟨none, .len 98 (.t 97)⟩, ⟨none, .mv 99 (.c (.sc (.i .i64 0)))⟩]) (.block 0 (.loop (.seq (.reg [⟨none, .bin 100 .lss (.t 99) (.t 98)⟩]) (.seq (.cond (.t 100) .skip (.exit 0)) (.seq (.block 1 (.seq (.reg [⟨none, .ia 101 1 (.t 97) (.t 99)⟩, ⟨none, .ld 102 1 false (.t 101)⟩, ⟨none, .mv 6 (.t 102)⟩]) (.seq (.reg [⟨none, .mv 103 (.t 6)⟩, ⟨none, .call (some 104) (.c (.fn 104 [])) [.t 103]⟩, ⟨none, .no 105 (.t 104)⟩]) (.cond (.t 105) (.seq (.reg [⟨none, .mv 2 (.c (.sc (.b false)))⟩]) .ret) .skip)))) (.reg [⟨none, .bin 106 .add (.t 99) (.c (.sc (.i .i64 1)))⟩, ⟨none, .mv 99 (.t 106)⟩]))))))) (.seq (.reg [⟨none, .mv 2 (.c (.sc (.b true)))⟩]) .ret))))))), [(2, 0)], 107⟩
def F104 : Fn := ⟨.seq (.reg [⟨none, .mv 2 (.c (.sc (.b false)))⟩]) (.seq (.seq (.reg [⟨none, .mv 5 (.t 0)⟩, ⟨none, .len 6 (.t 5)⟩, ⟨none, .mv 7 (.c (.sc (.i .i64 0)))⟩]) (.block 0 (.loop (.seq (.reg [⟨none, .bin 8 .lss (.t 7) (.t 6)⟩]) (.seq (.cond (.t 8) .skip (.exit 0)) (.seq (.block 1 (.seq (.reg [⟨none, .ia 9 8 (.t 5) (.t 7)⟩, ⟨none, .ld 10 8 true (.t 9)⟩, ⟨none, .alloc 4 [.sc (.s []), .sc (.s []), .sc (.s []), .sc (.i .i64 0), .sl 1 [] .full, .sl 4 [] .full, .sl 2 [] .full, .sl 1 [] .full]⟩, ⟨none, .st (.t 4) 8 (.t 10)⟩]) (.seq (.reg [⟨none, .ld 11 8 true (.t 4)⟩, ⟨none, .call (some 12) (.c (.fn 169 [])) [.t 11]⟩, ⟨none, .no 13 (.t 12)⟩]) (.cond (.t 13) (.seq (.reg [⟨none, .mv 2 (.c (.sc (.b false)))⟩]) .ret) .skip)))) (.reg [⟨none, .bin 14 .add (.t 7) (.c (.sc (.i .i64 1)))⟩, ⟨none, .mv 7 (.t 14)⟩]))))))) (.seq (.reg [⟨none, .mv 2 (.c (.sc (.b true)))⟩]) .ret)), [(2, 0)], 15⟩
theorem F169_ok : compT Tryz.prog (fun _ => an0) 169 = some F169 := by kernel_rfl
theorem F104_ok : compT Tryz.prog (fun _ => an0) 104 = some F104 := by kernel_rfl
theorem c151m (W0 : Go.World) (o nm tx : S) (n : Int) (ns : List S) (es : List Exp) (fs : List Fold) (bs : List (List Stm)) : Ctr Tryz.prog W0 151 [eS (.mk o nm tx n ns es fs bs)] [] (shpA (shpOf o es.length)) [] := c151 W0 _
theorem c209m (W0 : Go.World) (hk : Wk W0) (o nm tx : S) (n : Int) (ns : List S) (es : List Exp) (fs : List Fold) (bs : List (List Stm)) (hx : (Stm.mk o nm tx n ns es fs bs).ok) (y : Shp) : Ctr Tryz.prog W0 209 [eS (.mk o nm tx n ns es fs bs), y.a] [] (.sc (.b (textB y.text tx n))) [] := c209 W0 hk _ hx y
set_option maxHeartbeats 16000000 in
theorem b169 (W0 : Go.World) (hk : Wk W0) (x : Stm) (hx0 : x.ok) (h104 : ∀ l, l.length ≤ 140737488355328 → oksB l → SizeOf.sizeOf l < SizeOf.sizeOf x → Ctr Tryz.prog W0 104 [eB l] [] (.sc (.b (wellB l))) []) : Body (Ctr Tryz.prog W0) F169.ac F169.rs [eS x] [] (.sc (.b (wellS x))) [] := by
  cases x with | mk o nm tx n ns es fs bs =>
  have hl := hx0.2.2.2.2.1
  repeat' ((conv => whnf); (first | with_reducible refine brec (fun _ => ?_) (fun _ => ?_) | (refine callP.pure _ (c151m W0 o nm tx n ns es fs bs) ⟨rfl, rfl⟩ ?_) | (refine callP.pure _ (c168 W0 hk nm hx0.1.2.1) ⟨rfl, rfl⟩ ?_) | (refine callP.pure _ (c209m W0 hk o nm tx n ns es fs bs hx0 (shpOf o es.length)) ⟨rfl, rfl⟩ ?_) | (refine callP.pure _ (c210 W0 hk o nm tx n ns es fs bs hx0 (shpOf o es.length)) ⟨rfl, rfl⟩ ?_) | (refine callP.pure _ (c69 W0 hk es hx0.2.2.1.1 hx0.2.2.1.2) ⟨rfl, rfl⟩ ?_) | (refine callP.pure _ (c211 W0 es hx0.2.2.1.1) ⟨rfl, rfl⟩ ?_) | fail))
  all_goals (conv => whnf)
  all_goals (first | ((refine fin_b ?_; simp_all [wellS, flatS, expsD_length, bodiesD_length]); done) | skip)
  all_goals (
    refine .st 1000 (fun k => bs.length - k) (fun k => [(.s 97, .av (eBs bs)), (.s 98, .av (.sc (.i .i64 ((bodiesD bs).length : Nat)))), (.s 99, .av (.sc (.i .i64 (k : Nat))))])
      (fun k => k ≤ bs.length ∧ wellBs bs = wellBs (bs.drop k)) 0 ?_ ⟨Nat.zero_le _, rfl⟩ ?_
    · (refine le_of rfl rfl ?_; repeat' (first | exact rfl | exact trivial | refine ⟨?_, ?_⟩))
    · rintro k ⟨hk', he⟩
      conv => whnf
      refine brec (fun h2 => ?_) (fun h2 => ?_)
      · simp only [bodiesD_length, decide_eq_false_iff_not] at h2
        have e1 : bs.drop k = [] := by simp; omega
        have he : wellBs bs = true := by rw [he, e1]; simp [wellBs]
        clear e1 h2 hk'
        conv => whnf
        (refine fin_b ?_; simp_all [wellS, flatS, expsD_length, bodiesD_length])
      · simp only [bodiesD_length, decide_eq_true_eq] at h2
        obtain ⟨x, hx⟩ := get_of_lt (l := bs) (k := k) (by omega)
        have dx := bodiesD_get hx
        have ox := oksBs_get hx0.2.2.2.2.2 hx
        have sx := size_getBs hx
        rw [drop_get hx, wellBs] at he

        conv => whnf
        refine ⟨_, ⟨Int.natCast_nonneg _, dx⟩, ?_⟩
        conv => whnf
        refine callP.pure _ (h104 _ ox.1 ox.2 (by simp; omega)) ⟨rfl, rfl⟩ ?_
        conv => whnf
        refine brec (fun h3 => ?_) (fun h3 => ?_)
        · have h4 : wellB x = true := by rw [Bool.not_eq_false'] at h3; exact h3
          conv => whnf
          refine ⟨?_, ?_⟩
          · constructor <;> omega
          · conv => whnf
            refine nxt (k + 1) ⟨by omega, by omega, ?_⟩ ?_
            · rw [he, h4, Bool.true_and]
            · (refine le_of rfl rfl ?_; repeat' (first | exact rfl | exact trivial | refine ⟨?_, ?_⟩))
        · have h4 : wellB x = false := by rw [Bool.not_eq_true'] at h3; exact h3
          have he : wellBs bs = false := by rw [he, h4, Bool.false_and]
          conv => whnf
          (refine fin_b ?_; simp_all [wellS, flatS, expsD_length, bodiesD_length]))
theorem b104 (W0 : Go.World) (l : List Stm) (hl : l.length ≤ 140737488355328) (ol : oksB l) (hc : ∀ x, x.ok → SizeOf.sizeOf x < SizeOf.sizeOf l → Ctr Tryz.prog W0 169 [eS x] [] (.sc (.b (wellS x))) []) : Body (Ctr Tryz.prog W0) F104.ac F104.rs [eB l] [] (.sc (.b (wellB l))) [] := by
  conv => whnf
  refine .st 1000 (fun k => l.length - k) (fun k => [(.s 5, .av (eB l)), (.s 6, .av (.sc (.i .i64 ((stmsD l).length : Nat)))), (.s 7, .av (.sc (.i .i64 (k : Nat))))])
    (fun k => k ≤ l.length ∧ wellB l = wellB (l.drop k)) 0 ?_ ⟨Nat.zero_le _, rfl⟩ ?_
  · (refine le_of rfl rfl ?_; repeat' (first | exact rfl | exact trivial | refine ⟨?_, ?_⟩))
  · rintro k ⟨hk', he⟩
    conv => whnf
    refine brec (fun h2 => ?_) (fun h2 => ?_)
    · simp only [stmsD_length, decide_eq_false_iff_not] at h2
      have e1 : l.drop k = [] := by simp; omega
      have he : wellB l = true := by rw [he, e1]; simp [wellB]
      clear e1 h2 hk'
      conv => whnf
      exact fin_b he.symm
    · simp only [stmsD_length, decide_eq_true_eq] at h2
      obtain ⟨x, hx⟩ := get_of_lt (l := l) (k := k) (by omega)
      have dx := stmsD_get hx
      have ox := oksB_get ol hx
      have sx := size_getB hx
      rw [drop_get hx, wellB] at he
      cases x with | mk o nm tx n ns es fs bs =>
      conv => whnf
      refine ⟨_, ⟨Int.natCast_nonneg _, dx⟩, ?_⟩
      conv => whnf
      refine callP.pure _ (hc _ ox sx) ⟨rfl, rfl⟩ ?_
      conv => whnf
      refine brec (fun h3 => ?_) (fun h3 => ?_)
      · have h4 : wellS (.mk o nm tx n ns es fs bs) = true := by rw [Bool.not_eq_false'] at h3; exact h3
        conv => whnf
        refine ⟨?_, ?_⟩
        · constructor <;> omega
        · conv => whnf
          refine nxt (k + 1) ⟨by omega, by omega, ?_⟩ ?_
          · rw [he, h4, Bool.true_and]
          · (refine le_of rfl rfl ?_; repeat' (first | exact rfl | exact trivial | refine ⟨?_, ?_⟩))
      · have h4 : wellS (.mk o nm tx n ns es fs bs) = false := by rw [Bool.not_eq_true'] at h3; exact h3
        have he : wellB l = false := by rw [he, h4, Bool.false_and]
        conv => whnf
        exact fin_b he.symm
theorem c169s (W0 : Go.World) (hk : Wk W0) : ∀ (n : Nat), (∀ x : Stm, SizeOf.sizeOf x < n → x.ok → Ctr Tryz.prog W0 169 [eS x] [] (.sc (.b (wellS x))) []) ∧
    (∀ l : List Stm, SizeOf.sizeOf l < n → l.length ≤ 140737488355328 → oksB l → Ctr Tryz.prog W0 104 [eB l] [] (.sc (.b (wellB l))) [])
  | 0 => ⟨fun _ h => absurd h (Nat.not_lt_zero _), fun _ h => absurd h (Nat.not_lt_zero _)⟩
  | n + 1 => by
    obtain ⟨ih1, ih2⟩ := c169s W0 hk n
    refine ⟨fun x h hx => ?_, fun l h hl ol => ?_⟩
    · refine ctr_body follows F169_ok rfl (fun _ _ h => by cases h) rfl ?_ (b169 W0 hk x hx fun l hl ol hs => ih2 l (by omega) hl ol)
      cases x; rfl
    · exact ctr_body follows F104_ok rfl (fun _ _ h => by cases h) rfl rfl (b104 W0 l hl ol fun x hx hs => ih1 x (by omega) hx)
theorem c104 (W0 : Go.World) (hk : Wk W0) (l : List Stm) (hl : l.length ≤ 140737488355328) (ol : oksB l) : Ctr Tryz.prog W0 104 [eB l] [] (.sc (.b (wellB l))) [] := (c169s W0 hk _).2 l (Nat.lt_succ_self _) hl ol
end Go.Abs

set_option maxRecDepth 100000
namespace Go.Abs
open Go.Proofs
def F103 : Fn := ⟨.seq (.reg [⟨none, .box 1 (.t 0)⟩, ⟨none, .mv 2 (.c (.sc (.b false)))⟩]) (.seq (.seq (.reg [⟨none, .fa 7 (.t 1) 2⟩, ⟨none, .ld 8 1 false (.t 7)⟩, ⟨none, .len 9 (.t 8)⟩, ⟨none, .mv 10 (.c (.sc (.i .i64 0)))⟩]) (.block 0 (.loop (.seq (.reg [⟨none, .bin 11 .lss (.t 10) (.t 9)⟩]) (.seq (.cond (.t 11) .skip (.exit 0)) (.seq (.block 1 (.seq (.reg [⟨none, .ia 12 3 (.t 8) (.t 10)⟩, ⟨none, .ld 13 3 true (.t 12)⟩, ⟨none, .alloc 4 [.sc (.s []), .sc (.s []), .sc (.i .i64 0)]⟩, ⟨none, .st (.t 4) 3 (.t 13)⟩]) (.seq (.reg [⟨none, .fa 14 (.t 4) 2⟩, ⟨none, .ld 15 1 false (.t 14)⟩, ⟨none, .bin 16 .eql (.t 15) (.c (.sc (.i .i64 0)))⟩, ⟨none, .mv 5 (.t 16)⟩]) (.seq (.seq (.reg [⟨none, .fa 17 (.t 4) 1⟩, ⟨none, .ld 18 1 false (.t 17)⟩]) (.block 2 (.seq (.seq (.reg [⟨none, .bin 20 .eql (.t 18) (.c (.sc (.s [105, 110, 116])))⟩, ⟨none, .mv 19 (.t 20)⟩]) (.cond (.t 19) .skip (.seq (.reg [⟨none, .bin 21 .eql (.t 18) (.c (.sc (.s [98, 111, 111, 108])))⟩, ⟨none, .mv 19 (.t 21)⟩]) (.cond (.t 19) .skip (.reg [⟨none, .bin 22 .eql (.t 18) (.c (.sc (.s [97, 110, 121])))⟩, ⟨none, .mv 19 (.t 22)⟩]))))) (.cond (.t 19) .skip (.seq (.seq (.reg [⟨none, .bin 24 .eql (.t 18) (.c (.sc (.s [100, 111, 109, 97, 105, 110])))⟩, ⟨none, .mv 23 (.t 24)⟩]) (.cond (.t 23) .skip (.reg [⟨none, .bin 25 .eql (.t 18) (.c (.sc (.s [97, 114, 114, 97, 121])))⟩, ⟨none, .mv 23 (.t 25)⟩]))) (.cond (.t 23) (.reg [⟨none, .fa 26 (.t 4) 2⟩, ⟨none, .ld 27 1 false (.t 26)⟩, ⟨none, .bin 28 .geq (.t 27) (.c (.sc (.i .i64 0)))⟩, ⟨none, .mv 29 (.t 28)⟩, ⟨some (29, true), .fa 30 (.t 4) 2⟩, ⟨some (29, true), .ld 31 1 false (.t 30)⟩, ⟨some (29, true), .bin 32 .leq (.t 31) (.c (.sc (.i .i64 3)))⟩, ⟨none, .pick 33 (.t 29) (.t 32) (.c (.sc (.b false)))⟩, ⟨none, .mv 5 (.t 33)⟩]) (.seq (.reg [⟨none, .mv 2 (.c (.sc (.b false)))⟩]) .ret))))))) (.seq (.reg [⟨none, .mv 34 (.t 5)⟩, ⟨none, .no 35 (.t 34)⟩, ⟨none, .mv 36 (.t 35)⟩, ⟨some (36, false), .fa 37 (.t 4) 0⟩, ⟨some (36, false), .ld 38 1 false (.t 37)⟩, ⟨some (36, false), .call (some 39) (.c (.fn 168 [])) [.t 38]⟩, ⟨some (36, false), .no 40 (.t 39)⟩, ⟨none, .pick 41 (.t 36) (.c (.sc (.b true))) (.t 40)⟩]) (.cond (.t 41) (.seq (.reg [⟨none, .mv 2 (.c (.sc (.b false)))⟩]) .ret) .skip)))))) (.reg [⟨none, .bin 42 .add (.t 10) (.c (.sc (.i .i64 1)))⟩, ⟨none, .mv 10 (.t 42)⟩]))))))) (.seq (.reg [⟨none, .fa 43 (.t 1) 1⟩, ⟨none, .ld 44 1 false (.t 43)⟩, ⟨none, .bin 45 .eql (.t 44) (.c (.sc (.s [105, 110, 116])))⟩, ⟨none, .mv 46 (.t 45)⟩, ⟨some (46, false), .fa 47 (.t 1) 1⟩, ⟨some (46, false), .ld 48 1 false (.t 47)⟩, ⟨some (46, false), .bin 49 .eql (.t 48) (.c (.sc (.s [98, 111, 111, 108])))⟩, ⟨none, .pick 50 (.t 46) (.c (.sc (.b true))) (.t 49)⟩, ⟨none, .mv 51 (.t 50)⟩, ⟨some (51, false), .fa 52 (.t 1) 1⟩, ⟨some (51, false), .ld 53 1 false (.t 52)⟩, ⟨some (51, false), .bin 54 .eql (.t 53) (.c (.sc (.s [110, 111, 110, 101])))⟩, ⟨none, .pick 55 (.t 51) (.c (.sc (.b true))) (.t 54)⟩, ⟨none, .mv 6 (.t 55)⟩]) (.seq (.reg [⟨none, .mv 56 (.t 6)⟩, ⟨none, .mv 57 (.t 56)⟩, ⟨some (57, true), .fa 58 (.t 1) 0⟩, ⟨some (57, true), .ld 59 1 false (.t 58)⟩, ⟨some (57, true), .call (some 60) (.c (.fn 168 [])) [.t 59]⟩, ⟨none, .pick 61 (.t 57) (.t 60) (.c (.sc (.b false)))⟩, ⟨none, .mv 62 (.t 61)⟩, ⟨some (62, true), .fa 63 (.t 1) 2⟩, ⟨some (62, true), .ld 64 1 false (.t 63)⟩, ⟨some (62, true), .len 65 (.t 64)⟩, ⟨some (62, true), .bin 66 .leq (.t 65) (.c (.sc (.i .i64 6)))⟩, ⟨none, .pick 67 (.t 62) (.t 66) (.c (.sc (.b false)))⟩, ⟨none, .mv 68 (.t 67)⟩, ⟨some (68, true), .fa 69 (.t 1) 3⟩, ⟨some (68, true), .ld 70 1 false (.t 69)⟩, ⟨some (68, true), .call (some 71) (.c (.fn 104 [])) [.t 70]⟩, ⟨none, .pick 72 (.t 68) (.t 71) (.c (.sc (.b false)))⟩, ⟨none, .mv 2 (.t 72)⟩]) .ret))), [(2, 0)], 73⟩
def F52 : Fn := ⟨.seq (.reg [⟨none, .box 1 (.t 0)⟩, ⟨none, .mv 2 (.c (.sc (.b false)))⟩]) (.seq (.seq (.reg [⟨none, .fa 5 (.t 1) 0⟩, ⟨none, .ld 6 1 false (.t 5)⟩, ⟨none, .len 7 (.t 6)⟩, ⟨none, .mv 8 (.c (.sc (.i .i64 0)))⟩]) (.block 0 (.loop (.seq (.reg [⟨none, .bin 9 .lss (.t 8) (.t 7)⟩]) (.seq (.cond (.t 9) .skip (.exit 0)) (.seq (.block 1 (.seq (.reg [⟨none, .ia 10 4 (.t 6) (.t 8)⟩, ⟨none, .ld 11 4 true (.t 10)⟩, ⟨none, .alloc 4 [.sc (.s []), .sc (.s []), .sl 3 [] .full, .sl 8 [] .full]⟩, ⟨none, .st (.t 4) 4 (.t 11)⟩]) (.seq (.reg [⟨none, .ld 12 4 true (.t 4)⟩, ⟨none, .call (some 13) (.c (.fn 103 [])) [.t 12]⟩, ⟨none, .no 14 (.t 13)⟩]) (.cond (.t 14) (.seq (.reg [⟨none, .mv 2 (.c (.sc (.b false)))⟩]) .ret) .skip)))) (.reg [⟨none, .bin 15 .add (.t 8) (.c (.sc (.i .i64 1)))⟩, ⟨none, .mv 8 (.t 15)⟩]))))))) (.seq (.reg [⟨none, .fa 16 (.t 1) 1⟩, ⟨none, .ld 17 1 false (.t 16)⟩, ⟨none, .call (some 18) (.c (.fn 104 [])) [.t 17]⟩, ⟨none, .mv 2 (.t 18)⟩]) .ret)), [(2, 0)], 19⟩
theorem F103_ok : compT Tryz.prog (fun _ => an0) 103 = some F103 := by kernel_rfl
theorem F52_ok : compT Tryz.prog (fun _ => an0) 52 = some F52 := by kernel_rfl
set_option maxHeartbeats 16000000 in
theorem b103 (W0 : Go.World) (hk : Wk W0) (x : Prc) (hx0 : x.ok) : Body (Ctr Tryz.prog W0) F103.ac F103.rs [eP x] [] (.sc (.b (prcB x))) [] := by
  obtain ⟨nm, res, ps, body⟩ := x
  have hl : ps.length ≤ 140737488355328 := hx0.2.1.1
  conv => whnf
  refine .st 2000 (fun k => ps.length - k) (fun k => [(.s 1, .av (.ptr 1000 0)), (.b 1000, .bx ((Prc.mk nm res ps body).d.map dcell)), (.s 8, .av (ePs ps)), (.s 9, .av (.sc (.i .i64 ((prmsD ps).length : Nat)))), (.s 10, .av (.sc (.i .i64 (k : Nat))))])
    (fun k => k ≤ ps.length ∧ allB prmB ps = allB prmB (ps.drop k)) 0 ?_ ⟨Nat.zero_le _, rfl⟩ ?_
  · (refine le_of rfl rfl ?_; repeat' (first | exact rfl | exact trivial | refine ⟨?_, ?_⟩))
  · rintro k ⟨hk', he⟩
    conv => whnf
    refine brec (fun h2 => ?_) (fun h2 => ?_)
    · simp only [prmsD_length, decide_eq_false_iff_not] at h2
      have e1 : ps.drop k = [] := by simp; omega
      have he : allB prmB ps = true := by rw [he, e1]; rfl
      clear e1 h2 hk'
      repeat' ((conv => whnf); (first | with_reducible refine brec (fun _ => ?_) (fun _ => ?_) | (refine callP.pure _ (c168 W0 hk nm hx0.1.1) ⟨rfl, rfl⟩ ?_) | (refine callP.pure _ (c104 W0 hk body hx0.2.2.1 hx0.2.2.2) ⟨rfl, rfl⟩ ?_) | fail))
      all_goals ((conv => whnf); (refine fin_b ?_; simp_all [prcB, hasB, prmsD_length]; try (intros; omega)))
    · simp only [prmsD_length, decide_eq_true_eq] at h2
      obtain ⟨x, hx⟩ := get_of_lt (l := ps) (k := k) (by omega)
      have dx := prmsD_get hx
      have ox := hx0.2.1.2 _ (List.mem_of_getElem? hx)
      rw [drop_get hx, allB] at he
      obtain ⟨a, b, c⟩ := x
      conv => whnf
      refine ⟨_, ⟨Int.natCast_nonneg _, dx⟩, ?_⟩
      repeat' ((conv => whnf); (first | with_reducible refine brec (fun _ => ?_) (fun _ => ?_) | (refine callP.pure _ (c168 W0 hk a ox.1) ⟨rfl, rfl⟩ ?_) | fail))
      all_goals (conv => whnf)
      all_goals (first | (refine fin_b ?_; (simp_all [prcB, prmB, hasB]) <;> (intros; omega)) | (have h4 : prmB ⟨a, b, c⟩ = true := by (simp_all [prmB, hasB]) <;> omega); (refine And.intro ?_ ?_; (constructor <;> omega); (conv => whnf); refine nxt (k + 1) ⟨by omega, by omega, by rw [he, h4, Bool.true_and]⟩ ?_; (refine le_of rfl rfl ?_; repeat' (first | exact rfl | exact trivial | refine ⟨?_, ?_⟩))))
theorem c103 (W0 : Go.World) (hk : Wk W0) (x : Prc) (hx : x.ok) : Ctr Tryz.prog W0 103 [eP x] [] (.sc (.b (prcB x))) [] :=
  ctr_body follows F103_ok rfl (fun _ _ h => by cases h) rfl (by rfl) (b103 W0 hk x hx)
set_option maxHeartbeats 4000000 in
theorem b52 (W0 : Go.World) (hk : Wk W0) (x : Prg) (hx0 : x.ok) : Body (Ctr Tryz.prog W0) F52.ac F52.rs [eG x] [] (.sc (.b (prgB x))) [] := by
  obtain ⟨procs, body⟩ := x
  have hl : procs.length ≤ 140737488355328 := hx0.1.1
  conv => whnf
  refine .st 2000 (fun k => procs.length - k) (fun k => [(.s 1, .av (.ptr 1000 0)), (.b 1000, .bx ((Prg.mk procs body).d.map dcell)), (.s 6, .av (ePL procs)), (.s 7, .av (.sc (.i .i64 ((prcsD procs).length : Nat)))), (.s 8, .av (.sc (.i .i64 (k : Nat))))])
    (fun k => k ≤ procs.length ∧ allB prcB procs = allB prcB (procs.drop k)) 0 ?_ ⟨Nat.zero_le _, rfl⟩ ?_
  · (refine le_of rfl rfl ?_; repeat' (first | exact rfl | exact trivial | refine ⟨?_, ?_⟩))
  · rintro k ⟨hk', he⟩
    conv => whnf
    refine brec (fun h2 => ?_) (fun h2 => ?_)
    · simp only [prcsD_length, decide_eq_false_iff_not] at h2
      have e1 : procs.drop k = [] := by simp; omega
      have he : allB prcB procs = true := by rw [he, e1]; simp [allB]
      clear e1 h2 hk'
      conv => whnf
      repeat' ((conv => whnf); (first | with_reducible refine brec (fun _ => ?_) (fun _ => ?_) | (refine callP.pure _ (c104 W0 hk body hx0.2.1 hx0.2.2) ⟨rfl, rfl⟩ ?_) | fail))
      all_goals ((conv => whnf); refine fin_b ?_; simp_all [prgB])
    · simp only [prcsD_length, decide_eq_true_eq] at h2
      obtain ⟨x, hx⟩ := get_of_lt (l := procs) (k := k) (by omega)
      have dx := prcsD_get hx
      have ox := hx0.1.2 _ (List.mem_of_getElem? hx)
      rw [drop_get hx, allB] at he
      obtain ⟨a, b, c, d⟩ := x
      conv => whnf
      refine ⟨_, ⟨Int.natCast_nonneg _, dx⟩, ?_⟩
      conv => whnf
      refine callP.pure _ (c103 W0 hk _ ox) ⟨rfl, rfl⟩ ?_
      conv => whnf
      refine brec (fun h3 => ?_) (fun h3 => ?_)
      · have h4 : prcB ⟨a, b, c, d⟩ = true := by rw [Bool.not_eq_false'] at h3; exact h3
        conv => whnf
        refine ⟨?_, ?_⟩
        · constructor <;> omega
        · conv => whnf
          refine nxt (k + 1) ⟨by omega, by omega, ?_⟩ ?_
          · rw [he, h4, Bool.true_and]
          · (refine le_of rfl rfl ?_; repeat' (first | exact rfl | exact trivial | refine ⟨?_, ?_⟩))
      · have h4 : prcB ⟨a, b, c, d⟩ = false := by rw [Bool.not_eq_true'] at h3; exact h3
        have he : allB prcB procs = false := by rw [he, h4, Bool.false_and]
        conv => whnf
        refine fin_b ?_
        simp_all [prgB]
theorem c52 (W0 : Go.World) (hk : Wk W0) (x : Prg) (hx : x.ok) : Ctr Tryz.prog W0 52 [eG x] [] (.sc (.b (prgB x))) [] :=
  ctr_body follows F52_ok rfl (fun _ _ h => by cases h) rfl (by rfl) (b52 W0 hk x hx)
end Go.Abs

set_option maxRecDepth 100000
namespace Go.Abs
open Go.Proofs
mutual
def nE : Exp → Int | .mk _ _ _ l => nL l + 1
def nL : List Exp → Int | [] => 0 | x :: r => nE x + nL r
end
mutual
def dpE : Exp → Int | .mk _ _ _ l => dpL l + 1
def dpL : List Exp → Int | [] => 0 | x :: r => max (dpE x) (dpL r)
end
mutual
theorem nE_pos : ∀ x, 1 ≤ nE x | .mk _ _ _ l => by simp only [nE]; have := nL_pos l; omega
theorem nL_pos : ∀ l, 0 ≤ nL l | [] => by simp [nL] | x :: r => by simp only [nL]; have := nE_pos x; have := nL_pos r; omega
end
mutual
theorem dpE_le : ∀ x, 0 ≤ dpE x ∧ dpE x ≤ nE x | .mk _ _ _ l => by simp only [nE, dpE]; have := dpL_le l; omega
theorem dpL_le : ∀ l, 0 ≤ dpL l ∧ dpL l ≤ nL l | [] => by simp [nL, dpL] | x :: r => by simp only [nL, dpL]; have := dpE_le x; have := dpL_le r; have := nE_pos x; have := nL_pos r; omega
end
def pairA (a b : Int) : AV := .agg [.sc (.i .i64 a), .sc (.i .i64 b)]
def F68 : Fn := ⟨.seq (.reg [⟨none, .alloc 2 [.sc (.i .i64 0), .sc (.i .i64 0)]⟩]) (.seq (.reg [⟨none, .alloc 3 [.sc (.i .i64 0), .sc (.i .i64 0)]⟩]) (.seq (.seq (.reg [⟨none, .mv 6 (.t 0)⟩, ⟨none, .len 7 (.t 6)⟩, ⟨none, .mv 8 (.c (.sc (.i .i64 0)))⟩]) (.block 0 (.loop (.seq (.reg [⟨none, .bin 9 .lss (.t 8) (.t 7)⟩]) (.seq (.cond (.t 9) .skip (.exit 0)) (.seq (.block 1 (.seq (.reg [⟨none, .ia 10 4 (.t 6) (.t 8)⟩, ⟨none, .ld 11 4 true (.t 10)⟩, ⟨none, .alloc 5 [.sc (.s []), .sc (.s []), .sc (.i .i64 0), .sl 4 [] .full]⟩, ⟨none, .st (.t 5) 4 (.t 11)⟩]) (.regD [⟨none, .ld 12 2 true (.t 3)⟩, ⟨none, .fa 13 (.t 5) 3⟩, ⟨none, .ld 14 1 false (.t 13)⟩, ⟨none, .call (some 15) (.c (.fn 68 [])) [.t 14]⟩, ⟨none, .call (some 16) (.c (.fn 102 [])) [.t 15]⟩, ⟨none, .call (some 17) (.c (.fn 101 [])) [.t 12, .t 16]⟩, ⟨none, .st (.t 3) 2 (.t 17)⟩] [0, 0, 2, 6, 14, 31, 63]))) (.reg [⟨none, .bin 18 .add (.t 8) (.c (.sc (.i .i64 1)))⟩, ⟨none, .mv 8 (.t 18)⟩]))))))) (.seq (.reg [⟨none, .ld 19 2 true (.t 3)⟩, ⟨none, .st (.t 2) 2 (.t 19)⟩]) .ret))), [(2, 2)], 20⟩
def F101 : Fn := ⟨.seq (.reg [⟨none, .box 2 (.t 0)⟩, ⟨none, .box 3 (.t 1)⟩, ⟨none, .alloc 4 [.sc (.i .i64 0), .sc (.i .i64 0)]⟩]) (.seq (.reg [⟨none, .fa 5 (.t 2) 0⟩, ⟨none, .ld 6 1 false (.t 5)⟩, ⟨none, .fa 7 (.t 3) 0⟩, ⟨none, .ld 8 1 false (.t 7)⟩, ⟨none, .bin 9 .add (.t 6) (.t 8)⟩, ⟨none, .fa 10 (.t 2) 1⟩, ⟨none, .ld 11 1 false (.t 10)⟩, ⟨none, .fa 12 (.t 3) 1⟩, ⟨none, .ld 13 1 false (.t 12)⟩, ⟨none, .mx 14 (.t 11) (.t 13)⟩, ⟨none, .build 15 [.sc (.i .i64 0), .sc (.i .i64 0)] [(0, (1, .t 9)), (1, (1, .t 14))]⟩, ⟨none, .st (.t 4) 2 (.t 15)⟩]) .ret), [(4, 2)], 16⟩
def F102 : Fn := ⟨.seq (.reg [⟨none, .box 1 (.t 0)⟩, ⟨none, .alloc 2 [.sc (.i .i64 0), .sc (.i .i64 0)]⟩]) (.seq (.reg [⟨none, .fa 3 (.t 1) 0⟩, ⟨none, .ld 4 1 false (.t 3)⟩, ⟨none, .bin 5 .add (.t 4) (.c (.sc (.i .i64 1)))⟩, ⟨none, .fa 6 (.t 1) 1⟩, ⟨none, .ld 7 1 false (.t 6)⟩, ⟨none, .bin 8 .add (.t 7) (.c (.sc (.i .i64 1)))⟩, ⟨none, .build 9 [.sc (.i .i64 0), .sc (.i .i64 0)] [(0, (1, .t 5)), (1, (1, .t 8))]⟩, ⟨none, .st (.t 2) 2 (.t 9)⟩]) .ret), [(2, 2)], 10⟩
def F51 : Fn := ⟨.seq (.reg [⟨none, .box 1 (.t 0)⟩, ⟨none, .mv 2 (.c (.sc (.b false)))⟩]) (.seq (.reg [⟨none, .fa 3 (.t 1) 0⟩, ⟨none, .ld 4 1 false (.t 3)⟩, ⟨none, .bin 5 .leq (.t 4) (.c (.sc (.i .i64 1500)))⟩, ⟨none, .mv 6 (.t 5)⟩, ⟨some (6, true), .fa 7 (.t 1) 1⟩, ⟨some (6, true), .ld 8 1 false (.t 7)⟩, ⟨some (6, true), .bin 9 .leq (.t 8) (.c (.sc (.i .i64 60)))⟩, ⟨none, .pick 10 (.t 6) (.t 9) (.c (.sc (.b false)))⟩, ⟨none, .mv 2 (.t 10)⟩]) .ret), [(2, 0)], 11⟩
theorem F68_ok : compT Tryz.prog (fun _ => an0) 68 = some F68 := by kernel_rfl
theorem F101_ok : compT Tryz.prog (fun _ => an0) 101 = some F101 := by kernel_rfl
theorem F102_ok : compT Tryz.prog (fun _ => an0) 102 = some F102 := by kernel_rfl
theorem F51_ok : compT Tryz.prog (fun _ => an0) 51 = some F51 := by kernel_rfl
set_option maxHeartbeats 2000000 in
theorem b101 (W0 : Go.World) (a b c d : Int) (h : Fits .i64 (a + c)) : Body (Ctr Tryz.prog W0) F101.ac F101.rs [pairA a b, pairA c d] [] (pairA (a + c) (max b d)) [] := by
  repeat' ((conv => whnf); (first | with_reducible refine brec (fun _ => ?_) (fun _ => ?_) | (refine And.intro (by first | assumption | (constructor <;> omega)) ?_) | fail))
  all_goals ((conv => whnf); (refine fin0 rfl ?_ rfl; repeat' (first | exact rfl | exact trivial | refine ⟨?_, ?_⟩)))
theorem c101 (W0 : Go.World) (a b c d : Int) (h : Fits .i64 (a + c)) : Ctr Tryz.prog W0 101 [pairA a b, pairA c d] [] (pairA (a + c) (max b d)) [] :=
  ctr_body follows F101_ok rfl (fun _ _ h => by cases h) rfl (by rfl) (b101 W0 a b c d h)
set_option maxHeartbeats 2000000 in
theorem b102 (W0 : Go.World) (a b : Int) (h1 : Fits .i64 (a + 1)) (h2 : Fits .i64 (b + 1)) : Body (Ctr Tryz.prog W0) F102.ac F102.rs [pairA a b] [] (pairA (a + 1) (b + 1)) [] := by
  repeat' ((conv => whnf); (first | with_reducible refine brec (fun _ => ?_) (fun _ => ?_) | (refine And.intro (by first | assumption | (constructor <;> omega)) ?_) | fail))
  all_goals ((conv => whnf); (refine fin0 rfl ?_ rfl; repeat' (first | exact rfl | exact trivial | refine ⟨?_, ?_⟩)))
theorem c102 (W0 : Go.World) (a b : Int) (h1 : Fits .i64 (a + 1)) (h2 : Fits .i64 (b + 1)) : Ctr Tryz.prog W0 102 [pairA a b] [] (pairA (a + 1) (b + 1)) [] :=
  ctr_body follows F102_ok rfl (fun _ _ h => by cases h) rfl (by rfl) (b102 W0 a b h1 h2)
set_option maxHeartbeats 2000000 in
theorem b51 (W0 : Go.World) (a b : Int) : Body (Ctr Tryz.prog W0) F51.ac F51.rs [pairA a b] [] (.sc (.b (decide (a ≤ 1500) && decide (b ≤ 60)))) [] := by
  repeat' ((conv => whnf); (first | with_reducible refine brec (fun _ => ?_) (fun _ => ?_) | fail))
  all_goals ((conv => whnf); (refine fin_b ?_; simp_all; try (intros; omega)))
theorem c51 (W0 : Go.World) (a b : Int) : Ctr Tryz.prog W0 51 [pairA a b] [] (.sc (.b (decide (a ≤ 1500) && decide (b ≤ 60)))) [] :=
  ctr_body follows F51_ok rfl (fun _ _ h => by cases h) rfl (by rfl) (b51 W0 a b)
set_option maxHeartbeats 4000000 in
theorem b68 (W0 : Go.World) (l : List Exp) (hl : l.length ≤ 140737488355328) (hn : nL l ≤ 1152921504606846976) (hc : ∀ x ∈ l, ∀ a b n args, x = .mk a b n args → Ctr Tryz.prog W0 68 [eL args] [] (pairA (nL args) (dpL args)) []) : Body (Ctr Tryz.prog W0) F68.ac F68.rs [eL l] [] (pairA (nL l) (dpL l)) [] := by
  conv => whnf
  refine .st (α := Nat × Int × Int) 2000 (fun s => l.length - s.1) (fun s => [(.s 2, .av (.ptr 1000 0)), (.s 3, .av (.ptr 1100 0)), (.b 1000, .bx [.sc (.i .i64 0), .sc (.i .i64 0)]), (.b 1100, .bx [.sc (.i .i64 s.2.1), .sc (.i .i64 s.2.2)]), (.s 6, .av (eL l)), (.s 7, .av (.sc (.i .i64 ((expsD l).length : Nat)))), (.s 8, .av (.sc (.i .i64 (s.1 : Nat))))])
    (fun s => s.1 ≤ l.length ∧ nL l = s.2.1 + nL (l.drop s.1) ∧ dpL l = max s.2.2 (dpL (l.drop s.1)) ∧ 0 ≤ s.2.1 ∧ 0 ≤ s.2.2 ∧ s.2.2 ≤ s.2.1) (0, 0, 0) ?_ ⟨Nat.zero_le _, by simp, by simp; have := (dpL_le l).1; omega, by simp, by simp, by simp⟩ ?_
  · (refine le_of rfl rfl ?_; repeat' (first | exact rfl | exact trivial | refine ⟨?_, ?_⟩))
  · rintro ⟨k, a, d⟩ ⟨hk, he, hd, ha0, hd0, hda⟩
    simp only at hk he hd ha0 hd0 hda
    conv => whnf
    refine brec (fun h2 => ?_) (fun h2 => ?_)
    · simp only [expsD_length, decide_eq_false_iff_not] at h2
      have e1 : l.drop k = [] := by simp; omega
      rw [e1] at he hd
      simp only [nL, dpL] at he hd
      conv => whnf
      have e2 : a = nL l := by omega
      have e3 : d = dpL l := by omega
      subst e2; subst e3
      (refine fin0 rfl ?_ rfl; repeat' (first | exact rfl | exact trivial | refine ⟨?_, ?_⟩))
    · simp only [expsD_length, decide_eq_true_eq] at h2
      obtain ⟨x, hx⟩ := get_of_lt (l := l) (k := k) (by omega)
      have dx := expsD_get hx
      have hmem := List.mem_of_getElem? hx
      rw [drop_get hx] at he hd
      simp only [nL, dpL] at he hd
      cases x with | mk o b n args =>
      simp only [nE, dpE] at he hd
      have p1 := nL_pos args
      have p2 := dpL_le args
      have p3 := nL_pos (l.drop (k + 1))
      conv => whnf
      refine ⟨_, ⟨Int.natCast_nonneg _, dx⟩, ?_⟩
      conv => whnf
      refine callP.pure _ (hc _ hmem o b n args rfl) ⟨rfl, rfl⟩ ?_
      conv => whnf
      refine callP.pure _ (c102 W0 (nL args) (dpL args) (by constructor <;> omega) (by constructor <;> omega)) ⟨rfl, rfl⟩ ?_
      conv => whnf
      refine callP.pure _ (c101 W0 a d (nL args + 1) (dpL args + 1) (by constructor <;> omega)) ⟨rfl, rfl⟩ ?_
      conv => whnf
      refine And.intro (by constructor <;> omega) ?_
      conv => whnf
      refine nxt (k + 1, a + (nL args + 1), max d (dpL args + 1)) ⟨by simp only; omega, by simp only; omega, by simp only; omega, by simp only; omega, by simp only; omega, by simp only; omega, by simp only; omega⟩ ?_
      (refine le_of rfl rfl ?_; repeat' (first | exact rfl | exact trivial | refine ⟨?_, ?_⟩))
theorem oksE_mem : ∀ {l : List Exp} {x : Exp}, oksE l → x ∈ l → x.ok
  | y :: r, x, h, hx => by
    rcases List.mem_cons.1 hx with rfl | hx
    · exact h.1
    · exact oksE_mem h.2 hx
theorem nE_mem : ∀ {l : List Exp} {x : Exp}, x ∈ l → nE x ≤ nL l
  | y :: r, x, hx => by
    have p1 := nE_pos y
    have p2 := nL_pos r
    simp only [nL]
    rcases List.mem_cons.1 hx with rfl | hx
    · omega
    · have := nE_mem hx; omega
theorem c68s (W0 : Go.World) : ∀ (n : Nat) (l : List Exp), SizeOf.sizeOf l < n → l.length ≤ 140737488355328 → oksE l → nL l ≤ 1152921504606846976 → Ctr Tryz.prog W0 68 [eL l] [] (pairA (nL l) (dpL l)) []
  | 0, _, h, _, _, _ => absurd h (Nat.not_lt_zero _)
  | n + 1, l, h, hl, ol, hn => ctr_body follows F68_ok rfl (fun _ _ h => by cases h) rfl (by rfl) (b68 W0 l hl hn (by
      rintro x hx a b m args rfl
      have h1 := List.sizeOf_lt_of_mem hx
      have h2 := oksE_mem ol hx
      have h3 := nE_mem hx
      simp only [nE] at h3
      exact c68s W0 n args (by simp at h1; omega) h2.2.1 h2.2.2 (by omega)))
theorem c68 (W0 : Go.World) (l : List Exp) (hl : l.length ≤ 140737488355328) (ol : oksE l) (hn : nL l ≤ 1152921504606846976) : Ctr Tryz.prog W0 68 [eL l] [] (pairA (nL l) (dpL l)) [] := c68s W0 _ l (Nat.lt_succ_self _) hl ol hn
end Go.Abs

set_option maxRecDepth 100000
namespace Go.Abs
open Go.Proofs
mutual
def nS : Stm → Int | .mk _ _ _ _ _ es _ bs => nL es + nBs bs + 1
def nB : List Stm → Int | [] => 0 | x :: r => nS x + nB r
def nBs : List (List Stm) → Int | [] => 0 | b :: r => nB b + nBs r
end
mutual
def dpS : Stm → Int | .mk _ _ _ _ _ es _ bs => max (dpL es) (dpBs bs) + 1
def dpB : List Stm → Int | [] => 0 | x :: r => max (dpS x) (dpB r)
def dpBs : List (List Stm) → Int | [] => 0 | b :: r => max (dpB b) (dpBs r)
end
mutual
theorem nS_pos : ∀ x, 1 ≤ nS x | .mk _ _ _ _ _ es _ bs => by simp only [nS]; have := nL_pos es; have := nBs_pos bs; omega
theorem nB_pos : ∀ l, 0 ≤ nB l | [] => by simp [nB] | x :: r => by simp only [nB]; have := nS_pos x; have := nB_pos r; omega
theorem nBs_pos : ∀ l, 0 ≤ nBs l | [] => by simp [nBs] | x :: r => by simp only [nBs]; have := nB_pos x; have := nBs_pos r; omega
end
mutual
theorem dpS_le : ∀ x, 0 ≤ dpS x ∧ dpS x ≤ nS x | .mk _ _ _ _ _ es _ bs => by simp only [nS, dpS]; have := dpL_le es; have := dpBs_le bs; have := nL_pos es; have := nBs_pos bs; omega
theorem dpB_le : ∀ l, 0 ≤ dpB l ∧ dpB l ≤ nB l | [] => by simp [nB, dpB] | x :: r => by simp only [nB, dpB]; have := dpS_le x; have := dpB_le r; have := nS_pos x; have := nB_pos r; omega
theorem dpBs_le : ∀ l, 0 ≤ dpBs l ∧ dpBs l ≤ nBs l | [] => by simp [nBs, dpBs] | x :: r => by simp only [nBs, dpBs]; have := dpB_le x; have := dpBs_le r; have := nB_pos x; have := nBs_pos r; omega
end
theorem nBs_mem : ∀ {l : List (List Stm)} {x : List Stm}, x ∈ l → nB x ≤ nBs l
  | y :: r, x, hx => by
    have p1 := nB_pos y
    have p2 := nBs_pos r
    simp only [nBs]
    rcases List.mem_cons.1 hx with rfl | hx
    · omega
    · have := nBs_mem hx; omega
theorem nB_mem : ∀ {l : List Stm} {x : Stm}, x ∈ l → nS x ≤ nB l
  | y :: r, x, hx => by
    have p1 := nS_pos y
    have p2 := nB_pos r
    simp only [nB]
    rcases List.mem_cons.1 hx with rfl | hx
    · omega
    · have := nB_mem hx; omega
def F100 : Fn := ⟨.seq (.reg [⟨none, .alloc 2 [.sc (.i .i64 0), .sc (.i .i64 0)]⟩]) (.seq (.reg [⟨none, .alloc 3 [.sc (.i .i64 0), .sc (.i .i64 0)]⟩]) (.seq (.seq (.reg [⟨none, .mv 9 (.t 0)⟩, ⟨none, .len 10 (.t 9)⟩, ⟨none, .mv 11 (.c (.sc (.i .i64 0)))⟩]) (.block 0 (.loop (.seq (.reg [⟨none, .bin 12 .lss (.t 11) (.t 10)⟩]) (.seq (.cond (.t 12) .skip (.exit 0)) (.seq (.block 1 (.seq (.reg [⟨none, .ia 13 8 (.t 9) (.t 11)⟩, ⟨none, .ld 14 8 true (.t 13)⟩, ⟨none, .alloc 5 [.sc (.s []), .sc (.s []), .sc (.s []), .sc (.i .i64 0), .sl 1 [] .full, .sl 4 [] .full, .sl 2 [] .full, .sl 1 [] .full]⟩, ⟨none, .st (.t 5) 8 (.t 14)⟩]) (.seq (.reg [⟨none, .fa 15 (.t 5) 5⟩, ⟨none, .ld 16 1 false (.t 15)⟩, ⟨none, .call (some 17) (.c (.fn 68 [])) [.t 16]⟩, ⟨none, .alloc 6 [.sc (.i .i64 0), .sc (.i .i64 0)]⟩, ⟨none, .st (.t 6) 2 (.t 17)⟩]) (.seq (.seq (.reg [⟨none, .fa 18 (.t 5) 7⟩, ⟨none, .ld 19 1 false (.t 18)⟩, ⟨none, .len 20 (.t 19)⟩, ⟨none, .mv 21 (.c (.sc (.i .i64 0)))⟩]) (.block 2 (.loop (.seq (.reg [⟨none, .bin 22 .lss (.t 21) (.t 20)⟩]) (.seq (.cond (.t 22) .skip (.exit 2)) (.seq (.block 3 (.seq (.reg [⟨none, .ia 23 1 (.t 19) (.t 21)⟩, ⟨none, .ld 24 1 false (.t 23)⟩, ⟨none, .mv 8 (.t 24)⟩]) (.regD [⟨none, .ld 25 2 true (.t 6)⟩, ⟨none, .mv 26 (.t 8)⟩, ⟨none, .call (some 27) (.c (.fn 100 [])) [.t 26]⟩, ⟨none, .call (some 28) (.c (.fn 101 [])) [.t 25, .t 27]⟩, ⟨none, .st (.t 6) 2 (.t 28)⟩] [0, 0, 2, 7, 15]))) (.reg [⟨none, .bin 29 .add (.t 21) (.c (.sc (.i .i64 1)))⟩, ⟨none, .mv 21 (.t 29)⟩]))))))) (.regD [⟨none, .ld 30 2 true (.t 3)⟩, ⟨none, .ld 31 2 true (.t 6)⟩, ⟨none, .call (some 32) (.c (.fn 102 [])) [.t 31]⟩, ⟨none, .call (some 33) (.c (.fn 101 [])) [.t 30, .t 32]⟩, ⟨none, .st (.t 3) 2 (.t 33)⟩] [0, 0, 2, 7, 15]))))) (.reg [⟨none, .bin 34 .add (.t 11) (.c (.sc (.i .i64 1)))⟩, ⟨none, .mv 11 (.t 34)⟩]))))))) (.seq (.reg [⟨none, .ld 35 2 true (.t 3)⟩, ⟨none, .st (.t 2) 2 (.t 35)⟩]) .ret))), [(2, 2)], 36⟩
def F50 : Fn := ⟨.seq (.reg [⟨none, .box 1 (.t 0)⟩, ⟨none, .alloc 2 [.sc (.i .i64 0), .sc (.i .i64 0)]⟩]) (.seq (.reg [⟨none, .fa 6 (.t 1) 1⟩, ⟨none, .ld 7 1 false (.t 6)⟩, ⟨none, .call (some 8) (.c (.fn 100 [])) [.t 7]⟩, ⟨none, .alloc 3 [.sc (.i .i64 0), .sc (.i .i64 0)]⟩, ⟨none, .st (.t 3) 2 (.t 8)⟩]) (.seq (.seq (.reg [⟨none, .fa 9 (.t 1) 0⟩, ⟨none, .ld 10 1 false (.t 9)⟩, ⟨none, .len 11 (.t 10)⟩, ⟨none, .mv 12 (.c (.sc (.i .i64 0)))⟩]) (.block 0 (.loop (.seq (.reg [⟨none, .bin 13 .lss (.t 12) (.t 11)⟩]) (.seq (.cond (.t 13) .skip (.exit 0)) (.seq (.block 1 (.seq (.reg [⟨none, .ia 14 4 (.t 10) (.t 12)⟩, ⟨none, .ld 15 4 true (.t 14)⟩, ⟨none, .alloc 5 [.sc (.s []), .sc (.s []), .sl 3 [] .full, .sl 8 [] .full]⟩, ⟨none, .st (.t 5) 4 (.t 15)⟩]) (.regD [⟨none, .ld 16 2 true (.t 3)⟩, ⟨none, .fa 17 (.t 5) 3⟩, ⟨none, .ld 18 1 false (.t 17)⟩, ⟨none, .call (some 19) (.c (.fn 100 [])) [.t 18]⟩, ⟨none, .call (some 20) (.c (.fn 102 [])) [.t 19]⟩, ⟨none, .call (some 21) (.c (.fn 101 [])) [.t 16, .t 20]⟩, ⟨none, .st (.t 3) 2 (.t 21)⟩] [0, 0, 2, 6, 14, 31, 63]))) (.reg [⟨none, .bin 22 .add (.t 12) (.c (.sc (.i .i64 1)))⟩, ⟨none, .mv 12 (.t 22)⟩]))))))) (.seq (.reg [⟨none, .ld 23 2 true (.t 3)⟩, ⟨none, .st (.t 2) 2 (.t 23)⟩]) .ret))), [(2, 2)], 24⟩
def F18 : Fn := ⟨.seq (.reg [⟨none, .box 1 (.t 0)⟩, ⟨none, .mv 2 (.c (.sc (.b false)))⟩]) (.seq (.reg [⟨none, .ld 3 2 true (.t 1)⟩, ⟨none, .call (some 4) (.c (.fn 50 [])) [.t 3]⟩, ⟨none, .call (some 5) (.c (.fn 51 [])) [.t 4]⟩, ⟨none, .mv 6 (.t 5)⟩, ⟨some (6, true), .ld 7 2 true (.t 1)⟩, ⟨some (6, true), .call (some 8) (.c (.fn 52 [])) [.t 7]⟩, ⟨none, .pick 9 (.t 6) (.t 8) (.c (.sc (.b false)))⟩, ⟨none, .mv 2 (.t 9)⟩]) .ret), [(2, 0)], 10⟩
def F26 : Fn := ⟨.seq (.reg [⟨none, .box 1 (.t 0)⟩, ⟨none, .mv 2 (.c (.sc (.b false)))⟩]) (.seq (.reg [⟨none, .ld 4 4 true (.t 1)⟩, ⟨none, .bsl 5 4 [.t 4]⟩, ⟨none, .mv 3 (.t 5)⟩]) (.seq (.reg [⟨none, .mv 6 (.t 3)⟩, ⟨none, .call (some 7) (.c (.fn 68 [])) [.t 6]⟩, ⟨none, .call (some 8) (.c (.fn 51 [])) [.t 7]⟩, ⟨none, .mv 9 (.t 8)⟩, ⟨some (9, true), .mv 10 (.t 3)⟩, ⟨some (9, true), .call (some 11) (.c (.fn 69 [])) [.t 10]⟩, ⟨none, .pick 12 (.t 9) (.t 11) (.c (.sc (.b false)))⟩, ⟨none, .mv 2 (.t 12)⟩]) .ret)), [(2, 0)], 13⟩
theorem F100_ok : compT Tryz.prog (fun _ => an0) 100 = some F100 := by kernel_rfl
theorem F50_ok : compT Tryz.prog (fun _ => an0) 50 = some F50 := by kernel_rfl
theorem F18_ok : compT Tryz.prog (fun _ => an0) 18 = some F18 := by kernel_rfl
theorem F26_ok : compT Tryz.prog (fun _ => an0) 26 = some F26 := by kernel_rfl
set_option maxHeartbeats 8000000 in
theorem b100 (W0 : Go.World) (l : List Stm) (hl : l.length ≤ 140737488355328) (ol : oksB l) (hn : nB l ≤ 1152921504606846976) (hc : ∀ x, x.length ≤ 140737488355328 → oksB x → nB x ≤ 1152921504606846976 → SizeOf.sizeOf x < SizeOf.sizeOf l → Ctr Tryz.prog W0 100 [eB x] [] (pairA (nB x) (dpB x)) []) : Body (Ctr Tryz.prog W0) F100.ac F100.rs [eB l] [] (pairA (nB l) (dpB l)) [] := by
  conv => whnf
  refine .st (α := Nat × Int × Int) 2000 (fun s => l.length - s.1) (fun s => [(.s 2, .av (.ptr 1000 0)), (.s 3, .av (.ptr 1100 0)), (.b 1000, .bx [.sc (.i .i64 0), .sc (.i .i64 0)]), (.b 1100, .bx [.sc (.i .i64 s.2.1), .sc (.i .i64 s.2.2)]), (.s 9, .av (eB l)), (.s 10, .av (.sc (.i .i64 ((stmsD l).length : Nat)))), (.s 11, .av (.sc (.i .i64 (s.1 : Nat))))])
    (fun s => s.1 ≤ l.length ∧ nB l = s.2.1 + nB (l.drop s.1) ∧ dpB l = max s.2.2 (dpB (l.drop s.1)) ∧ 0 ≤ s.2.1 ∧ 0 ≤ s.2.2 ∧ s.2.2 ≤ s.2.1) (0, 0, 0) ?_ ⟨Nat.zero_le _, by simp, by simp; have := (dpB_le l).1; omega, by simp, by simp, by simp⟩ ?_
  · (refine le_of rfl rfl ?_; repeat' (first | exact rfl | exact trivial | refine ⟨?_, ?_⟩))
  · rintro ⟨k, a, d⟩ ⟨hk, he, hd, ha0, hd0, hda⟩
    simp only at hk he hd ha0 hd0 hda
    conv => whnf
    refine brec (fun h2 => ?_) (fun h2 => ?_)
    · simp only [stmsD_length, decide_eq_false_iff_not] at h2
      have e1 : l.drop k = [] := by simp; omega
      rw [e1] at he hd
      simp only [nB, dpB] at he hd
      conv => whnf
      have e2 : a = nB l := by omega
      have e3 : d = dpB l := by omega
      subst e2; subst e3
      (refine fin0 rfl ?_ rfl; repeat' (first | exact rfl | exact trivial | refine ⟨?_, ?_⟩))
    · simp only [stmsD_length, decide_eq_true_eq] at h2
      obtain ⟨x, hx⟩ := get_of_lt (l := l) (k := k) (by omega)
      have dx := stmsD_get hx
      have ox := oksB_get ol hx
      have sx := size_getB hx
      rw [drop_get hx] at he hd
      simp only [nB, dpB] at he hd
      cases x with | mk o nm tx n ns es fs bs =>
      simp only [nS, dpS] at he hd
      have p1 := nL_pos es
      have p2 := dpL_le es
      have p3 := nB_pos (l.drop (k + 1))
      have p4 := nBs_pos bs
      have p5 := dpBs_le bs
      conv => whnf
      refine ⟨_, ⟨Int.natCast_nonneg _, dx⟩, ?_⟩
      conv => whnf
      refine callP.pure _ (c68 W0 es ox.2.2.1.1 ox.2.2.1.2 (by omega)) ⟨rfl, rfl⟩ ?_
      conv => whnf
      refine .st (α := Nat × Int × Int) 4000 (fun s => bs.length - s.1) (fun s => [(.s 2, .av (.ptr 1000 0)), (.s 3, .av (.ptr 1100 0)), (.b 1000, .bx [.sc (.i .i64 0), .sc (.i .i64 0)]), (.b 1100, .bx [.sc (.i .i64 a), .sc (.i .i64 d)]), (.s 9, .av (eB l)), (.s 10, .av (.sc (.i .i64 ((stmsD l).length : Nat)))), (.s 11, .av (.sc (.i .i64 (k : Nat)))), (.s 6, .av (.ptr 2800 0)), (.b 2800, .bx [.sc (.i .i64 s.2.1), .sc (.i .i64 s.2.2)]), (.s 19, .av (eBs bs)), (.s 20, .av (.sc (.i .i64 ((bodiesD bs).length : Nat)))), (.s 21, .av (.sc (.i .i64 (s.1 : Nat))))])
        (fun s => s.1 ≤ bs.length ∧ nL es + nBs bs = s.2.1 + nBs (bs.drop s.1) ∧ max (dpL es) (dpBs bs) = max s.2.2 (dpBs (bs.drop s.1)) ∧ 0 ≤ s.2.1 ∧ 0 ≤ s.2.2 ∧ s.2.2 ≤ s.2.1) (0, nL es, dpL es) ?_ ⟨Nat.zero_le _, by simp, by simp, by simp; omega, by simp; omega, by simp; omega⟩ ?_
      · (refine le_of rfl rfl ?_; repeat' (first | exact rfl | exact trivial | refine ⟨?_, ?_⟩))
      · rintro ⟨j, c, e⟩ ⟨hj, hje, hjd, hc0, he0, hec⟩
        simp only at hj hje hjd hc0 he0 hec
        conv => whnf
        refine brec (fun g2 => ?_) (fun g2 => ?_)
        · simp only [bodiesD_length, decide_eq_false_iff_not] at g2
          have e1 : bs.drop j = [] := by simp; have := ox.2.2.2.2.1; omega
          rw [e1] at hje hjd
          simp only [nBs, dpBs] at hje hjd
          conv => whnf
          refine callP.pure _ (c102 W0 c e (by constructor <;> omega) (by constructor <;> omega)) ⟨rfl, rfl⟩ ?_
          conv => whnf
          refine callP.pure _ (c101 W0 a d (c + 1) (e + 1) (by constructor <;> omega)) ⟨rfl, rfl⟩ ?_
          conv => whnf
          refine And.intro (by constructor <;> omega) ?_
          conv => whnf
          refine nxt (k + 1, a + (c + 1), max d (e + 1)) ⟨by simp only; omega, by simp only; omega, by simp only; omega, by simp only; omega, by simp only; omega, by simp only; omega, by simp only; omega⟩ ?_
          (refine le_of rfl rfl ?_; repeat' (first | exact rfl | exact trivial | refine ⟨?_, ?_⟩))
        · simp only [bodiesD_length, decide_eq_true_eq] at g2
          obtain ⟨y, hy⟩ := get_of_lt (l := bs) (k := j) (by omega)
          have dy := bodiesD_get hy
          have oy := oksBs_get ox.2.2.2.2.2 hy
          have sy := size_getBs hy
          have ny := nBs_mem (List.mem_of_getElem? hy)
          rw [drop_get hy] at hje hjd
          simp only [nBs, dpBs] at hje hjd
          have q1 := nB_pos y
          have q2 := dpB_le y
          have q3 := nBs_pos (bs.drop (j + 1))
          have hbl := ox.2.2.2.2.1
          conv => whnf
          refine ⟨_, ⟨Int.natCast_nonneg _, dy⟩, ?_⟩
          conv => whnf
          refine callP.pure _ (hc y oy.1 oy.2 (by omega) (by simp at sx; omega)) ⟨rfl, rfl⟩ ?_
          conv => whnf
          refine callP.pure _ (c101 W0 c e (nB y) (dpB y) (by constructor <;> omega)) ⟨rfl, rfl⟩ ?_
          conv => whnf
          refine And.intro (by constructor <;> omega) ?_
          conv => whnf
          refine nxt (j + 1, c + nB y, max e (dpB y)) ⟨by simp only; omega, by simp only; omega, by simp only; omega, by simp only; omega, by simp only; omega, by simp only; omega, by simp only; omega⟩ ?_
          (refine le_of rfl rfl ?_; repeat' (first | exact rfl | exact trivial | refine ⟨?_, ?_⟩))
theorem c100s (W0 : Go.World) : ∀ (n : Nat) (l : List Stm), SizeOf.sizeOf l < n → l.length ≤ 140737488355328 → oksB l → nB l ≤ 1152921504606846976 → Ctr Tryz.prog W0 100 [eB l] [] (pairA (nB l) (dpB l)) []
  | 0, _, h, _, _, _ => absurd h (Nat.not_lt_zero _)
  | n + 1, l, h, hl, ol, hn => ctr_body follows F100_ok rfl (fun _ _ h => by cases h) rfl (by rfl) (b100 W0 l hl ol hn fun x hx ox nx sx => c100s W0 n x (by omega) hx ox nx)
theorem c100 (W0 : Go.World) (l : List Stm) (hl : l.length ≤ 140737488355328) (ol : oksB l) (hn : nB l ≤ 1152921504606846976) : Ctr Tryz.prog W0 100 [eB l] [] (pairA (nB l) (dpB l)) [] := c100s W0 _ l (Nat.lt_succ_self _) hl ol hn
def nPs : List Prc → Int | [] => 0 | p :: r => nB p.body + 1 + nPs r
def dpPs : List Prc → Int | [] => 0 | p :: r => max (dpB p.body + 1) (dpPs r)
theorem nPs_pos : ∀ l, 0 ≤ nPs l | [] => by simp [nPs] | p :: r => by simp only [nPs]; have := nB_pos p.body; have := nPs_pos r; omega
theorem dpPs_le : ∀ l, 0 ≤ dpPs l ∧ dpPs l ≤ nPs l | [] => by simp [nPs, dpPs] | p :: r => by simp only [nPs, dpPs]; have := dpB_le p.body; have := dpPs_le r; have := nPs_pos r; have := nB_pos p.body; omega
def nG (g : Prg) : Int := nB g.body + nPs g.procs
def dpG (g : Prg) : Int := max (dpB g.body) (dpPs g.procs)
theorem nPs_mem : ∀ {l : List Prc} {x : Prc}, x ∈ l → nB x.body ≤ nPs l
  | y :: r, x, hx => by
    have p1 := nB_pos y.body
    have p2 := nPs_pos r
    simp only [nPs]
    rcases List.mem_cons.1 hx with rfl | hx
    · omega
    · have := nPs_mem hx; omega
set_option maxHeartbeats 8000000 in
theorem b50 (W0 : Go.World) (x : Prg) (hx0 : x.ok) (hn : nG x ≤ 1152921504606846976) : Body (Ctr Tryz.prog W0) F50.ac F50.rs [eG x] [] (pairA (nG x) (dpG x)) [] := by
  obtain ⟨procs, body⟩ := x
  simp only [nG] at hn
  have z1 := nB_pos body
  have z2 := nPs_pos procs
  have z3 := dpB_le body
  have hl : procs.length ≤ 140737488355328 := hx0.1.1
  conv => whnf
  refine callP.pure _ (c100 W0 body hx0.2.1 hx0.2.2 (by omega)) ⟨rfl, rfl⟩ ?_
  conv => whnf
  refine .st (α := Nat × Int × Int) 2000 (fun s => procs.length - s.1) (fun s => [(.s 2, .av (.ptr 1100 0)), (.s 3, .av (.ptr 1500 0)), (.b 1100, .bx [.sc (.i .i64 0), .sc (.i .i64 0)]), (.b 1500, .bx [.sc (.i .i64 s.2.1), .sc (.i .i64 s.2.2)]), (.s 10, .av (ePL procs)), (.s 11, .av (.sc (.i .i64 ((prcsD procs).length : Nat)))), (.s 12, .av (.sc (.i .i64 (s.1 : Nat))))])
    (fun s => s.1 ≤ procs.length ∧ nB body + nPs procs = s.2.1 + nPs (procs.drop s.1) ∧ max (dpB body) (dpPs procs) = max s.2.2 (dpPs (procs.drop s.1)) ∧ 0 ≤ s.2.1 ∧ 0 ≤ s.2.2 ∧ s.2.2 ≤ s.2.1) (0, nB body, dpB body) ?_ ⟨Nat.zero_le _, by simp, by simp, by simp; omega, by simp; omega, by simp; omega⟩ ?_
  · (refine le_of rfl rfl ?_; repeat' (first | exact rfl | exact trivial | refine ⟨?_, ?_⟩))
  · rintro ⟨k, a, d⟩ ⟨hk, he, hd, ha0, hd0, hda⟩
    simp only at hk he hd ha0 hd0 hda
    conv => whnf
    refine brec (fun h2 => ?_) (fun h2 => ?_)
    · simp only [prcsD_length, decide_eq_false_iff_not] at h2
      have e1 : procs.drop k = [] := by simp; omega
      rw [e1] at he hd
      simp only [nPs, dpPs] at he hd
      conv => whnf
      have e2 : nG ⟨procs, body⟩ = a := by simp only [nG]; omega
      have e3 : dpG ⟨procs, body⟩ = d := by simp only [dpG]; omega
      rw [e2, e3]
      (refine fin0 rfl ?_ rfl; repeat' (first | exact rfl | exact trivial | refine ⟨?_, ?_⟩))
    · simp only [prcsD_length, decide_eq_true_eq] at h2
      obtain ⟨x, hx⟩ := get_of_lt (l := procs) (k := k) (by omega)
      have dx := prcsD_get hx
      have ox := hx0.1.2 _ (List.mem_of_getElem? hx)
      have nx := nPs_mem (List.mem_of_getElem? hx)
      rw [drop_get hx] at he hd
      obtain ⟨nm, res, ps, bd⟩ := x
      simp only [nPs, dpPs] at he hd nx
      have p1 := nB_pos bd
      have p2 := dpB_le bd
      have p3 := nPs_pos (procs.drop (k + 1))
      conv => whnf
      refine ⟨_, ⟨Int.natCast_nonneg _, dx⟩, ?_⟩
      conv => whnf
      refine callP.pure _ (c100 W0 bd ox.2.2.1 ox.2.2.2 (by omega)) ⟨rfl, rfl⟩ ?_
      conv => whnf
      refine callP.pure _ (c102 W0 (nB bd) (dpB bd) (by constructor <;> omega) (by constructor <;> omega)) ⟨rfl, rfl⟩ ?_
      conv => whnf
      refine callP.pure _ (c101 W0 a d (nB bd + 1) (dpB bd + 1) (by constructor <;> omega)) ⟨rfl, rfl⟩ ?_
      conv => whnf
      refine And.intro (by constructor <;> omega) ?_
      conv => whnf
      refine nxt (k + 1, a + (nB bd + 1), max d (dpB bd + 1)) ⟨by simp only; omega, by simp only; omega, by simp only; omega, by simp only; omega, by simp only; omega, by simp only; omega, by simp only; omega⟩ ?_
      (refine le_of rfl rfl ?_; repeat' (first | exact rfl | exact trivial | refine ⟨?_, ?_⟩))
theorem c50 (W0 : Go.World) (x : Prg) (hx : x.ok) (hn : nG x ≤ 1152921504606846976) : Ctr Tryz.prog W0 50 [eG x] [] (pairA (nG x) (dpG x)) [] :=
  ctr_body follows F50_ok rfl (fun _ _ h => by cases h) rfl (by rfl) (b50 W0 x hx hn)
def validG (x : Prg) : Bool := (decide (nG x ≤ 1500) && decide (dpG x ≤ 60)) && prgB x
def validE (x : Exp) : Bool := (decide (nE x ≤ 1500) && decide (dpE x ≤ 60)) && wellE x
set_option maxHeartbeats 2000000 in
theorem b18 (W0 : Go.World) (hk : Wk W0) (x : Prg) (hx : x.ok) (hn : nG x ≤ 1152921504606846976) : Body (Ctr Tryz.prog W0) F18.ac F18.rs [eG x] [] (.sc (.b (validG x))) [] := by
  obtain ⟨procs, body⟩ := x
  repeat' ((conv => whnf); (first | with_reducible refine brec (fun _ => ?_) (fun _ => ?_) | (refine callP.pure _ (c50 W0 ⟨procs, body⟩ hx hn) ⟨rfl, rfl⟩ ?_) | (refine callP.pure _ (c51 W0 (nG ⟨procs, body⟩) (dpG ⟨procs, body⟩)) ⟨rfl, rfl⟩ ?_) | (refine callP.pure _ (c52 W0 hk ⟨procs, body⟩ hx) ⟨rfl, rfl⟩ ?_) | fail))
  all_goals ((conv => whnf); (refine fin_b ?_; simp_all [validG]; try (intros; omega)))
theorem c18 (W0 : Go.World) (hk : Wk W0) (x : Prg) (hx : x.ok) (hn : nG x ≤ 1152921504606846976) : Ctr Tryz.prog W0 18 [eG x] [] (.sc (.b (validG x))) [] :=
  ctr_body follows F18_ok rfl (fun _ _ h => by cases h) rfl (by rfl) (b18 W0 hk x hx hn)
end Go.Abs
