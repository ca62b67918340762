/- The words of an expression: the reference. -/
import Derived.Test.YthmcdebdkbhbmaaGreatDoorMi
set_option maxRecDepth 100000
namespace Go.Abs
open Go.Proofs
def F67 : Fn := ⟨.seq (.reg [⟨none, .box 1 (.t 0)⟩, ⟨none, .mv 2 (.c (.sl 1 [] .full))⟩]) (.seq (.seq (.reg [⟨none, .fa 5 (.t 1) 0⟩, ⟨none, .ld 6 1 false (.t 5)⟩]) (.block 0 (.seq (.reg [⟨none, .bin 8 .eql (.t 6) (.c (.sc (.s [105, 110, 116])))⟩, ⟨none, .mv 7 (.t 8)⟩]) (.cond (.t 7) (.seq (.reg [⟨none, .fa 9 (.t 1) 2⟩, ⟨none, .ld 10 1 false (.t 9)⟩, ⟨none, .call (some 11) (.c (.fn 86 [])) [.t 10]⟩, ⟨none, .bsl 12 1 [.t 11]⟩, ⟨none, .call (some 13) (.c (.fn 91 [])) [.t 12]⟩, ⟨none, .mv 2 (.t 13)⟩]) .ret) (.seq (.reg [⟨none, .bin 15 .eql (.t 6) (.c (.sc (.s [98, 111, 111, 108])))⟩, ⟨none, .mv 14 (.t 15)⟩]) (.cond (.t 14) (.seq (.seq (.reg [⟨none, .fa 16 (.t 1) 2⟩, ⟨none, .ld 17 1 false (.t 16)⟩, ⟨none, .bin 18 .eql (.t 17) (.c (.sc (.i .i64 1)))⟩]) (.cond (.t 18) (.seq (.reg [⟨none, .bsl 19 1 [.c (.sc (.s [116, 114, 117, 101]))]⟩, ⟨none, .call (some 20) (.c (.fn 91 [])) [.t 19]⟩, ⟨none, .mv 2 (.t 20)⟩]) .ret) .skip)) (.seq (.reg [⟨none, .bsl 21 1 [.c (.sc (.s [102, 97, 108, 115, 101]))]⟩, ⟨none, .call (some 22) (.c (.fn 91 [])) [.t 21]⟩, ⟨none, .mv 2 (.t 22)⟩]) .ret)) (.seq (.reg [⟨none, .bin 24 .eql (.t 6) (.c (.sc (.s [118, 97, 114])))⟩, ⟨none, .mv 23 (.t 24)⟩]) (.cond (.t 23) (.seq (.reg [⟨none, .fa 25 (.t 1) 1⟩, ⟨none, .ld 26 1 false (.t 25)⟩, ⟨none, .bsl 27 1 [.t 26]⟩, ⟨none, .call (some 28) (.c (.fn 91 [])) [.t 27]⟩, ⟨none, .mv 2 (.t 28)⟩]) .ret) (.seq (.reg [⟨none, .bin 30 .eql (.t 6) (.c (.sc (.s [111, 112])))⟩, ⟨none, .mv 29 (.t 30)⟩]) (.cond (.t 29) (.seq (.seq (.reg [⟨none, .fa 31 (.t 1) 3⟩, ⟨none, .ld 32 1 false (.t 31)⟩, ⟨none, .len 33 (.t 32)⟩, ⟨none, .bin 34 .eql (.t 33) (.c (.sc (.i .i64 2)))⟩, ⟨none, .mv 35 (.t 34)⟩, ⟨some (35, true), .fa 36 (.t 1) 1⟩, ⟨some (35, true), .ld 37 1 false (.t 36)⟩, ⟨some (35, true), .bin 38 .neq (.t 37) (.c (.sc (.s [109, 105, 110])))⟩, ⟨none, .pick 39 (.t 35) (.t 38) (.c (.sc (.b false)))⟩, ⟨none, .mv 40 (.t 39)⟩, ⟨some (40, true), .fa 41 (.t 1) 1⟩, ⟨some (40, true), .ld 42 1 false (.t 41)⟩, ⟨some (40, true), .bin 43 .neq (.t 42) (.c (.sc (.s [109, 97, 120])))⟩, ⟨none, .pick 44 (.t 40) (.t 43) (.c (.sc (.b false)))⟩]) (.cond (.t 44) (.seq (.regD [⟨none, .bsl 45 1 [.c (.sc (.s [40]))]⟩, ⟨none, .call (some 46) (.c (.fn 91 [])) [.t 45]⟩, ⟨none, .fa 47 (.t 1) 3⟩, ⟨none, .ld 48 1 false (.t 47)⟩, ⟨none, .ia 49 4 (.t 48) (.c (.sc (.i .i64 0)))⟩, ⟨none, .ld 50 4 true (.t 49)⟩, ⟨none, .call (some 51) (.c (.fn 67 [])) [.t 50]⟩, ⟨none, .fa 52 (.t 1) 1⟩, ⟨none, .ld 53 1 false (.t 52)⟩, ⟨none, .bsl 54 1 [.t 53]⟩, ⟨none, .call (some 55) (.c (.fn 91 [])) [.t 54]⟩, ⟨none, .fa 56 (.t 1) 3⟩, ⟨none, .ld 57 1 false (.t 56)⟩, ⟨none, .ia 58 4 (.t 57) (.c (.sc (.i .i64 1)))⟩, ⟨none, .ld 59 4 true (.t 58)⟩, ⟨none, .call (some 60) (.c (.fn 67 [])) [.t 59]⟩, ⟨none, .bsl 61 1 [.c (.sc (.s [41]))]⟩, ⟨none, .call (some 62) (.c (.fn 91 [])) [.t 61]⟩, ⟨none, .bsl 63 1 [.t 46, .t 51, .t 55, .t 60, .t 62]⟩, ⟨none, .call (some 64) (.c (.fn 92 [])) [.t 63]⟩, ⟨none, .mv 2 (.t 64)⟩] [0, 1, 0, 4, 12, 28, 63, 0, 128, 384, 1023, 0, 2048, 6144, 14336, 32767, 0, 131071, 262143, 524287, 1048575]) .ret) .skip)) (.seq (.reg [⟨none, .fa 65 (.t 1) 1⟩, ⟨none, .ld 66 1 false (.t 65)⟩, ⟨none, .bsl 67 1 [.c (.sc (.s [40])), .t 66]⟩, ⟨none, .call (some 68) (.c (.fn 91 [])) [.t 67]⟩, ⟨none, .mv 3 (.t 68)⟩]) (.seq (.seq (.reg [⟨none, .mv 4 (.c (.sc (.i .i64 0)))⟩]) (.block 1 (.loop (.seq (.seq (.reg [⟨none, .mv 69 (.t 4)⟩, ⟨none, .fa 70 (.t 1) 3⟩, ⟨none, .ld 71 1 false (.t 70)⟩, ⟨none, .len 72 (.t 71)⟩, ⟨none, .bin 73 .lss (.t 69) (.t 72)⟩]) (.cond (.t 73) .skip (.exit 1))) (.seq (.block 2 (.reg [⟨none, .mv 76 (.t 3)⟩, ⟨none, .fa 77 (.t 1) 3⟩, ⟨none, .ld 78 1 false (.t 77)⟩, ⟨none, .mv 79 (.t 4)⟩, ⟨none, .ia 80 4 (.t 78) (.t 79)⟩, ⟨none, .ld 81 4 true (.t 80)⟩, ⟨none, .call (some 82) (.c (.fn 67 [])) [.t 81]⟩, ⟨none, .app 83 1 16 (.t 76) (.t 82)⟩, ⟨none, .mv 3 (.t 83)⟩])) (.reg [⟨none, .mv 74 (.t 4)⟩, ⟨none, .bin 75 .add (.t 74) (.c (.sc (.i .i64 1)))⟩, ⟨none, .mv 4 (.t 75)⟩])))))) (.seq (.reg [⟨none, .mv 84 (.t 3)⟩, ⟨none, .bsl 85 1 [.c (.sc (.s [41]))]⟩, ⟨none, .app 86 1 16 (.t 84) (.t 85)⟩, ⟨none, .mv 2 (.t 86)⟩]) .ret)))) (.seq (.seq (.reg [⟨none, .bin 88 .eql (.t 6) (.c (.sc (.s [110, 111, 110, 101])))⟩, ⟨none, .mv 87 (.t 88)⟩]) (.cond (.t 87) .skip (.seq (.reg [⟨none, .bin 89 .eql (.t 6) (.c (.sc (.s [114, 101, 97, 100])))⟩, ⟨none, .mv 87 (.t 89)⟩]) (.cond (.t 87) .skip (.seq (.reg [⟨none, .bin 90 .eql (.t 6) (.c (.sc (.s [103, 101, 116])))⟩, ⟨none, .mv 87 (.t 90)⟩]) (.cond (.t 87) .skip (.reg [⟨none, .bin 91 .eql (.t 6) (.c (.sc (.s [99, 111, 117, 110, 116])))⟩, ⟨none, .mv 87 (.t 91)⟩]))))))) (.cond (.t 87) (.seq (.reg [⟨none, .fa 92 (.t 1) 0⟩, ⟨none, .ld 93 1 false (.t 92)⟩, ⟨none, .fa 94 (.t 1) 1⟩, ⟨none, .ld 95 1 false (.t 94)⟩, ⟨none, .bsl 96 1 [.c (.sc (.s [40])), .t 93, .t 95, .c (.sc (.s [41]))]⟩, ⟨none, .call (some 97) (.c (.fn 91 [])) [.t 96]⟩, ⟨none, .mv 2 (.t 97)⟩]) .ret) (.seq (.reg [⟨none, .bin 99 .eql (.t 6) (.c (.sc (.s [97, 116])))⟩, ⟨none, .mv 98 (.t 99)⟩]) (.cond (.t 98) (.seq (.regD [⟨none, .fa 100 (.t 1) 1⟩, ⟨none, .ld 101 1 false (.t 100)⟩, ⟨none, .bsl 102 1 [.t 101, .c (.sc (.s [91]))]⟩, ⟨none, .call (some 103) (.c (.fn 91 [])) [.t 102]⟩, ⟨none, .fa 104 (.t 1) 3⟩, ⟨none, .ld 105 1 false (.t 104)⟩, ⟨none, .call (some 106) (.c (.fn 94 [])) [.t 105]⟩, ⟨none, .bsl 107 1 [.c (.sc (.s [93]))]⟩, ⟨none, .call (some 108) (.c (.fn 91 [])) [.t 107]⟩, ⟨none, .bsl 109 1 [.t 103, .t 106, .t 108]⟩, ⟨none, .call (some 110) (.c (.fn 92 [])) [.t 109]⟩, ⟨none, .mv 2 (.t 110)⟩] [0, 1, 3, 7, 0, 16, 63, 0, 255, 511, 1023, 2047]) .ret) (.seq (.reg [⟨none, .bin 112 .eql (.t 6) (.c (.sc (.s [99, 97, 108, 108])))⟩, ⟨none, .mv 111 (.t 112)⟩]) (.cond (.t 111) (.seq (.regD [⟨none, .fa 113 (.t 1) 1⟩, ⟨none, .ld 114 1 false (.t 113)⟩, ⟨none, .bsl 115 1 [.t 114, .c (.sc (.s [40]))]⟩, ⟨none, .call (some 116) (.c (.fn 91 [])) [.t 115]⟩, ⟨none, .fa 117 (.t 1) 3⟩, ⟨none, .ld 118 1 false (.t 117)⟩, ⟨none, .call (some 119) (.c (.fn 94 [])) [.t 118]⟩, ⟨none, .bsl 120 1 [.c (.sc (.s [41]))]⟩, ⟨none, .call (some 121) (.c (.fn 91 [])) [.t 120]⟩, ⟨none, .bsl 122 1 [.t 116, .t 119, .t 121]⟩, ⟨none, .call (some 123) (.c (.fn 92 [])) [.t 122]⟩, ⟨none, .mv 2 (.t 123)⟩] [0, 1, 3, 7, 0, 16, 63, 0, 255, 511, 1023, 2047]) .ret) (.seq (.seq (.reg [⟨none, .bin 125 .eql (.t 6) (.c (.sc (.s [108, 111, 119])))⟩, ⟨none, .mv 124 (.t 125)⟩]) (.cond (.t 124) .skip (.reg [⟨none, .bin 126 .eql (.t 6) (.c (.sc (.s [104, 105, 103, 104])))⟩, ⟨none, .mv 124 (.t 126)⟩]))) (.cond (.t 124) (.seq (.regD [⟨none, .fa 127 (.t 1) 0⟩, ⟨none, .ld 128 1 false (.t 127)⟩, ⟨none, .fa 129 (.t 1) 1⟩, ⟨none, .ld 130 1 false (.t 129)⟩, ⟨none, .fa 131 (.t 1) 2⟩, ⟨none, .ld 132 1 false (.t 131)⟩, ⟨none, .call (some 133) (.c (.fn 86 [])) [.t 132]⟩, ⟨none, .bsl 134 1 [.c (.sc (.s [40])), .t 128, .t 130, .t 133, .c (.sc (.s [41]))]⟩, ⟨none, .call (some 135) (.c (.fn 91 [])) [.t 134]⟩, ⟨none, .mv 2 (.t 135)⟩] [0, 1, 0, 4, 0, 16, 48, 127, 255, 511]) .ret) (.seq (.seq (.reg [⟨none, .bin 137 .eql (.t 6) (.c (.sc (.s [111, 114, 100])))⟩, ⟨none, .mv 136 (.t 137)⟩]) (.cond (.t 136) .skip (.reg [⟨none, .bin 138 .eql (.t 6) (.c (.sc (.s [104, 97, 115])))⟩, ⟨none, .mv 136 (.t 138)⟩]))) (.cond (.t 136) (.seq (.regD [⟨none, .fa 139 (.t 1) 0⟩, ⟨none, .ld 140 1 false (.t 139)⟩, ⟨none, .fa 141 (.t 1) 1⟩, ⟨none, .ld 142 1 false (.t 141)⟩, ⟨none, .bsl 143 1 [.c (.sc (.s [40])), .t 140, .t 142, .c (.sc (.s [91]))]⟩, ⟨none, .call (some 144) (.c (.fn 91 [])) [.t 143]⟩, ⟨none, .fa 145 (.t 1) 3⟩, ⟨none, .ld 146 1 false (.t 145)⟩, ⟨none, .call (some 147) (.c (.fn 94 [])) [.t 146]⟩, ⟨none, .bsl 148 1 [.c (.sc (.s [93])), .c (.sc (.s [41]))]⟩, ⟨none, .call (some 149) (.c (.fn 91 [])) [.t 148]⟩, ⟨none, .bsl 150 1 [.t 144, .t 147, .t 149]⟩, ⟨none, .call (some 151) (.c (.fn 92 [])) [.t 150]⟩, ⟨none, .mv 2 (.t 151)⟩] [0, 1, 0, 4, 15, 31, 0, 64, 255, 0, 1023, 2047, 4095, 8191]) .ret) .skip)))))))))))))))))))) (.seq (.regD [⟨none, .fa 152 (.t 1) 0⟩, ⟨none, .ld 153 1 false (.t 152)⟩, ⟨none, .fa 154 (.t 1) 1⟩, ⟨none, .ld 155 1 false (.t 154)⟩, ⟨none, .fa 156 (.t 1) 2⟩, ⟨none, .ld 157 1 false (.t 156)⟩, ⟨none, .call (some 158) (.c (.fn 86 [])) [.t 157]⟩, ⟨none, .bsl 159 1 [.c (.sc (.s [40])), .t 153, .t 155, .t 158]⟩, ⟨none, .call (some 160) (.c (.fn 91 [])) [.t 159]⟩, ⟨none, .fa 161 (.t 1) 3⟩, ⟨none, .ld 162 1 false (.t 161)⟩, ⟨none, .ia 163 4 (.t 162) (.c (.sc (.i .i64 0)))⟩, ⟨none, .ld 164 4 true (.t 163)⟩, ⟨none, .call (some 165) (.c (.fn 67 [])) [.t 164]⟩, ⟨none, .bsl 166 1 [.c (.sc (.s [41]))]⟩, ⟨none, .call (some 167) (.c (.fn 91 [])) [.t 166]⟩, ⟨none, .bsl 168 1 [.t 160, .t 165, .t 167]⟩, ⟨none, .call (some 169) (.c (.fn 92 [])) [.t 168]⟩, ⟨none, .mv 2 (.t 169)⟩] [0, 1, 0, 4, 0, 16, 48, 127, 255, 0, 512, 1536, 3584, 8191, 0, 32767, 65535, 131071, 262143]) .ret)), [(2, 0)], 170⟩
theorem F67_ok : compT Tryz.prog (fun _ => an0) 67 = some F67 := by kernel_rfl
theorem head_tag {d nm : S} {n : Int} {k : Nat} (h : headE d nm n k = true) : d = [105, 110, 116] ∨ d = [98, 111, 111, 108] ∨ d = [118, 97, 114] ∨ d = [111, 112] ∨ d = [110, 111, 110, 101] ∨ d = [114, 101, 97, 100] ∨ d = [103, 101, 116] ∨ d = [99, 111, 117, 110, 116] ∨ d = [97, 116] ∨ d = [99, 97, 108, 108] ∨ d = [108, 111, 119] ∨ d = [104, 105, 103, 104] ∨ d = [111, 114, 100] ∨ d = [104, 97, 115] ∨ d = [110, 116, 104] := by
  apply Classical.byContradiction
  intro hn
  simp only [not_or] at hn
  obtain ⟨h0, h1, h2, h3, h4, h5, h6, h7, h8, h9, h10, h11, h12, h13, h14⟩ := hn
  simp [headE, hasB, beqL, h0, h1, h2, h3, h4, h5, h6, h7, h8, h9, h10, h11, h12, h13, h14] at h
theorem wR_op2 {nm : S} {n : Int} {l : List Exp} (h0 : decide ((↑(expsD l).length : Int) = 2) = true) (h1 : (!beqL nm [109, 105, 110]) = true) (h2 : (!beqL nm [109, 97, 120]) = true) : [[[40]], (wRs l).getD 0 [], [nm], (wRs l).getD 1 [], [[41]]].flatten = wR (.mk [111, 112] nm n l) := by
  have h : (decide (l.length = 2) && !hasB nm [[109, 105, 110], [109, 97, 120]]) = true := by
    simp only [expsD_length, decide_eq_true_eq] at h0
    have : l.length = 2 := by omega
    simp at h1 h2; simp [hasB, h1, h2, this]
  simp only [wR, h, cond_true]
  rfl
theorem fin67 {nm : S} {n : Int} {l : List Exp}
    (h : decide ((↑(expsD l).length : Int) = 2) = false ∨ (!beqL nm [109, 105, 110]) = false ∨ (!beqL nm [109, 97, 120]) = false) : [[40], nm] ++ (wRs l).flatten ++ [[41]] = wR (.mk [111, 112] nm n l) := by
  have : (decide (l.length = 2) && !hasB nm [[109, 105, 110], [109, 97, 120]]) = false := by
    rcases h with h | h | h
    · simp only [expsD_length, decide_eq_false_iff_not] at h
      have : ¬ l.length = 2 := by omega
      simp [this]
    · simp at h; simp [hasB, h]
    · simp at h; simp [hasB, h]
  simp only [wR, this, cond_false]
  rfl
set_option maxHeartbeats 8000000 in
theorem b67_int (W0 : Go.World) (hk : Wk W0) (nm : S) (n : Int) (l : List Exp) (hx : (Exp.mk [105, 110, 116] nm n l).ok) (hl0 : True) (hfl : (wRs l).flatten.length ≤ 2147483648) (hl : l.length ≤ 4194304)
    (hc : ∀ y, y ∈ l → Ctr Tryz.prog W0 67 [eE y] [] (.sl 1 (strsD (wR y)) .none) [])
    (ya yb : S) (yn : Int) (yl : List Exp) (h0 : 1 ≤ l.length → (expsD l)[0]? = some (Exp.mk ya yb yn yl).d) (hc0 : 1 ≤ l.length → Ctr Tryz.prog W0 67 [eE (.mk ya yb yn yl)] [] (.sl 1 (strsD ((wRs l).getD 0 [])) .none) [])
    (za zb : S) (zn : Int) (zl : List Exp) (h1 : 2 ≤ l.length → (expsD l)[1]? = some (Exp.mk za zb zn zl).d) (hc1 : 2 ≤ l.length → Ctr Tryz.prog W0 67 [eE (.mk za zb zn zl)] [] (.sl 1 (strsD ((wRs l).getD 1 [])) .none) []) :
    Body (Ctr Tryz.prog W0) F67.ac F67.rs [eE (.mk [105, 110, 116] nm n l)] [] (.sl 1 (strsD (wR (.mk [105, 110, 116] nm n l))) .none) [] := by
  have hused := And.intro h0 (And.intro hc0 (And.intro h1 (And.intro hc1 (And.intro hl0 (And.intro hx hc)))))
  clear hused
  have h2 := commaJ_len (wRs l)
  have h5 := wRs_length l
  have h6 := getD2_len (wRs l)
  repeat' ((conv => whnf); (first | with_reducible refine brec (fun _ => ?_) (fun _ => ?_) | (refine callP.pure _ (itoa_ctr W0 hk.pow n hx.1.2.2) ⟨rfl, rfl⟩ ?_) | (refine callP.full [] [] [.sl 1 _ .full] [] [] (.sl 1 _ .full) (c91 W0 _) ⟨rfl, rfl, rfl, rfl, rfl, rfl, rfl, rfl, rfl, rfl, ⟨⟨rfl, rfl, .inr rfl⟩, trivial⟩, trivial, trivial⟩ ?_) | fail))
  all_goals (conv => whnf)
  all_goals exact fin_sl (by simp only [wR]; rfl)
set_option maxHeartbeats 8000000 in
theorem b67_bool (W0 : Go.World) (hk : Wk W0) (nm : S) (n : Int) (l : List Exp) (hx : (Exp.mk [98, 111, 111, 108] nm n l).ok) (hl0 : True) (hfl : (wRs l).flatten.length ≤ 2147483648) (hl : l.length ≤ 4194304)
    (hc : ∀ y, y ∈ l → Ctr Tryz.prog W0 67 [eE y] [] (.sl 1 (strsD (wR y)) .none) [])
    (ya yb : S) (yn : Int) (yl : List Exp) (h0 : 1 ≤ l.length → (expsD l)[0]? = some (Exp.mk ya yb yn yl).d) (hc0 : 1 ≤ l.length → Ctr Tryz.prog W0 67 [eE (.mk ya yb yn yl)] [] (.sl 1 (strsD ((wRs l).getD 0 [])) .none) [])
    (za zb : S) (zn : Int) (zl : List Exp) (h1 : 2 ≤ l.length → (expsD l)[1]? = some (Exp.mk za zb zn zl).d) (hc1 : 2 ≤ l.length → Ctr Tryz.prog W0 67 [eE (.mk za zb zn zl)] [] (.sl 1 (strsD ((wRs l).getD 1 [])) .none) []) :
    Body (Ctr Tryz.prog W0) F67.ac F67.rs [eE (.mk [98, 111, 111, 108] nm n l)] [] (.sl 1 (strsD (wR (.mk [98, 111, 111, 108] nm n l))) .none) [] := by
  have hused := And.intro h0 (And.intro hc0 (And.intro h1 (And.intro hc1 (And.intro hl0 (And.intro hx hc)))))
  clear hused
  have h2 := commaJ_len (wRs l)
  have h5 := wRs_length l
  have h6 := getD2_len (wRs l)
  repeat' ((conv => whnf); (first | with_reducible refine brec (fun _ => ?_) (fun _ => ?_) | (refine callP.full [] [] [.sl 1 _ .full] [] [] (.sl 1 _ .full) (c91 W0 _) ⟨rfl, rfl, rfl, rfl, rfl, rfl, rfl, rfl, rfl, rfl, ⟨⟨rfl, rfl, .inr rfl⟩, trivial⟩, trivial, trivial⟩ ?_) | fail))
  all_goals (conv => whnf)
  all_goals exact fin_sl (by simp_all [wR, hasB, beqL, truthR, strsD])
set_option maxHeartbeats 8000000 in
theorem b67_var (W0 : Go.World) (hk : Wk W0) (nm : S) (n : Int) (l : List Exp) (hx : (Exp.mk [118, 97, 114] nm n l).ok) (hl0 : True) (hfl : (wRs l).flatten.length ≤ 2147483648) (hl : l.length ≤ 4194304)
    (hc : ∀ y, y ∈ l → Ctr Tryz.prog W0 67 [eE y] [] (.sl 1 (strsD (wR y)) .none) [])
    (ya yb : S) (yn : Int) (yl : List Exp) (h0 : 1 ≤ l.length → (expsD l)[0]? = some (Exp.mk ya yb yn yl).d) (hc0 : 1 ≤ l.length → Ctr Tryz.prog W0 67 [eE (.mk ya yb yn yl)] [] (.sl 1 (strsD ((wRs l).getD 0 [])) .none) [])
    (za zb : S) (zn : Int) (zl : List Exp) (h1 : 2 ≤ l.length → (expsD l)[1]? = some (Exp.mk za zb zn zl).d) (hc1 : 2 ≤ l.length → Ctr Tryz.prog W0 67 [eE (.mk za zb zn zl)] [] (.sl 1 (strsD ((wRs l).getD 1 [])) .none) []) :
    Body (Ctr Tryz.prog W0) F67.ac F67.rs [eE (.mk [118, 97, 114] nm n l)] [] (.sl 1 (strsD (wR (.mk [118, 97, 114] nm n l))) .none) [] := by
  have hused := And.intro h0 (And.intro hc0 (And.intro h1 (And.intro hc1 (And.intro hl0 (And.intro hx hc)))))
  clear hused
  have h2 := commaJ_len (wRs l)
  have h5 := wRs_length l
  have h6 := getD2_len (wRs l)
  repeat' ((conv => whnf); (first | with_reducible refine brec (fun _ => ?_) (fun _ => ?_) | (refine callP.full [] [] [.sl 1 _ .full] [] [] (.sl 1 _ .full) (c91 W0 _) ⟨rfl, rfl, rfl, rfl, rfl, rfl, rfl, rfl, rfl, rfl, ⟨⟨rfl, rfl, .inr rfl⟩, trivial⟩, trivial, trivial⟩ ?_) | fail))
  all_goals (conv => whnf)
  all_goals exact fin_sl (by simp only [wR]; rfl)
set_option maxHeartbeats 8000000 in
theorem b67_none (W0 : Go.World) (hk : Wk W0) (nm : S) (n : Int) (l : List Exp) (hx : (Exp.mk [110, 111, 110, 101] nm n l).ok) (hl0 : True) (hfl : (wRs l).flatten.length ≤ 2147483648) (hl : l.length ≤ 4194304)
    (hc : ∀ y, y ∈ l → Ctr Tryz.prog W0 67 [eE y] [] (.sl 1 (strsD (wR y)) .none) [])
    (ya yb : S) (yn : Int) (yl : List Exp) (h0 : 1 ≤ l.length → (expsD l)[0]? = some (Exp.mk ya yb yn yl).d) (hc0 : 1 ≤ l.length → Ctr Tryz.prog W0 67 [eE (.mk ya yb yn yl)] [] (.sl 1 (strsD ((wRs l).getD 0 [])) .none) [])
    (za zb : S) (zn : Int) (zl : List Exp) (h1 : 2 ≤ l.length → (expsD l)[1]? = some (Exp.mk za zb zn zl).d) (hc1 : 2 ≤ l.length → Ctr Tryz.prog W0 67 [eE (.mk za zb zn zl)] [] (.sl 1 (strsD ((wRs l).getD 1 [])) .none) []) :
    Body (Ctr Tryz.prog W0) F67.ac F67.rs [eE (.mk [110, 111, 110, 101] nm n l)] [] (.sl 1 (strsD (wR (.mk [110, 111, 110, 101] nm n l))) .none) [] := by
  have hused := And.intro h0 (And.intro hc0 (And.intro h1 (And.intro hc1 (And.intro hl0 (And.intro hx hc)))))
  clear hused
  have h2 := commaJ_len (wRs l)
  have h5 := wRs_length l
  have h6 := getD2_len (wRs l)
  repeat' ((conv => whnf); (first | with_reducible refine brec (fun _ => ?_) (fun _ => ?_) | (refine callP.full [] [] [.sl 1 _ .full] [] [] (.sl 1 _ .full) (c91 W0 _) ⟨rfl, rfl, rfl, rfl, rfl, rfl, rfl, rfl, rfl, rfl, ⟨⟨rfl, rfl, .inr rfl⟩, trivial⟩, trivial, trivial⟩ ?_) | fail))
  all_goals (conv => whnf)
  all_goals exact fin_sl (by simp only [wR]; rfl)
set_option maxHeartbeats 8000000 in
theorem b67_read (W0 : Go.World) (hk : Wk W0) (nm : S) (n : Int) (l : List Exp) (hx : (Exp.mk [114, 101, 97, 100] nm n l).ok) (hl0 : True) (hfl : (wRs l).flatten.length ≤ 2147483648) (hl : l.length ≤ 4194304)
    (hc : ∀ y, y ∈ l → Ctr Tryz.prog W0 67 [eE y] [] (.sl 1 (strsD (wR y)) .none) [])
    (ya yb : S) (yn : Int) (yl : List Exp) (h0 : 1 ≤ l.length → (expsD l)[0]? = some (Exp.mk ya yb yn yl).d) (hc0 : 1 ≤ l.length → Ctr Tryz.prog W0 67 [eE (.mk ya yb yn yl)] [] (.sl 1 (strsD ((wRs l).getD 0 [])) .none) [])
    (za zb : S) (zn : Int) (zl : List Exp) (h1 : 2 ≤ l.length → (expsD l)[1]? = some (Exp.mk za zb zn zl).d) (hc1 : 2 ≤ l.length → Ctr Tryz.prog W0 67 [eE (.mk za zb zn zl)] [] (.sl 1 (strsD ((wRs l).getD 1 [])) .none) []) :
    Body (Ctr Tryz.prog W0) F67.ac F67.rs [eE (.mk [114, 101, 97, 100] nm n l)] [] (.sl 1 (strsD (wR (.mk [114, 101, 97, 100] nm n l))) .none) [] := by
  have hused := And.intro h0 (And.intro hc0 (And.intro h1 (And.intro hc1 (And.intro hl0 (And.intro hx hc)))))
  clear hused
  have h2 := commaJ_len (wRs l)
  have h5 := wRs_length l
  have h6 := getD2_len (wRs l)
  repeat' ((conv => whnf); (first | with_reducible refine brec (fun _ => ?_) (fun _ => ?_) | (refine callP.full [] [] [.sl 1 _ .full] [] [] (.sl 1 _ .full) (c91 W0 _) ⟨rfl, rfl, rfl, rfl, rfl, rfl, rfl, rfl, rfl, rfl, ⟨⟨rfl, rfl, .inr rfl⟩, trivial⟩, trivial, trivial⟩ ?_) | fail))
  all_goals (conv => whnf)
  all_goals exact fin_sl (by simp only [wR]; rfl)
set_option maxHeartbeats 8000000 in
theorem b67_get (W0 : Go.World) (hk : Wk W0) (nm : S) (n : Int) (l : List Exp) (hx : (Exp.mk [103, 101, 116] nm n l).ok) (hl0 : True) (hfl : (wRs l).flatten.length ≤ 2147483648) (hl : l.length ≤ 4194304)
    (hc : ∀ y, y ∈ l → Ctr Tryz.prog W0 67 [eE y] [] (.sl 1 (strsD (wR y)) .none) [])
    (ya yb : S) (yn : Int) (yl : List Exp) (h0 : 1 ≤ l.length → (expsD l)[0]? = some (Exp.mk ya yb yn yl).d) (hc0 : 1 ≤ l.length → Ctr Tryz.prog W0 67 [eE (.mk ya yb yn yl)] [] (.sl 1 (strsD ((wRs l).getD 0 [])) .none) [])
    (za zb : S) (zn : Int) (zl : List Exp) (h1 : 2 ≤ l.length → (expsD l)[1]? = some (Exp.mk za zb zn zl).d) (hc1 : 2 ≤ l.length → Ctr Tryz.prog W0 67 [eE (.mk za zb zn zl)] [] (.sl 1 (strsD ((wRs l).getD 1 [])) .none) []) :
    Body (Ctr Tryz.prog W0) F67.ac F67.rs [eE (.mk [103, 101, 116] nm n l)] [] (.sl 1 (strsD (wR (.mk [103, 101, 116] nm n l))) .none) [] := by
  have hused := And.intro h0 (And.intro hc0 (And.intro h1 (And.intro hc1 (And.intro hl0 (And.intro hx hc)))))
  clear hused
  have h2 := commaJ_len (wRs l)
  have h5 := wRs_length l
  have h6 := getD2_len (wRs l)
  repeat' ((conv => whnf); (first | with_reducible refine brec (fun _ => ?_) (fun _ => ?_) | (refine callP.full [] [] [.sl 1 _ .full] [] [] (.sl 1 _ .full) (c91 W0 _) ⟨rfl, rfl, rfl, rfl, rfl, rfl, rfl, rfl, rfl, rfl, ⟨⟨rfl, rfl, .inr rfl⟩, trivial⟩, trivial, trivial⟩ ?_) | fail))
  all_goals (conv => whnf)
  all_goals exact fin_sl (by simp only [wR]; rfl)
set_option maxHeartbeats 8000000 in
theorem b67_count (W0 : Go.World) (hk : Wk W0) (nm : S) (n : Int) (l : List Exp) (hx : (Exp.mk [99, 111, 117, 110, 116] nm n l).ok) (hl0 : True) (hfl : (wRs l).flatten.length ≤ 2147483648) (hl : l.length ≤ 4194304)
    (hc : ∀ y, y ∈ l → Ctr Tryz.prog W0 67 [eE y] [] (.sl 1 (strsD (wR y)) .none) [])
    (ya yb : S) (yn : Int) (yl : List Exp) (h0 : 1 ≤ l.length → (expsD l)[0]? = some (Exp.mk ya yb yn yl).d) (hc0 : 1 ≤ l.length → Ctr Tryz.prog W0 67 [eE (.mk ya yb yn yl)] [] (.sl 1 (strsD ((wRs l).getD 0 [])) .none) [])
    (za zb : S) (zn : Int) (zl : List Exp) (h1 : 2 ≤ l.length → (expsD l)[1]? = some (Exp.mk za zb zn zl).d) (hc1 : 2 ≤ l.length → Ctr Tryz.prog W0 67 [eE (.mk za zb zn zl)] [] (.sl 1 (strsD ((wRs l).getD 1 [])) .none) []) :
    Body (Ctr Tryz.prog W0) F67.ac F67.rs [eE (.mk [99, 111, 117, 110, 116] nm n l)] [] (.sl 1 (strsD (wR (.mk [99, 111, 117, 110, 116] nm n l))) .none) [] := by
  have hused := And.intro h0 (And.intro hc0 (And.intro h1 (And.intro hc1 (And.intro hl0 (And.intro hx hc)))))
  clear hused
  have h2 := commaJ_len (wRs l)
  have h5 := wRs_length l
  have h6 := getD2_len (wRs l)
  repeat' ((conv => whnf); (first | with_reducible refine brec (fun _ => ?_) (fun _ => ?_) | (refine callP.full [] [] [.sl 1 _ .full] [] [] (.sl 1 _ .full) (c91 W0 _) ⟨rfl, rfl, rfl, rfl, rfl, rfl, rfl, rfl, rfl, rfl, ⟨⟨rfl, rfl, .inr rfl⟩, trivial⟩, trivial, trivial⟩ ?_) | fail))
  all_goals (conv => whnf)
  all_goals exact fin_sl (by simp only [wR]; rfl)
set_option maxHeartbeats 8000000 in
theorem b67_at (W0 : Go.World) (hk : Wk W0) (nm : S) (n : Int) (l : List Exp) (hx : (Exp.mk [97, 116] nm n l).ok) (hl0 : True) (hfl : (wRs l).flatten.length ≤ 2147483648) (hl : l.length ≤ 4194304)
    (hc : ∀ y, y ∈ l → Ctr Tryz.prog W0 67 [eE y] [] (.sl 1 (strsD (wR y)) .none) [])
    (ya yb : S) (yn : Int) (yl : List Exp) (h0 : 1 ≤ l.length → (expsD l)[0]? = some (Exp.mk ya yb yn yl).d) (hc0 : 1 ≤ l.length → Ctr Tryz.prog W0 67 [eE (.mk ya yb yn yl)] [] (.sl 1 (strsD ((wRs l).getD 0 [])) .none) [])
    (za zb : S) (zn : Int) (zl : List Exp) (h1 : 2 ≤ l.length → (expsD l)[1]? = some (Exp.mk za zb zn zl).d) (hc1 : 2 ≤ l.length → Ctr Tryz.prog W0 67 [eE (.mk za zb zn zl)] [] (.sl 1 (strsD ((wRs l).getD 1 [])) .none) []) :
    Body (Ctr Tryz.prog W0) F67.ac F67.rs [eE (.mk [97, 116] nm n l)] [] (.sl 1 (strsD (wR (.mk [97, 116] nm n l))) .none) [] := by
  have hused := And.intro h0 (And.intro hc0 (And.intro h1 (And.intro hc1 (And.intro hl0 (And.intro hx hc)))))
  clear hused
  have h2 := commaJ_len (wRs l)
  have h5 := wRs_length l
  have h6 := getD2_len (wRs l)
  repeat' ((conv => whnf); (first | with_reducible refine brec (fun _ => ?_) (fun _ => ?_) | (refine callP.pure _ (c94 W0 l (by omega) (by omega) hc) ⟨rfl, rfl⟩ ?_) | (refine callP.pure _ (c92 W0 [[nm, [91]], commaJ (wRs l), [[93]]] (by simp) (by simp only [List.flatten_cons, List.flatten_nil, List.length_append, List.length_cons, List.length_nil]; omega)) ⟨rfl, rfl⟩ ?_) | (refine callP.full [] [] [.sl 1 _ .full] [] [] (.sl 1 _ .full) (c91 W0 _) ⟨rfl, rfl, rfl, rfl, rfl, rfl, rfl, rfl, rfl, rfl, ⟨⟨rfl, rfl, .inr rfl⟩, trivial⟩, trivial, trivial⟩ ?_) | fail))
  all_goals (conv => whnf)
  all_goals exact fin_sl (by simp only [wR]; rfl)
set_option maxHeartbeats 8000000 in
theorem b67_call (W0 : Go.World) (hk : Wk W0) (nm : S) (n : Int) (l : List Exp) (hx : (Exp.mk [99, 97, 108, 108] nm n l).ok) (hl0 : True) (hfl : (wRs l).flatten.length ≤ 2147483648) (hl : l.length ≤ 4194304)
    (hc : ∀ y, y ∈ l → Ctr Tryz.prog W0 67 [eE y] [] (.sl 1 (strsD (wR y)) .none) [])
    (ya yb : S) (yn : Int) (yl : List Exp) (h0 : 1 ≤ l.length → (expsD l)[0]? = some (Exp.mk ya yb yn yl).d) (hc0 : 1 ≤ l.length → Ctr Tryz.prog W0 67 [eE (.mk ya yb yn yl)] [] (.sl 1 (strsD ((wRs l).getD 0 [])) .none) [])
    (za zb : S) (zn : Int) (zl : List Exp) (h1 : 2 ≤ l.length → (expsD l)[1]? = some (Exp.mk za zb zn zl).d) (hc1 : 2 ≤ l.length → Ctr Tryz.prog W0 67 [eE (.mk za zb zn zl)] [] (.sl 1 (strsD ((wRs l).getD 1 [])) .none) []) :
    Body (Ctr Tryz.prog W0) F67.ac F67.rs [eE (.mk [99, 97, 108, 108] nm n l)] [] (.sl 1 (strsD (wR (.mk [99, 97, 108, 108] nm n l))) .none) [] := by
  have hused := And.intro h0 (And.intro hc0 (And.intro h1 (And.intro hc1 (And.intro hl0 (And.intro hx hc)))))
  clear hused
  have h2 := commaJ_len (wRs l)
  have h5 := wRs_length l
  have h6 := getD2_len (wRs l)
  repeat' ((conv => whnf); (first | with_reducible refine brec (fun _ => ?_) (fun _ => ?_) | (refine callP.pure _ (c94 W0 l (by omega) (by omega) hc) ⟨rfl, rfl⟩ ?_) | (refine callP.pure _ (c92 W0 [[nm, [40]], commaJ (wRs l), [[41]]] (by simp) (by simp only [List.flatten_cons, List.flatten_nil, List.length_append, List.length_cons, List.length_nil]; omega)) ⟨rfl, rfl⟩ ?_) | (refine callP.full [] [] [.sl 1 _ .full] [] [] (.sl 1 _ .full) (c91 W0 _) ⟨rfl, rfl, rfl, rfl, rfl, rfl, rfl, rfl, rfl, rfl, ⟨⟨rfl, rfl, .inr rfl⟩, trivial⟩, trivial, trivial⟩ ?_) | fail))
  all_goals (conv => whnf)
  all_goals exact fin_sl (by simp only [wR]; rfl)
set_option maxHeartbeats 8000000 in
theorem b67_low (W0 : Go.World) (hk : Wk W0) (nm : S) (n : Int) (l : List Exp) (hx : (Exp.mk [108, 111, 119] nm n l).ok) (hl0 : True) (hfl : (wRs l).flatten.length ≤ 2147483648) (hl : l.length ≤ 4194304)
    (hc : ∀ y, y ∈ l → Ctr Tryz.prog W0 67 [eE y] [] (.sl 1 (strsD (wR y)) .none) [])
    (ya yb : S) (yn : Int) (yl : List Exp) (h0 : 1 ≤ l.length → (expsD l)[0]? = some (Exp.mk ya yb yn yl).d) (hc0 : 1 ≤ l.length → Ctr Tryz.prog W0 67 [eE (.mk ya yb yn yl)] [] (.sl 1 (strsD ((wRs l).getD 0 [])) .none) [])
    (za zb : S) (zn : Int) (zl : List Exp) (h1 : 2 ≤ l.length → (expsD l)[1]? = some (Exp.mk za zb zn zl).d) (hc1 : 2 ≤ l.length → Ctr Tryz.prog W0 67 [eE (.mk za zb zn zl)] [] (.sl 1 (strsD ((wRs l).getD 1 [])) .none) []) :
    Body (Ctr Tryz.prog W0) F67.ac F67.rs [eE (.mk [108, 111, 119] nm n l)] [] (.sl 1 (strsD (wR (.mk [108, 111, 119] nm n l))) .none) [] := by
  have hused := And.intro h0 (And.intro hc0 (And.intro h1 (And.intro hc1 (And.intro hl0 (And.intro hx hc)))))
  clear hused
  have h2 := commaJ_len (wRs l)
  have h5 := wRs_length l
  have h6 := getD2_len (wRs l)
  repeat' ((conv => whnf); (first | with_reducible refine brec (fun _ => ?_) (fun _ => ?_) | (refine callP.pure _ (itoa_ctr W0 hk.pow n hx.1.2.2) ⟨rfl, rfl⟩ ?_) | (refine callP.full [] [] [.sl 1 _ .full] [] [] (.sl 1 _ .full) (c91 W0 _) ⟨rfl, rfl, rfl, rfl, rfl, rfl, rfl, rfl, rfl, rfl, ⟨⟨rfl, rfl, .inr rfl⟩, trivial⟩, trivial, trivial⟩ ?_) | fail))
  all_goals (conv => whnf)
  all_goals exact fin_sl (by simp only [wR]; rfl)
set_option maxHeartbeats 8000000 in
theorem b67_high (W0 : Go.World) (hk : Wk W0) (nm : S) (n : Int) (l : List Exp) (hx : (Exp.mk [104, 105, 103, 104] nm n l).ok) (hl0 : True) (hfl : (wRs l).flatten.length ≤ 2147483648) (hl : l.length ≤ 4194304)
    (hc : ∀ y, y ∈ l → Ctr Tryz.prog W0 67 [eE y] [] (.sl 1 (strsD (wR y)) .none) [])
    (ya yb : S) (yn : Int) (yl : List Exp) (h0 : 1 ≤ l.length → (expsD l)[0]? = some (Exp.mk ya yb yn yl).d) (hc0 : 1 ≤ l.length → Ctr Tryz.prog W0 67 [eE (.mk ya yb yn yl)] [] (.sl 1 (strsD ((wRs l).getD 0 [])) .none) [])
    (za zb : S) (zn : Int) (zl : List Exp) (h1 : 2 ≤ l.length → (expsD l)[1]? = some (Exp.mk za zb zn zl).d) (hc1 : 2 ≤ l.length → Ctr Tryz.prog W0 67 [eE (.mk za zb zn zl)] [] (.sl 1 (strsD ((wRs l).getD 1 [])) .none) []) :
    Body (Ctr Tryz.prog W0) F67.ac F67.rs [eE (.mk [104, 105, 103, 104] nm n l)] [] (.sl 1 (strsD (wR (.mk [104, 105, 103, 104] nm n l))) .none) [] := by
  have hused := And.intro h0 (And.intro hc0 (And.intro h1 (And.intro hc1 (And.intro hl0 (And.intro hx hc)))))
  clear hused
  have h2 := commaJ_len (wRs l)
  have h5 := wRs_length l
  have h6 := getD2_len (wRs l)
  repeat' ((conv => whnf); (first | with_reducible refine brec (fun _ => ?_) (fun _ => ?_) | (refine callP.pure _ (itoa_ctr W0 hk.pow n hx.1.2.2) ⟨rfl, rfl⟩ ?_) | (refine callP.full [] [] [.sl 1 _ .full] [] [] (.sl 1 _ .full) (c91 W0 _) ⟨rfl, rfl, rfl, rfl, rfl, rfl, rfl, rfl, rfl, rfl, ⟨⟨rfl, rfl, .inr rfl⟩, trivial⟩, trivial, trivial⟩ ?_) | fail))
  all_goals (conv => whnf)
  all_goals exact fin_sl (by simp only [wR]; rfl)
set_option maxHeartbeats 8000000 in
theorem b67_ord (W0 : Go.World) (hk : Wk W0) (nm : S) (n : Int) (l : List Exp) (hx : (Exp.mk [111, 114, 100] nm n l).ok) (hl0 : True) (hfl : (wRs l).flatten.length ≤ 2147483648) (hl : l.length ≤ 4194304)
    (hc : ∀ y, y ∈ l → Ctr Tryz.prog W0 67 [eE y] [] (.sl 1 (strsD (wR y)) .none) [])
    (ya yb : S) (yn : Int) (yl : List Exp) (h0 : 1 ≤ l.length → (expsD l)[0]? = some (Exp.mk ya yb yn yl).d) (hc0 : 1 ≤ l.length → Ctr Tryz.prog W0 67 [eE (.mk ya yb yn yl)] [] (.sl 1 (strsD ((wRs l).getD 0 [])) .none) [])
    (za zb : S) (zn : Int) (zl : List Exp) (h1 : 2 ≤ l.length → (expsD l)[1]? = some (Exp.mk za zb zn zl).d) (hc1 : 2 ≤ l.length → Ctr Tryz.prog W0 67 [eE (.mk za zb zn zl)] [] (.sl 1 (strsD ((wRs l).getD 1 [])) .none) []) :
    Body (Ctr Tryz.prog W0) F67.ac F67.rs [eE (.mk [111, 114, 100] nm n l)] [] (.sl 1 (strsD (wR (.mk [111, 114, 100] nm n l))) .none) [] := by
  have hused := And.intro h0 (And.intro hc0 (And.intro h1 (And.intro hc1 (And.intro hl0 (And.intro hx hc)))))
  clear hused
  have h2 := commaJ_len (wRs l)
  have h5 := wRs_length l
  have h6 := getD2_len (wRs l)
  repeat' ((conv => whnf); (first | with_reducible refine brec (fun _ => ?_) (fun _ => ?_) | (refine callP.pure _ (c94 W0 l (by omega) (by omega) hc) ⟨rfl, rfl⟩ ?_) | (refine callP.pure _ (c92 W0 [[[40], [111, 114, 100], nm, [91]], commaJ (wRs l), [[93], [41]]] (by simp) (by simp only [List.flatten_cons, List.flatten_nil, List.length_append, List.length_cons, List.length_nil]; omega)) ⟨rfl, rfl⟩ ?_) | (refine callP.full [] [] [.sl 1 _ .full] [] [] (.sl 1 _ .full) (c91 W0 _) ⟨rfl, rfl, rfl, rfl, rfl, rfl, rfl, rfl, rfl, rfl, ⟨⟨rfl, rfl, .inr rfl⟩, trivial⟩, trivial, trivial⟩ ?_) | fail))
  all_goals (conv => whnf)
  all_goals exact fin_sl (by simp only [wR]; rfl)
set_option maxHeartbeats 8000000 in
theorem b67_has (W0 : Go.World) (hk : Wk W0) (nm : S) (n : Int) (l : List Exp) (hx : (Exp.mk [104, 97, 115] nm n l).ok) (hl0 : True) (hfl : (wRs l).flatten.length ≤ 2147483648) (hl : l.length ≤ 4194304)
    (hc : ∀ y, y ∈ l → Ctr Tryz.prog W0 67 [eE y] [] (.sl 1 (strsD (wR y)) .none) [])
    (ya yb : S) (yn : Int) (yl : List Exp) (h0 : 1 ≤ l.length → (expsD l)[0]? = some (Exp.mk ya yb yn yl).d) (hc0 : 1 ≤ l.length → Ctr Tryz.prog W0 67 [eE (.mk ya yb yn yl)] [] (.sl 1 (strsD ((wRs l).getD 0 [])) .none) [])
    (za zb : S) (zn : Int) (zl : List Exp) (h1 : 2 ≤ l.length → (expsD l)[1]? = some (Exp.mk za zb zn zl).d) (hc1 : 2 ≤ l.length → Ctr Tryz.prog W0 67 [eE (.mk za zb zn zl)] [] (.sl 1 (strsD ((wRs l).getD 1 [])) .none) []) :
    Body (Ctr Tryz.prog W0) F67.ac F67.rs [eE (.mk [104, 97, 115] nm n l)] [] (.sl 1 (strsD (wR (.mk [104, 97, 115] nm n l))) .none) [] := by
  have hused := And.intro h0 (And.intro hc0 (And.intro h1 (And.intro hc1 (And.intro hl0 (And.intro hx hc)))))
  clear hused
  have h2 := commaJ_len (wRs l)
  have h5 := wRs_length l
  have h6 := getD2_len (wRs l)
  repeat' ((conv => whnf); (first | with_reducible refine brec (fun _ => ?_) (fun _ => ?_) | (refine callP.pure _ (c94 W0 l (by omega) (by omega) hc) ⟨rfl, rfl⟩ ?_) | (refine callP.pure _ (c92 W0 [[[40], [104, 97, 115], nm, [91]], commaJ (wRs l), [[93], [41]]] (by simp) (by simp only [List.flatten_cons, List.flatten_nil, List.length_append, List.length_cons, List.length_nil]; omega)) ⟨rfl, rfl⟩ ?_) | (refine callP.full [] [] [.sl 1 _ .full] [] [] (.sl 1 _ .full) (c91 W0 _) ⟨rfl, rfl, rfl, rfl, rfl, rfl, rfl, rfl, rfl, rfl, ⟨⟨rfl, rfl, .inr rfl⟩, trivial⟩, trivial, trivial⟩ ?_) | fail))
  all_goals (conv => whnf)
  all_goals exact fin_sl (by simp only [wR]; rfl)
set_option maxHeartbeats 8000000 in
theorem b67_nth (W0 : Go.World) (hk : Wk W0) (nm : S) (n : Int) (l : List Exp) (hx : (Exp.mk [110, 116, 104] nm n l).ok) (hl0 : 1 ≤ l.length) (hfl : (wRs l).flatten.length ≤ 2147483648) (hl : l.length ≤ 4194304)
    (hc : ∀ y, y ∈ l → Ctr Tryz.prog W0 67 [eE y] [] (.sl 1 (strsD (wR y)) .none) [])
    (ya yb : S) (yn : Int) (yl : List Exp) (h0 : 1 ≤ l.length → (expsD l)[0]? = some (Exp.mk ya yb yn yl).d) (hc0 : 1 ≤ l.length → Ctr Tryz.prog W0 67 [eE (.mk ya yb yn yl)] [] (.sl 1 (strsD ((wRs l).getD 0 [])) .none) [])
    (za zb : S) (zn : Int) (zl : List Exp) (h1 : 2 ≤ l.length → (expsD l)[1]? = some (Exp.mk za zb zn zl).d) (hc1 : 2 ≤ l.length → Ctr Tryz.prog W0 67 [eE (.mk za zb zn zl)] [] (.sl 1 (strsD ((wRs l).getD 1 [])) .none) []) :
    Body (Ctr Tryz.prog W0) F67.ac F67.rs [eE (.mk [110, 116, 104] nm n l)] [] (.sl 1 (strsD (wR (.mk [110, 116, 104] nm n l))) .none) [] := by
  have hused := And.intro h0 (And.intro hc0 (And.intro h1 (And.intro hc1 (And.intro hl0 (And.intro hx hc)))))
  clear hused
  have h2 := commaJ_len (wRs l)
  have h5 := wRs_length l
  have h6 := getD2_len (wRs l)
  repeat' ((conv => whnf); (first | with_reducible refine brec (fun _ => ?_) (fun _ => ?_) | (refine callP.pure _ (itoa_ctr W0 hk.pow n hx.1.2.2) ⟨rfl, rfl⟩ ?_) | (refine callP.pure _ (hc0 hl0) ⟨rfl, rfl⟩ ?_) | (refine callP.pure _ (c92 W0 [[[40], [110, 116, 104], nm, Go.Lib.itoa n], (wRs l).getD 0 [], [[41]]] (by simp) (by simp only [List.flatten_cons, List.flatten_nil, List.length_append, List.length_cons, List.length_nil]; omega)) ⟨rfl, rfl⟩ ?_) | (refine callP.full [] [] [.sl 1 _ .full] [] [] (.sl 1 _ .full) (c91 W0 _) ⟨rfl, rfl, rfl, rfl, rfl, rfl, rfl, rfl, rfl, rfl, ⟨⟨rfl, rfl, .inr rfl⟩, trivial⟩, trivial, trivial⟩ ?_) | (refine ⟨_, ⟨Int.le_refl _, h0 hl0⟩, ?_⟩) | fail))
  all_goals (conv => whnf)
  all_goals exact fin_sl (by simp only [wR]; rfl)
set_option maxHeartbeats 8000000 in
theorem b67_op2 (W0 : Go.World) (hk : Wk W0) (nm : S) (n : Int) (l : List Exp) (hx : (Exp.mk [111, 112] nm n l).ok) (hl0 : True) (hfl : (wRs l).flatten.length ≤ 2147483648) (hl : l.length ≤ 4194304)
    (hc : ∀ y, y ∈ l → Ctr Tryz.prog W0 67 [eE y] [] (.sl 1 (strsD (wR y)) .none) [])
    (ya yb : S) (yn : Int) (yl : List Exp) (h0 : 1 ≤ l.length → (expsD l)[0]? = some (Exp.mk ya yb yn yl).d) (hc0 : 1 ≤ l.length → Ctr Tryz.prog W0 67 [eE (.mk ya yb yn yl)] [] (.sl 1 (strsD ((wRs l).getD 0 [])) .none) [])
    (za zb : S) (zn : Int) (zl : List Exp) (h1 : 2 ≤ l.length → (expsD l)[1]? = some (Exp.mk za zb zn zl).d) (hc1 : 2 ≤ l.length → Ctr Tryz.prog W0 67 [eE (.mk za zb zn zl)] [] (.sl 1 (strsD ((wRs l).getD 1 [])) .none) []) (q0 : decide ((↑(expsD l).length : Int) = 2) = true) (q1 : (!beqL nm [109, 105, 110]) = true) (q2 : (!beqL nm [109, 97, 120]) = true) :
    Body (Ctr Tryz.prog W0) F67.ac F67.rs [eE (.mk [111, 112] nm n l)] [] (.sl 1 (strsD (wR (.mk [111, 112] nm n l))) .none) [] := by
  have hused := And.intro h0 (And.intro hc0 (And.intro h1 (And.intro hc1 (And.intro hl0 (And.intro hx hc)))))
  clear hused
  have h2 := commaJ_len (wRs l)
  have h5 := wRs_length l
  have h6 := getD2_len (wRs l)
  have hlen3 : decide ((↑(expsD l).length : Int) = 2) = true → 2 ≤ l.length := by intro h; simp only [expsD_length, decide_eq_true_eq] at h; omega
  have hlen2 : decide ((↑(expsD l).length : Int) = 2) = true → 1 ≤ l.length := fun h => Nat.le_of_succ_le (hlen3 h)
  repeat' (first | (exact absurd (Eq.trans (Eq.symm (by assumption : decide ((↑(expsD l).length : Int) = 2) = false)) q0) (by decide); done) | (exact absurd (Eq.trans (Eq.symm (by assumption : (!beqL nm [109, 105, 110]) = false)) q1) (by decide); done) | (exact absurd (Eq.trans (Eq.symm (by assumption : (!beqL nm [109, 97, 120]) = false)) q2) (by decide); done) | (refine Eq.mpr awp_seq_regD ?_; refine Eq.mpr aopsD_n ?_) | ((conv => whnf); (first | with_reducible refine brec (fun _ => ?_) (fun _ => ?_) | (refine callP.pure _ (hc0 (hlen2 q0)) ⟨rfl, rfl⟩ ?_) | (refine callP.pure _ (hc1 (hlen3 q0)) ⟨rfl, rfl⟩ ?_) | (refine callP.pure _ (c92 W0 [[[40]], (wRs l).getD 0 [], [nm], (wRs l).getD 1 [], [[41]]] (by simp) (by simp only [List.flatten_cons, List.flatten_nil, List.length_append, List.length_cons, List.length_nil]; omega)) ⟨rfl, rfl⟩ ?_) | (refine callP.full [] [] [.sl 1 _ .full] [] [] (.sl 1 _ .full) (c91 W0 _) ⟨rfl, rfl, rfl, rfl, rfl, rfl, rfl, rfl, rfl, rfl, ⟨⟨rfl, rfl, .inr rfl⟩, trivial⟩, trivial, trivial⟩ ?_) | (refine ⟨_, ⟨Int.le_refl _, h0 (hlen2 q0)⟩, ?_⟩) | (refine ⟨_, ⟨by decide, h1 (hlen3 q0)⟩, ?_⟩) | fail)))
  all_goals (conv => whnf)
  all_goals exact fin_sl (congrArg strsD (wR_op2 q0 q1 q2))
set_option maxHeartbeats 8000000 in
theorem b67_opa (W0 : Go.World) (hk : Wk W0) (nm : S) (n : Int) (l : List Exp) (hx : (Exp.mk [111, 112] nm n l).ok) (hl0 : True) (hfl : (wRs l).flatten.length ≤ 2147483648) (hl : l.length ≤ 4194304)
    (hc : ∀ y, y ∈ l → Ctr Tryz.prog W0 67 [eE y] [] (.sl 1 (strsD (wR y)) .none) [])
    (ya yb : S) (yn : Int) (yl : List Exp) (h0 : 1 ≤ l.length → (expsD l)[0]? = some (Exp.mk ya yb yn yl).d) (hc0 : 1 ≤ l.length → Ctr Tryz.prog W0 67 [eE (.mk ya yb yn yl)] [] (.sl 1 (strsD ((wRs l).getD 0 [])) .none) [])
    (za zb : S) (zn : Int) (zl : List Exp) (h1 : 2 ≤ l.length → (expsD l)[1]? = some (Exp.mk za zb zn zl).d) (hc1 : 2 ≤ l.length → Ctr Tryz.prog W0 67 [eE (.mk za zb zn zl)] [] (.sl 1 (strsD ((wRs l).getD 1 [])) .none) []) (q : decide ((↑(expsD l).length : Int) = 2) = false) :
    Body (Ctr Tryz.prog W0) F67.ac F67.rs [eE (.mk [111, 112] nm n l)] [] (.sl 1 (strsD (wR (.mk [111, 112] nm n l))) .none) [] := by
  have hused := And.intro h0 (And.intro hc0 (And.intro h1 (And.intro hc1 (And.intro hl0 (And.intro hx hc)))))
  clear hused
  have h2 := commaJ_len (wRs l)
  have h5 := wRs_length l
  have h6 := getD2_len (wRs l)
  repeat' (first | (exact absurd (Eq.trans (Eq.symm q) (by assumption : decide ((↑(expsD l).length : Int) = 2) = true)) (by decide); done) | (refine Eq.mpr awp_seq_regD ?_; refine Eq.mpr aopsD_n ?_) | ((conv => whnf); (first | with_reducible refine brec (fun _ => ?_) (fun _ => ?_) | (refine callP.full [] [] [.sl 1 _ .full] [] [] (.sl 1 _ .full) (c91 W0 _) ⟨rfl, rfl, rfl, rfl, rfl, rfl, rfl, rfl, rfl, rfl, ⟨⟨rfl, rfl, .inr rfl⟩, trivial⟩, trivial, trivial⟩ ?_) | fail)))
  all_goals (
    refine .st 10000 (fun k => l.length - k) (fun k => [(.s 1, .av (.ptr 1000 0)), (.b 1000, .bx ((Exp.mk [111, 112] nm n l).d.map dcell)), (.s 4, .av (.sc (.i .i64 (k : Nat)))), (.s 3, .av (.sl 1 (strsD ([[40], nm] ++ ((wRs l).take k).flatten)) (.t 9000))), (.t 9000, .tk true)])
      (fun k => k ≤ l.length) 0 ?_ (Nat.zero_le _) ?_
    · (refine le_of rfl rfl ?_; repeat' (first | exact rfl | exact trivial | refine ⟨?_, ?_⟩))
    · intro k hk
      conv => whnf
      refine brec (fun h2 => ?_) (fun h2 => ?_)
      · simp only [expsD_length, decide_eq_false_iff_not] at h2
        have e1 : k = l.length := by omega
        conv => whnf
        refine And.intro (by rw [strsD_length, e1, ← wRs_length, List.take_length, List.length_append]; constructor <;> (simp only [List.length_cons, List.length_nil]; omega)) ?_
        conv => whnf
        refine fin_sl ?_
        rw [e1, ← wRs_length, List.take_length, show ([[.sc (.s [41])]] : List (List Data)) = strsD [[41]] from rfl, ← strsD_append]
        exact congrArg strsD (fin67 (by first | (left; assumption) | (right; left; assumption) | (right; right; assumption)))
      · simp only [expsD_length, decide_eq_true_eq] at h2
        obtain ⟨x, hx'⟩ := get_of_lt (l := l) (k := k) (by omega)
        have dx := expsD_get hx'
        have ft := flat_take (wRs_get hx')
        have fl := flat_len (ls := wRs l) (k := k + 1)
        have hm := hc x (List.mem_of_getElem? hx')
        cases x with | mk xa xb xn xl =>
        rw [ft, List.length_append] at fl
        have ct2 : strsD ([[40], nm] ++ ((wRs l).take (k + 1)).flatten) = strsD ([[40], nm] ++ ((wRs l).take k).flatten) ++ strsD (wR (.mk xa xb xn xl)) := by rw [ft, ← List.append_assoc, strsD_append]
        conv => whnf
        refine ⟨_, ⟨Int.natCast_nonneg _, dx⟩, ?_⟩
        conv => whnf
        refine callP.pure _ hm ⟨rfl, rfl⟩ ?_
        conv => whnf
        refine And.intro (by rw [strsD_length, strsD_length, List.length_append]; constructor <;> (simp only [List.length_cons, List.length_nil]; omega)) ?_
        conv => whnf
        refine And.intro (by constructor <;> omega) ?_
        conv => whnf
        refine nxt (k + 1) ⟨by omega, by omega⟩ ?_
        rw [ct2]
        (apply le_tok (h1 := rfl); (case h3 => repeat' (first | exact rfl | exact trivial | refine ⟨?_, ?_⟩)); all_goals exact rfl))
set_option maxHeartbeats 8000000 in
theorem b67_opb (W0 : Go.World) (hk : Wk W0) (nm : S) (n : Int) (l : List Exp) (hx : (Exp.mk [111, 112] nm n l).ok) (hl0 : True) (hfl : (wRs l).flatten.length ≤ 2147483648) (hl : l.length ≤ 4194304)
    (hc : ∀ y, y ∈ l → Ctr Tryz.prog W0 67 [eE y] [] (.sl 1 (strsD (wR y)) .none) [])
    (ya yb : S) (yn : Int) (yl : List Exp) (h0 : 1 ≤ l.length → (expsD l)[0]? = some (Exp.mk ya yb yn yl).d) (hc0 : 1 ≤ l.length → Ctr Tryz.prog W0 67 [eE (.mk ya yb yn yl)] [] (.sl 1 (strsD ((wRs l).getD 0 [])) .none) [])
    (za zb : S) (zn : Int) (zl : List Exp) (h1 : 2 ≤ l.length → (expsD l)[1]? = some (Exp.mk za zb zn zl).d) (hc1 : 2 ≤ l.length → Ctr Tryz.prog W0 67 [eE (.mk za zb zn zl)] [] (.sl 1 (strsD ((wRs l).getD 1 [])) .none) []) (q0 : decide ((↑(expsD l).length : Int) = 2) = true) (q : (!beqL nm [109, 105, 110]) = false) :
    Body (Ctr Tryz.prog W0) F67.ac F67.rs [eE (.mk [111, 112] nm n l)] [] (.sl 1 (strsD (wR (.mk [111, 112] nm n l))) .none) [] := by
  have hused := And.intro h0 (And.intro hc0 (And.intro h1 (And.intro hc1 (And.intro hl0 (And.intro hx hc)))))
  clear hused
  have h2 := commaJ_len (wRs l)
  have h5 := wRs_length l
  have h6 := getD2_len (wRs l)
  repeat' (first | (exact absurd (Eq.trans (Eq.symm (by assumption : decide ((↑(expsD l).length : Int) = 2) = false)) q0) (by decide); done) | (exact absurd (Eq.trans (Eq.symm q) (by assumption : (!beqL nm [109, 105, 110]) = true)) (by decide); done) | (refine Eq.mpr awp_seq_regD ?_; refine Eq.mpr aopsD_n ?_) | ((conv => whnf); (first | with_reducible refine brec (fun _ => ?_) (fun _ => ?_) | (refine callP.full [] [] [.sl 1 _ .full] [] [] (.sl 1 _ .full) (c91 W0 _) ⟨rfl, rfl, rfl, rfl, rfl, rfl, rfl, rfl, rfl, rfl, ⟨⟨rfl, rfl, .inr rfl⟩, trivial⟩, trivial, trivial⟩ ?_) | fail)))
  all_goals (
    refine .st 10000 (fun k => l.length - k) (fun k => [(.s 1, .av (.ptr 1000 0)), (.b 1000, .bx ((Exp.mk [111, 112] nm n l).d.map dcell)), (.s 4, .av (.sc (.i .i64 (k : Nat)))), (.s 3, .av (.sl 1 (strsD ([[40], nm] ++ ((wRs l).take k).flatten)) (.t 9000))), (.t 9000, .tk true)])
      (fun k => k ≤ l.length) 0 ?_ (Nat.zero_le _) ?_
    · (refine le_of rfl rfl ?_; repeat' (first | exact rfl | exact trivial | refine ⟨?_, ?_⟩))
    · intro k hk
      conv => whnf
      refine brec (fun h2 => ?_) (fun h2 => ?_)
      · simp only [expsD_length, decide_eq_false_iff_not] at h2
        have e1 : k = l.length := by omega
        conv => whnf
        refine And.intro (by rw [strsD_length, e1, ← wRs_length, List.take_length, List.length_append]; constructor <;> (simp only [List.length_cons, List.length_nil]; omega)) ?_
        conv => whnf
        refine fin_sl ?_
        rw [e1, ← wRs_length, List.take_length, show ([[.sc (.s [41])]] : List (List Data)) = strsD [[41]] from rfl, ← strsD_append]
        exact congrArg strsD (fin67 (by first | (left; assumption) | (right; left; assumption) | (right; right; assumption)))
      · simp only [expsD_length, decide_eq_true_eq] at h2
        obtain ⟨x, hx'⟩ := get_of_lt (l := l) (k := k) (by omega)
        have dx := expsD_get hx'
        have ft := flat_take (wRs_get hx')
        have fl := flat_len (ls := wRs l) (k := k + 1)
        have hm := hc x (List.mem_of_getElem? hx')
        cases x with | mk xa xb xn xl =>
        rw [ft, List.length_append] at fl
        have ct2 : strsD ([[40], nm] ++ ((wRs l).take (k + 1)).flatten) = strsD ([[40], nm] ++ ((wRs l).take k).flatten) ++ strsD (wR (.mk xa xb xn xl)) := by rw [ft, ← List.append_assoc, strsD_append]
        conv => whnf
        refine ⟨_, ⟨Int.natCast_nonneg _, dx⟩, ?_⟩
        conv => whnf
        refine callP.pure _ hm ⟨rfl, rfl⟩ ?_
        conv => whnf
        refine And.intro (by rw [strsD_length, strsD_length, List.length_append]; constructor <;> (simp only [List.length_cons, List.length_nil]; omega)) ?_
        conv => whnf
        refine And.intro (by constructor <;> omega) ?_
        conv => whnf
        refine nxt (k + 1) ⟨by omega, by omega⟩ ?_
        rw [ct2]
        (apply le_tok (h1 := rfl); (case h3 => repeat' (first | exact rfl | exact trivial | refine ⟨?_, ?_⟩)); all_goals exact rfl))
set_option maxHeartbeats 8000000 in
theorem b67_opc (W0 : Go.World) (hk : Wk W0) (nm : S) (n : Int) (l : List Exp) (hx : (Exp.mk [111, 112] nm n l).ok) (hl0 : True) (hfl : (wRs l).flatten.length ≤ 2147483648) (hl : l.length ≤ 4194304)
    (hc : ∀ y, y ∈ l → Ctr Tryz.prog W0 67 [eE y] [] (.sl 1 (strsD (wR y)) .none) [])
    (ya yb : S) (yn : Int) (yl : List Exp) (h0 : 1 ≤ l.length → (expsD l)[0]? = some (Exp.mk ya yb yn yl).d) (hc0 : 1 ≤ l.length → Ctr Tryz.prog W0 67 [eE (.mk ya yb yn yl)] [] (.sl 1 (strsD ((wRs l).getD 0 [])) .none) [])
    (za zb : S) (zn : Int) (zl : List Exp) (h1 : 2 ≤ l.length → (expsD l)[1]? = some (Exp.mk za zb zn zl).d) (hc1 : 2 ≤ l.length → Ctr Tryz.prog W0 67 [eE (.mk za zb zn zl)] [] (.sl 1 (strsD ((wRs l).getD 1 [])) .none) []) (q0 : decide ((↑(expsD l).length : Int) = 2) = true) (q1 : (!beqL nm [109, 105, 110]) = true) (q : (!beqL nm [109, 97, 120]) = false) :
    Body (Ctr Tryz.prog W0) F67.ac F67.rs [eE (.mk [111, 112] nm n l)] [] (.sl 1 (strsD (wR (.mk [111, 112] nm n l))) .none) [] := by
  have hused := And.intro h0 (And.intro hc0 (And.intro h1 (And.intro hc1 (And.intro hl0 (And.intro hx hc)))))
  clear hused
  have h2 := commaJ_len (wRs l)
  have h5 := wRs_length l
  have h6 := getD2_len (wRs l)
  repeat' (first | (exact absurd (Eq.trans (Eq.symm (by assumption : decide ((↑(expsD l).length : Int) = 2) = false)) q0) (by decide); done) | (exact absurd (Eq.trans (Eq.symm (by assumption : (!beqL nm [109, 105, 110]) = false)) q1) (by decide); done) | (exact absurd (Eq.trans (Eq.symm q) (by assumption : (!beqL nm [109, 97, 120]) = true)) (by decide); done) | (refine Eq.mpr awp_seq_regD ?_; refine Eq.mpr aopsD_n ?_) | ((conv => whnf); (first | with_reducible refine brec (fun _ => ?_) (fun _ => ?_) | (refine callP.full [] [] [.sl 1 _ .full] [] [] (.sl 1 _ .full) (c91 W0 _) ⟨rfl, rfl, rfl, rfl, rfl, rfl, rfl, rfl, rfl, rfl, ⟨⟨rfl, rfl, .inr rfl⟩, trivial⟩, trivial, trivial⟩ ?_) | fail)))
  all_goals (
    refine .st 10000 (fun k => l.length - k) (fun k => [(.s 1, .av (.ptr 1000 0)), (.b 1000, .bx ((Exp.mk [111, 112] nm n l).d.map dcell)), (.s 4, .av (.sc (.i .i64 (k : Nat)))), (.s 3, .av (.sl 1 (strsD ([[40], nm] ++ ((wRs l).take k).flatten)) (.t 9000))), (.t 9000, .tk true)])
      (fun k => k ≤ l.length) 0 ?_ (Nat.zero_le _) ?_
    · (refine le_of rfl rfl ?_; repeat' (first | exact rfl | exact trivial | refine ⟨?_, ?_⟩))
    · intro k hk
      conv => whnf
      refine brec (fun h2 => ?_) (fun h2 => ?_)
      · simp only [expsD_length, decide_eq_false_iff_not] at h2
        have e1 : k = l.length := by omega
        conv => whnf
        refine And.intro (by rw [strsD_length, e1, ← wRs_length, List.take_length, List.length_append]; constructor <;> (simp only [List.length_cons, List.length_nil]; omega)) ?_
        conv => whnf
        refine fin_sl ?_
        rw [e1, ← wRs_length, List.take_length, show ([[.sc (.s [41])]] : List (List Data)) = strsD [[41]] from rfl, ← strsD_append]
        exact congrArg strsD (fin67 (by first | (left; assumption) | (right; left; assumption) | (right; right; assumption)))
      · simp only [expsD_length, decide_eq_true_eq] at h2
        obtain ⟨x, hx'⟩ := get_of_lt (l := l) (k := k) (by omega)
        have dx := expsD_get hx'
        have ft := flat_take (wRs_get hx')
        have fl := flat_len (ls := wRs l) (k := k + 1)
        have hm := hc x (List.mem_of_getElem? hx')
        cases x with | mk xa xb xn xl =>
        rw [ft, List.length_append] at fl
        have ct2 : strsD ([[40], nm] ++ ((wRs l).take (k + 1)).flatten) = strsD ([[40], nm] ++ ((wRs l).take k).flatten) ++ strsD (wR (.mk xa xb xn xl)) := by rw [ft, ← List.append_assoc, strsD_append]
        conv => whnf
        refine ⟨_, ⟨Int.natCast_nonneg _, dx⟩, ?_⟩
        conv => whnf
        refine callP.pure _ hm ⟨rfl, rfl⟩ ?_
        conv => whnf
        refine And.intro (by rw [strsD_length, strsD_length, List.length_append]; constructor <;> (simp only [List.length_cons, List.length_nil]; omega)) ?_
        conv => whnf
        refine And.intro (by constructor <;> omega) ?_
        conv => whnf
        refine nxt (k + 1) ⟨by omega, by omega⟩ ?_
        rw [ct2]
        (apply le_tok (h1 := rfl); (case h3 => repeat' (first | exact rfl | exact trivial | refine ⟨?_, ?_⟩)); all_goals exact rfl))
theorem c67 (W0 : Go.World) (hk : Wk W0) : ∀ (x : Exp), x.ok → wellE x = true → cE x ≤ 1048576 → Ctr Tryz.prog W0 67 [eE x] [] (.sl 1 (strsD (wR x)) .none) []
  | .mk d nm n l, hx, hw, hcn => by
    simp only [wellE, Bool.and_eq_true] at hw
    simp only [cE] at hcn
    have hc : ∀ y, y ∈ l → Ctr Tryz.prog W0 67 [eE y] [] (.sl 1 (strsD (wR y)) .none) [] := fun y hy => c67 W0 hk y (oksE_mem hx.2.2 hy) (wellL_mem hw.2 hy) (by have := cL_mem hy; omega)
    have g1 := wRs_len l
    have g2 := cL_len l
    have key : ∀ k, ∃ a b c e, (k + 1 ≤ l.length → (expsD l)[k]? = some (Exp.mk a b c e).d) ∧ (k + 1 ≤ l.length → Ctr Tryz.prog W0 67 [eE (.mk a b c e)] [] (.sl 1 (strsD ((wRs l).getD k [])) .none) []) := fun k => by
      by_cases hk : k < l.length
      · obtain ⟨⟨a, b, c, e⟩, h⟩ := get_of_lt hk
        refine ⟨a, b, c, e, fun _ => expsD_get h, fun _ => ?_⟩
        have := wRs_get h
        rw [List.getD_eq_getElem?_getD, this]
        exact hc _ (List.mem_of_getElem? h)
      · exact ⟨[], [], 0, [], fun h => absurd h (by omega), fun h => absurd h (by omega)⟩
    obtain ⟨ya, yb, yn, yl, h0, hc0⟩ := key 0
    obtain ⟨za, zb, zn, zl, h1, hc1⟩ := key 1
    by_cases hop : d = [111, 112]
    · subst hop
      cases q0 : decide ((↑(expsD l).length : Int) = 2) with
      | false => exact ctr_body follows F67_ok rfl (fun _ _ h => by cases h) rfl rfl (b67_opa W0 hk nm n l hx trivial (by omega) (by omega) hc ya yb yn yl h0 hc0 za zb zn zl h1 hc1 q0)
      | true => cases q1 : (!beqL nm [109, 105, 110]) with
        | false => exact ctr_body follows F67_ok rfl (fun _ _ h => by cases h) rfl rfl (b67_opb W0 hk nm n l hx trivial (by omega) (by omega) hc ya yb yn yl h0 hc0 za zb zn zl h1 hc1 q0 q1)
        | true => cases q2 : (!beqL nm [109, 97, 120]) with
          | false => exact ctr_body follows F67_ok rfl (fun _ _ h => by cases h) rfl rfl (b67_opc W0 hk nm n l hx trivial (by omega) (by omega) hc ya yb yn yl h0 hc0 za zb zn zl h1 hc1 q0 q1 q2)
          | true => exact ctr_body follows F67_ok rfl (fun _ _ h => by cases h) rfl rfl (b67_op2 W0 hk nm n l hx trivial (by omega) (by omega) hc ya yb yn yl h0 hc0 za zb zn zl h1 hc1 q0 q1 q2)
    rcases head_tag hw.1 with rfl | rfl | rfl | h | rfl | rfl | rfl | rfl | rfl | rfl | rfl | rfl | rfl | rfl | rfl
    · exact ctr_body follows F67_ok rfl (fun _ _ h => by cases h) rfl rfl (b67_int W0 hk nm n l hx trivial (by omega) (by omega) hc ya yb yn yl h0 hc0 za zb zn zl h1 hc1)
    · exact ctr_body follows F67_ok rfl (fun _ _ h => by cases h) rfl rfl (b67_bool W0 hk nm n l hx trivial (by omega) (by omega) hc ya yb yn yl h0 hc0 za zb zn zl h1 hc1)
    · exact ctr_body follows F67_ok rfl (fun _ _ h => by cases h) rfl rfl (b67_var W0 hk nm n l hx trivial (by omega) (by omega) hc ya yb yn yl h0 hc0 za zb zn zl h1 hc1)
    · exact absurd h hop
    · exact ctr_body follows F67_ok rfl (fun _ _ h => by cases h) rfl rfl (b67_none W0 hk nm n l hx trivial (by omega) (by omega) hc ya yb yn yl h0 hc0 za zb zn zl h1 hc1)
    · exact ctr_body follows F67_ok rfl (fun _ _ h => by cases h) rfl rfl (b67_read W0 hk nm n l hx trivial (by omega) (by omega) hc ya yb yn yl h0 hc0 za zb zn zl h1 hc1)
    · exact ctr_body follows F67_ok rfl (fun _ _ h => by cases h) rfl rfl (b67_get W0 hk nm n l hx trivial (by omega) (by omega) hc ya yb yn yl h0 hc0 za zb zn zl h1 hc1)
    · exact ctr_body follows F67_ok rfl (fun _ _ h => by cases h) rfl rfl (b67_count W0 hk nm n l hx trivial (by omega) (by omega) hc ya yb yn yl h0 hc0 za zb zn zl h1 hc1)
    · exact ctr_body follows F67_ok rfl (fun _ _ h => by cases h) rfl rfl (b67_at W0 hk nm n l hx trivial (by omega) (by omega) hc ya yb yn yl h0 hc0 za zb zn zl h1 hc1)
    · exact ctr_body follows F67_ok rfl (fun _ _ h => by cases h) rfl rfl (b67_call W0 hk nm n l hx trivial (by omega) (by omega) hc ya yb yn yl h0 hc0 za zb zn zl h1 hc1)
    · exact ctr_body follows F67_ok rfl (fun _ _ h => by cases h) rfl rfl (b67_low W0 hk nm n l hx trivial (by omega) (by omega) hc ya yb yn yl h0 hc0 za zb zn zl h1 hc1)
    · exact ctr_body follows F67_ok rfl (fun _ _ h => by cases h) rfl rfl (b67_high W0 hk nm n l hx trivial (by omega) (by omega) hc ya yb yn yl h0 hc0 za zb zn zl h1 hc1)
    · exact ctr_body follows F67_ok rfl (fun _ _ h => by cases h) rfl rfl (b67_ord W0 hk nm n l hx trivial (by omega) (by omega) hc ya yb yn yl h0 hc0 za zb zn zl h1 hc1)
    · exact ctr_body follows F67_ok rfl (fun _ _ h => by cases h) rfl rfl (b67_has W0 hk nm n l hx trivial (by omega) (by omega) hc ya yb yn yl h0 hc0 za zb zn zl h1 hc1)
    · exact ctr_body follows F67_ok rfl (fun _ _ h => by cases h) rfl rfl (b67_nth W0 hk nm n l hx (by have := well_nth hw.1 rfl; omega) (by omega) (by omega) hc ya yb yn yl h0 hc0 za zb zn zl h1 hc1)
termination_by x => SizeOf.sizeOf x
decreasing_by
  have := List.sizeOf_lt_of_mem hy
  simp; omega
end Go.Abs

set_option maxRecDepth 100000
namespace Go.Abs
theorem beqL_iff {a b : S} : beqL a b = true ↔ a = b := by simp [beqL]
theorem small_inner {n : Int} (h : smallI n = true) : innerI n = true := by simp [innerI, h]
theorem kindS_name (s : S) : beqL (kindS s) [110, 97, 109, 101] = !hasB s keyList := by
  unfold kindS
  cases hasB s keyList <;> decide
theorem nameR_eq (s : S) : nameR s = isNameB s := by
  unfold isNameB validT nameR
  cases s with
  | nil => decide +kernel
  | cons c r =>
    have hw := wordN_le (c :: r)
    simp only [wordR]
    cases hs : smallI c.toNat with
    | false =>
      simp only [Bool.false_and]
      have hw0 : wordN (c :: r) = 0 := by simp [wordN, hs]
      have : beqL (firstT (c :: r)).1 [110, 97, 109, 101] = false ∨ (firstT (c :: r)).2.2 = false := by
        unfold firstT
        rw [hw0]
        simp only
        split
        · left; show beqL [105, 110, 116] [110, 97, 109, 101] = false; decide
        · split
          · left; show beqL [115, 105, 103, 110] [110, 97, 109, 101] = false; decide
          · right; rfl
      rcases this with h | h <;> rw [h] <;> simp
    | true =>
      have hi := small_inner hs
      have hwn : wordN (c :: r) = innN r + 1 := by simp [wordN, hs]
      have hin : innN (c :: r) = innN r + 1 := by simp [innN, hi]
      have hf : firstT (c :: r) = (kindS ((c :: r).take (innN r + 1)), (c :: r).take (innN r + 1), true) := by unfold firstT; rw [hwn]
      rw [hf, hin]
      simp only [Bool.true_and]
      rw [hwn] at hw
      by_cases hl : innN r + 1 = (c :: r).length
      · rw [hl, List.take_length, kindS_name, beqL_refl]
        simp
      · have h1 : beqL ((c :: r).take (innN r + 1)) (c :: r) = false := by
          simp only [beqL, decide_eq_false_iff_not]
          intro e
          have := congrArg List.length e
          rw [List.length_take] at this
          omega
        rw [h1, show decide (innN r + 1 = (c :: r).length) = false from decide_eq_false hl]
        simp
theorem betw13 (k : Nat) : betwB 1 (k : Int) 3 = (decide (1 ≤ k) && decide (k ≤ 3)) := by
  simp only [betwB]
  congr 1 <;> (rw [decide_eq_decide]; omega)
theorem arity_eq (nm : S) (k : Nat) : decide ((k : Int) = arityR nm) = (decide (k ≠ 0) && decide (operandsN nm = (k : Int))) := by
  have e1 : ws1 = [[43], [45], [42], [47], [37], [60], [60, 61], [61, 61], [38], [124], [109, 105, 110], [109, 97, 120]] := rfl
  have e2 : ws2 = [[33], [105, 110, 116]] := rfl
  rw [Bool.eq_iff_iff]
  simp only [Bool.and_eq_true, decide_eq_true_eq]
  simp only [arityR, operandsN, e1, e2]
  cases hasB nm [[43], [45], [42], [47], [37], [60], [60, 61], [61, 61], [38], [124], [109, 105, 110], [109, 97, 120]] <;> cases hasB nm [[33], [105, 110, 116]] <;> simp only <;> constructor <;> intro h <;> omega
theorem headR_eq (d nm : S) (n : Int) (k : Nat) : headR d nm n k = headE d nm n k := by
  by_cases hd : d = [105, 110, 116] ∨ d = [98, 111, 111, 108] ∨ d = [118, 97, 114] ∨ d = [111, 112] ∨ d = [110, 111, 110, 101] ∨ d = [114, 101, 97, 100] ∨ d = [103, 101, 116] ∨ d = [99, 111, 117, 110, 116] ∨ d = [97, 116] ∨ d = [99, 97, 108, 108] ∨ d = [108, 111, 119] ∨ d = [104, 105, 103, 104] ∨ d = [111, 114, 100] ∨ d = [104, 97, 115] ∨ d = [110, 116, 104]
  · rcases hd with rfl | rfl | rfl | rfl | rfl | rfl | rfl | rfl | rfl | rfl | rfl | rfl | rfl | rfl | rfl
    all_goals simp only [headR, headE, hasB, beqL, nameR_eq]
    all_goals first
      | (simp [betwB, isFoldR, isOpB, ws0, hasB, beqL, arityR, operandsN, ws1, ws2]; done)
      | (simp [betwB, isFoldR, isOpB, ws0, hasB, beqL, arityR, operandsN, ws1, ws2, Bool.and_assoc, Bool.and_comm, Bool.and_left_comm]; done)
      | (simp only [betw13, arity_eq]; simp; done)
      | skip
  · simp only [not_or] at hd
    obtain ⟨h0, h1, h2, h3, h4, h5, h6, h7, h8, h9, h10, h11, h12, h13, h14⟩ := hd
    simp [headR, headE, hasB, beqL, h0, h1, h2, h3, h4, h5, h6, h7, h8, h9, h10, h11, h12, h13, h14]
mutual
theorem shE_eq : ∀ x, shE x = wellE x | .mk a b n l => by simp only [shE, wellE, headR_eq, shL_eq l]
theorem shL_eq : ∀ l, shL l = wellL l | [] => rfl | x :: r => by simp only [shL, wellL, shE_eq x, shL_eq r]
end
theorem validER_eq (x : Exp) : validER x = validE x := by
  simp only [validER, validE, shE_eq, fitsR]
  rw [Bool.and_comm]
end Go.Abs

set_option maxRecDepth 100000
namespace Go.Abs
theorem bool_head {nm : S} {n : Int} {k : Nat} (h : headE [98, 111, 111, 108] nm n k = true) : truthR n = truthW n := by
  simp [headE, hasB, beqL] at h
  have : n = 0 ∨ n = 1 := by omega
  rcases this with rfl | rfl <;> rfl
mutual
theorem wR_eq : ∀ (x : Exp), wellE x = true → wR x = wE x
  | .mk d nm n l, h => by
    simp only [wellE, Bool.and_eq_true] at h
    have e := wRs_eq l h.2
    have ht := head_tag h.1
    have ho := well_op h.1
    have hn := well_nth h.1
    rcases ht with rfl | rfl | rfl | rfl | rfl | rfl | rfl | rfl | rfl | rfl | rfl | rfl | rfl | rfl | rfl
    case inr.inr.inr.inl =>
      have ho := ho rfl
      match l, ho with
      | [x], _ => simp [wR, wE, hasB, beqL, e, opW, aroundW, wEs]
      | [x, y], _ =>
        simp only [wR, wE, hasB, beqL, e, opW, aroundW, wEs]
        cases h1 : decide (nm = [109, 105, 110]) <;> cases h2 : decide (nm = [109, 97, 120]) <;> simp
    case inr.inl =>
      have := bool_head h.1
      simp [wR, wE, hasB, beqL, this]
    case inr.inr.inr.inr.inr.inr.inr.inr.inr.inr.inr.inr.inr.inr =>
      have hn := hn rfl
      match l, hn with
      | [x], _ => simp [wR, wE, hasB, beqL, e, aroundW, wEs]
    all_goals simp [wR, wE, hasB, beqL, e, aroundW]
theorem wRs_eq : ∀ (l : List Exp), wellL l = true → wRs l = wEs l
  | [], _ => rfl
  | x :: r, h => by
    simp only [wellL, Bool.and_eq_true] at h
    simp only [wRs, wEs, wR_eq x h.1, wRs_eq r h.2]
end
end Go.Abs

set_option maxRecDepth 100000
namespace Go.Abs
open Go.Proofs
def F25 : Fn := ⟨.seq (.reg [⟨none, .box 1 (.t 0)⟩, ⟨none, .mv 2 (.c (.sc (.s [])))⟩, ⟨none, .mv 3 (.c (.sc (.i .i64 0)))⟩]) (.seq (.seq (.reg [⟨none, .ld 4 4 true (.t 1)⟩, ⟨none, .call (some 5) (.c (.fn 27 [])) [.t 4]⟩, ⟨none, .no 6 (.t 5)⟩]) (.cond (.t 6) (.seq (.reg [⟨none, .mv 2 (.c (.sc (.s [])))⟩, ⟨none, .mv 3 (.c (.sc (.i .i64 20)))⟩]) .ret) .skip)) (.seq (.reg [⟨none, .ld 7 4 true (.t 1)⟩, ⟨none, .call (some 8) (.c (.fn 67 [])) [.t 7]⟩, ⟨none, .call (some 9) (.c (.fn 49 [])) [.t 8, .c (.sc (.s [32]))]⟩, ⟨none, .mv 2 (.t 9)⟩, ⟨none, .mv 3 (.c (.sc (.i .i64 0)))⟩]) .ret)), [(2, 0), (3, 0)], 10⟩
theorem F25_ok : compT Tryz.prog (fun _ => an0) 25 = some F25 := by kernel_rfl
set_option maxHeartbeats 4000000 in
theorem b25 (W0 : Go.World) (hk : Wk W0) (x : Exp) (hx : x.ok) (hc : cE x ≤ 1048576) (hj : (Go.Lib.join (wE x) [32]).length ≤ 140737488355328) : Body (Ctr Tryz.prog W0) F25.ac F25.rs [eE x] [] (txtA (fmtT x) (fmtC x)) [] := by
  have hn := nE_cE x
  have hl := wE_len x
  cases x with | mk a b n l =>
  conv => whnf
  refine callP.pure _ (c27 W0 hk (.mk a b n l) hx (by omega)) ⟨rfl, rfl⟩ ?_
  rw [validER_eq]
  conv => whnf
  refine brec (fun h => ?_) (fun h => ?_)
  · rw [Bool.not_eq_false'] at h
    have hw : wellE (.mk a b n l) = true := by
      simp only [validE, Bool.and_eq_true] at h
      exact h.2
    have c := c67 W0 hk (.mk a b n l) hx hw hc
    rw [wR_eq _ hw] at c
    conv => whnf
    refine callP.pure _ c ⟨rfl, rfl⟩ ?_
    conv => whnf
    refine callP.pure _ (join_ctr W0 (wE (.mk a b n l)) [32] (by omega) hj) ⟨rfl, rfl⟩ ?_
    conv => whnf
    exact fin_tx (by simp [fmtT, h]) (by simp [fmtC, h])
  · rw [Bool.not_eq_true'] at h
    conv => whnf
    exact fin_tx (by simp [fmtT, h]) (by simp [fmtC, h])
theorem c25 (W0 : Go.World) (hk : Wk W0) (x : Exp) (hx : x.ok) (hc : cE x ≤ 1048576) (hj : (Go.Lib.join (wE x) [32]).length ≤ 140737488355328) : Ctr Tryz.prog W0 25 [eE x] [] (txtA (fmtT x) (fmtC x)) [] :=
  ctr_body follows F25_ok rfl (fun _ _ h => by cases h) rfl (by cases x; rfl) (b25 W0 hk x hx hc hj)
end Go.Abs
