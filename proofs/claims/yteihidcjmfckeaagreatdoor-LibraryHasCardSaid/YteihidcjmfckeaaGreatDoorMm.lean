/- The recorded calls of Awake's run are contracts, and so Awake. -/
import Derived.Test.YteihidcjmfckeaaGreatDoorMj
import Derived.Test.YteihidcjmfckeaaGreatDoorV11a
import Derived.Test.YteihidcjmfckeaaGreatDoorV12b
import Derived.Test.YteihidcjmfckeaaGreatDoorV12u0
import Derived.Test.YteihidcjmfckeaaGreatDoorV12u1
import Derived.Test.YteihidcjmfckeaaGreatDoorV12u2
import Derived.Test.YteihidcjmfckeaaGreatDoorV12u3
import Derived.Test.YteihidcjmfckeaaGreatDoorV12u4
import Derived.Test.YteihidcjmfckeaaGreatDoorV12u5
import Derived.Test.YteihidcjmfckeaaGreatDoorV12u6
import Derived.Test.YteihidcjmfckeaaGreatDoorV12u7
import Derived.Test.YteihidcjmfckeaaGreatDoorMk
import Derived.Test.YteihidcjmfckeaaGreatDoorV13d
import Derived.Test.YteihidcjmfckeaaGreatDoorV13e
import Derived.Test.YteihidcjmfckeaaGreatDoorMl
import Derived.Test.YteihidcjmfckeaaGreatDoorMq
set_option linter.all false
set_option maxRecDepth 1000000
namespace Go.Abs
open Go Go.Proofs
theorem i8 {W0 : Go.World} (hk : Wk W0) {cs : List RecC} (hc : ∀ c ∈ cs, ak Tryz.prog W0 c) {c : RecC} (h : ar (ab Tryz.prog ax) (mH cs aE) 60 c.f c.a c.H = some c.r) : ak Tryz.prog W0 c :=
 RunOK.ok (lib := mH cs aE) h follows (b9 cS) (libS_ok hc (dQ hk))
theorem rcNC0_o {W0 : Go.World} (hk : Wk W0) : ak Tryz.prog W0 rcNC0 := az hk (c := rcNC0) rcNC0_r
theorem rcNC1_o {W0 : Go.World} (hk : Wk W0) : ak Tryz.prog W0 rcNC1 := az hk (c := rcNC1) rcNC1_r
theorem rcNC2_o {W0 : Go.World} (hk : Wk W0) : ak Tryz.prog W0 rcNC2 := az hk (c := rcNC2) rcNC2_r
theorem rcNC3_o {W0 : Go.World} (hk : Wk W0) : ak Tryz.prog W0 rcNC3 := az hk (c := rcNC3) rcNC3_r
theorem rcNC4_o {W0 : Go.World} (hk : Wk W0) : ak Tryz.prog W0 rcNC4 := az hk (c := rcNC4) rcNC4_r
theorem rcNC5_o {W0 : Go.World} (hk : Wk W0) : ak Tryz.prog W0 rcNC5 := az hk (c := rcNC5) rcNC5_r
theorem rcNC6_o {W0 : Go.World} (hk : Wk W0) : ak Tryz.prog W0 rcNC6 := az hk (c := rcNC6) rcNC6_r
theorem rcNC7_o {W0 : Go.World} (hk : Wk W0) : ak Tryz.prog W0 rcNC7 := az hk (c := rcNC7) rcNC7_r
theorem rcNC8_o {W0 : Go.World} (hk : Wk W0) : ak Tryz.prog W0 rcNC8 := az hk (c := rcNC8) rcNC8_r
theorem rcNC9_o {W0 : Go.World} (hk : Wk W0) : ak Tryz.prog W0 rcNC9 := az hk (c := rcNC9) rcNC9_r
theorem rcNC10_o {W0 : Go.World} (hk : Wk W0) : ak Tryz.prog W0 rcNC10 := az hk (c := rcNC10) rcNC10_r
theorem rcNC11_o {W0 : Go.World} (hk : Wk W0) : ak Tryz.prog W0 rcNC11 := az hk (c := rcNC11) rcNC11_r
theorem rcNC12_o {W0 : Go.World} (hk : Wk W0) : ak Tryz.prog W0 rcNC12 := az hk (c := rcNC12) rcNC12_r
theorem rcNC13_o {W0 : Go.World} (hk : Wk W0) : ak Tryz.prog W0 rcNC13 := az hk (c := rcNC13) rcNC13_r
theorem rcNC14_o {W0 : Go.World} (hk : Wk W0) : ak Tryz.prog W0 rcNC14 := az hk (c := rcNC14) rcNC14_r
theorem rcNC15_o {W0 : Go.World} (hk : Wk W0) : ak Tryz.prog W0 rcNC15 := az hk (c := rcNC15) rcNC15_r
theorem rcNC16_o {W0 : Go.World} (hk : Wk W0) : ak Tryz.prog W0 rcNC16 := az hk (c := rcNC16) rcNC16_r
theorem rcNCs_o {W0 : Go.World} (hk : Wk W0) : ∀ c ∈ rcNCs, ak Tryz.prog W0 c := (ac (rcNC0_o hk) (ac (rcNC1_o hk) (ac (rcNC2_o hk) (ac (rcNC3_o hk) (ac (rcNC4_o hk) (ac (rcNC5_o hk) (ac (rcNC6_o hk) (ac (rcNC7_o hk) (ac (rcNC8_o hk) (ac (rcNC9_o hk) (ac (rcNC10_o hk) (ac (rcNC11_o hk) (ac (rcNC12_o hk) (ac (rcNC13_o hk) (ac (rcNC14_o hk) (ac (rcNC15_o hk) (ac (rcNC16_o hk) an)))))))))))))))))
theorem rcTC0_o {W0 : Go.World} (hk : Wk W0) : ak Tryz.prog W0 rcTC0 := az hk (c := rcTC0) rcTC0_r
theorem rcTC1_o {W0 : Go.World} (hk : Wk W0) : ak Tryz.prog W0 rcTC1 := az hk (c := rcTC1) rcTC1_r
theorem rcTC2_o {W0 : Go.World} (hk : Wk W0) : ak Tryz.prog W0 rcTC2 := az hk (c := rcTC2) rcTC2_r
theorem rcTC3_o {W0 : Go.World} (hk : Wk W0) : ak Tryz.prog W0 rcTC3 := az hk (c := rcTC3) rcTC3_r
theorem rcTC4_o {W0 : Go.World} (hk : Wk W0) : ak Tryz.prog W0 rcTC4 := az hk (c := rcTC4) rcTC4_r
theorem rcTC5_o {W0 : Go.World} (hk : Wk W0) : ak Tryz.prog W0 rcTC5 := az hk (c := rcTC5) rcTC5_r
theorem rcTC6_o {W0 : Go.World} (hk : Wk W0) : ak Tryz.prog W0 rcTC6 := az hk (c := rcTC6) rcTC6_r
theorem rcTC7_o {W0 : Go.World} (hk : Wk W0) : ak Tryz.prog W0 rcTC7 := az hk (c := rcTC7) rcTC7_r
theorem rcTC8_o {W0 : Go.World} (hk : Wk W0) : ak Tryz.prog W0 rcTC8 := az hk (c := rcTC8) rcTC8_r
theorem rcTC9_o {W0 : Go.World} (hk : Wk W0) : ak Tryz.prog W0 rcTC9 := az hk (c := rcTC9) rcTC9_r
theorem rcTC10_o {W0 : Go.World} (hk : Wk W0) : ak Tryz.prog W0 rcTC10 := az hk (c := rcTC10) rcTC10_r
theorem rcTC11_o {W0 : Go.World} (hk : Wk W0) : ak Tryz.prog W0 rcTC11 := az hk (c := rcTC11) rcTC11_r
theorem rcTC12_o {W0 : Go.World} (hk : Wk W0) : ak Tryz.prog W0 rcTC12 := az hk (c := rcTC12) rcTC12_r
theorem rcTC13_o {W0 : Go.World} (hk : Wk W0) : ak Tryz.prog W0 rcTC13 := az hk (c := rcTC13) rcTC13_r
theorem rcTC14_o {W0 : Go.World} (hk : Wk W0) : ak Tryz.prog W0 rcTC14 := az hk (c := rcTC14) rcTC14_r
theorem rcTC15_o {W0 : Go.World} (hk : Wk W0) : ak Tryz.prog W0 rcTC15 := az hk (c := rcTC15) rcTC15_r
theorem rcTC16_o {W0 : Go.World} (hk : Wk W0) : ak Tryz.prog W0 rcTC16 := az hk (c := rcTC16) rcTC16_r
theorem rcTC17_o {W0 : Go.World} (hk : Wk W0) : ak Tryz.prog W0 rcTC17 := az hk (c := rcTC17) rcTC17_r
theorem rcTC18_o {W0 : Go.World} (hk : Wk W0) : ak Tryz.prog W0 rcTC18 := az hk (c := rcTC18) rcTC18_r
theorem rcTC19_o {W0 : Go.World} (hk : Wk W0) : ak Tryz.prog W0 rcTC19 := az hk (c := rcTC19) rcTC19_r
theorem rcTC20_o {W0 : Go.World} (hk : Wk W0) : ak Tryz.prog W0 rcTC20 := az hk (c := rcTC20) rcTC20_r
theorem rcTC21_o {W0 : Go.World} (hk : Wk W0) : ak Tryz.prog W0 rcTC21 := az hk (c := rcTC21) rcTC21_r
theorem rcTC22_o {W0 : Go.World} (hk : Wk W0) : ak Tryz.prog W0 rcTC22 := az hk (c := rcTC22) rcTC22_r
theorem rcTC23_o {W0 : Go.World} (hk : Wk W0) : ak Tryz.prog W0 rcTC23 := az hk (c := rcTC23) rcTC23_r
theorem rcTC24_o {W0 : Go.World} (hk : Wk W0) : ak Tryz.prog W0 rcTC24 := az hk (c := rcTC24) rcTC24_r
theorem rcTCs_o {W0 : Go.World} (hk : Wk W0) : ∀ c ∈ rcTCs, ak Tryz.prog W0 c := (ac (rcTC0_o hk) (ac (rcTC1_o hk) (ac (rcTC2_o hk) (ac (rcTC3_o hk) (ac (rcTC4_o hk) (ac (rcTC5_o hk) (ac (rcTC6_o hk) (ac (rcTC7_o hk) (ac (rcTC8_o hk) (ac (rcTC9_o hk) (ac (rcTC10_o hk) (ac (rcTC11_o hk) (ac (rcTC12_o hk) (ac (rcTC13_o hk) (ac (rcTC14_o hk) (ac (rcTC15_o hk) (ac (rcTC16_o hk) (ac (rcTC17_o hk) (ac (rcTC18_o hk) (ac (rcTC19_o hk) (ac (rcTC20_o hk) (ac (rcTC21_o hk) (ac (rcTC22_o hk) (ac (rcTC23_o hk) (ac (rcTC24_o hk) an)))))))))))))))))))))))))
theorem lz483_0o {W0 : Go.World} (hk : Wk W0) : ak Tryz.prog W0 ⟨483, f0, fY, fW⟩ := az hk (c := ⟨483, f0, fY, fW⟩) lz483_0
theorem lz483_1o {W0 : Go.World} (hk : Wk W0) : ak Tryz.prog W0 ⟨483, fZ, fX, fV⟩ := az hk (c := ⟨483, fZ, fX, fV⟩) lz483_1
theorem ja {W0 : Go.World} (hk : Wk W0) : ∀ c ∈ kc, ak Tryz.prog W0 c := (ac (lz483_0o hk) (ac (lz483_1o hk) an))
theorem rcLC246_o {W0 : Go.World} (hk : Wk W0) : ak Tryz.prog W0 pC := i8 hk (rcNCs_o hk) (c := pC) nms_r
theorem rcLC245_o {W0 : Go.World} (hk : Wk W0) : ak Tryz.prog W0 rcLC245 := i8 hk (ja hk) (c := rcLC245) rcL245_r
theorem rcLC184_o {W0 : Go.World} (hk : Wk W0) : ak Tryz.prog W0 rcLC184 := i8 hk (ac (rcLC246_o hk) (ja hk)) (c := rcLC184) rcL184_r
theorem rcLC185_o {W0 : Go.World} (hk : Wk W0) : ak Tryz.prog W0 rcLC185 := i8 hk (ja hk) (c := rcLC185) rcL185_r
theorem rcLC129a_o {W0 : Go.World} (hk : Wk W0) : ak Tryz.prog W0 rcLC129a := i8 hk (ac (rcLC245_o hk) (ac (rcLC184_o hk) (ac (rcLC185_o hk) an))) (c := rcLC129a) rcL129a_r
theorem rcLC129b_o {W0 : Go.World} (hk : Wk W0) : ak Tryz.prog W0 rcLC129b := az hk (c := rcLC129b) rcL129b_r
theorem rcLC128_o {W0 : Go.World} (hk : Wk W0) : ak Tryz.prog W0 rcLC128 := i8 hk (ac (rcLC129b_o hk) an) (c := rcLC128) rcL128_r
theorem rcRC38_o {W0 : Go.World} (hk : Wk W0) : ak Tryz.prog W0 rcRC38 := recOK hk (rcTCs_o hk) (c := rcRC38) pln_r
theorem rcRC34_o {W0 : Go.World} (hk : Wk W0) : ak Tryz.prog W0 rcRC34 := recOK hk (ac (rcLC128_o hk) (ac (rcRC38_o hk) an)) (c := rcRC34) rcR34_r
theorem rcAC33_o {W0 : Go.World} (hk : Wk W0) : ak Tryz.prog W0 rcAC33 := recOK hk (ac (rcLC129a_o hk) an) (c := rcAC33) rcA33_r
theorem rcAC24_o {W0 : Go.World} (hk : Wk W0) : ak Tryz.prog W0 rcAC24 := recOK hk (ac (rcAC33_o hk) (ac (rcRC34_o hk) an)) (c := rcAC24) rcA24_r
def li : RecC := ⟨11, [], [], (.sc (.b true), [])⟩
theorem rcAC11_o {W0 : Go.World} (hk : Wk W0) : ak Tryz.prog W0 li := recOK hk (ac (rcAC24_o hk) an) (c := li) rcA11_r
end Go.Abs
namespace Go.Abs
open Go Go.Proofs
theorem s19_r : ar (ab Tryz.prog ez) aE 60 19 [] [] = some rcSC19.r := by kernel_rfl
theorem s7_r : ar (ab Tryz.prog ez) (bE [rcSC19] aE) 60 7 [] [] = some rcSC7.r := by kernel_rfl
theorem s9_0r : ar (ab Tryz.prog ez) (bE [rcSC19] aE) 60 9 rcSC9_0.a [] = some rcSC9_0.r := by kernel_rfl
theorem s9_1r : ar (ab Tryz.prog ez) (bE [rcSC19] aE) 60 9 rcSC9_1.a [] = some rcSC9_1.r := by kernel_rfl
theorem s9_2r : ar (ab Tryz.prog ez) (bE [rcSC19] aE) 60 9 rcSC9_2.a [] = some rcSC9_2.r := by kernel_rfl
theorem s9_3r : ar (ab Tryz.prog ez) (bE [rcSC19] aE) 60 9 rcSC9_3.a [] = some rcSC9_3.r := by kernel_rfl
theorem s9_4r : ar (ab Tryz.prog ez) (bE [rcSC19] aE) 60 9 rcSC9_4.a [] = some rcSC9_4.r := by kernel_rfl
theorem s9_5r : ar (ab Tryz.prog ez) (bE [rcSC19] aE) 60 9 rcSC9_5.a [] = some rcSC9_5.r := by kernel_rfl
theorem s9_6r : ar (ab Tryz.prog ez) (bE [rcSC19] aE) 60 9 rcSC9_6.a [] = some rcSC9_6.r := by kernel_rfl
theorem s9_7r : ar (ab Tryz.prog ez) (bE [rcSC19] aE) 60 9 rcSC9_7.a [] = some rcSC9_7.r := by kernel_rfl
theorem s9_8r : ar (ab Tryz.prog ez) (bE [rcSC19] aE) 60 9 rcSC9_8.a [] = some rcSC9_8.r := by kernel_rfl
theorem s9_9r : ar (ab Tryz.prog ez) (bE [rcSC19] aE) 60 9 rcSC9_9.a [] = some rcSC9_9.r := by kernel_rfl
theorem s9_10r : ar (ab Tryz.prog ez) (bE [rcSC19] aE) 60 9 rcSC9_10.a [] = some rcSC9_10.r := by kernel_rfl
theorem s9_11r : ar (ab Tryz.prog ez) (bE [rcSC19] aE) 60 9 rcSC9_11.a [] = some rcSC9_11.r := by kernel_rfl
theorem s9_12r : ar (ab Tryz.prog ez) (bE [rcSC19] aE) 60 9 rcSC9_12.a [] = some rcSC9_12.r := by kernel_rfl
theorem s9_13r : ar (ab Tryz.prog ez) (bE [rcSC19] aE) 60 9 rcSC9_13.a [] = some rcSC9_13.r := by kernel_rfl
end Go.Abs
namespace Go.Abs
open Go Go.Proofs
open K in
def F6 : Fn := ⟨.seq (.reg [n (.mv 2 (.c (.sc (.s []))))]) (.seq (.reg [n (cf 3 18 []), n (bs 4 .add 3 [32]), m 5 0, n (b2 6 .add 4 5), m 2 6]) .ret), [(2, 0)], 7, []⟩
theorem F6_ok : ab Tryz.prog (fun _ => an0) 6 = some F6 := by kernel_rfl
open K in
def rest3 : AC := (.seq (.reg [n (cf 25 7 []), m 3 25]) (.seq (.seq (.reg [n (mi 4 1)]) (.block 0 (.loop (.seq (.seq (.reg [m 26 4, m 27 3, n (.len 28 (.t 27)), n (b2 29 .lss 26 28)]) (.cond (.t 29) .skip (.exit 0))) (.seq (.block 1 (.seq (.regD [m 32 3, m 33 4, n (bi 34 .sub 33 1), n (ix 35 1 32 34), n (ld 36 35), m 37 3, m 38 4, n (ix 39 1 37 38), n (ld 40 39), n (b2 41 .geq 36 40)] [0, 0, 2, 7, 15, 0, 0, 96, 224, 511]) (.cond (.t 41) (.seq (.reg [n (mb 2 false)]) .ret) .skip))) (.reg [m 30 4, n (bi 31 .add 30 1), m 4 31])))))) (.seq (.reg [n (cf 42 8 []), m 5 42]) (.seq (.seq (.reg [n (mi 6 0)]) (.block 2 (.loop (.seq (.seq (.reg [m 43 6, m 44 5, n (.len 45 (.t 44)), n (b2 46 .lss 43 45)]) (.cond (.t 46) .skip (.exit 2))) (.seq (.block 3 (.seq (.reg [n (mb 7 false)]) (.seq (.seq (.reg [n (mi 8 0)]) (.block 4 (.loop (.seq (.seq (.reg [m 49 8, m 50 3, n (.len 51 (.t 50)), n (b2 52 .lss 49 51)]) (.cond (.t 52) .skip (.exit 4))) (.seq (.block 5 (.regD [m 55 7, m 56 55, gm 56 57 3, gm 56 58 8, g 56 (ix 59 1 57 58), g 56 (ld 60 59), gm 56 61 5, gm 56 62 6, g 56 (ix 63 3 61 62), g 56 (fa 64 63 0), g 56 (ld 65 64), g 56 (b2 66 .eql 60 65), n (pt 67 56 66), m 7 67] [0, 1, 3, 3, 15, 31, 3, 3, 195, 451, 963, 2047, 4095, 8191])) (.reg [m 53 8, n (bi 54 .add 53 1), m 8 54])))))) (.seq (.reg [m 69 5, m 70 6, n (ix 71 3 69 70), n (fa 72 71 0), n (ld 73 72), n (cf 74 9 [.t 73]), m 68 74, n (ext 75 68 0), n (ext 76 68 1), m 9 75, m 10 76]) (.seq (.reg [n (mb 11 false)]) (.seq (.seq (.reg [n (mi 12 0)]) (.block 6 (.loop (.seq (.seq (.reg [m 77 12, m 78 9, n (.len 79 (.t 78)), n (b2 80 .lss 77 79)]) (.cond (.t 80) .skip (.exit 6))) (.seq (.block 7 (.regD [m 83 11, m 84 83, gm 84 85 9, gm 84 86 12, g 84 (ix 87 3 85 86), g 84 (.ld 88 3 true (.t 87)), g 84 (.bsl 89 3 [.t 88]), gm 84 90 5, gm 84 91 6, g 84 (ix 92 3 90 91), g 84 (.ld 93 3 true (.t 92)), g 84 (.bsl 94 3 [.t 93]), g 84 (cf 95 10 [.t 89, .t 94]), n (pt 96 84 95), m 11 96] [0, 1, 3, 3, 15, 31, 63, 3, 3, 387, 899, 1923, 4095, 8191, 16383])) (.reg [m 81 12, n (bi 82 .add 81 1), m 12 82])))))) (.seq (.reg [m 97 7, n (.no 98 (.t 97)), m 99 98, gm 99 100 10, g 99 (bi 101 .neq 100 0), n (pt 102 99 101), m 103 102, gm 103 104 11, g 103 (.no 105 (.t 104)), n (pt 106 103 105)]) (.cond (.t 106) (.seq (.reg [n (mb 2 false)]) .ret) .skip)))))))) (.reg [m 47 6, n (bi 48 .add 47 1), m 6 48])))))) (.seq (.reg [n (cf 107 11 []), m 2 107]) .ret)))))
open K in
def F3 : Fn := ⟨.seq (.reg [n (mb 2 false)]) (.seq (.seq (.reg [n (cf 13 5 []), n (.lenS 14 (.t 13)), n (bi 15 .gtr 14 7000), m 16 15, gm 16 17 0, g 16 (cf 18 6 [.t 17]), g 16 (cf 19 5 []), g 16 (bs 20 .add 19 [32]), gm 16 21 0, g 16 (b2 22 .add 20 21), g 16 (b2 23 .neq 18 22), n (pt 24 16 23)]) (.cond (.t 24) (.seq (.reg [n (mb 2 false)]) .ret) .skip)) rest3), [(2, 0)], 108, []⟩
theorem F3_ok : ab Tryz.prog (fun _ => an0) 3 = some F3 := by kernel_rfl
theorem ct {W0 : Go.World} (hk : Wk W0) {cs : List RecC} (hc : ∀ c ∈ cs, ak Tryz.prog W0 c) {c : RecC} (h : ar (ab Tryz.prog ez) (bE cs aE) 60 c.f c.a c.H = some c.r) : ak Tryz.prog W0 c :=
 RunOK.ok (lib := bE cs aE) h follows (b9 qa) (fH hc (dQ hk))
theorem bG {W0 : Go.World} (hk : Wk W0) : ak Tryz.prog W0 rcSC19 := RunOK.ok (lib := aE) s19_r follows (b9 qa) (dQ hk)
theorem rcSC7_o {W0 : Go.World} (hk : Wk W0) : ak Tryz.prog W0 rcSC7 := ct hk (ac (bG hk) an) (c := rcSC7) s7_r
theorem rcSC9_0o {W0 : Go.World} (hk : Wk W0) : ak Tryz.prog W0 rcSC9_0 := ct hk (ac (bG hk) an) (c := rcSC9_0) s9_0r
theorem rcSC9_1o {W0 : Go.World} (hk : Wk W0) : ak Tryz.prog W0 rcSC9_1 := ct hk (ac (bG hk) an) (c := rcSC9_1) s9_1r
theorem rcSC9_2o {W0 : Go.World} (hk : Wk W0) : ak Tryz.prog W0 rcSC9_2 := ct hk (ac (bG hk) an) (c := rcSC9_2) s9_2r
theorem rcSC9_3o {W0 : Go.World} (hk : Wk W0) : ak Tryz.prog W0 rcSC9_3 := ct hk (ac (bG hk) an) (c := rcSC9_3) s9_3r
theorem rcSC9_4o {W0 : Go.World} (hk : Wk W0) : ak Tryz.prog W0 rcSC9_4 := ct hk (ac (bG hk) an) (c := rcSC9_4) s9_4r
theorem rcSC9_5o {W0 : Go.World} (hk : Wk W0) : ak Tryz.prog W0 rcSC9_5 := ct hk (ac (bG hk) an) (c := rcSC9_5) s9_5r
theorem rcSC9_6o {W0 : Go.World} (hk : Wk W0) : ak Tryz.prog W0 rcSC9_6 := ct hk (ac (bG hk) an) (c := rcSC9_6) s9_6r
theorem rcSC9_7o {W0 : Go.World} (hk : Wk W0) : ak Tryz.prog W0 rcSC9_7 := ct hk (ac (bG hk) an) (c := rcSC9_7) s9_7r
theorem rcSC9_8o {W0 : Go.World} (hk : Wk W0) : ak Tryz.prog W0 rcSC9_8 := ct hk (ac (bG hk) an) (c := rcSC9_8) s9_8r
theorem rcSC9_9o {W0 : Go.World} (hk : Wk W0) : ak Tryz.prog W0 rcSC9_9 := ct hk (ac (bG hk) an) (c := rcSC9_9) s9_9r
theorem rcSC9_10o {W0 : Go.World} (hk : Wk W0) : ak Tryz.prog W0 rcSC9_10 := ct hk (ac (bG hk) an) (c := rcSC9_10) s9_10r
theorem rcSC9_11o {W0 : Go.World} (hk : Wk W0) : ak Tryz.prog W0 rcSC9_11 := ct hk (ac (bG hk) an) (c := rcSC9_11) s9_11r
theorem rcSC9_12o {W0 : Go.World} (hk : Wk W0) : ak Tryz.prog W0 rcSC9_12 := ct hk (ac (bG hk) an) (c := rcSC9_12) s9_12r
theorem rcSC9_13o {W0 : Go.World} (hk : Wk W0) : ak Tryz.prog W0 rcSC9_13 := ct hk (ac (bG hk) an) (c := rcSC9_13) s9_13r
theorem all_o {W0 : Go.World} (hk : Wk W0) : ∀ c ∈ li :: rcSC7 :: rcSCs, ak Tryz.prog W0 c := ac (rcAC11_o hk) (ac (rcSC7_o hk) (ac (rcSC9_0o hk) (ac (rcSC9_1o hk) (ac (rcSC9_2o hk) (ac (rcSC9_3o hk) (ac (rcSC9_4o hk) (ac (rcSC9_5o hk) (ac (rcSC9_6o hk) (ac (rcSC9_7o hk) (ac (rcSC9_8o hk) (ac (rcSC9_9o hk) (ac (rcSC9_10o hk) (ac (rcSC9_11o hk) (ac (rcSC9_12o hk) (ac (rcSC9_13o hk) an)))))))))))))))
theorem run5 : ar (ab Tryz.prog ax) aE 10 5 [] [] = some (.sc (.s srcB), []) := by kernel_rfl
theorem run18 : ar (ab Tryz.prog ax) aE 10 18 [] [] = some (.sc (.s srcB), []) := by kernel_rfl
theorem b6 (W0 : Go.World) (src s : S) (hl : src.length + 1 + s.length ≤ 9223372036854775807) (k : Ctr Tryz.prog W0 18 [] [] (.sc (.s src)) []) : be (Ctr Tryz.prog W0) F6.ac F6.rs [.sc (.s s)] [] (.sc (.s (src ++ [32] ++ s))) [] := by
 refine kb (m := 1100) rfl fun K hK => ?_
 conv => whnf
 refine hK _ ?_
 clear hK K
 refine kb (m := 1600) rfl fun K hK => ?_
 conv => whnf
 refine callP.pure _ k ⟨rfl, rfl⟩ ?_
 conv => whnf
 refine ⟨by simp only [List.length_cons, List.length_nil]; omega, ?_⟩
 conv => whnf
 refine ⟨by simp only [List.length_append, List.length_cons, List.length_nil]; omega, ?_⟩
 conv => whnf
 refine hK _ ?_
 clear hK K
 conv => whnf
 exact pV rfl
theorem c6 (W0 : Go.World) (src s : S) (hl : src.length + 1 + s.length ≤ 9223372036854775807) (k : Ctr Tryz.prog W0 18 [] [] (.sc (.s src)) []) : Ctr Tryz.prog W0 6 [.sc (.s s)] [] (.sc (.s (src ++ [32] ++ s))) [] :=
 ah follows F6_ok rfl (fun _ _ h => by cases h) rfl rfl (b6 W0 src s hl k)
theorem restA_s {call : aP} {rc : Rec} (hrc : ∀ f args H res H', rc f args H = some (res, H') → call f args H res H') {c : AC} {rs : List (Nat × Nat)} {args : List AV} {H : List (List AV)} {res : AV} {H' : List (List AV)} {nx : Nat} {σ : Log}
  (h : mK rc c nx (apT σ St0) (fun e _ z => match e with
  | .e _ => none
  | _ => cM (lkT z) rs fun v => dS (lkT z) v H.length (e8 args H)) = some (res, H')) : awp call c nx σ fun e _ σ => match e with
  | .e _ => False
  | _ => resP σ rs fun v => FinOK σ v H.length (cz args H) res H' :=
 restT_s hrc (by have := dJ St0_lk σ; rwa [List.append_nil] at this) h
theorem len_le {src : S} (h : src.length ≤ 7000) : decide ((7000 : Int) < (src.length : Int)) = false := by
 rw [decide_eq_false_iff_not]; omega
theorem b3 (W0 : Go.World) (src s : S) (h1 : src.length ≤ 7000) (hl : s.length ≤ 140737488355328) (k5 : Ctr Tryz.prog W0 5 [] [] (.sc (.s src)) []) (k6 : Ctr Tryz.prog W0 6 [.sc (.s s)] [] (.sc (.s (src ++ [32] ++ s))) [])
  (hall : ∀ f args H res H', ar (ab Tryz.prog ez) (bE (li :: rcSC7 :: rcSCs) aE) 59 f args H = some (res, H') → Ctr Tryz.prog W0 f args H res H') :
  be (Ctr Tryz.prog W0) F3.ac F3.rs [.sc (.s s)] [] (.sc (.b true)) [] := by
 refine kb (m := 1100) rfl fun K hK => ?_
 conv => whnf
 refine hK _ ?_
 clear hK K
 refine seq_assoc (kb (m := 2300) rfl fun K hK => ?_)
 conv => whnf
 refine callP.pure _ k5 ⟨rfl, rfl⟩ ?_
 conv => whnf
 rw [len_le h1]
 conv => whnf
 refine callP.pure _ k6 ⟨rfl, rfl⟩ ?_
 conv => whnf
 refine callP.pure _ k5 ⟨rfl, rfl⟩ ?_
 conv => whnf
 refine ⟨by simp only [List.length_cons, List.length_nil]; omega, ?_⟩
 conv => whnf
 refine ⟨by simp only [List.length_append, List.length_cons, List.length_nil]; omega, ?_⟩
 conv => whnf
 refine hK _ ?_
 clear hK K
 have e : aD (src ++ [32] ++ s) (src ++ [32] ++ s) = true := decide_eq_true rfl
 refine seq_cond false ?_ (fun _ => ?_) (fun h => by cases h)
 ·show AV.sc (.b (!aD (src ++ [32] ++ s) (src ++ [32] ++ s))) = _
  rw [e]; rfl
 ·refine seq_skip ?_
  refine restA_s hall ?_
  kernel_rfl
theorem src_le : Nat.ble srcB.length 7000 = true := by kernel_rfl
theorem add_le {a b : Nat} (h1 : a ≤ 7000) (h2 : b ≤ 140737488355328) : a + 1 + b ≤ 9223372036854775807 := by omega
theorem c3 (W0 : Go.World) (hk : Wk W0) (s : S) (hs : s.length ≤ 140737488355328) : Ctr Tryz.prog W0 3 [.sc (.s s)] [] (.sc (.b true)) [] := by
 have k5 : Ctr Tryz.prog W0 5 [] [] (.sc (.s srcB)) [] := i7 follows (b9 cS) (dQ hk) 10 5 [] [] _ _ run5
 have k18 : Ctr Tryz.prog W0 18 [] [] (.sc (.s srcB)) [] := i7 follows (b9 cS) (dQ hk) 10 18 [] [] _ _ run18
 have h1 : srcB.length ≤ 7000 := Nat.le_of_ble_eq_true src_le
 have k6 := c6 W0 srcB s (add_le h1 hs) k18
 have hl : ∀ f args H res H', bE (li :: rcSC7 :: rcSCs) aE f args H = some (res, H') → Ctr Tryz.prog W0 f args H res H' := fH (all_o hk) (dQ hk)
 generalize srcB = src at k5 k6 h1
 exact ah follows F3_ok rfl (fun _ _ h => by cases h) rfl rfl (b3 W0 src s h1 hs k5 k6 (fun f args H res H' h => i7 follows (b9 qa) hl 59 f args H res H' h))
end Go.Abs
