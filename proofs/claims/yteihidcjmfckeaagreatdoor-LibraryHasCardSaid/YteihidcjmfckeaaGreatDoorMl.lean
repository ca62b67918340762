/- Run of the core program, run. -/
import Derived.Test.YteihidcjmfckeaaGreatDoorMj
import Derived.Test.YteihidcjmfckeaaGreatDoorMq
set_option linter.all false
set_option maxRecDepth 1000000
namespace Go.Abs
open Go Go.Proofs
theorem rcR34_r : ar (ab Tryz.prog ax) (bE [rcLC128, rcRC38] aE) 60 34 rcRA34_0 rcRH34_0 = some rcRR34_0 := by kernel_rfl
end Go.Abs
namespace Go.Abs.RA
open Go.Abs Go.Abs.R
def a0 : Data := (d [105, 110, 116])
def a1 : Data := (d [118, 97, 114])
def a2 : Data := (d [120])
def a3 : Data := (E 1)
end Go.Abs.RA
namespace Go.Abs
open Go.Abs.R Go.Abs.RA
def rcAA33_0 : List AV := [(v (w [100, 111, 109, 97, 105, 110, 32, 100, 32, 61, 32, 123, 32, 48, 32, 46, 46, 32, 50, 32, 98, 121, 32, 49, 32, 125, 32, 99, 121, 99, 108, 105, 99, 32, 59, 32, 97, 114, 114, 97, 121, 32, 97, 32, 111, 118, 101, 114, 32, 100, 32, 61, 32, 53, 32, 59, 32, 119, 114, 105, 116, 101, 32, 116, 111, 116, 97, 108, 32, 40, 32, 97, 32, 41, 32, 59]))]
def rcAH33_0 : List (List AV) := []
def rcAR33_0 : AV × List (List AV) := ((.tup [(.agg [(x 4 [[(V (w [116, 111, 116, 97, 108])), a0, (L 3 [[(d [97]), (V (w [97, 114, 114, 97, 121])), (I 1)]]), (L 8 [[a1, a2, U, Z, a3, (L 4 [[a0, U, Z, (E 4)]]), (E 2), a3], [(d [115, 101, 116]), a2, U, Z, a3, (L 4 [[(V (w [110, 111, 110, 101])), (d [43]), Z, (E 4)]]), (E 2), a3], [(V (w [102, 111, 114, 97, 108, 108])), U, (d [97]), Z, (L 1 [[(d [116, 95, 48])]]), (E 4), (L 2 [[(d [43]), a2]]), (L 1 [[(L 8 [[(d [115, 101, 116]), a2, U, Z, a3, (L 4 [[(d [97, 116]), (d [97]), Z, (L 4 [[a1, (d [116, 95, 48]), Z, (E 4)]])]]), (E 2), a3]])]])], [(V (w [114, 101, 116, 117, 114, 110])), U, U, Z, a3, (L 4 [[a1, a2, Z, (E 4)]]), (E 2), a3]])]] 0), (x 8 [[(d [100, 111, 109]), (d [100]), (V (w [99, 121, 99, 108, 105, 99])), Z, a3, (L 4 [[a0, U, Z, (E 4)], [a0, U, (I 2), (E 4)], [a0, U, (I 1), (E 4)]]), (E 2), a3], [(d [97, 114, 114]), (d [97]), (d [100]), Z, a3, (L 4 [[a0, U, (I 5), (E 4)]]), (E 2), a3], [(V (w [119, 114, 105, 116, 101])), U, U, Z, a3, (L 4 [[(V (w [99, 97, 108, 108])), (V (w [116, 111, 116, 97, 108])), Z, (L 4 [[a1, (d [97]), Z, (E 4)]])]]), (E 2), a3]] 1)]), z]), [])
def rcAA24_0 : List AV := [(v (w [100, 111, 109, 97, 105, 110, 32, 100, 32, 61, 32, 123, 32, 48, 32, 46, 46, 32, 50, 32, 98, 121, 32, 49, 32, 125, 32, 99, 121, 99, 108, 105, 99, 32, 59, 32, 97, 114, 114, 97, 121, 32, 97, 32, 111, 118, 101, 114, 32, 100, 32, 61, 32, 53, 32, 59, 32, 119, 114, 105, 116, 101, 32, 116, 111, 116, 97, 108, 32, 40, 32, 97, 32, 41, 32, 59])), (i 20000)]
def rcAH24_0 : List (List AV) := []
def rcAR24_0 : AV × List (List AV) := ((.tup [(.agg [(x 1 [[(d [49, 53])]] 0), (s [101, 110, 100]), u, (i 25)]), z]), [])
end Go.Abs
namespace Go.Abs
open Go Go.Proofs
def rcAC33 : RecC := ⟨33, rcAA33_0, rcAH33_0, rcAR33_0⟩
def rcAC24 : RecC := ⟨24, rcAA24_0, rcAH24_0, rcAR24_0⟩
theorem rcA24_r : ar (ab Tryz.prog ax) (bE [rcAC33, rcRC34] aE) 60 24 rcAA24_0 rcAH24_0 = some rcAR24_0 := by kernel_rfl
theorem rcA11_r : ar (ab Tryz.prog ax) (bE [rcAC24] aE) 60 11 [] [] = some (.sc (.b true), []) := by kernel_rfl
end Go.Abs
namespace Go.Abs
open Go Go.Proofs
theorem rcA33_r : ar (ab Tryz.prog ax) (bE [rcLC129a] aE) 60 33 rcAA33_0 rcAH33_0 = some rcAR33_0 := by kernel_rfl
end Go.Abs
