/- Plain of the core program, run by its turns. -/
import Derived.Test.YteihidcjmfckeaaGreatDoorMj
import Derived.Test.YteihidcjmfckeaaGreatDoorMq
set_option linter.all false
set_option maxRecDepth 1000000
namespace Go.Abs
open Go Go.Proofs
def rcTC0 : RecC := ⟨86, rcTA86_0, rcTH86_0, rcTR86_0⟩
def rcTC1 : RecC := ⟨86, rcTA86_1, rcTH86_1, rcTR86_1⟩
def rcTC2 : RecC := ⟨86, rcTA86_2, rcTH86_2, rcTR86_2⟩
def rcTC3 : RecC := ⟨86, rcTA86_3, rcTH86_3, rcTR86_3⟩
def rcTC4 : RecC := ⟨86, rcTA86_4, rcTH86_4, rcTR86_4⟩
def rcTC5 : RecC := ⟨86, rcTA86_5, rcTH86_5, rcTR86_5⟩
def rcTC6 : RecC := ⟨86, rcTA86_6, rcTH86_6, rcTR86_6⟩
def rcTC7 : RecC := ⟨86, rcTA86_7, rcTH86_7, rcTR86_7⟩
def rcTC8 : RecC := ⟨86, rcTA86_8, rcTH86_8, rcTR86_8⟩
def rcTC9 : RecC := ⟨86, rcTA86_9, rcTH86_9, rcTR86_9⟩
def rcTC10 : RecC := ⟨86, nX, nF, ne⟩
def rcTC11 : RecC := ⟨86, nW, nD, na⟩
def rcTC12 : RecC := ⟨86, nV, nC, m9⟩
def rcTC13 : RecC := ⟨86, nU, nA, m8⟩
def rcTC14 : RecC := ⟨86, nT, nz, m7⟩
def rcTC15 : RecC := ⟨86, nR, nw, m5⟩
def rcTC16 : RecC := ⟨86, nQ, nv, m4⟩
def rcTC17 : RecC := ⟨86, nP, nu, mZ⟩
def rcTC18 : RecC := ⟨86, nO, nr, mY⟩
def rcTC19 : RecC := ⟨86, nN, nq, mX⟩
def rcTC20 : RecC := ⟨86, nM, nn, mW⟩
def rcTC21 : RecC := ⟨86, nK, nl, mV⟩
def rcTC22 : RecC := ⟨86, nJ, nk, mU⟩
def rcTC23 : RecC := ⟨86, nI, nj, mT⟩
def rcTC24 : RecC := ⟨86, nH, nh, mS⟩
def rcTCs : List RecC := [rcTC0, rcTC1, rcTC2, rcTC3, rcTC4, rcTC5, rcTC6, rcTC7, rcTC8, rcTC9, rcTC10, rcTC11, rcTC12, rcTC13, rcTC14, rcTC15, rcTC16, rcTC17, rcTC18, rcTC19, rcTC20, rcTC21, rcTC22, rcTC23, rcTC24]
theorem pln_r : ar (ab Tryz.prog ax) (bE rcTCs aE) 60 38 rcTA38_0 rcTH38_0 = some rcTR38_0 := by kernel_rfl
end Go.Abs
