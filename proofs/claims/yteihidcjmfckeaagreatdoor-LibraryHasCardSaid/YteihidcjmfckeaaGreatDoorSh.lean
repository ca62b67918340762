/-
  DERIVED: THE SHELF's CONTRACTS AT THIS DUMP, IN PLAIN WORDS (tools/lay-plain.mjs out of 'TryzShelf.lean', which tools/lay-shelf.mjs wrote): THE SAME DECLARATIONS UNDER THE SAME NAMES: 'import', 'namespace', 'open', 'def', 'theorem' AND NOTHING ELSE: no command of the shelf's: FOR A HAND-IN. Each laying: the table of numbers ('.._ren') and one theorem, a field a fact of the dump's own or the kernel's comparison; each contract: ONE APPLICATION.
-/
import Derived.Shelf.Strings.Builder1
import Derived.Shelf.Strings.Builder2
import Derived.Shelf.Strings.OnBuilder
import Derived.Shelf.Small.Bits
import Derived.Shelf.Small.Strs
import Derived.Shelf.Utf8.RuneCount
import Derived.Shelf.Strconv.Atoi
import Derived.Shelf.Strconv.Itoa0
import Derived.Shelf.Strconv.Itoa1
import Derived.Shelf.LaysM
import Derived.Shelf.Strconv.Itoa2
import Derived.Shelf.Strconv.Itoa3
import Derived.Shelf.Strings.Search1
import Derived.Shelf.Strings.Search2
import Derived.Shelf.Strings.Search3
import Derived.Shelf.Strings.Count
import Derived.Shelf.Strings.Shaped
import Derived.Shelf.Sort.Plain
import Derived.Shelf.Strings.Prefix
import Derived.Shelf.Strings.Split
import Derived.Shelf.Strings.Fields
import Derived.Shelf.Strings.SplitShaped
import Derived.Shelf.Unicode.Latin
import Derived.Shelf.Unicode.Decode
import Derived.Shelf.Strings.RuneCount
import Derived.Shelf.Strings.Explode
import Derived.Shelf.Bits.Mul64
import Derived.Shelf.Unicode.DecodeSlow
import Derived.Shelf.Unicode.DecodeAny
import Derived.Shelf.Unicode.Is16White
import Derived.Shelf.Unicode.IsSpaceAny
import Derived.Shelf.Unicode.Is16Any
import Derived.Shelf.Unicode.Is32Any
import Derived.Shelf.Unicode.ExclAny
import Derived.Shelf.Slices.Reverse
import Derived.Ground.Names2Prog
import Derived.Shelf.Slices.Clone
import Derived.Shelf.Slices.CompactS
import Derived.Shelf.Slices.SearchI
import Derived.Shelf.Slices.Cells
import Derived.Shelf.Slices.In.SortNone
import Derived.Ground.SlgnProg
import Derived.Shelf.SlicesE.Clone
import Derived.Test.YteihidcjmfckeaaGreatDoorProg
namespace Go.Proofs
open Go.Shelf
def Tryz.lays156_ren : Go.Shelf.Ren := ⟨fun | 156 => 29 | 165 => 55 | 166 => 56 | 169 => 57 | 240 => 103 | 241 => 104 | 276 => 165 | 277 => 166 | n => n, fun | 31 => 24 | 9 => 9 | 3 => 3 | 4 => 4 | 0 => 0 | 20 => 20 | 72 => 132 | 76 => 136 | 70 => 129 | 37 => 130 | 75 => 135 | 127 => 202 | 164 => 277 | 5 => 5 | 80 => 22 | n => n, fun | n => n⟩
theorem Tryz.lays156 : Go.Proofs.Lays.n156 Tryz.prog Tryz.lays156_ren := {
  mixed := by kernel_rfl
  f156 := Tryz.func29.trans (congrArg some (by kernel_rfl))
  f165 := Tryz.func55.trans (congrArg some (by kernel_rfl))
  f166 := Tryz.func56.trans (congrArg some (by kernel_rfl))
  f169 := Tryz.func57.trans (congrArg some (by kernel_rfl))
  f240 := Tryz.func103.trans (congrArg some (by kernel_rfl))
  f241 := Tryz.func104.trans (congrArg some (by kernel_rfl))
  f276 := Tryz.func165.trans (congrArg some (by kernel_rfl))
  f277 := Tryz.func166.trans (congrArg some (by kernel_rfl))
  t0 := Tryz.underlying0
  a0 := Tryz.isAgg0
  z0 := Tryz.sizeOf0
  v0 := Tryz.zeroValue0
  t3 := Tryz.underlying3
  a3 := Tryz.isAgg3
  z3 := Tryz.sizeOf3
  v3 := Tryz.zeroValue3
  t4 := Tryz.underlying4
  a4 := Tryz.isAgg4
  z4 := Tryz.sizeOf4
  v4 := Tryz.zeroValue4
  t9 := Tryz.underlying9
  a9 := Tryz.isAgg9
  z9 := Tryz.sizeOf9
  v9 := Tryz.zeroValue9
  t20 := Tryz.underlying20
  a20 := Tryz.isAgg20
  z20 := Tryz.sizeOf20
  v20 := Tryz.zeroValue20
  t31 := Tryz.underlying24
  a31 := Tryz.isAgg24
  z31 := Tryz.sizeOf24
  v31 := Tryz.zeroValue24
  t37 := Tryz.underlying130
  a37 := Tryz.isAgg130
  z37 := Tryz.sizeOf130
  v37 := Tryz.zeroValue130
  t70 := Tryz.underlying129
  a70 := Tryz.isAgg129
  z70 := Tryz.sizeOf129
  v70 := Tryz.zeroValue129
  t72 := Tryz.underlying132
  a72 := Tryz.isAgg132
  z72 := Tryz.sizeOf132
  v72 := Tryz.zeroValue132
  t75 := Tryz.underlying135
  a75 := Tryz.isAgg135
  z75 := Tryz.sizeOf135
  v75 := Tryz.zeroValue135
  t76 := Tryz.underlying136
  a76 := Tryz.isAgg136
  z76 := Tryz.sizeOf136
  v76 := Tryz.zeroValue136
  t127 := Tryz.underlying202
  a127 := Tryz.isAgg202
  z127 := Tryz.sizeOf202
  v127 := Tryz.zeroValue202
  t164 := Tryz.underlying277
  a164 := Tryz.isAgg277
  z164 := Tryz.sizeOf277
  v164 := Tryz.zeroValue277 }
theorem Tryz.Builder_Extra_156 : Builder.Extra Tryz.prog Tryz.lays156_ren := {
  sizeBuilder := by kernel_rfl
  liesBuilder := by kernel_rfl
  t5 := Tryz.underlying5
  a5 := Tryz.isAgg5
  z5 := Tryz.sizeOf5
  v5 := Tryz.zeroValue5
  infoByte := by kernel_rfl
  cellsByte := by kernel_rfl
  sizeByte := by kernel_rfl
  neB5 := by decide }
open Go.RowKit in
theorem Tryz.strings_Join_none (a : Option Addr) (c : Nat) (sep : ByteArray) (w : World) :
    Calls Tryz.prog 29 #[.slice a 0 c, .string sep] w fun e w' => e = .returned (.string ⟨#[]⟩) ∧ w' = w := Any.strings_Join_none Tryz.lays156 Tryz.Builder_Extra_156 a c sep w
open Go.RowKit in
theorem Tryz.strings_Join (bk o c : Nat) (xs : List ByteArray) (sep : ByteArray) (w : World) (hcells : ∀ (j : Nat) x, xs[j]? = some x → w.cell? ⟨bk, o + j, none⟩ = some (.string x)) (hbk : bk < w.heap.size) (hN : xs.length ≤ 140737488355328) (hcap : xs.length ≤ c) (hlen : (Lib.join (xs.map (·.data.toList)) sep.data.toList).length ≤ 140737488355328) :
    Calls Tryz.prog 29 #[.slice (some ⟨bk, o, none⟩) xs.length c, .string sep] w fun e w' => e = .returned (.string ⟨(Lib.join (xs.map (·.data.toList)) sep.data.toList).toArray⟩) ∧ Below w.heap.size w w' := Any.strings_Join Tryz.lays156 Tryz.Builder_Extra_156 bk o c xs sep w hcells hbk hN hcap hlen
def Tryz.lays137_ren : Go.Shelf.Ren := ⟨fun | 137 => 226 | 217 => 289 | 266 => 357 | n => n, fun | 9 => 9 | 5 => 5 | 3 => 3 | n => n, fun | n => n⟩
theorem Tryz.lays137 : Go.Proofs.Lays.n137 Tryz.prog Tryz.lays137_ren := {
  mixed := by kernel_rfl
  f137 := Tryz.func226.trans (congrArg some (by kernel_rfl))
  f217 := Tryz.func289.trans (congrArg some (by kernel_rfl))
  f266 := Tryz.func357.trans (congrArg some (by kernel_rfl))
  t3 := Tryz.underlying3
  a3 := Tryz.isAgg3
  z3 := Tryz.sizeOf3
  v3 := Tryz.zeroValue3
  t5 := Tryz.underlying5
  a5 := Tryz.isAgg5
  z5 := Tryz.sizeOf5
  v5 := Tryz.zeroValue5
  t9 := Tryz.underlying9
  a9 := Tryz.isAgg9
  z9 := Tryz.sizeOf9
  v9 := Tryz.zeroValue9 }
open Go.RowKit in
theorem Tryz.strings_IndexByte (s : ByteArray) (c : Int) (w : World) :
    Calls Tryz.prog 226 #[.string s, .int .u8 c] w fun e w' => e = .returned (.int .i64 (Lib.indexByte s.data.toList c.toNat.toUInt8)) ∧ w' = w := Any.strings_IndexByte Tryz.lays137 s c w
def Tryz.lays172_ren : Go.Shelf.Ren := ⟨fun | 172 => 97 | 244 => 157 | 245 => 158 | 247 => 217 | 279 => 218 | 280 => 219 | 281 => 220 | 282 => 221 | 287 => 293 | 316 => 294 | 171 => 98 | 205 => 295 | 321 => 359 | 322 => 360 | 243 => 159 | 246 => 222 | 283 => 296 | 284 => 297 | 285 => 298 | 286 => 299 | 129 => 75 | 317 => 361 | 318 => 362 | 319 => 363 | 320 => 364 | 337 => 410 | 338 => 411 | n => n, fun | 9 => 9 | 3 => 3 | 75 => 135 | 76 => 136 | 4 => 4 | 5 => 5 | 167 => 326 | 37 => 130 | 0 => 0 | 85 => 327 | 2 => 2 | 168 => 329 | 53 => 162 | 175 => 401 | 46 => 91 | 210 => 404 | 127 => 202 | 145 => 469 | 143 => 467 | 21 => 21 | 171 => 406 | 173 => 408 | 212 => 470 | 51 => 160 | 20 => 20 | 213 => 471 | 232 => 552 | 233 => 553 | 80 => 22 | n => n, fun | 15 => 1 | 16 => 2 | 17 => 5 | 18 => 7 | 19 => 8 | n => n⟩
theorem Tryz.lays172 : Go.Proofs.Lays.n172 Tryz.prog Tryz.lays172_ren := {
  mixed := by kernel_rfl
  f129 := Tryz.func75.trans (congrArg some (by kernel_rfl))
  f171 := Tryz.func98.trans (congrArg some (by kernel_rfl))
  f172 := Tryz.func97.trans (congrArg some (by kernel_rfl))
  f205 := Tryz.func295.trans (congrArg some (by kernel_rfl))
  f243 := Tryz.func159.trans (congrArg some (by kernel_rfl))
  f244 := Tryz.func157.trans (congrArg some (by kernel_rfl))
  f245 := Tryz.func158.trans (congrArg some (by kernel_rfl))
  f246 := Tryz.func222.trans (congrArg some (by kernel_rfl))
  f247 := Tryz.func217.trans (congrArg some (by kernel_rfl))
  f279 := Tryz.func218.trans (congrArg some (by kernel_rfl))
  f280 := Tryz.func219.trans (congrArg some (by kernel_rfl))
  f281 := Tryz.func220.trans (congrArg some (by kernel_rfl))
  f282 := Tryz.func221.trans (congrArg some (by kernel_rfl))
  f283 := Tryz.func296.trans (congrArg some (by kernel_rfl))
  f284 := Tryz.func297.trans (congrArg some (by kernel_rfl))
  f285 := Tryz.func298.trans (congrArg some (by kernel_rfl))
  f286 := Tryz.func299.trans (congrArg some (by kernel_rfl))
  f287 := Tryz.func293.trans (congrArg some (by kernel_rfl))
  f316 := Tryz.func294.trans (congrArg some (by kernel_rfl))
  f317 := Tryz.func361.trans (congrArg some (by kernel_rfl))
  f318 := Tryz.func362.trans (congrArg some (by kernel_rfl))
  f319 := Tryz.func363.trans (congrArg some (by kernel_rfl))
  f320 := Tryz.func364.trans (congrArg some (by kernel_rfl))
  f321 := Tryz.func359.trans (congrArg some (by kernel_rfl))
  f322 := Tryz.func360.trans (congrArg some (by kernel_rfl))
  f337 := Tryz.func410.trans (congrArg some (by kernel_rfl))
  f338 := Tryz.func411.trans (congrArg some (by kernel_rfl))
  t0 := Tryz.underlying0
  a0 := Tryz.isAgg0
  z0 := Tryz.sizeOf0
  v0 := Tryz.zeroValue0
  t2 := Tryz.underlying2
  a2 := Tryz.isAgg2
  z2 := Tryz.sizeOf2
  v2 := Tryz.zeroValue2
  t3 := Tryz.underlying3
  a3 := Tryz.isAgg3
  z3 := Tryz.sizeOf3
  v3 := Tryz.zeroValue3
  t4 := Tryz.underlying4
  a4 := Tryz.isAgg4
  z4 := Tryz.sizeOf4
  v4 := Tryz.zeroValue4
  t5 := Tryz.underlying5
  a5 := Tryz.isAgg5
  z5 := Tryz.sizeOf5
  v5 := Tryz.zeroValue5
  t9 := Tryz.underlying9
  a9 := Tryz.isAgg9
  z9 := Tryz.sizeOf9
  v9 := Tryz.zeroValue9
  t20 := Tryz.underlying20
  a20 := Tryz.isAgg20
  z20 := Tryz.sizeOf20
  v20 := Tryz.zeroValue20
  t21 := Tryz.underlying21
  a21 := Tryz.isAgg21
  z21 := Tryz.sizeOf21
  v21 := Tryz.zeroValue21
  t37 := Tryz.underlying130
  a37 := Tryz.isAgg130
  z37 := Tryz.sizeOf130
  v37 := Tryz.zeroValue130
  t46 := Tryz.underlying91
  a46 := Tryz.isAgg91
  z46 := Tryz.sizeOf91
  v46 := Tryz.zeroValue91
  t51 := Tryz.underlying160
  a51 := Tryz.isAgg160
  z51 := Tryz.sizeOf160
  v51 := Tryz.zeroValue160
  t53 := Tryz.underlying162
  a53 := Tryz.isAgg162
  z53 := Tryz.sizeOf162
  v53 := Tryz.zeroValue162
  t75 := Tryz.underlying135
  a75 := Tryz.isAgg135
  z75 := Tryz.sizeOf135
  v75 := Tryz.zeroValue135
  t76 := Tryz.underlying136
  a76 := Tryz.isAgg136
  z76 := Tryz.sizeOf136
  v76 := Tryz.zeroValue136
  t85 := Tryz.underlying327
  a85 := Tryz.isAgg327
  z85 := Tryz.sizeOf327
  v85 := Tryz.zeroValue327
  t127 := Tryz.underlying202
  a127 := Tryz.isAgg202
  z127 := Tryz.sizeOf202
  v127 := Tryz.zeroValue202
  t143 := Tryz.underlying467
  a143 := Tryz.isAgg467
  z143 := Tryz.sizeOf467
  v143 := Tryz.zeroValue467
  t145 := Tryz.underlying469
  a145 := Tryz.isAgg469
  z145 := Tryz.sizeOf469
  v145 := Tryz.zeroValue469
  t167 := Tryz.underlying326
  a167 := Tryz.isAgg326
  z167 := Tryz.sizeOf326
  v167 := Tryz.zeroValue326
  t168 := Tryz.underlying329
  a168 := Tryz.isAgg329
  z168 := Tryz.sizeOf329
  v168 := Tryz.zeroValue329
  t171 := Tryz.underlying406
  a171 := Tryz.isAgg406
  z171 := Tryz.sizeOf406
  v171 := Tryz.zeroValue406
  t173 := Tryz.underlying408
  a173 := Tryz.isAgg408
  z173 := Tryz.sizeOf408
  v173 := Tryz.zeroValue408
  t175 := Tryz.underlying401
  a175 := Tryz.isAgg401
  z175 := Tryz.sizeOf401
  v175 := Tryz.zeroValue401
  t210 := Tryz.underlying404
  a210 := Tryz.isAgg404
  z210 := Tryz.sizeOf404
  v210 := Tryz.zeroValue404
  t212 := Tryz.underlying470
  a212 := Tryz.isAgg470
  z212 := Tryz.sizeOf470
  v212 := Tryz.zeroValue470
  t213 := Tryz.underlying471
  a213 := Tryz.isAgg471
  z213 := Tryz.sizeOf471
  t232 := Tryz.underlying552
  a232 := Tryz.isAgg552
  z232 := Tryz.sizeOf552
  v232 := Tryz.zeroValue552
  t233 := Tryz.underlying553
  a233 := Tryz.isAgg553
  z233 := Tryz.sizeOf553
  v233 := Tryz.zeroValue553
  g15 := by kernel_rfl
  g16 := by kernel_rfl
  g17 := by kernel_rfl
  g18 := by kernel_rfl
  g19 := by kernel_rfl }
open Go.RowKit in
theorem Tryz.strconv_Atoi (s : ByteArray) (n : Int) (hl : s.size ≤ 18) (h : Lib.atoi s.data.toList = some n) (w : World) :
    Calls Tryz.prog 97 #[.string s] w fun e w' => e = .returned (.tuple #[.int .i64 n, .nilIface]) ∧ ∃ t, w' = Lib.bytesWorld w 5 t := Any.strconv_Atoi Tryz.lays172 s n hl h w
def Tryz.laysM246_ren : Go.Shelf.Ren := ⟨fun | 246 => 222 | 283 => 296 | 284 => 297 | 285 => 298 | 286 => 299 | 129 => 75 | 317 => 361 | 318 => 362 | 319 => 363 | 320 => 364 | 337 => 410 | 338 => 411 | n => n, fun | 2 => 2 | 3 => 3 | 9 => 9 | 4 => 4 | 171 => 406 | 0 => 0 | 53 => 162 | 37 => 130 | 5 => 5 | 173 => 408 | 212 => 470 | 51 => 160 | 20 => 20 | 213 => 471 | 46 => 91 | 232 => 552 | 233 => 553 | n => n, fun | 17 => 5 | 18 => 7 | 19 => 8 | n => n⟩
def Tryz.laysM243_ren : Go.Shelf.Ren := ⟨fun | 243 => 159 | 246 => 222 | 283 => 296 | 284 => 297 | 285 => 298 | 286 => 299 | 129 => 75 | 317 => 361 | 318 => 362 | 319 => 363 | 320 => 364 | 337 => 410 | 338 => 411 | n => n, fun | 3 => 3 | 9 => 9 | 2 => 2 | 4 => 4 | 171 => 406 | 0 => 0 | 53 => 162 | 37 => 130 | 5 => 5 | 173 => 408 | 212 => 470 | 51 => 160 | 20 => 20 | 213 => 471 | 46 => 91 | 232 => 552 | 233 => 553 | n => n, fun | 17 => 5 | 18 => 7 | 19 => 8 | n => n⟩
def Tryz.laysM171_ren : Go.Shelf.Ren := ⟨fun | 171 => 98 | 243 => 159 | 246 => 222 | 283 => 296 | 284 => 297 | 285 => 298 | 286 => 299 | 129 => 75 | 317 => 361 | 318 => 362 | 319 => 363 | 320 => 364 | 337 => 410 | 338 => 411 | n => n, fun | 3 => 3 | 9 => 9 | 2 => 2 | 4 => 4 | 171 => 406 | 0 => 0 | 53 => 162 | 37 => 130 | 5 => 5 | 173 => 408 | 212 => 470 | 51 => 160 | 20 => 20 | 213 => 471 | 46 => 91 | 232 => 552 | 233 => 553 | n => n, fun | 17 => 5 | 18 => 7 | 19 => 8 | n => n⟩
theorem Tryz.laysM171 : Go.Proofs.LaysM.n171 Tryz.prog Tryz.laysM171_ren := {
  mixed := by kernel_rfl
  f129 := Tryz.func75.trans (congrArg some (by kernel_rfl))
  f171 := Tryz.func98.trans (congrArg some (by kernel_rfl))
  f243 := Tryz.func159.trans (congrArg some (by kernel_rfl))
  f246 := Tryz.func222.trans (congrArg some (by kernel_rfl))
  f283 := Tryz.func296.trans (congrArg some (by kernel_rfl))
  f284 := Tryz.func297.trans (congrArg some (by kernel_rfl))
  f285 := Tryz.func298.trans (congrArg some (by kernel_rfl))
  f286 := Tryz.func299.trans (congrArg some (by kernel_rfl))
  f317 := Tryz.func361.trans (congrArg some (by kernel_rfl))
  f318 := Tryz.func362.trans (congrArg some (by kernel_rfl))
  f319 := Tryz.func363.trans (congrArg some (by kernel_rfl))
  f320 := Tryz.func364.trans (congrArg some (by kernel_rfl))
  f337 := Tryz.func410.trans (congrArg some (by kernel_rfl))
  f338 := Tryz.func411.trans (congrArg some (by kernel_rfl))
  t0 := Tryz.underlying0
  a0 := Tryz.isAgg0
  z0 := Tryz.sizeOf0
  v0 := Tryz.zeroValue0
  t2 := Tryz.underlying2
  a2 := Tryz.isAgg2
  z2 := Tryz.sizeOf2
  v2 := Tryz.zeroValue2
  t3 := Tryz.underlying3
  a3 := Tryz.isAgg3
  z3 := Tryz.sizeOf3
  v3 := Tryz.zeroValue3
  t4 := Tryz.underlying4
  a4 := Tryz.isAgg4
  z4 := Tryz.sizeOf4
  v4 := Tryz.zeroValue4
  t5 := Tryz.underlying5
  a5 := Tryz.isAgg5
  z5 := Tryz.sizeOf5
  v5 := Tryz.zeroValue5
  t9 := Tryz.underlying9
  a9 := Tryz.isAgg9
  z9 := Tryz.sizeOf9
  v9 := Tryz.zeroValue9
  t20 := Tryz.underlying20
  a20 := Tryz.isAgg20
  z20 := Tryz.sizeOf20
  v20 := Tryz.zeroValue20
  t37 := Tryz.underlying130
  a37 := Tryz.isAgg130
  z37 := Tryz.sizeOf130
  v37 := Tryz.zeroValue130
  t46 := Tryz.underlying91
  a46 := Tryz.isAgg91
  z46 := Tryz.sizeOf91
  v46 := Tryz.zeroValue91
  t51 := Tryz.underlying160
  a51 := Tryz.isAgg160
  z51 := Tryz.sizeOf160
  v51 := Tryz.zeroValue160
  t53 := Tryz.underlying162
  a53 := Tryz.isAgg162
  z53 := Tryz.sizeOf162
  v53 := Tryz.zeroValue162
  t171 := Tryz.underlying406
  a171 := Tryz.isAgg406
  z171 := Tryz.sizeOf406
  v171 := Tryz.zeroValue406
  t173 := Tryz.underlying408
  a173 := Tryz.isAgg408
  z173 := Tryz.sizeOf408
  v173 := Tryz.zeroValue408
  t212 := Tryz.underlying470
  a212 := Tryz.isAgg470
  z212 := Tryz.sizeOf470
  v212 := Tryz.zeroValue470
  t213 := Tryz.underlying471
  a213 := Tryz.isAgg471
  z213 := Tryz.sizeOf471
  t232 := Tryz.underlying552
  a232 := Tryz.isAgg552
  z232 := Tryz.sizeOf552
  v232 := Tryz.zeroValue552
  t233 := Tryz.underlying553
  a233 := Tryz.isAgg553
  z233 := Tryz.sizeOf553
  v233 := Tryz.zeroValue553
  g17 := by kernel_rfl
  g18 := by kernel_rfl
  g19 := by kernel_rfl
  i0 := by kernel_rfl
  i2 := by kernel_rfl
  i3 := by kernel_rfl
  i4 := by kernel_rfl
  i5 := by kernel_rfl
  i9 := by kernel_rfl
  i20 := by kernel_rfl
  i37 := by kernel_rfl
  i46 := by kernel_rfl
  i51 := by kernel_rfl
  i53 := by kernel_rfl
  i171 := by kernel_rfl
  i173 := by kernel_rfl
  i212 := by kernel_rfl
  i232 := by kernel_rfl
  i233 := by kernel_rfl
  m17 := by kernel_rfl
  m18 := by kernel_rfl
  m19 := by kernel_rfl }
open Go.RowKit Go.Sort Go.Lib in
theorem Tryz.strconv_Itoa (n : Int) (h0 : -9223372036854775808 ≤ n) (h1 : n ≤ 9223372036854775807) (w : World) (htab : Lib.TabIs Tryz.prog w "internal/strconv.uint64pow10" .u64 Lib.pow10Tab) :
    Calls Tryz.prog 98 #[.int .i64 n] w fun e w' => e = .returned (.string ⟨(Lib.itoa n).toArray⟩) ∧ ∃ k os, w' = grow (w.drewN k) os := Any.strconv_Itoa Tryz.laysM171 n h0 h1 w htab
def Tryz.lays190_ren : Go.Shelf.Ren := ⟨fun | 190 => 20 | 125 => 32 | 258 => 31 | 128 => 74 | 129 => 75 | 302 => 65 | 303 => 66 | 304 => 67 | 305 => 68 | 306 => 69 | 307 => 70 | 308 => 71 | 309 => 72 | 310 => 73 | 333 => 122 | 329 => 123 | 330 => 124 | 334 => 125 | 335 => 126 | 336 => 127 | 344 => 182 | n => n, fun | 31 => 24 | 9 => 9 | 3 => 3 | 46 => 91 | 0 => 0 | 51 => 160 | 53 => 162 | 4 => 4 | 183 => 153 | 182 => 152 | 131 => 121 | 5 => 5 | 218 => 219 | 222 => 223 | 228 => 291 | 229 => 292 | n => n, fun | n => n⟩
theorem Tryz.lays190 : Go.Proofs.Lays.n190 Tryz.prog Tryz.lays190_ren := {
  mixed := by kernel_rfl
  f125 := Tryz.func32.trans (congrArg some (by kernel_rfl))
  f128 := Tryz.func74.trans (congrArg some (by kernel_rfl))
  f129 := Tryz.func75.trans (congrArg some (by kernel_rfl))
  f190 := Tryz.func20.trans (congrArg some (by kernel_rfl))
  f258 := Tryz.func31.trans (congrArg some (by kernel_rfl))
  f302 := Tryz.func65.trans (congrArg some (by kernel_rfl))
  f303 := Tryz.func66.trans (congrArg some (by kernel_rfl))
  f304 := Tryz.func67.trans (congrArg some (by kernel_rfl))
  f305 := Tryz.func68.trans (congrArg some (by kernel_rfl))
  f306 := Tryz.func69.trans (congrArg some (by kernel_rfl))
  f307 := Tryz.func70.trans (congrArg some (by kernel_rfl))
  f308 := Tryz.func71.trans (congrArg some (by kernel_rfl))
  f309 := Tryz.func72.trans (congrArg some (by kernel_rfl))
  f310 := Tryz.func73.trans (congrArg some (by kernel_rfl))
  f329 := Tryz.func123.trans (congrArg some (by kernel_rfl))
  f330 := Tryz.func124.trans (congrArg some (by kernel_rfl))
  f333 := Tryz.func122.trans (congrArg some (by kernel_rfl))
  f334 := Tryz.func125.trans (congrArg some (by kernel_rfl))
  f335 := Tryz.func126.trans (congrArg some (by kernel_rfl))
  f336 := Tryz.func127.trans (congrArg some (by kernel_rfl))
  f344 := Tryz.func182.trans (congrArg some (by kernel_rfl))
  t0 := Tryz.underlying0
  a0 := Tryz.isAgg0
  z0 := Tryz.sizeOf0
  v0 := Tryz.zeroValue0
  t3 := Tryz.underlying3
  a3 := Tryz.isAgg3
  z3 := Tryz.sizeOf3
  v3 := Tryz.zeroValue3
  t4 := Tryz.underlying4
  a4 := Tryz.isAgg4
  z4 := Tryz.sizeOf4
  v4 := Tryz.zeroValue4
  t5 := Tryz.underlying5
  a5 := Tryz.isAgg5
  z5 := Tryz.sizeOf5
  v5 := Tryz.zeroValue5
  t9 := Tryz.underlying9
  a9 := Tryz.isAgg9
  z9 := Tryz.sizeOf9
  v9 := Tryz.zeroValue9
  t31 := Tryz.underlying24
  a31 := Tryz.isAgg24
  z31 := Tryz.sizeOf24
  v31 := Tryz.zeroValue24
  t46 := Tryz.underlying91
  a46 := Tryz.isAgg91
  z46 := Tryz.sizeOf91
  v46 := Tryz.zeroValue91
  t51 := Tryz.underlying160
  a51 := Tryz.isAgg160
  z51 := Tryz.sizeOf160
  v51 := Tryz.zeroValue160
  t53 := Tryz.underlying162
  a53 := Tryz.isAgg162
  z53 := Tryz.sizeOf162
  v53 := Tryz.zeroValue162
  t131 := Tryz.underlying121
  a131 := Tryz.isAgg121
  z131 := Tryz.sizeOf121
  v131 := Tryz.zeroValue121
  t182 := Tryz.underlying152
  a182 := Tryz.isAgg152
  z182 := Tryz.sizeOf152
  v182 := Tryz.zeroValue152
  t183 := Tryz.underlying153
  a183 := Tryz.isAgg153
  z183 := Tryz.sizeOf153
  v183 := Tryz.zeroValue153
  t218 := Tryz.underlying219
  a218 := Tryz.isAgg219
  z218 := Tryz.sizeOf219
  v218 := Tryz.zeroValue219
  t222 := Tryz.underlying223
  a222 := Tryz.isAgg223
  z222 := Tryz.sizeOf223
  v222 := Tryz.zeroValue223
  t228 := Tryz.underlying291
  a228 := Tryz.isAgg291
  z228 := Tryz.sizeOf291
  v228 := Tryz.zeroValue291
  t229 := Tryz.underlying292
  a229 := Tryz.isAgg292
  z229 := Tryz.sizeOf292
  v229 := Tryz.zeroValue292 }
open Go.Sort Go.RowKit in
theorem Tryz.slices_Sort_string (blk off cap : Nat) (ss : List (List UInt8)) (w : World) (hH : Holds encStr w blk off ss.toArray) (hblk : blk < w.heap.size) (hsz : ss.length < 4611686018427387904) :
    Calls Tryz.prog 20 #[.slice (some ⟨blk, off, none⟩) ss.length cap] w fun e w' =>
      e = .returned (.tuple #[]) ∧ ∃ n os, w' = grow (putRow encStr (Sort.ahead w n) blk off (ss.mergeSort fun x y => decide (x ≤ y)).toArray) os := Any.slices_Sort_string Tryz.lays190 blk off cap ss w hH hblk hsz
def Tryz.lays157_ren : Go.Shelf.Ren := ⟨fun | 157 => 365 | 229 => 412 | 199 => 413 | 261 => 442 | 311 => 472 | 312 => 473 | n => n, fun | 9 => 9 | 31 => 24 | 3 => 3 | 5 => 5 | 4 => 4 | 119 => 460 | 0 => 0 | 40 => 516 | 152 => 554 | 21 => 21 | 154 => 556 | 51 => 160 | 141 => 558 | 196 => 589 | 193 => 586 | 198 => 592 | 49 => 590 | 194 => 587 | 201 => 595 | 226 => 612 | 46 => 91 | 227 => 613 | n => n, fun | 0 => 6 | 6 => 9 | n => n⟩
def Tryz.laysM157_ren : Go.Shelf.Ren := ⟨fun | 157 => 365 | 229 => 412 | 199 => 413 | 261 => 442 | 311 => 472 | 312 => 473 | n => n, fun | 9 => 9 | 31 => 24 | 3 => 3 | 5 => 5 | 4 => 4 | 119 => 460 | 0 => 0 | 40 => 516 | 152 => 554 | 21 => 21 | 154 => 556 | 51 => 160 | 141 => 558 | 196 => 589 | 193 => 586 | 198 => 592 | 49 => 590 | 194 => 587 | 201 => 595 | 226 => 612 | 46 => 91 | 227 => 613 | n => n, fun | 0 => 6 | 6 => 9 | n => n⟩
theorem Tryz.laysM157 : Go.Proofs.LaysM.n157 Tryz.prog Tryz.laysM157_ren := {
  mixed := by kernel_rfl
  f157 := Tryz.func365.trans (congrArg some (by kernel_rfl))
  f199 := Tryz.func413.trans (congrArg some (by kernel_rfl))
  f229 := Tryz.func412.trans (congrArg some (by kernel_rfl))
  f261 := Tryz.func442.trans (congrArg some (by kernel_rfl))
  f311 := Tryz.func472.trans (congrArg some (by kernel_rfl))
  f312 := Tryz.func473.trans (congrArg some (by kernel_rfl))
  t0 := Tryz.underlying0
  a0 := Tryz.isAgg0
  z0 := Tryz.sizeOf0
  v0 := Tryz.zeroValue0
  t3 := Tryz.underlying3
  a3 := Tryz.isAgg3
  z3 := Tryz.sizeOf3
  v3 := Tryz.zeroValue3
  t4 := Tryz.underlying4
  a4 := Tryz.isAgg4
  z4 := Tryz.sizeOf4
  v4 := Tryz.zeroValue4
  t5 := Tryz.underlying5
  a5 := Tryz.isAgg5
  z5 := Tryz.sizeOf5
  v5 := Tryz.zeroValue5
  t9 := Tryz.underlying9
  a9 := Tryz.isAgg9
  z9 := Tryz.sizeOf9
  v9 := Tryz.zeroValue9
  t21 := Tryz.underlying21
  a21 := Tryz.isAgg21
  z21 := Tryz.sizeOf21
  v21 := Tryz.zeroValue21
  t31 := Tryz.underlying24
  a31 := Tryz.isAgg24
  z31 := Tryz.sizeOf24
  v31 := Tryz.zeroValue24
  t40 := Tryz.underlying516
  a40 := Tryz.isAgg516
  z40 := Tryz.sizeOf516
  v40 := Tryz.zeroValue516
  t46 := Tryz.underlying91
  a46 := Tryz.isAgg91
  z46 := Tryz.sizeOf91
  v46 := Tryz.zeroValue91
  t49 := Tryz.underlying590
  a49 := Tryz.isAgg590
  z49 := Tryz.sizeOf590
  v49 := Tryz.zeroValue590
  t51 := Tryz.underlying160
  a51 := Tryz.isAgg160
  z51 := Tryz.sizeOf160
  v51 := Tryz.zeroValue160
  t119 := Tryz.underlying460
  a119 := Tryz.isAgg460
  z119 := Tryz.sizeOf460
  t141 := Tryz.underlying558
  a141 := Tryz.isAgg558
  z141 := Tryz.sizeOf558
  v141 := Tryz.zeroValue558
  t152 := Tryz.underlying554
  a152 := Tryz.isAgg554
  z152 := Tryz.sizeOf554
  v152 := Tryz.zeroValue554
  t154 := Tryz.underlying556
  a154 := Tryz.isAgg556
  z154 := Tryz.sizeOf556
  v154 := Tryz.zeroValue556
  t193 := Tryz.underlying586
  a193 := Tryz.isAgg586
  z193 := Tryz.sizeOf586
  v193 := Tryz.zeroValue586
  t194 := Tryz.underlying587
  a194 := Tryz.isAgg587
  z194 := Tryz.sizeOf587
  v194 := Tryz.zeroValue587
  t196 := Tryz.underlying589
  a196 := Tryz.isAgg589
  z196 := Tryz.sizeOf589
  v196 := Tryz.zeroValue589
  t198 := Tryz.underlying592
  a198 := Tryz.isAgg592
  z198 := Tryz.sizeOf592
  v198 := Tryz.zeroValue592
  t201 := Tryz.underlying595
  a201 := Tryz.isAgg595
  z201 := Tryz.sizeOf595
  v201 := Tryz.zeroValue595
  t226 := Tryz.underlying612
  a226 := Tryz.isAgg612
  z226 := Tryz.sizeOf612
  v226 := Tryz.zeroValue612
  t227 := Tryz.underlying613
  a227 := Tryz.isAgg613
  z227 := Tryz.sizeOf613
  v227 := Tryz.zeroValue613
  g0 := by kernel_rfl
  g6 := by kernel_rfl
  i0 := by kernel_rfl
  i3 := by kernel_rfl
  i4 := by kernel_rfl
  i5 := by kernel_rfl
  i9 := by kernel_rfl
  i21 := by kernel_rfl
  i31 := by kernel_rfl
  i40 := by kernel_rfl
  i46 := by kernel_rfl
  i49 := by kernel_rfl
  i51 := by kernel_rfl
  i141 := by kernel_rfl
  i152 := by kernel_rfl
  i154 := by kernel_rfl
  i193 := by kernel_rfl
  i194 := by kernel_rfl
  i196 := by kernel_rfl
  i198 := by kernel_rfl
  i201 := by kernel_rfl
  i226 := by kernel_rfl
  i227 := by kernel_rfl
  m0 := by kernel_rfl
  m6 := by kernel_rfl }
open Go.RowKit Go.Lib in
theorem Tryz.strings_Fields_laid (s : ByteArray) (w : World) (hs : s.size < 4294967281) (hascii : ∀ (j : Nat) b, s.data.toList[j]? = some b → b.toNat < 128) (htab : Lib.TabIs Tryz.prog w "strings.asciiSpace" .u8 Lib.asciiSpaceTab) :
    Calls Tryz.prog 365 #[.string s] w fun e w' =>
      e = .returned (.slice (some ⟨w.heap.size, 0, none⟩) (Lib.fields s.data.toList).length (Lib.fields s.data.toList).length) ∧ w' = w.alloc (.cells ((Lib.fields s.data.toList).map fun l => Value.string ⟨l.toArray⟩).toArray 9) := Any.strings_Fields_laid Tryz.laysM157 s w hs hascii htab
def Tryz.lays264_ren : Go.Shelf.Ren := ⟨fun | 264 => 387 | n => n, fun | 53 => 162 | 46 => 91 | n => n, fun | n => n⟩
theorem Tryz.lays264 : Go.Proofs.Lays.n264 Tryz.prog Tryz.lays264_ren := {
  mixed := by kernel_rfl
  f264 := Tryz.func387.trans (congrArg some (by kernel_rfl))
  t46 := Tryz.underlying91
  a46 := Tryz.isAgg91
  z46 := Tryz.sizeOf91
  v46 := Tryz.zeroValue91
  t53 := Tryz.underlying162
  a53 := Tryz.isAgg162
  z53 := Tryz.sizeOf162
  v53 := Tryz.zeroValue162 }
open Go.RowKit Go.Lib in
theorem Tryz.bits_Mul64 (x y : Nat) (hx : x < 18446744073709551616) (hy : y < 18446744073709551616) (w : World) :
    Calls Tryz.prog 387 #[.int .u64 x, .int .u64 y] w fun e w' => e = .returned (.tuple #[.int .u64 ((x * y / 18446744073709551616 : Nat) : Int), .int .u64 ((x * y % 18446744073709551616 : Nat) : Int)]) ∧ w' = w := Any.bits_Mul64 Tryz.lays264 x y hx hy w
def Tryz.lays194_ren : Go.Shelf.Ren := ⟨fun | 194 => 21 | n => n, fun | 31 => 24 | 9 => 9 | 3 => 3 | 4 => 4 | 0 => 0 | n => n, fun | n => n⟩
theorem Tryz.lays194 : Go.Proofs.Lays.n194 Tryz.prog Tryz.lays194_ren := {
  mixed := by kernel_rfl
  f194 := Tryz.func21.trans (congrArg some (by kernel_rfl))
  t0 := Tryz.underlying0
  a0 := Tryz.isAgg0
  z0 := Tryz.sizeOf0
  v0 := Tryz.zeroValue0
  t3 := Tryz.underlying3
  a3 := Tryz.isAgg3
  z3 := Tryz.sizeOf3
  v3 := Tryz.zeroValue3
  t4 := Tryz.underlying4
  a4 := Tryz.isAgg4
  z4 := Tryz.sizeOf4
  v4 := Tryz.zeroValue4
  t9 := Tryz.underlying9
  a9 := Tryz.isAgg9
  z9 := Tryz.sizeOf9
  v9 := Tryz.zeroValue9
  t31 := Tryz.underlying24
  a31 := Tryz.isAgg24
  z31 := Tryz.sizeOf24
  v31 := Tryz.zeroValue24 }
open Go.RowKit Go.Lib Go.Sort in
theorem Tryz.slices_Compact_string (blk off cap : Nat) (zs : List (List UInt8)) (w : World) (hH : Holds encStr w blk off zs.toArray) (hsz : zs.length ≤ 9223372036854775807) (hcap : zs.length ≤ cap) :
    Calls Tryz.prog 21 #[.slice (some ⟨blk, off, none⟩) zs.length cap] w fun e w' => e = .returned (.slice (some ⟨blk, off, none⟩) (Lib.compact zs).length cap) ∧ ∃ q, w' = putRow encStr (Sort.ahead w q) blk off (Lib.compact zs ++ List.replicate (zs.length - (Lib.compact zs).length) []).toArray := Any.slices_Compact_string Tryz.lays194 blk off cap zs w hH hsz hcap
open Go.RowKit Go.Lib Go.Sort in
theorem Tryz.slices_Compact_string_empty (a : Option Addr) (cap : Nat) (w : World) :
    Calls Tryz.prog 21 #[.slice a 0 cap] w fun e w' => e = .returned (.slice a 0 cap) ∧ w' = w := Any.slices_Compact_string_empty Tryz.lays194 a cap w
open Go.RowKit Go.Sort in
theorem Tryz.slices_Sort_string_none (p : Option Addr) (cap : Nat) (w : World) :
    Calls Tryz.prog 20 #[.slice p 0 cap] w fun e w' => e = .returned (.tuple #[]) ∧ w' = w := Any.slices_Sort_string_none Tryz.lays190 p cap w
def Tryz.laysSlE041_f92_ren : Go.Shelf.Ren := ⟨fun | 41 => 92 | n => n, fun | 22 => 24 | 23 => 9 | 4 => 4 | n => n, fun | n => n⟩
theorem Tryz.laysSlE041_f92 : Go.Proofs.SlLaysE0.n41 Tryz.prog Tryz.laysSlE041_f92_ren := {
  mixed := by kernel_rfl
  f41 := ⟨Tryz.f92.name, by decide, Tryz.func92.trans (congrArg some (by kernel_rfl))⟩
  t4 := Tryz.underlying4
  a4 := Tryz.isAgg4
  z4 := Tryz.sizeOf4
  v4 := Tryz.zeroValue4
  t22 := Tryz.underlying24
  a22 := Tryz.isAgg24
  z22 := Tryz.sizeOf24
  v22 := Tryz.zeroValue24 }
def Tryz.laysSlE041_f329_ren : Go.Shelf.Ren := ⟨fun | 41 => 329 | n => n, fun | 22 => 106 | 23 => 3 | 4 => 4 | n => n, fun | n => n⟩
theorem Tryz.laysSlE041_f329 : Go.Proofs.SlLaysE0.n41 Tryz.prog Tryz.laysSlE041_f329_ren := {
  mixed := by kernel_rfl
  f41 := ⟨Tryz.f329.name, by decide, Tryz.func329.trans (congrArg some (by kernel_rfl))⟩
  t4 := Tryz.underlying4
  a4 := Tryz.isAgg4
  z4 := Tryz.sizeOf4
  v4 := Tryz.zeroValue4
  t22 := Tryz.underlying106
  a22 := Tryz.isAgg106
  z22 := Tryz.sizeOf106
  v22 := Tryz.zeroValue106 }
end Go.Proofs
