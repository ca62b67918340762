/-
  DERIVED: THE SHELF's CONTRACTS AT THIS DUMP, IN PLAIN WORDS (tools/lay-plain.mjs out of 'TryzShelf.lean', which tools/lay-shelf.mjs wrote): THE SAME DECLARATIONS UNDER THE SAME NAMES: 'import', 'namespace', 'open', 'def', 'theorem' AND NOTHING ELSE: no command of the shelf's: FOR A HAND-IN. Each laying: the table of numbers ('.._ren') and one theorem, a field a fact of the dump's own or the kernel's comparison; each contract: ONE APPLICATION.
-/
import Derived.Shelf.Strings.Builder1
import Derived.Shelf.Strings.Builder2
import Derived.Shelf.Strings.OnBuilder
import Derived.Shelf.Small.Bits
import Derived.Shelf.Small.Strs
import Derived.Shelf.Utf8.RuneCount
import Derived.Shelf.Strconv.Atoi
import Derived.Shelf.Strconv.Itoa0
import Derived.Shelf.Strconv.Itoa1
import Derived.Shelf.LaysM
import Derived.Shelf.Strconv.Itoa2
import Derived.Shelf.Strconv.Itoa3
import Derived.Shelf.Strconv.AtoiErrFast
import Derived.Shelf.Strconv.ParseIntEmpty
import Derived.Shelf.Strconv.AtoiFail
import Derived.Shelf.Strconv.Clone
import Derived.Shelf.Strconv.SyntaxError
import Derived.Shelf.LaysC
import Derived.Shelf.Strconv.ToError
import Derived.Shelf.Strconv.Lower
import Derived.Shelf.Strconv.ParseUint10
import Derived.Shelf.Strconv.ParseUint10Empty
import Derived.Shelf.Strconv.ParseUint10Any
import Derived.Shelf.Strconv.ParseInt10
import Derived.Shelf.Strconv.AtoiLong
import Derived.Shelf.Strconv.AtoiInnerAll
import Derived.Shelf.Strconv.RangeError
import Derived.Shelf.Strconv.ToErrorRange
import Derived.Shelf.Strconv.AtoiAll
import Derived.Shelf.Strings.Search1
import Derived.Shelf.Strings.Search2
import Derived.Shelf.Strings.Search3
import Derived.Shelf.Strings.Cut
import Derived.Shelf.Strings.Count
import Derived.Shelf.Strings.Shaped
import Derived.Shelf.Sort.Plain
import Derived.Shelf.Strings.Prefix
import Derived.Shelf.Strings.Split
import Derived.Shelf.Strings.Fields
import Derived.Shelf.Strings.SplitShaped
import Derived.Shelf.Unicode.Latin
import Derived.Shelf.Unicode.Decode
import Derived.Shelf.Strings.RuneCount
import Derived.Shelf.Strings.Explode
import Derived.Shelf.Bits.Mul64
import Derived.Shelf.Unicode.DecodeSlow
import Derived.Shelf.Unicode.DecodeAny
import Derived.Shelf.Unicode.Is16White
import Derived.Shelf.Unicode.IsSpaceAny
import Derived.Shelf.Unicode.Is16Any
import Derived.Shelf.Unicode.Is32Any
import Derived.Shelf.Unicode.ExclAny
import Derived.Shelf.Slices.Reverse
import Derived.Ground.Names2Prog
import Derived.Shelf.Slices.Clone
import Derived.Shelf.Slices.CompactS
import Derived.Shelf.Slices.SearchI
import Derived.Shelf.Slices.Cells
import Derived.Shelf.Slices.In.SortNone
import Derived.Ground.SlgnProg
import Derived.Shelf.SlicesE.Clone
import Derived.Test.YthhfalbeafocoaaGreatDoorProg
namespace Go.Proofs
open Go.Shelf
def Tryz.lays156_ren : Go.Shelf.Ren := ⟨fun | 156 => 88 | 165 => 153 | 166 => 100 | 169 => 101 | 240 => 170 | 241 => 242 | 276 => 260 | 277 => 315 | n => n, fun | 31 => 35 | 9 => 9 | 3 => 3 | 4 => 4 | 0 => 0 | 20 => 20 | 72 => 174 | 76 => 109 | 70 => 171 | 37 => 172 | 75 => 108 | 127 => 274 | 164 => 377 | 5 => 5 | 80 => 120 | n => n, fun | n => n⟩
theorem Tryz.lays156 : Go.Proofs.Lays.n156 Tryz.prog Tryz.lays156_ren := {
  mixed := by kernel_rfl
  f156 := Tryz.func88.trans (congrArg some (by kernel_rfl))
  f165 := Tryz.func153.trans (congrArg some (by kernel_rfl))
  f166 := Tryz.func100.trans (congrArg some (by kernel_rfl))
  f169 := Tryz.func101.trans (congrArg some (by kernel_rfl))
  f240 := Tryz.func170.trans (congrArg some (by kernel_rfl))
  f241 := Tryz.func242.trans (congrArg some (by kernel_rfl))
  f276 := Tryz.func260.trans (congrArg some (by kernel_rfl))
  f277 := Tryz.func315.trans (congrArg some (by kernel_rfl))
  t0 := Tryz.underlying0
  a0 := Tryz.isAgg0
  z0 := Tryz.sizeOf0
  v0 := Tryz.zeroValue0
  t3 := Tryz.underlying3
  a3 := Tryz.isAgg3
  z3 := Tryz.sizeOf3
  v3 := Tryz.zeroValue3
  t4 := Tryz.underlying4
  a4 := Tryz.isAgg4
  z4 := Tryz.sizeOf4
  v4 := Tryz.zeroValue4
  t9 := Tryz.underlying9
  a9 := Tryz.isAgg9
  z9 := Tryz.sizeOf9
  v9 := Tryz.zeroValue9
  t20 := Tryz.underlying20
  a20 := Tryz.isAgg20
  z20 := Tryz.sizeOf20
  v20 := Tryz.zeroValue20
  t31 := Tryz.underlying35
  a31 := Tryz.isAgg35
  z31 := Tryz.sizeOf35
  v31 := Tryz.zeroValue35
  t37 := Tryz.underlying172
  a37 := Tryz.isAgg172
  z37 := Tryz.sizeOf172
  v37 := Tryz.zeroValue172
  t70 := Tryz.underlying171
  a70 := Tryz.isAgg171
  z70 := Tryz.sizeOf171
  v70 := Tryz.zeroValue171
  t72 := Tryz.underlying174
  a72 := Tryz.isAgg174
  z72 := Tryz.sizeOf174
  v72 := Tryz.zeroValue174
  t75 := Tryz.underlying108
  a75 := Tryz.isAgg108
  z75 := Tryz.sizeOf108
  v75 := Tryz.zeroValue108
  t76 := Tryz.underlying109
  a76 := Tryz.isAgg109
  z76 := Tryz.sizeOf109
  v76 := Tryz.zeroValue109
  t127 := Tryz.underlying274
  a127 := Tryz.isAgg274
  z127 := Tryz.sizeOf274
  v127 := Tryz.zeroValue274
  t164 := Tryz.underlying377
  a164 := Tryz.isAgg377
  z164 := Tryz.sizeOf377
  v164 := Tryz.zeroValue377 }
theorem Tryz.Builder_Extra_156 : Builder.Extra Tryz.prog Tryz.lays156_ren := {
  sizeBuilder := by kernel_rfl
  liesBuilder := by kernel_rfl
  t5 := Tryz.underlying5
  a5 := Tryz.isAgg5
  z5 := Tryz.sizeOf5
  v5 := Tryz.zeroValue5
  infoByte := by kernel_rfl
  cellsByte := by kernel_rfl
  sizeByte := by kernel_rfl
  neB5 := by decide }
open Go.RowKit in
theorem Tryz.strings_Join_none (a : Option Addr) (c : Nat) (sep : ByteArray) (w : World) :
    Calls Tryz.prog 88 #[.slice a 0 c, .string sep] w fun e w' => e = .returned (.string ⟨#[]⟩) ∧ w' = w := Any.strings_Join_none Tryz.lays156 Tryz.Builder_Extra_156 a c sep w
open Go.RowKit in
theorem Tryz.strings_Join (bk o c : Nat) (xs : List ByteArray) (sep : ByteArray) (w : World) (hcells : ∀ (j : Nat) x, xs[j]? = some x → w.cell? ⟨bk, o + j, none⟩ = some (.string x)) (hbk : bk < w.heap.size) (hN : xs.length ≤ 140737488355328) (hcap : xs.length ≤ c) (hlen : (Lib.join (xs.map (·.data.toList)) sep.data.toList).length ≤ 140737488355328) :
    Calls Tryz.prog 88 #[.slice (some ⟨bk, o, none⟩) xs.length c, .string sep] w fun e w' => e = .returned (.string ⟨(Lib.join (xs.map (·.data.toList)) sep.data.toList).toArray⟩) ∧ Below w.heap.size w w' := Any.strings_Join Tryz.lays156 Tryz.Builder_Extra_156 bk o c xs sep w hcells hbk hN hcap hlen
def Tryz.lays137_ren : Go.Shelf.Ren := ⟨fun | 137 => 58 | 217 => 118 | 266 => 199 | n => n, fun | 9 => 9 | 5 => 5 | 3 => 3 | n => n, fun | n => n⟩
def Tryz.lays172_ren : Go.Shelf.Ren := ⟨fun | 172 => 54 | 244 => 112 | 245 => 113 | 247 => 191 | 279 => 192 | 280 => 193 | 281 => 194 | 282 => 195 | 287 => 275 | 316 => 276 | 171 => 13 | 205 => 277 | 321 => 365 | 322 => 366 | 243 => 27 | 246 => 63 | 283 => 123 | 284 => 124 | 285 => 125 | 286 => 126 | 129 => 203 | 317 => 202 | 318 => 204 | 319 => 205 | 320 => 206 | 337 => 282 | 338 => 283 | n => n, fun | 9 => 9 | 3 => 3 | 75 => 108 | 76 => 109 | 4 => 4 | 5 => 5 | 167 => 302 | 37 => 172 | 0 => 0 | 85 => 303 | 2 => 2 | 168 => 305 | 53 => 189 | 175 => 397 | 46 => 301 | 210 => 400 | 127 => 274 | 145 => 496 | 143 => 494 | 21 => 21 | 171 => 188 | 173 => 192 | 212 => 311 | 51 => 312 | 20 => 20 | 213 => 313 | 232 => 505 | 233 => 506 | 80 => 120 | n => n, fun | 15 => 2 | 16 => 3 | 17 => 1 | 18 => 8 | 19 => 9 | n => n⟩
theorem Tryz.lays172 : Go.Proofs.Lays.n172 Tryz.prog Tryz.lays172_ren := {
  mixed := by kernel_rfl
  f129 := Tryz.func203.trans (congrArg some (by kernel_rfl))
  f171 := Tryz.func13.trans (congrArg some (by kernel_rfl))
  f172 := Tryz.func54.trans (congrArg some (by kernel_rfl))
  f205 := Tryz.func277.trans (congrArg some (by kernel_rfl))
  f243 := Tryz.func27.trans (congrArg some (by kernel_rfl))
  f244 := Tryz.func112.trans (congrArg some (by kernel_rfl))
  f245 := Tryz.func113.trans (congrArg some (by kernel_rfl))
  f246 := Tryz.func63.trans (congrArg some (by kernel_rfl))
  f247 := Tryz.func191.trans (congrArg some (by kernel_rfl))
  f279 := Tryz.func192.trans (congrArg some (by kernel_rfl))
  f280 := Tryz.func193.trans (congrArg some (by kernel_rfl))
  f281 := Tryz.func194.trans (congrArg some (by kernel_rfl))
  f282 := Tryz.func195.trans (congrArg some (by kernel_rfl))
  f283 := Tryz.func123.trans (congrArg some (by kernel_rfl))
  f284 := Tryz.func124.trans (congrArg some (by kernel_rfl))
  f285 := Tryz.func125.trans (congrArg some (by kernel_rfl))
  f286 := Tryz.func126.trans (congrArg some (by kernel_rfl))
  f287 := Tryz.func275.trans (congrArg some (by kernel_rfl))
  f316 := Tryz.func276.trans (congrArg some (by kernel_rfl))
  f317 := Tryz.func202.trans (congrArg some (by kernel_rfl))
  f318 := Tryz.func204.trans (congrArg some (by kernel_rfl))
  f319 := Tryz.func205.trans (congrArg some (by kernel_rfl))
  f320 := Tryz.func206.trans (congrArg some (by kernel_rfl))
  f321 := Tryz.func365.trans (congrArg some (by kernel_rfl))
  f322 := Tryz.func366.trans (congrArg some (by kernel_rfl))
  f337 := Tryz.func282.trans (congrArg some (by kernel_rfl))
  f338 := Tryz.func283.trans (congrArg some (by kernel_rfl))
  t0 := Tryz.underlying0
  a0 := Tryz.isAgg0
  z0 := Tryz.sizeOf0
  v0 := Tryz.zeroValue0
  t2 := Tryz.underlying2
  a2 := Tryz.isAgg2
  z2 := Tryz.sizeOf2
  v2 := Tryz.zeroValue2
  t3 := Tryz.underlying3
  a3 := Tryz.isAgg3
  z3 := Tryz.sizeOf3
  v3 := Tryz.zeroValue3
  t4 := Tryz.underlying4
  a4 := Tryz.isAgg4
  z4 := Tryz.sizeOf4
  v4 := Tryz.zeroValue4
  t5 := Tryz.underlying5
  a5 := Tryz.isAgg5
  z5 := Tryz.sizeOf5
  v5 := Tryz.zeroValue5
  t9 := Tryz.underlying9
  a9 := Tryz.isAgg9
  z9 := Tryz.sizeOf9
  v9 := Tryz.zeroValue9
  t20 := Tryz.underlying20
  a20 := Tryz.isAgg20
  z20 := Tryz.sizeOf20
  v20 := Tryz.zeroValue20
  t21 := Tryz.underlying21
  a21 := Tryz.isAgg21
  z21 := Tryz.sizeOf21
  v21 := Tryz.zeroValue21
  t37 := Tryz.underlying172
  a37 := Tryz.isAgg172
  z37 := Tryz.sizeOf172
  v37 := Tryz.zeroValue172
  t46 := Tryz.underlying301
  a46 := Tryz.isAgg301
  z46 := Tryz.sizeOf301
  v46 := Tryz.zeroValue301
  t51 := Tryz.underlying312
  a51 := Tryz.isAgg312
  z51 := Tryz.sizeOf312
  v51 := Tryz.zeroValue312
  t53 := Tryz.underlying189
  a53 := Tryz.isAgg189
  z53 := Tryz.sizeOf189
  v53 := Tryz.zeroValue189
  t75 := Tryz.underlying108
  a75 := Tryz.isAgg108
  z75 := Tryz.sizeOf108
  v75 := Tryz.zeroValue108
  t76 := Tryz.underlying109
  a76 := Tryz.isAgg109
  z76 := Tryz.sizeOf109
  v76 := Tryz.zeroValue109
  t85 := Tryz.underlying303
  a85 := Tryz.isAgg303
  z85 := Tryz.sizeOf303
  v85 := Tryz.zeroValue303
  t127 := Tryz.underlying274
  a127 := Tryz.isAgg274
  z127 := Tryz.sizeOf274
  v127 := Tryz.zeroValue274
  t143 := Tryz.underlying494
  a143 := Tryz.isAgg494
  z143 := Tryz.sizeOf494
  v143 := Tryz.zeroValue494
  t145 := Tryz.underlying496
  a145 := Tryz.isAgg496
  z145 := Tryz.sizeOf496
  v145 := Tryz.zeroValue496
  t167 := Tryz.underlying302
  a167 := Tryz.isAgg302
  z167 := Tryz.sizeOf302
  v167 := Tryz.zeroValue302
  t168 := Tryz.underlying305
  a168 := Tryz.isAgg305
  z168 := Tryz.sizeOf305
  v168 := Tryz.zeroValue305
  t171 := Tryz.underlying188
  a171 := Tryz.isAgg188
  z171 := Tryz.sizeOf188
  v171 := Tryz.zeroValue188
  t173 := Tryz.underlying192
  a173 := Tryz.isAgg192
  z173 := Tryz.sizeOf192
  v173 := Tryz.zeroValue192
  t175 := Tryz.underlying397
  a175 := Tryz.isAgg397
  z175 := Tryz.sizeOf397
  v175 := Tryz.zeroValue397
  t210 := Tryz.underlying400
  a210 := Tryz.isAgg400
  z210 := Tryz.sizeOf400
  v210 := Tryz.zeroValue400
  t212 := Tryz.underlying311
  a212 := Tryz.isAgg311
  z212 := Tryz.sizeOf311
  v212 := Tryz.zeroValue311
  t213 := Tryz.underlying313
  a213 := Tryz.isAgg313
  z213 := Tryz.sizeOf313
  t232 := Tryz.underlying505
  a232 := Tryz.isAgg505
  z232 := Tryz.sizeOf505
  v232 := Tryz.zeroValue505
  t233 := Tryz.underlying506
  a233 := Tryz.isAgg506
  z233 := Tryz.sizeOf506
  v233 := Tryz.zeroValue506
  g15 := by kernel_rfl
  g16 := by kernel_rfl
  g17 := by kernel_rfl
  g18 := by kernel_rfl
  g19 := by kernel_rfl }
open Go.RowKit in
theorem Tryz.strconv_Atoi (s : ByteArray) (n : Int) (hl : s.size ≤ 18) (h : Lib.atoi s.data.toList = some n) (w : World) :
    Calls Tryz.prog 54 #[.string s] w fun e w' => e = .returned (.tuple #[.int .i64 n, .nilIface]) ∧ ∃ t, w' = Lib.bytesWorld w 5 t := Any.strconv_Atoi Tryz.lays172 s n hl h w
def Tryz.laysM246_ren : Go.Shelf.Ren := ⟨fun | 246 => 63 | 283 => 123 | 284 => 124 | 285 => 125 | 286 => 126 | 129 => 203 | 317 => 202 | 318 => 204 | 319 => 205 | 320 => 206 | 337 => 282 | 338 => 283 | n => n, fun | 2 => 2 | 3 => 3 | 9 => 9 | 4 => 4 | 171 => 188 | 0 => 0 | 53 => 189 | 37 => 172 | 5 => 5 | 173 => 192 | 212 => 311 | 51 => 312 | 20 => 20 | 213 => 313 | 46 => 301 | 232 => 505 | 233 => 506 | n => n, fun | 17 => 1 | 18 => 8 | 19 => 9 | n => n⟩
def Tryz.laysM243_ren : Go.Shelf.Ren := ⟨fun | 243 => 27 | 246 => 63 | 283 => 123 | 284 => 124 | 285 => 125 | 286 => 126 | 129 => 203 | 317 => 202 | 318 => 204 | 319 => 205 | 320 => 206 | 337 => 282 | 338 => 283 | n => n, fun | 3 => 3 | 9 => 9 | 2 => 2 | 4 => 4 | 171 => 188 | 0 => 0 | 53 => 189 | 37 => 172 | 5 => 5 | 173 => 192 | 212 => 311 | 51 => 312 | 20 => 20 | 213 => 313 | 46 => 301 | 232 => 505 | 233 => 506 | n => n, fun | 17 => 1 | 18 => 8 | 19 => 9 | n => n⟩
def Tryz.laysM171_ren : Go.Shelf.Ren := ⟨fun | 171 => 13 | 243 => 27 | 246 => 63 | 283 => 123 | 284 => 124 | 285 => 125 | 286 => 126 | 129 => 203 | 317 => 202 | 318 => 204 | 319 => 205 | 320 => 206 | 337 => 282 | 338 => 283 | n => n, fun | 3 => 3 | 9 => 9 | 2 => 2 | 4 => 4 | 171 => 188 | 0 => 0 | 53 => 189 | 37 => 172 | 5 => 5 | 173 => 192 | 212 => 311 | 51 => 312 | 20 => 20 | 213 => 313 | 46 => 301 | 232 => 505 | 233 => 506 | n => n, fun | 17 => 1 | 18 => 8 | 19 => 9 | n => n⟩
theorem Tryz.laysM171 : Go.Proofs.LaysM.n171 Tryz.prog Tryz.laysM171_ren := {
  mixed := by kernel_rfl
  f129 := Tryz.func203.trans (congrArg some (by kernel_rfl))
  f171 := Tryz.func13.trans (congrArg some (by kernel_rfl))
  f243 := Tryz.func27.trans (congrArg some (by kernel_rfl))
  f246 := Tryz.func63.trans (congrArg some (by kernel_rfl))
  f283 := Tryz.func123.trans (congrArg some (by kernel_rfl))
  f284 := Tryz.func124.trans (congrArg some (by kernel_rfl))
  f285 := Tryz.func125.trans (congrArg some (by kernel_rfl))
  f286 := Tryz.func126.trans (congrArg some (by kernel_rfl))
  f317 := Tryz.func202.trans (congrArg some (by kernel_rfl))
  f318 := Tryz.func204.trans (congrArg some (by kernel_rfl))
  f319 := Tryz.func205.trans (congrArg some (by kernel_rfl))
  f320 := Tryz.func206.trans (congrArg some (by kernel_rfl))
  f337 := Tryz.func282.trans (congrArg some (by kernel_rfl))
  f338 := Tryz.func283.trans (congrArg some (by kernel_rfl))
  t0 := Tryz.underlying0
  a0 := Tryz.isAgg0
  z0 := Tryz.sizeOf0
  v0 := Tryz.zeroValue0
  t2 := Tryz.underlying2
  a2 := Tryz.isAgg2
  z2 := Tryz.sizeOf2
  v2 := Tryz.zeroValue2
  t3 := Tryz.underlying3
  a3 := Tryz.isAgg3
  z3 := Tryz.sizeOf3
  v3 := Tryz.zeroValue3
  t4 := Tryz.underlying4
  a4 := Tryz.isAgg4
  z4 := Tryz.sizeOf4
  v4 := Tryz.zeroValue4
  t5 := Tryz.underlying5
  a5 := Tryz.isAgg5
  z5 := Tryz.sizeOf5
  v5 := Tryz.zeroValue5
  t9 := Tryz.underlying9
  a9 := Tryz.isAgg9
  z9 := Tryz.sizeOf9
  v9 := Tryz.zeroValue9
  t20 := Tryz.underlying20
  a20 := Tryz.isAgg20
  z20 := Tryz.sizeOf20
  v20 := Tryz.zeroValue20
  t37 := Tryz.underlying172
  a37 := Tryz.isAgg172
  z37 := Tryz.sizeOf172
  v37 := Tryz.zeroValue172
  t46 := Tryz.underlying301
  a46 := Tryz.isAgg301
  z46 := Tryz.sizeOf301
  v46 := Tryz.zeroValue301
  t51 := Tryz.underlying312
  a51 := Tryz.isAgg312
  z51 := Tryz.sizeOf312
  v51 := Tryz.zeroValue312
  t53 := Tryz.underlying189
  a53 := Tryz.isAgg189
  z53 := Tryz.sizeOf189
  v53 := Tryz.zeroValue189
  t171 := Tryz.underlying188
  a171 := Tryz.isAgg188
  z171 := Tryz.sizeOf188
  v171 := Tryz.zeroValue188
  t173 := Tryz.underlying192
  a173 := Tryz.isAgg192
  z173 := Tryz.sizeOf192
  v173 := Tryz.zeroValue192
  t212 := Tryz.underlying311
  a212 := Tryz.isAgg311
  z212 := Tryz.sizeOf311
  v212 := Tryz.zeroValue311
  t213 := Tryz.underlying313
  a213 := Tryz.isAgg313
  z213 := Tryz.sizeOf313
  t232 := Tryz.underlying505
  a232 := Tryz.isAgg505
  z232 := Tryz.sizeOf505
  v232 := Tryz.zeroValue505
  t233 := Tryz.underlying506
  a233 := Tryz.isAgg506
  z233 := Tryz.sizeOf506
  v233 := Tryz.zeroValue506
  g17 := by kernel_rfl
  g18 := by kernel_rfl
  g19 := by kernel_rfl
  i0 := by kernel_rfl
  i2 := by kernel_rfl
  i3 := by kernel_rfl
  i4 := by kernel_rfl
  i5 := by kernel_rfl
  i9 := by kernel_rfl
  i20 := by kernel_rfl
  i37 := by kernel_rfl
  i46 := by kernel_rfl
  i51 := by kernel_rfl
  i53 := by kernel_rfl
  i171 := by kernel_rfl
  i173 := by kernel_rfl
  i212 := by kernel_rfl
  i232 := by kernel_rfl
  i233 := by kernel_rfl
  m17 := by kernel_rfl
  m18 := by kernel_rfl
  m19 := by kernel_rfl }
open Go.RowKit Go.Sort Go.Lib in
theorem Tryz.strconv_Itoa (n : Int) (h0 : -9223372036854775808 ≤ n) (h1 : n ≤ 9223372036854775807) (w : World) (htab : Lib.TabIs Tryz.prog w "internal/strconv.uint64pow10" .u64 Lib.pow10Tab) :
    Calls Tryz.prog 13 #[.int .i64 n] w fun e w' => e = .returned (.string ⟨(Lib.itoa n).toArray⟩) ∧ ∃ k os, w' = grow (w.drewN k) os := Any.strconv_Itoa Tryz.laysM171 n h0 h1 w htab
def Tryz.laysC172_ren : Go.Shelf.Ren := ⟨fun | 172 => 54 | 244 => 112 | 245 => 113 | 247 => 191 | 279 => 192 | 280 => 193 | 281 => 194 | 282 => 195 | 287 => 275 | 316 => 276 | 171 => 13 | 205 => 277 | 321 => 365 | 322 => 366 | 243 => 27 | 246 => 63 | 283 => 123 | 284 => 124 | 285 => 125 | 286 => 126 | 129 => 203 | 317 => 202 | 318 => 204 | 319 => 205 | 320 => 206 | 337 => 282 | 338 => 283 | n => n, fun | 9 => 9 | 3 => 3 | 75 => 108 | 76 => 109 | 4 => 4 | 5 => 5 | 167 => 302 | 37 => 172 | 0 => 0 | 85 => 303 | 2 => 2 | 168 => 305 | 53 => 189 | 175 => 397 | 46 => 301 | 210 => 400 | 127 => 274 | 145 => 496 | 143 => 494 | 21 => 21 | 171 => 188 | 173 => 192 | 212 => 311 | 51 => 312 | 20 => 20 | 213 => 313 | 232 => 505 | 233 => 506 | 80 => 120 | n => n, fun | 15 => 2 | 16 => 3 | 17 => 1 | 18 => 8 | 19 => 9 | n => n⟩
theorem Tryz.laysC172 : Go.Proofs.LaysC.n172 Tryz.prog Tryz.laysC172_ren := {
  mixed := by kernel_rfl
  f129 := Tryz.func203.trans (congrArg some (by kernel_rfl))
  f171 := Tryz.func13.trans (congrArg some (by kernel_rfl))
  f172 := Tryz.func54.trans (congrArg some (by kernel_rfl))
  f205 := Tryz.func277.trans (congrArg some (by kernel_rfl))
  f243 := Tryz.func27.trans (congrArg some (by kernel_rfl))
  f244 := Tryz.func112.trans (congrArg some (by kernel_rfl))
  f245 := Tryz.func113.trans (congrArg some (by kernel_rfl))
  f246 := Tryz.func63.trans (congrArg some (by kernel_rfl))
  f247 := Tryz.func191.trans (congrArg some (by kernel_rfl))
  f279 := Tryz.func192.trans (congrArg some (by kernel_rfl))
  f280 := Tryz.func193.trans (congrArg some (by kernel_rfl))
  f281 := Tryz.func194.trans (congrArg some (by kernel_rfl))
  f282 := Tryz.func195.trans (congrArg some (by kernel_rfl))
  f283 := Tryz.func123.trans (congrArg some (by kernel_rfl))
  f284 := Tryz.func124.trans (congrArg some (by kernel_rfl))
  f285 := Tryz.func125.trans (congrArg some (by kernel_rfl))
  f286 := Tryz.func126.trans (congrArg some (by kernel_rfl))
  f287 := Tryz.func275.trans (congrArg some (by kernel_rfl))
  f316 := Tryz.func276.trans (congrArg some (by kernel_rfl))
  f317 := Tryz.func202.trans (congrArg some (by kernel_rfl))
  f318 := Tryz.func204.trans (congrArg some (by kernel_rfl))
  f319 := Tryz.func205.trans (congrArg some (by kernel_rfl))
  f320 := Tryz.func206.trans (congrArg some (by kernel_rfl))
  f321 := Tryz.func365.trans (congrArg some (by kernel_rfl))
  f322 := Tryz.func366.trans (congrArg some (by kernel_rfl))
  f337 := Tryz.func282.trans (congrArg some (by kernel_rfl))
  f338 := Tryz.func283.trans (congrArg some (by kernel_rfl))
  t0 := Tryz.underlying0
  a0 := Tryz.isAgg0
  z0 := Tryz.sizeOf0
  v0 := Tryz.zeroValue0
  t2 := Tryz.underlying2
  a2 := Tryz.isAgg2
  z2 := Tryz.sizeOf2
  v2 := Tryz.zeroValue2
  t3 := Tryz.underlying3
  a3 := Tryz.isAgg3
  z3 := Tryz.sizeOf3
  v3 := Tryz.zeroValue3
  t4 := Tryz.underlying4
  a4 := Tryz.isAgg4
  z4 := Tryz.sizeOf4
  v4 := Tryz.zeroValue4
  t5 := Tryz.underlying5
  a5 := Tryz.isAgg5
  z5 := Tryz.sizeOf5
  v5 := Tryz.zeroValue5
  t9 := Tryz.underlying9
  a9 := Tryz.isAgg9
  z9 := Tryz.sizeOf9
  v9 := Tryz.zeroValue9
  t20 := Tryz.underlying20
  a20 := Tryz.isAgg20
  z20 := Tryz.sizeOf20
  v20 := Tryz.zeroValue20
  t21 := Tryz.underlying21
  a21 := Tryz.isAgg21
  z21 := Tryz.sizeOf21
  v21 := Tryz.zeroValue21
  t37 := Tryz.underlying172
  a37 := Tryz.isAgg172
  z37 := Tryz.sizeOf172
  v37 := Tryz.zeroValue172
  t46 := Tryz.underlying301
  a46 := Tryz.isAgg301
  z46 := Tryz.sizeOf301
  v46 := Tryz.zeroValue301
  t51 := Tryz.underlying312
  a51 := Tryz.isAgg312
  z51 := Tryz.sizeOf312
  v51 := Tryz.zeroValue312
  t53 := Tryz.underlying189
  a53 := Tryz.isAgg189
  z53 := Tryz.sizeOf189
  v53 := Tryz.zeroValue189
  t75 := Tryz.underlying108
  a75 := Tryz.isAgg108
  z75 := Tryz.sizeOf108
  v75 := Tryz.zeroValue108
  t76 := Tryz.underlying109
  a76 := Tryz.isAgg109
  z76 := Tryz.sizeOf109
  v76 := Tryz.zeroValue109
  t85 := Tryz.underlying303
  a85 := Tryz.isAgg303
  z85 := Tryz.sizeOf303
  v85 := Tryz.zeroValue303
  t127 := Tryz.underlying274
  a127 := Tryz.isAgg274
  z127 := Tryz.sizeOf274
  v127 := Tryz.zeroValue274
  t143 := Tryz.underlying494
  a143 := Tryz.isAgg494
  z143 := Tryz.sizeOf494
  v143 := Tryz.zeroValue494
  t145 := Tryz.underlying496
  a145 := Tryz.isAgg496
  z145 := Tryz.sizeOf496
  v145 := Tryz.zeroValue496
  t167 := Tryz.underlying302
  a167 := Tryz.isAgg302
  z167 := Tryz.sizeOf302
  v167 := Tryz.zeroValue302
  t168 := Tryz.underlying305
  a168 := Tryz.isAgg305
  z168 := Tryz.sizeOf305
  v168 := Tryz.zeroValue305
  t171 := Tryz.underlying188
  a171 := Tryz.isAgg188
  z171 := Tryz.sizeOf188
  v171 := Tryz.zeroValue188
  t173 := Tryz.underlying192
  a173 := Tryz.isAgg192
  z173 := Tryz.sizeOf192
  v173 := Tryz.zeroValue192
  t175 := Tryz.underlying397
  a175 := Tryz.isAgg397
  z175 := Tryz.sizeOf397
  v175 := Tryz.zeroValue397
  t210 := Tryz.underlying400
  a210 := Tryz.isAgg400
  z210 := Tryz.sizeOf400
  v210 := Tryz.zeroValue400
  t212 := Tryz.underlying311
  a212 := Tryz.isAgg311
  z212 := Tryz.sizeOf311
  v212 := Tryz.zeroValue311
  t213 := Tryz.underlying313
  a213 := Tryz.isAgg313
  z213 := Tryz.sizeOf313
  t232 := Tryz.underlying505
  a232 := Tryz.isAgg505
  z232 := Tryz.sizeOf505
  v232 := Tryz.zeroValue505
  t233 := Tryz.underlying506
  a233 := Tryz.isAgg506
  z233 := Tryz.sizeOf506
  v233 := Tryz.zeroValue506
  g15 := by kernel_rfl
  g16 := by kernel_rfl
  g17 := by kernel_rfl
  g18 := by kernel_rfl
  g19 := by kernel_rfl
  t80 := Tryz.underlying120
  a80 := Tryz.isAgg120
  z80 := Tryz.sizeOf120
  v80 := Tryz.zeroValue120
  i0 := by kernel_rfl
  i2 := by kernel_rfl
  i3 := by kernel_rfl
  i4 := by kernel_rfl
  i5 := by kernel_rfl
  i9 := by kernel_rfl
  i20 := by kernel_rfl
  i21 := by kernel_rfl
  i37 := by kernel_rfl
  i46 := by kernel_rfl
  i51 := by kernel_rfl
  i53 := by kernel_rfl
  i75 := by kernel_rfl
  i76 := by kernel_rfl
  i80 := by kernel_rfl
  i85 := by kernel_rfl
  i127 := by kernel_rfl
  i143 := by kernel_rfl
  i145 := by kernel_rfl
  i167 := by kernel_rfl
  i168 := by kernel_rfl
  i171 := by kernel_rfl
  i173 := by kernel_rfl
  i175 := by kernel_rfl
  i210 := by kernel_rfl
  i212 := by kernel_rfl
  i232 := by kernel_rfl
  i233 := by kernel_rfl
  m15 := by kernel_rfl
  m16 := by kernel_rfl
  m17 := by kernel_rfl
  m18 := by kernel_rfl
  m19 := by kernel_rfl
  c0 := by kernel_rfl
  c2 := by kernel_rfl
  c3 := by kernel_rfl
  c4 := by kernel_rfl
  c5 := by kernel_rfl
  c9 := by kernel_rfl
  c20 := by kernel_rfl
  c21 := by kernel_rfl
  c37 := by kernel_rfl
  c46 := by kernel_rfl
  c51 := by kernel_rfl
  c53 := by kernel_rfl
  c75 := by kernel_rfl
  c76 := by kernel_rfl
  c80 := by kernel_rfl
  c85 := by kernel_rfl
  c127 := by kernel_rfl
  c143 := by kernel_rfl
  c145 := by kernel_rfl
  c167 := by kernel_rfl
  c168 := by kernel_rfl
  c171 := by kernel_rfl
  c173 := by kernel_rfl
  c175 := by kernel_rfl
  c210 := by kernel_rfl
  c212 := by kernel_rfl
  c213 := by kernel_rfl
  c232 := by kernel_rfl
  c233 := by kernel_rfl }
open Go.RowKit in
theorem Tryz.strconv_Atoi_ok (s : ByteArray) (hmax : s.size ≤ 9223372036854775806) (v : Int) (h : Lib.atoiAll s.data.toList = .ok v) (w : World) :
    Calls Tryz.prog 54 #[.string s] w fun e w' => e = .returned (.tuple #[.int .i64 v, .nilIface]) ∧ (w' = w ∨ ∃ t, w' = Lib.bytesWorld w 5 t) := Any.strconv_Atoi_ok Tryz.laysC172 s hmax v h w
open Go.RowKit in
theorem Tryz.strconv_Atoi_range (s : ByteArray) (hlim : s.size ≤ 281474976710656) (h : Lib.atoiAll s.data.toList = .range) (ev : Value) (w : World) (hv : w.cell? ⟨3, 0, none⟩ = some ev) (hev : ev = .nilIface ∨ ∃ te pe, ev = .iface te pe) :
    Calls Tryz.prog 54 #[.string s] w fun e w' => ∃ N, e = .returned (.tuple #[.int .i64 (Lib.atoiSat s.data.toList), .iface 305 (.pointer (some ⟨N, 0, none⟩))]) ∧ w.heap.size ≤ N ∧ w'.heap[N]? = some (.cells #[.string ⟨#[65, 116, 111, 105]⟩, .string s, ev] 400 (0, 0)) ∧ Below w.heap.size w w' := Any.strconv_Atoi_range Tryz.laysC172 s hlim h ev w hv hev
def Tryz.lays217_ren : Go.Shelf.Ren := ⟨fun | 217 => 118 | 266 => 199 | n => n, fun | 9 => 9 | 5 => 5 | 3 => 3 | n => n, fun | n => n⟩
theorem Tryz.lays217 : Go.Proofs.Lays.n217 Tryz.prog Tryz.lays217_ren := {
  mixed := by kernel_rfl
  f217 := Tryz.func118.trans (congrArg some (by kernel_rfl))
  f266 := Tryz.func199.trans (congrArg some (by kernel_rfl))
  t3 := Tryz.underlying3
  a3 := Tryz.isAgg3
  z3 := Tryz.sizeOf3
  v3 := Tryz.zeroValue3
  t5 := Tryz.underlying5
  a5 := Tryz.isAgg5
  z5 := Tryz.sizeOf5
  v5 := Tryz.zeroValue5
  t9 := Tryz.underlying9
  a9 := Tryz.isAgg9
  z9 := Tryz.sizeOf9
  v9 := Tryz.zeroValue9 }
open Go.RowKit Go.Lib in
theorem Tryz.stringslite_IndexByte (s : ByteArray) (c : Int) (w : World) :
    Calls Tryz.prog 118 #[.string s, .int .u8 c] w fun e w' => e = .returned (.int .i64 (Lib.indexByte s.data.toList c.toNat.toUInt8)) ∧ w' = w := Any.stringslite_IndexByte Tryz.lays217 s c w
def Tryz.lays219_ren : Go.Shelf.Ren := ⟨fun | 219 => 109 | 217 => 118 | 225 => 187 | 224 => 188 | 267 => 189 | 266 => 199 | 314 => 274 | n => n, fun | 9 => 9 | 3 => 3 | 4 => 4 | 5 => 5 | 46 => 301 | 146 => 395 | 51 => 312 | n => n, fun | 1 => 0 | n => n⟩
def Tryz.lays145_ren : Go.Shelf.Ren := ⟨fun | 145 => 17 | 220 => 50 | 219 => 109 | 217 => 118 | 225 => 187 | 224 => 188 | 267 => 189 | 266 => 199 | 314 => 274 | n => n, fun | 9 => 9 | 4 => 4 | 59 => 54 | 3 => 3 | 5 => 5 | 46 => 301 | 146 => 395 | 51 => 312 | n => n, fun | 1 => 0 | n => n⟩
theorem Tryz.lays145 : Go.Proofs.Lays.n145 Tryz.prog Tryz.lays145_ren := {
  mixed := by kernel_rfl
  f145 := Tryz.func17.trans (congrArg some (by kernel_rfl))
  f217 := Tryz.func118.trans (congrArg some (by kernel_rfl))
  f219 := Tryz.func109.trans (congrArg some (by kernel_rfl))
  f220 := Tryz.func50.trans (congrArg some (by kernel_rfl))
  f224 := Tryz.func188.trans (congrArg some (by kernel_rfl))
  f225 := Tryz.func187.trans (congrArg some (by kernel_rfl))
  f266 := Tryz.func199.trans (congrArg some (by kernel_rfl))
  f267 := Tryz.func189.trans (congrArg some (by kernel_rfl))
  f314 := Tryz.func274.trans (congrArg some (by kernel_rfl))
  t3 := Tryz.underlying3
  a3 := Tryz.isAgg3
  z3 := Tryz.sizeOf3
  v3 := Tryz.zeroValue3
  t4 := Tryz.underlying4
  a4 := Tryz.isAgg4
  z4 := Tryz.sizeOf4
  v4 := Tryz.zeroValue4
  t5 := Tryz.underlying5
  a5 := Tryz.isAgg5
  z5 := Tryz.sizeOf5
  v5 := Tryz.zeroValue5
  t9 := Tryz.underlying9
  a9 := Tryz.isAgg9
  z9 := Tryz.sizeOf9
  v9 := Tryz.zeroValue9
  t46 := Tryz.underlying301
  a46 := Tryz.isAgg301
  z46 := Tryz.sizeOf301
  v46 := Tryz.zeroValue301
  t51 := Tryz.underlying312
  a51 := Tryz.isAgg312
  z51 := Tryz.sizeOf312
  v51 := Tryz.zeroValue312
  t59 := Tryz.underlying54
  a59 := Tryz.isAgg54
  z59 := Tryz.sizeOf54
  v59 := Tryz.zeroValue54
  t146 := Tryz.underlying395
  a146 := Tryz.isAgg395
  z146 := Tryz.sizeOf395
  v146 := Tryz.zeroValue395
  g1 := by kernel_rfl }
open Go.RowKit Go.Lib in
theorem Tryz.strings_Cut (s sep : ByteArray) (m : Int) (w : World) (hs : s.size < 4294967281) (hm : w.cell? ⟨0, 0, none⟩ = some (.int .i64 m)) :
    Calls Tryz.prog 17 #[.string s, .string sep] w fun e w' => e = .returned (.tuple #[.string ⟨(Lib.cut s.data.toList sep.data.toList).1.toArray⟩, .string ⟨(Lib.cut s.data.toList sep.data.toList).2.1.toArray⟩, .bool (Lib.cut s.data.toList sep.data.toList).2.2]) ∧ ∃ n, w' = w.drewN n := Any.strings_Cut Tryz.lays145 s sep m w hs hm
def Tryz.lays190_ren : Go.Shelf.Ren := ⟨fun | 190 => 297 | 125 => 259 | 258 => 384 | 128 => 341 | 129 => 203 | 302 => 452 | 303 => 453 | 304 => 454 | 305 => 455 | 306 => 456 | 307 => 457 | 308 => 458 | 309 => 459 | 310 => 460 | 333 => 523 | 329 => 423 | 330 => 424 | 334 => 524 | 335 => 525 | 336 => 526 | 344 => 575 | n => n, fun | 31 => 35 | 9 => 9 | 3 => 3 | 46 => 301 | 0 => 0 | 51 => 312 | 53 => 189 | 4 => 4 | 183 => 456 | 182 => 455 | 131 => 56 | 5 => 5 | 218 => 554 | 222 => 558 | 228 => 641 | 229 => 642 | n => n, fun | n => n⟩
theorem Tryz.lays190 : Go.Proofs.Lays.n190 Tryz.prog Tryz.lays190_ren := {
  mixed := by kernel_rfl
  f125 := Tryz.func259.trans (congrArg some (by kernel_rfl))
  f128 := Tryz.func341.trans (congrArg some (by kernel_rfl))
  f129 := Tryz.func203.trans (congrArg some (by kernel_rfl))
  f190 := Tryz.func297.trans (congrArg some (by kernel_rfl))
  f258 := Tryz.func384.trans (congrArg some (by kernel_rfl))
  f302 := Tryz.func452.trans (congrArg some (by kernel_rfl))
  f303 := Tryz.func453.trans (congrArg some (by kernel_rfl))
  f304 := Tryz.func454.trans (congrArg some (by kernel_rfl))
  f305 := Tryz.func455.trans (congrArg some (by kernel_rfl))
  f306 := Tryz.func456.trans (congrArg some (by kernel_rfl))
  f307 := Tryz.func457.trans (congrArg some (by kernel_rfl))
  f308 := Tryz.func458.trans (congrArg some (by kernel_rfl))
  f309 := Tryz.func459.trans (congrArg some (by kernel_rfl))
  f310 := Tryz.func460.trans (congrArg some (by kernel_rfl))
  f329 := Tryz.func423.trans (congrArg some (by kernel_rfl))
  f330 := Tryz.func424.trans (congrArg some (by kernel_rfl))
  f333 := Tryz.func523.trans (congrArg some (by kernel_rfl))
  f334 := Tryz.func524.trans (congrArg some (by kernel_rfl))
  f335 := Tryz.func525.trans (congrArg some (by kernel_rfl))
  f336 := Tryz.func526.trans (congrArg some (by kernel_rfl))
  f344 := Tryz.func575.trans (congrArg some (by kernel_rfl))
  t0 := Tryz.underlying0
  a0 := Tryz.isAgg0
  z0 := Tryz.sizeOf0
  v0 := Tryz.zeroValue0
  t3 := Tryz.underlying3
  a3 := Tryz.isAgg3
  z3 := Tryz.sizeOf3
  v3 := Tryz.zeroValue3
  t4 := Tryz.underlying4
  a4 := Tryz.isAgg4
  z4 := Tryz.sizeOf4
  v4 := Tryz.zeroValue4
  t5 := Tryz.underlying5
  a5 := Tryz.isAgg5
  z5 := Tryz.sizeOf5
  v5 := Tryz.zeroValue5
  t9 := Tryz.underlying9
  a9 := Tryz.isAgg9
  z9 := Tryz.sizeOf9
  v9 := Tryz.zeroValue9
  t31 := Tryz.underlying35
  a31 := Tryz.isAgg35
  z31 := Tryz.sizeOf35
  v31 := Tryz.zeroValue35
  t46 := Tryz.underlying301
  a46 := Tryz.isAgg301
  z46 := Tryz.sizeOf301
  v46 := Tryz.zeroValue301
  t51 := Tryz.underlying312
  a51 := Tryz.isAgg312
  z51 := Tryz.sizeOf312
  v51 := Tryz.zeroValue312
  t53 := Tryz.underlying189
  a53 := Tryz.isAgg189
  z53 := Tryz.sizeOf189
  v53 := Tryz.zeroValue189
  t131 := Tryz.underlying56
  a131 := Tryz.isAgg56
  z131 := Tryz.sizeOf56
  v131 := Tryz.zeroValue56
  t182 := Tryz.underlying455
  a182 := Tryz.isAgg455
  z182 := Tryz.sizeOf455
  v182 := Tryz.zeroValue455
  t183 := Tryz.underlying456
  a183 := Tryz.isAgg456
  z183 := Tryz.sizeOf456
  v183 := Tryz.zeroValue456
  t218 := Tryz.underlying554
  a218 := Tryz.isAgg554
  z218 := Tryz.sizeOf554
  v218 := Tryz.zeroValue554
  t222 := Tryz.underlying558
  a222 := Tryz.isAgg558
  z222 := Tryz.sizeOf558
  v222 := Tryz.zeroValue558
  t228 := Tryz.underlying641
  a228 := Tryz.isAgg641
  z228 := Tryz.sizeOf641
  v228 := Tryz.zeroValue641
  t229 := Tryz.underlying642
  a229 := Tryz.isAgg642
  z229 := Tryz.sizeOf642
  v229 := Tryz.zeroValue642 }
def Tryz.lays221_ren : Go.Shelf.Ren := ⟨fun | 221 => 55 | 268 => 114 | 138 => 115 | 143 => 116 | 195 => 196 | 197 => 197 | 218 => 198 | 219 => 109 | 260 => 278 | 217 => 118 | 225 => 187 | 224 => 188 | 267 => 189 | 266 => 199 | 314 => 274 | n => n, fun | 9 => 9 | 3 => 3 | 31 => 35 | 4 => 4 | 0 => 0 | 105 => 308 | 21 => 21 | 5 => 5 | 46 => 301 | 119 => 403 | 139 => 499 | 138 => 498 | 146 => 395 | 51 => 312 | n => n, fun | 1 => 0 | 3 => 5 | 4 => 6 | n => n⟩
def Tryz.lays146_ren : Go.Shelf.Ren := ⟨fun | 146 => 22 | 221 => 55 | 268 => 114 | 138 => 115 | 143 => 116 | 195 => 196 | 197 => 197 | 218 => 198 | 219 => 109 | 260 => 278 | 217 => 118 | 225 => 187 | 224 => 188 | 267 => 189 | 266 => 199 | 314 => 274 | n => n, fun | 9 => 9 | 31 => 35 | 3 => 3 | 4 => 4 | 0 => 0 | 105 => 308 | 21 => 21 | 5 => 5 | 46 => 301 | 119 => 403 | 139 => 499 | 138 => 498 | 146 => 395 | 51 => 312 | n => n, fun | 1 => 0 | 3 => 5 | 4 => 6 | n => n⟩
theorem Tryz.lays146 : Go.Proofs.Lays.n146 Tryz.prog Tryz.lays146_ren := {
  mixed := by kernel_rfl
  f138 := Tryz.func115.trans (congrArg some (by kernel_rfl))
  f143 := Tryz.func116.trans (congrArg some (by kernel_rfl))
  f146 := Tryz.func22.trans (congrArg some (by kernel_rfl))
  f195 := Tryz.func196.trans (congrArg some (by kernel_rfl))
  f197 := Tryz.func197.trans (congrArg some (by kernel_rfl))
  f217 := Tryz.func118.trans (congrArg some (by kernel_rfl))
  f218 := Tryz.func198.trans (congrArg some (by kernel_rfl))
  f219 := Tryz.func109.trans (congrArg some (by kernel_rfl))
  f221 := Tryz.func55.trans (congrArg some (by kernel_rfl))
  f224 := Tryz.func188.trans (congrArg some (by kernel_rfl))
  f225 := Tryz.func187.trans (congrArg some (by kernel_rfl))
  f260 := Tryz.func278.trans (congrArg some (by kernel_rfl))
  f266 := Tryz.func199.trans (congrArg some (by kernel_rfl))
  f267 := Tryz.func189.trans (congrArg some (by kernel_rfl))
  f268 := Tryz.func114.trans (congrArg some (by kernel_rfl))
  f314 := Tryz.func274.trans (congrArg some (by kernel_rfl))
  t0 := Tryz.underlying0
  a0 := Tryz.isAgg0
  z0 := Tryz.sizeOf0
  v0 := Tryz.zeroValue0
  t3 := Tryz.underlying3
  a3 := Tryz.isAgg3
  z3 := Tryz.sizeOf3
  v3 := Tryz.zeroValue3
  t4 := Tryz.underlying4
  a4 := Tryz.isAgg4
  z4 := Tryz.sizeOf4
  v4 := Tryz.zeroValue4
  t5 := Tryz.underlying5
  a5 := Tryz.isAgg5
  z5 := Tryz.sizeOf5
  v5 := Tryz.zeroValue5
  t9 := Tryz.underlying9
  a9 := Tryz.isAgg9
  z9 := Tryz.sizeOf9
  v9 := Tryz.zeroValue9
  t21 := Tryz.underlying21
  a21 := Tryz.isAgg21
  z21 := Tryz.sizeOf21
  v21 := Tryz.zeroValue21
  t31 := Tryz.underlying35
  a31 := Tryz.isAgg35
  z31 := Tryz.sizeOf35
  v31 := Tryz.zeroValue35
  t46 := Tryz.underlying301
  a46 := Tryz.isAgg301
  z46 := Tryz.sizeOf301
  v46 := Tryz.zeroValue301
  t51 := Tryz.underlying312
  a51 := Tryz.isAgg312
  z51 := Tryz.sizeOf312
  v51 := Tryz.zeroValue312
  t105 := Tryz.underlying308
  a105 := Tryz.isAgg308
  z105 := Tryz.sizeOf308
  v105 := Tryz.zeroValue308
  t119 := Tryz.underlying403
  a119 := Tryz.isAgg403
  z119 := Tryz.sizeOf403
  t138 := Tryz.underlying498
  a138 := Tryz.isAgg498
  z138 := Tryz.sizeOf498
  v138 := Tryz.zeroValue498
  t139 := Tryz.underlying499
  a139 := Tryz.isAgg499
  z139 := Tryz.sizeOf499
  v139 := Tryz.zeroValue499
  t146 := Tryz.underlying395
  a146 := Tryz.isAgg395
  z146 := Tryz.sizeOf395
  v146 := Tryz.zeroValue395
  g1 := by kernel_rfl
  g3 := by kernel_rfl
  g4 := by kernel_rfl }
open Go.RowKit Go.Lib in
theorem Tryz.strings_Split (s sep : ByteArray) (m : Int) (w : World) (hs : s.size < 4294967281) (hm : w.cell? ⟨0, 0, none⟩ = some (.int .i64 m)) (h1 : 1 ≤ sep.size) :
    Calls Tryz.prog 22 #[.string s, .string sep] w fun e w' =>
      e = .returned (.slice (some ⟨w.heap.size, 0, none⟩) (Lib.countB s sep + 1) (Lib.countB s sep + 1)) ∧ w' = w.alloc (.cells ((Lib.splitB sep 0 (Lib.countB s sep) s).map Value.string).toArray 9) := Any.strings_Split Tryz.lays146 (by kernel_rfl) s sep m w hs hm h1
def Tryz.lays157_ren : Go.Shelf.Ren := ⟨fun | 157 => 201 | 229 => 280 | 199 => 281 | 261 => 367 | 311 => 441 | 312 => 442 | n => n, fun | 9 => 9 | 31 => 35 | 3 => 3 | 5 => 5 | 4 => 4 | 119 => 403 | 0 => 0 | 40 => 405 | 152 => 500 | 21 => 21 | 154 => 502 | 51 => 312 | 141 => 504 | 196 => 577 | 193 => 574 | 198 => 580 | 49 => 578 | 194 => 575 | 201 => 583 | 226 => 656 | 46 => 301 | 227 => 657 | n => n, fun | 0 => 4 | 6 => 7 | n => n⟩
def Tryz.laysM157_ren : Go.Shelf.Ren := ⟨fun | 157 => 201 | 229 => 280 | 199 => 281 | 261 => 367 | 311 => 441 | 312 => 442 | n => n, fun | 9 => 9 | 31 => 35 | 3 => 3 | 5 => 5 | 4 => 4 | 119 => 403 | 0 => 0 | 40 => 405 | 152 => 500 | 21 => 21 | 154 => 502 | 51 => 312 | 141 => 504 | 196 => 577 | 193 => 574 | 198 => 580 | 49 => 578 | 194 => 575 | 201 => 583 | 226 => 656 | 46 => 301 | 227 => 657 | n => n, fun | 0 => 4 | 6 => 7 | n => n⟩
theorem Tryz.laysM157 : Go.Proofs.LaysM.n157 Tryz.prog Tryz.laysM157_ren := {
  mixed := by kernel_rfl
  f157 := Tryz.func201.trans (congrArg some (by kernel_rfl))
  f199 := Tryz.func281.trans (congrArg some (by kernel_rfl))
  f229 := Tryz.func280.trans (congrArg some (by kernel_rfl))
  f261 := Tryz.func367.trans (congrArg some (by kernel_rfl))
  f311 := Tryz.func441.trans (congrArg some (by kernel_rfl))
  f312 := Tryz.func442.trans (congrArg some (by kernel_rfl))
  t0 := Tryz.underlying0
  a0 := Tryz.isAgg0
  z0 := Tryz.sizeOf0
  v0 := Tryz.zeroValue0
  t3 := Tryz.underlying3
  a3 := Tryz.isAgg3
  z3 := Tryz.sizeOf3
  v3 := Tryz.zeroValue3
  t4 := Tryz.underlying4
  a4 := Tryz.isAgg4
  z4 := Tryz.sizeOf4
  v4 := Tryz.zeroValue4
  t5 := Tryz.underlying5
  a5 := Tryz.isAgg5
  z5 := Tryz.sizeOf5
  v5 := Tryz.zeroValue5
  t9 := Tryz.underlying9
  a9 := Tryz.isAgg9
  z9 := Tryz.sizeOf9
  v9 := Tryz.zeroValue9
  t21 := Tryz.underlying21
  a21 := Tryz.isAgg21
  z21 := Tryz.sizeOf21
  v21 := Tryz.zeroValue21
  t31 := Tryz.underlying35
  a31 := Tryz.isAgg35
  z31 := Tryz.sizeOf35
  v31 := Tryz.zeroValue35
  t40 := Tryz.underlying405
  a40 := Tryz.isAgg405
  z40 := Tryz.sizeOf405
  v40 := Tryz.zeroValue405
  t46 := Tryz.underlying301
  a46 := Tryz.isAgg301
  z46 := Tryz.sizeOf301
  v46 := Tryz.zeroValue301
  t49 := Tryz.underlying578
  a49 := Tryz.isAgg578
  z49 := Tryz.sizeOf578
  v49 := Tryz.zeroValue578
  t51 := Tryz.underlying312
  a51 := Tryz.isAgg312
  z51 := Tryz.sizeOf312
  v51 := Tryz.zeroValue312
  t119 := Tryz.underlying403
  a119 := Tryz.isAgg403
  z119 := Tryz.sizeOf403
  t141 := Tryz.underlying504
  a141 := Tryz.isAgg504
  z141 := Tryz.sizeOf504
  v141 := Tryz.zeroValue504
  t152 := Tryz.underlying500
  a152 := Tryz.isAgg500
  z152 := Tryz.sizeOf500
  v152 := Tryz.zeroValue500
  t154 := Tryz.underlying502
  a154 := Tryz.isAgg502
  z154 := Tryz.sizeOf502
  v154 := Tryz.zeroValue502
  t193 := Tryz.underlying574
  a193 := Tryz.isAgg574
  z193 := Tryz.sizeOf574
  v193 := Tryz.zeroValue574
  t194 := Tryz.underlying575
  a194 := Tryz.isAgg575
  z194 := Tryz.sizeOf575
  v194 := Tryz.zeroValue575
  t196 := Tryz.underlying577
  a196 := Tryz.isAgg577
  z196 := Tryz.sizeOf577
  v196 := Tryz.zeroValue577
  t198 := Tryz.underlying580
  a198 := Tryz.isAgg580
  z198 := Tryz.sizeOf580
  v198 := Tryz.zeroValue580
  t201 := Tryz.underlying583
  a201 := Tryz.isAgg583
  z201 := Tryz.sizeOf583
  v201 := Tryz.zeroValue583
  t226 := Tryz.underlying656
  a226 := Tryz.isAgg656
  z226 := Tryz.sizeOf656
  v226 := Tryz.zeroValue656
  t227 := Tryz.underlying657
  a227 := Tryz.isAgg657
  z227 := Tryz.sizeOf657
  v227 := Tryz.zeroValue657
  g0 := by kernel_rfl
  g6 := by kernel_rfl
  i0 := by kernel_rfl
  i3 := by kernel_rfl
  i4 := by kernel_rfl
  i5 := by kernel_rfl
  i9 := by kernel_rfl
  i21 := by kernel_rfl
  i31 := by kernel_rfl
  i40 := by kernel_rfl
  i46 := by kernel_rfl
  i49 := by kernel_rfl
  i51 := by kernel_rfl
  i141 := by kernel_rfl
  i152 := by kernel_rfl
  i154 := by kernel_rfl
  i193 := by kernel_rfl
  i194 := by kernel_rfl
  i196 := by kernel_rfl
  i198 := by kernel_rfl
  i201 := by kernel_rfl
  i226 := by kernel_rfl
  i227 := by kernel_rfl
  m0 := by kernel_rfl
  m6 := by kernel_rfl }
open Go.RowKit Go.Lib in
theorem Tryz.strings_Fields_laid (s : ByteArray) (w : World) (hs : s.size < 4294967281) (hascii : ∀ (j : Nat) b, s.data.toList[j]? = some b → b.toNat < 128) (htab : Lib.TabIs Tryz.prog w "strings.asciiSpace" .u8 Lib.asciiSpaceTab) :
    Calls Tryz.prog 201 #[.string s] w fun e w' =>
      e = .returned (.slice (some ⟨w.heap.size, 0, none⟩) (Lib.fields s.data.toList).length (Lib.fields s.data.toList).length) ∧ w' = w.alloc (.cells ((Lib.fields s.data.toList).map fun l => Value.string ⟨l.toArray⟩).toArray 9) := Any.strings_Fields_laid Tryz.laysM157 s w hs hascii htab
open Go.RowKit Go.Sort in
theorem Tryz.slices_Sort_string_none (p : Option Addr) (cap : Nat) (w : World) :
    Calls Tryz.prog 297 #[.slice p 0 cap] w fun e w' => e = .returned (.tuple #[]) ∧ w' = w := Any.slices_Sort_string_none Tryz.lays190 p cap w
def Tryz.laysSlE041_f163_ren : Go.Shelf.Ren := ⟨fun | 41 => 163 | n => n, fun | 22 => 35 | 23 => 9 | 4 => 4 | n => n, fun | n => n⟩
theorem Tryz.laysSlE041_f163 : Go.Proofs.SlLaysE0.n41 Tryz.prog Tryz.laysSlE041_f163_ren := {
  mixed := by kernel_rfl
  f41 := ⟨Tryz.f163.name, by decide, Tryz.func163.trans (congrArg some (by kernel_rfl))⟩
  t4 := Tryz.underlying4
  a4 := Tryz.isAgg4
  z4 := Tryz.sizeOf4
  v4 := Tryz.zeroValue4
  t22 := Tryz.underlying35
  a22 := Tryz.isAgg35
  z22 := Tryz.sizeOf35
  v22 := Tryz.zeroValue35 }
def Tryz.laysSlE041_f176_ren : Go.Shelf.Ren := ⟨fun | 41 => 176 | n => n, fun | 22 => 26 | 23 => 3 | 4 => 4 | n => n, fun | n => n⟩
theorem Tryz.laysSlE041_f176 : Go.Proofs.SlLaysE0.n41 Tryz.prog Tryz.laysSlE041_f176_ren := {
  mixed := by kernel_rfl
  f41 := ⟨Tryz.f176.name, by decide, Tryz.func176.trans (congrArg some (by kernel_rfl))⟩
  t4 := Tryz.underlying4
  a4 := Tryz.isAgg4
  z4 := Tryz.sizeOf4
  v4 := Tryz.zeroValue4
  t22 := Tryz.underlying26
  a22 := Tryz.isAgg26
  z22 := Tryz.sizeOf26
  v22 := Tryz.zeroValue26 }
end Go.Proofs
