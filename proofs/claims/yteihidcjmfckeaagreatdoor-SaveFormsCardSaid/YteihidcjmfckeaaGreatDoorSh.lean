/-
  DERIVED: THE SHELF's CONTRACTS AT THIS DUMP, IN PLAIN WORDS (tools/lay-plain.mjs out of 'TryzShelf.lean', which tools/lay-shelf.mjs wrote): THE SAME DECLARATIONS UNDER THE SAME NAMES: 'import', 'namespace', 'open', 'def', 'theorem' AND NOTHING ELSE: no command of the shelf's: FOR A HAND-IN. Each laying: the table of numbers ('.._ren') and one theorem, a field a fact of the dump's own or the kernel's comparison; each contract: ONE APPLICATION.
-/
import Derived.Shelf.Strings.Builder1
import Derived.Shelf.Strings.Builder2
import Derived.Shelf.Strings.OnBuilder
import Derived.Shelf.Small.Bits
import Derived.Shelf.Small.Strs
import Derived.Shelf.Utf8.RuneCount
import Derived.Shelf.Strconv.Atoi
import Derived.Shelf.Strconv.Itoa0
import Derived.Shelf.Strconv.Itoa1
import Derived.Shelf.LaysM
import Derived.Shelf.Strconv.Itoa2
import Derived.Shelf.Strconv.Itoa3
import Derived.Shelf.Strconv.AtoiErrFast
import Derived.Shelf.Strconv.ParseIntEmpty
import Derived.Shelf.Strconv.AtoiFail
import Derived.Shelf.Strconv.Clone
import Derived.Shelf.Strconv.SyntaxError
import Derived.Shelf.LaysC
import Derived.Shelf.Strconv.ToError
import Derived.Shelf.Strconv.Lower
import Derived.Shelf.Strconv.ParseUint10
import Derived.Shelf.Strconv.ParseUint10Empty
import Derived.Shelf.Strconv.ParseUint10Any
import Derived.Shelf.Strconv.ParseInt10
import Derived.Shelf.Strconv.AtoiLong
import Derived.Shelf.Strconv.AtoiInnerAll
import Derived.Shelf.Strconv.RangeError
import Derived.Shelf.Strconv.ToErrorRange
import Derived.Shelf.Strconv.AtoiAll
import Derived.Shelf.Strings.Search1
import Derived.Shelf.Strings.Search2
import Derived.Shelf.Strings.Search3
import Derived.Shelf.Strings.Count
import Derived.Shelf.Strings.Shaped
import Derived.Shelf.Sort.Plain
import Derived.Shelf.Strings.Prefix
import Derived.Shelf.Strings.Split
import Derived.Shelf.Strings.Fields
import Derived.Shelf.Strings.SplitShaped
import Derived.Shelf.Unicode.Latin
import Derived.Shelf.Unicode.Decode
import Derived.Shelf.Strings.RuneCount
import Derived.Shelf.Strings.Explode
import Derived.Shelf.Bits.Mul64
import Derived.Shelf.Unicode.DecodeSlow
import Derived.Shelf.Unicode.DecodeAny
import Derived.Shelf.Unicode.Is16White
import Derived.Shelf.Unicode.IsSpaceAny
import Derived.Shelf.Unicode.Is16Any
import Derived.Shelf.Unicode.Is32Any
import Derived.Shelf.Unicode.ExclAny
import Derived.Shelf.Slices.Reverse
import Derived.Ground.Names2Prog
import Derived.Shelf.Slices.Clone
import Derived.Shelf.Slices.CompactS
import Derived.Shelf.Slices.SearchI
import Derived.Shelf.Slices.Cells
import Derived.Shelf.Slices.In.SortNone
import Derived.Ground.SlgnProg
import Derived.Shelf.SlicesE.Clone
import Derived.Test.YteihidcjmfckeaaGreatDoorProg
namespace Go.Proofs
open Go.Shelf
def Tryz.lays169_ren:Go.Shelf.Ren:=⟨fun | 169=>57 | n=>n,fun | 70=>129 | 9=>9 | 0=>0 | 72=>132 | 37=>130 | 127=>202 | 3=>3 | 5=>5 | n=>n,fun | n=>n⟩
theorem Tryz.lays169:Go.Proofs.Lays.n169 Tryz.prog Tryz.lays169_ren:={
  mixed:=by kernel_rfl
  f169:=Tryz.func57.trans (congrArg some (by kernel_rfl))
  t0:=Tryz.underlying0
  a0:=Tryz.isAgg0
  z0:=Tryz.sizeOf0
  v0:=Tryz.zeroValue0
  t3:=Tryz.underlying3
  a3:=Tryz.isAgg3
  z3:=Tryz.sizeOf3
  v3:=Tryz.zeroValue3
  t9:=Tryz.underlying9
  a9:=Tryz.isAgg9
  z9:=Tryz.sizeOf9
  v9:=Tryz.zeroValue9
  t37:=Tryz.underlying130
  a37:=Tryz.isAgg130
  z37:=Tryz.sizeOf130
  v37:=Tryz.zeroValue130
  t70:=Tryz.underlying129
  a70:=Tryz.isAgg129
  z70:=Tryz.sizeOf129
  v70:=Tryz.zeroValue129
  t72:=Tryz.underlying132
  a72:=Tryz.isAgg132
  z72:=Tryz.sizeOf132
  v72:=Tryz.zeroValue132
  t127:=Tryz.underlying202
  a127:=Tryz.isAgg202
  z127:=Tryz.sizeOf202
  v127:=Tryz.zeroValue202 }
theorem Tryz.Builder_Extra_169:Builder.Extra Tryz.prog Tryz.lays169_ren:={
  sizeBuilder:=by kernel_rfl
  liesBuilder:=by kernel_rfl
  t5:=Tryz.underlying5
  a5:=Tryz.isAgg5
  z5:=Tryz.sizeOf5
  v5:=Tryz.zeroValue5
  infoByte:=by kernel_rfl
  cellsByte:=by kernel_rfl
  sizeByte:=by kernel_rfl
  neB5:=by decide }
open Go.RowKit in
theorem Tryz.Builder_String_any (B b:Nat) (l:List UInt8) (w:World) (h:Lib.IsBuilder 132 5 B b (Lib.byteCells l) w) (hBw:B≤w.heap.size) :
    Calls Tryz.prog 57 #[.pointer (some ⟨b,0,none⟩)] w fun e w'=>e=.returned (.string ⟨l.toArray⟩)∧Below B w w':=Any.Builder_String_any Tryz.lays169 Tryz.Builder_Extra_169 B b l w h hBw
def Tryz.lays156_ren:Go.Shelf.Ren:=⟨fun | 156=>29 | 165=>55 | 166=>56 | 169=>57 | 240=>103 | 241=>104 | 276=>165 | 277=>166 | n=>n,fun | 31=>24 | 9=>9 | 3=>3 | 4=>4 | 0=>0 | 20=>20 | 72=>132 | 76=>136 | 70=>129 | 37=>130 | 75=>135 | 127=>202 | 164=>277 | 5=>5 | 80=>22 | n=>n,fun | n=>n⟩
theorem Tryz.lays156:Go.Proofs.Lays.n156 Tryz.prog Tryz.lays156_ren:={
  mixed:=by kernel_rfl
  f156:=Tryz.func29.trans (congrArg some (by kernel_rfl))
  f165:=Tryz.func55.trans (congrArg some (by kernel_rfl))
  f166:=Tryz.func56.trans (congrArg some (by kernel_rfl))
  f169:=Tryz.func57.trans (congrArg some (by kernel_rfl))
  f240:=Tryz.func103.trans (congrArg some (by kernel_rfl))
  f241:=Tryz.func104.trans (congrArg some (by kernel_rfl))
  f276:=Tryz.func165.trans (congrArg some (by kernel_rfl))
  f277:=Tryz.func166.trans (congrArg some (by kernel_rfl))
  t0:=Tryz.underlying0
  a0:=Tryz.isAgg0
  z0:=Tryz.sizeOf0
  v0:=Tryz.zeroValue0
  t3:=Tryz.underlying3
  a3:=Tryz.isAgg3
  z3:=Tryz.sizeOf3
  v3:=Tryz.zeroValue3
  t4:=Tryz.underlying4
  a4:=Tryz.isAgg4
  z4:=Tryz.sizeOf4
  v4:=Tryz.zeroValue4
  t9:=Tryz.underlying9
  a9:=Tryz.isAgg9
  z9:=Tryz.sizeOf9
  v9:=Tryz.zeroValue9
  t20:=Tryz.underlying20
  a20:=Tryz.isAgg20
  z20:=Tryz.sizeOf20
  v20:=Tryz.zeroValue20
  t31:=Tryz.underlying24
  a31:=Tryz.isAgg24
  z31:=Tryz.sizeOf24
  v31:=Tryz.zeroValue24
  t37:=Tryz.underlying130
  a37:=Tryz.isAgg130
  z37:=Tryz.sizeOf130
  v37:=Tryz.zeroValue130
  t70:=Tryz.underlying129
  a70:=Tryz.isAgg129
  z70:=Tryz.sizeOf129
  v70:=Tryz.zeroValue129
  t72:=Tryz.underlying132
  a72:=Tryz.isAgg132
  z72:=Tryz.sizeOf132
  v72:=Tryz.zeroValue132
  t75:=Tryz.underlying135
  a75:=Tryz.isAgg135
  z75:=Tryz.sizeOf135
  v75:=Tryz.zeroValue135
  t76:=Tryz.underlying136
  a76:=Tryz.isAgg136
  z76:=Tryz.sizeOf136
  v76:=Tryz.zeroValue136
  t127:=Tryz.underlying202
  a127:=Tryz.isAgg202
  z127:=Tryz.sizeOf202
  v127:=Tryz.zeroValue202
  t164:=Tryz.underlying277
  a164:=Tryz.isAgg277
  z164:=Tryz.sizeOf277
  v164:=Tryz.zeroValue277 }
theorem Tryz.Builder_Extra_156:Builder.Extra Tryz.prog Tryz.lays156_ren:={
  sizeBuilder:=by kernel_rfl
  liesBuilder:=by kernel_rfl
  t5:=Tryz.underlying5
  a5:=Tryz.isAgg5
  z5:=Tryz.sizeOf5
  v5:=Tryz.zeroValue5
  infoByte:=by kernel_rfl
  cellsByte:=by kernel_rfl
  sizeByte:=by kernel_rfl
  neB5:=by decide }
open Go.RowKit in
theorem Tryz.strings_Join_none (a:Option Addr) (c:Nat) (sep:ByteArray) (w:World) :
    Calls Tryz.prog 29 #[.slice a 0 c,.string sep] w fun e w'=>e=.returned (.string ⟨#[]⟩)∧w'=w:=Any.strings_Join_none Tryz.lays156 Tryz.Builder_Extra_156 a c sep w
open Go.RowKit in
theorem Tryz.strings_Join (bk o c:Nat) (xs:List ByteArray) (sep:ByteArray) (w:World) (hcells:∀ (j:Nat) x,xs[j]? = some x→w.cell? ⟨bk,o+j,none⟩=some (.string x)) (hbk:bk<w.heap.size) (hN:xs.length≤140737488355328) (hcap:xs.length≤c) (hlen:(Lib.join (xs.map (·.data.toList)) sep.data.toList).length≤140737488355328) :
    Calls Tryz.prog 29 #[.slice (some ⟨bk,o,none⟩) xs.length c,.string sep] w fun e w'=>e=.returned (.string ⟨(Lib.join (xs.map (·.data.toList)) sep.data.toList).toArray⟩)∧Below w.heap.size w w':=Any.strings_Join Tryz.lays156 Tryz.Builder_Extra_156 bk o c xs sep w hcells hbk hN hcap hlen
def Tryz.lays172_ren:Go.Shelf.Ren:=⟨fun | 172=>97 | 244=>157 | 245=>158 | 247=>217 | 279=>218 | 280=>219 | 281=>220 | 282=>221 | 287=>293 | 316=>294 | 171=>98 | 205=>295 | 321=>359 | 322=>360 | 243=>159 | 246=>222 | 283=>296 | 284=>297 | 285=>298 | 286=>299 | 129=>75 | 317=>361 | 318=>362 | 319=>363 | 320=>364 | 337=>410 | 338=>411 | n=>n,fun | 9=>9 | 3=>3 | 75=>135 | 76=>136 | 4=>4 | 5=>5 | 167=>326 | 37=>130 | 0=>0 | 85=>327 | 2=>2 | 168=>329 | 53=>162 | 175=>401 | 46=>91 | 210=>404 | 127=>202 | 145=>469 | 143=>467 | 21=>21 | 171=>406 | 173=>408 | 212=>470 | 51=>160 | 20=>20 | 213=>471 | 232=>552 | 233=>553 | 80=>22 | n=>n,fun | 15=>1 | 16=>2 | 17=>5 | 18=>7 | 19=>8 | n=>n⟩
def Tryz.laysM246_ren:Go.Shelf.Ren:=⟨fun | 246=>222 | 283=>296 | 284=>297 | 285=>298 | 286=>299 | 129=>75 | 317=>361 | 318=>362 | 319=>363 | 320=>364 | 337=>410 | 338=>411 | n=>n,fun | 2=>2 | 3=>3 | 9=>9 | 4=>4 | 171=>406 | 0=>0 | 53=>162 | 37=>130 | 5=>5 | 173=>408 | 212=>470 | 51=>160 | 20=>20 | 213=>471 | 46=>91 | 232=>552 | 233=>553 | n=>n,fun | 17=>5 | 18=>7 | 19=>8 | n=>n⟩
def Tryz.laysM243_ren:Go.Shelf.Ren:=⟨fun | 243=>159 | 246=>222 | 283=>296 | 284=>297 | 285=>298 | 286=>299 | 129=>75 | 317=>361 | 318=>362 | 319=>363 | 320=>364 | 337=>410 | 338=>411 | n=>n,fun | 3=>3 | 9=>9 | 2=>2 | 4=>4 | 171=>406 | 0=>0 | 53=>162 | 37=>130 | 5=>5 | 173=>408 | 212=>470 | 51=>160 | 20=>20 | 213=>471 | 46=>91 | 232=>552 | 233=>553 | n=>n,fun | 17=>5 | 18=>7 | 19=>8 | n=>n⟩
def Tryz.laysM171_ren:Go.Shelf.Ren:=⟨fun | 171=>98 | 243=>159 | 246=>222 | 283=>296 | 284=>297 | 285=>298 | 286=>299 | 129=>75 | 317=>361 | 318=>362 | 319=>363 | 320=>364 | 337=>410 | 338=>411 | n=>n,fun | 3=>3 | 9=>9 | 2=>2 | 4=>4 | 171=>406 | 0=>0 | 53=>162 | 37=>130 | 5=>5 | 173=>408 | 212=>470 | 51=>160 | 20=>20 | 213=>471 | 46=>91 | 232=>552 | 233=>553 | n=>n,fun | 17=>5 | 18=>7 | 19=>8 | n=>n⟩
theorem Tryz.laysM171:Go.Proofs.LaysM.n171 Tryz.prog Tryz.laysM171_ren:={
  mixed:=by kernel_rfl
  f129:=Tryz.func75.trans (congrArg some (by kernel_rfl))
  f171:=Tryz.func98.trans (congrArg some (by kernel_rfl))
  f243:=Tryz.func159.trans (congrArg some (by kernel_rfl))
  f246:=Tryz.func222.trans (congrArg some (by kernel_rfl))
  f283:=Tryz.func296.trans (congrArg some (by kernel_rfl))
  f284:=Tryz.func297.trans (congrArg some (by kernel_rfl))
  f285:=Tryz.func298.trans (congrArg some (by kernel_rfl))
  f286:=Tryz.func299.trans (congrArg some (by kernel_rfl))
  f317:=Tryz.func361.trans (congrArg some (by kernel_rfl))
  f318:=Tryz.func362.trans (congrArg some (by kernel_rfl))
  f319:=Tryz.func363.trans (congrArg some (by kernel_rfl))
  f320:=Tryz.func364.trans (congrArg some (by kernel_rfl))
  f337:=Tryz.func410.trans (congrArg some (by kernel_rfl))
  f338:=Tryz.func411.trans (congrArg some (by kernel_rfl))
  t0:=Tryz.underlying0
  a0:=Tryz.isAgg0
  z0:=Tryz.sizeOf0
  v0:=Tryz.zeroValue0
  t2:=Tryz.underlying2
  a2:=Tryz.isAgg2
  z2:=Tryz.sizeOf2
  v2:=Tryz.zeroValue2
  t3:=Tryz.underlying3
  a3:=Tryz.isAgg3
  z3:=Tryz.sizeOf3
  v3:=Tryz.zeroValue3
  t4:=Tryz.underlying4
  a4:=Tryz.isAgg4
  z4:=Tryz.sizeOf4
  v4:=Tryz.zeroValue4
  t5:=Tryz.underlying5
  a5:=Tryz.isAgg5
  z5:=Tryz.sizeOf5
  v5:=Tryz.zeroValue5
  t9:=Tryz.underlying9
  a9:=Tryz.isAgg9
  z9:=Tryz.sizeOf9
  v9:=Tryz.zeroValue9
  t20:=Tryz.underlying20
  a20:=Tryz.isAgg20
  z20:=Tryz.sizeOf20
  v20:=Tryz.zeroValue20
  t37:=Tryz.underlying130
  a37:=Tryz.isAgg130
  z37:=Tryz.sizeOf130
  v37:=Tryz.zeroValue130
  t46:=Tryz.underlying91
  a46:=Tryz.isAgg91
  z46:=Tryz.sizeOf91
  v46:=Tryz.zeroValue91
  t51:=Tryz.underlying160
  a51:=Tryz.isAgg160
  z51:=Tryz.sizeOf160
  v51:=Tryz.zeroValue160
  t53:=Tryz.underlying162
  a53:=Tryz.isAgg162
  z53:=Tryz.sizeOf162
  v53:=Tryz.zeroValue162
  t171:=Tryz.underlying406
  a171:=Tryz.isAgg406
  z171:=Tryz.sizeOf406
  v171:=Tryz.zeroValue406
  t173:=Tryz.underlying408
  a173:=Tryz.isAgg408
  z173:=Tryz.sizeOf408
  v173:=Tryz.zeroValue408
  t212:=Tryz.underlying470
  a212:=Tryz.isAgg470
  z212:=Tryz.sizeOf470
  v212:=Tryz.zeroValue470
  t213:=Tryz.underlying471
  a213:=Tryz.isAgg471
  z213:=Tryz.sizeOf471
  t232:=Tryz.underlying552
  a232:=Tryz.isAgg552
  z232:=Tryz.sizeOf552
  v232:=Tryz.zeroValue552
  t233:=Tryz.underlying553
  a233:=Tryz.isAgg553
  z233:=Tryz.sizeOf553
  v233:=Tryz.zeroValue553
  g17:=by kernel_rfl
  g18:=by kernel_rfl
  g19:=by kernel_rfl
  i0:=by kernel_rfl
  i2:=by kernel_rfl
  i3:=by kernel_rfl
  i4:=by kernel_rfl
  i5:=by kernel_rfl
  i9:=by kernel_rfl
  i20:=by kernel_rfl
  i37:=by kernel_rfl
  i46:=by kernel_rfl
  i51:=by kernel_rfl
  i53:=by kernel_rfl
  i171:=by kernel_rfl
  i173:=by kernel_rfl
  i212:=by kernel_rfl
  i232:=by kernel_rfl
  i233:=by kernel_rfl
  m17:=by kernel_rfl
  m18:=by kernel_rfl
  m19:=by kernel_rfl }
open Go.RowKit Go.Sort Go.Lib in
theorem Tryz.strconv_Itoa (n:Int) (h0:-9223372036854775808≤n) (h1:n≤9223372036854775807) (w:World) (htab:Lib.TabIs Tryz.prog w "internal/strconv.uint64pow10" .u64 Lib.pow10Tab) :
    Calls Tryz.prog 98 #[.int .i64 n] w fun e w'=>e=.returned (.string ⟨(Lib.itoa n).toArray⟩)∧∃ k os,w'=grow (w.drewN k) os:=Any.strconv_Itoa Tryz.laysM171 n h0 h1 w htab
def Tryz.lays171_ren:Go.Shelf.Ren:=⟨fun | 171=>98 | 243=>159 | 246=>222 | 283=>296 | 284=>297 | 285=>298 | 286=>299 | 129=>75 | 317=>361 | 318=>362 | 319=>363 | 320=>364 | 337=>410 | 338=>411 | n=>n,fun | 3=>3 | 9=>9 | 2=>2 | 4=>4 | 171=>406 | 0=>0 | 53=>162 | 37=>130 | 5=>5 | 173=>408 | 212=>470 | 51=>160 | 20=>20 | 213=>471 | 46=>91 | 232=>552 | 233=>553 | n=>n,fun | 17=>5 | 18=>7 | 19=>8 | n=>n⟩
theorem Tryz.lays171:Go.Proofs.Lays.n171 Tryz.prog Tryz.lays171_ren:={
  mixed:=by kernel_rfl
  f129:=Tryz.func75.trans (congrArg some (by kernel_rfl))
  f171:=Tryz.func98.trans (congrArg some (by kernel_rfl))
  f243:=Tryz.func159.trans (congrArg some (by kernel_rfl))
  f246:=Tryz.func222.trans (congrArg some (by kernel_rfl))
  f283:=Tryz.func296.trans (congrArg some (by kernel_rfl))
  f284:=Tryz.func297.trans (congrArg some (by kernel_rfl))
  f285:=Tryz.func298.trans (congrArg some (by kernel_rfl))
  f286:=Tryz.func299.trans (congrArg some (by kernel_rfl))
  f317:=Tryz.func361.trans (congrArg some (by kernel_rfl))
  f318:=Tryz.func362.trans (congrArg some (by kernel_rfl))
  f319:=Tryz.func363.trans (congrArg some (by kernel_rfl))
  f320:=Tryz.func364.trans (congrArg some (by kernel_rfl))
  f337:=Tryz.func410.trans (congrArg some (by kernel_rfl))
  f338:=Tryz.func411.trans (congrArg some (by kernel_rfl))
  t0:=Tryz.underlying0
  a0:=Tryz.isAgg0
  z0:=Tryz.sizeOf0
  v0:=Tryz.zeroValue0
  t2:=Tryz.underlying2
  a2:=Tryz.isAgg2
  z2:=Tryz.sizeOf2
  v2:=Tryz.zeroValue2
  t3:=Tryz.underlying3
  a3:=Tryz.isAgg3
  z3:=Tryz.sizeOf3
  v3:=Tryz.zeroValue3
  t4:=Tryz.underlying4
  a4:=Tryz.isAgg4
  z4:=Tryz.sizeOf4
  v4:=Tryz.zeroValue4
  t5:=Tryz.underlying5
  a5:=Tryz.isAgg5
  z5:=Tryz.sizeOf5
  v5:=Tryz.zeroValue5
  t9:=Tryz.underlying9
  a9:=Tryz.isAgg9
  z9:=Tryz.sizeOf9
  v9:=Tryz.zeroValue9
  t20:=Tryz.underlying20
  a20:=Tryz.isAgg20
  z20:=Tryz.sizeOf20
  v20:=Tryz.zeroValue20
  t37:=Tryz.underlying130
  a37:=Tryz.isAgg130
  z37:=Tryz.sizeOf130
  v37:=Tryz.zeroValue130
  t46:=Tryz.underlying91
  a46:=Tryz.isAgg91
  z46:=Tryz.sizeOf91
  v46:=Tryz.zeroValue91
  t51:=Tryz.underlying160
  a51:=Tryz.isAgg160
  z51:=Tryz.sizeOf160
  v51:=Tryz.zeroValue160
  t53:=Tryz.underlying162
  a53:=Tryz.isAgg162
  z53:=Tryz.sizeOf162
  v53:=Tryz.zeroValue162
  t171:=Tryz.underlying406
  a171:=Tryz.isAgg406
  z171:=Tryz.sizeOf406
  v171:=Tryz.zeroValue406
  t173:=Tryz.underlying408
  a173:=Tryz.isAgg408
  z173:=Tryz.sizeOf408
  v173:=Tryz.zeroValue408
  t212:=Tryz.underlying470
  a212:=Tryz.isAgg470
  z212:=Tryz.sizeOf470
  v212:=Tryz.zeroValue470
  t213:=Tryz.underlying471
  a213:=Tryz.isAgg471
  z213:=Tryz.sizeOf471
  t232:=Tryz.underlying552
  a232:=Tryz.isAgg552
  z232:=Tryz.sizeOf552
  v232:=Tryz.zeroValue552
  t233:=Tryz.underlying553
  a233:=Tryz.isAgg553
  z233:=Tryz.sizeOf553
  v233:=Tryz.zeroValue553
  g17:=by kernel_rfl
  g18:=by kernel_rfl
  g19:=by kernel_rfl }
open Go.RowKit Go.Sort Go.Lib in
theorem Tryz.strconv_Itoa_small (i:Nat) (hi:i<100) (w:World) :
    Calls Tryz.prog 98 #[.int .i64 i] w fun e w'=>e=.returned (.string ⟨(Lib.decDigits i).toArray⟩)∧w'=w:=Any.strconv_Itoa_small Tryz.lays171 i hi w
def Tryz.laysC172_ren:Go.Shelf.Ren:=⟨fun | 172=>97 | 244=>157 | 245=>158 | 247=>217 | 279=>218 | 280=>219 | 281=>220 | 282=>221 | 287=>293 | 316=>294 | 171=>98 | 205=>295 | 321=>359 | 322=>360 | 243=>159 | 246=>222 | 283=>296 | 284=>297 | 285=>298 | 286=>299 | 129=>75 | 317=>361 | 318=>362 | 319=>363 | 320=>364 | 337=>410 | 338=>411 | n=>n,fun | 9=>9 | 3=>3 | 75=>135 | 76=>136 | 4=>4 | 5=>5 | 167=>326 | 37=>130 | 0=>0 | 85=>327 | 2=>2 | 168=>329 | 53=>162 | 175=>401 | 46=>91 | 210=>404 | 127=>202 | 145=>469 | 143=>467 | 21=>21 | 171=>406 | 173=>408 | 212=>470 | 51=>160 | 20=>20 | 213=>471 | 232=>552 | 233=>553 | 80=>22 | n=>n,fun | 15=>1 | 16=>2 | 17=>5 | 18=>7 | 19=>8 | n=>n⟩
theorem Tryz.laysC172:Go.Proofs.LaysC.n172 Tryz.prog Tryz.laysC172_ren:={
  mixed:=by kernel_rfl
  f129:=Tryz.func75.trans (congrArg some (by kernel_rfl))
  f171:=Tryz.func98.trans (congrArg some (by kernel_rfl))
  f172:=Tryz.func97.trans (congrArg some (by kernel_rfl))
  f205:=Tryz.func295.trans (congrArg some (by kernel_rfl))
  f243:=Tryz.func159.trans (congrArg some (by kernel_rfl))
  f244:=Tryz.func157.trans (congrArg some (by kernel_rfl))
  f245:=Tryz.func158.trans (congrArg some (by kernel_rfl))
  f246:=Tryz.func222.trans (congrArg some (by kernel_rfl))
  f247:=Tryz.func217.trans (congrArg some (by kernel_rfl))
  f279:=Tryz.func218.trans (congrArg some (by kernel_rfl))
  f280:=Tryz.func219.trans (congrArg some (by kernel_rfl))
  f281:=Tryz.func220.trans (congrArg some (by kernel_rfl))
  f282:=Tryz.func221.trans (congrArg some (by kernel_rfl))
  f283:=Tryz.func296.trans (congrArg some (by kernel_rfl))
  f284:=Tryz.func297.trans (congrArg some (by kernel_rfl))
  f285:=Tryz.func298.trans (congrArg some (by kernel_rfl))
  f286:=Tryz.func299.trans (congrArg some (by kernel_rfl))
  f287:=Tryz.func293.trans (congrArg some (by kernel_rfl))
  f316:=Tryz.func294.trans (congrArg some (by kernel_rfl))
  f317:=Tryz.func361.trans (congrArg some (by kernel_rfl))
  f318:=Tryz.func362.trans (congrArg some (by kernel_rfl))
  f319:=Tryz.func363.trans (congrArg some (by kernel_rfl))
  f320:=Tryz.func364.trans (congrArg some (by kernel_rfl))
  f321:=Tryz.func359.trans (congrArg some (by kernel_rfl))
  f322:=Tryz.func360.trans (congrArg some (by kernel_rfl))
  f337:=Tryz.func410.trans (congrArg some (by kernel_rfl))
  f338:=Tryz.func411.trans (congrArg some (by kernel_rfl))
  t0:=Tryz.underlying0
  a0:=Tryz.isAgg0
  z0:=Tryz.sizeOf0
  v0:=Tryz.zeroValue0
  t2:=Tryz.underlying2
  a2:=Tryz.isAgg2
  z2:=Tryz.sizeOf2
  v2:=Tryz.zeroValue2
  t3:=Tryz.underlying3
  a3:=Tryz.isAgg3
  z3:=Tryz.sizeOf3
  v3:=Tryz.zeroValue3
  t4:=Tryz.underlying4
  a4:=Tryz.isAgg4
  z4:=Tryz.sizeOf4
  v4:=Tryz.zeroValue4
  t5:=Tryz.underlying5
  a5:=Tryz.isAgg5
  z5:=Tryz.sizeOf5
  v5:=Tryz.zeroValue5
  t9:=Tryz.underlying9
  a9:=Tryz.isAgg9
  z9:=Tryz.sizeOf9
  v9:=Tryz.zeroValue9
  t20:=Tryz.underlying20
  a20:=Tryz.isAgg20
  z20:=Tryz.sizeOf20
  v20:=Tryz.zeroValue20
  t21:=Tryz.underlying21
  a21:=Tryz.isAgg21
  z21:=Tryz.sizeOf21
  v21:=Tryz.zeroValue21
  t37:=Tryz.underlying130
  a37:=Tryz.isAgg130
  z37:=Tryz.sizeOf130
  v37:=Tryz.zeroValue130
  t46:=Tryz.underlying91
  a46:=Tryz.isAgg91
  z46:=Tryz.sizeOf91
  v46:=Tryz.zeroValue91
  t51:=Tryz.underlying160
  a51:=Tryz.isAgg160
  z51:=Tryz.sizeOf160
  v51:=Tryz.zeroValue160
  t53:=Tryz.underlying162
  a53:=Tryz.isAgg162
  z53:=Tryz.sizeOf162
  v53:=Tryz.zeroValue162
  t75:=Tryz.underlying135
  a75:=Tryz.isAgg135
  z75:=Tryz.sizeOf135
  v75:=Tryz.zeroValue135
  t76:=Tryz.underlying136
  a76:=Tryz.isAgg136
  z76:=Tryz.sizeOf136
  v76:=Tryz.zeroValue136
  t85:=Tryz.underlying327
  a85:=Tryz.isAgg327
  z85:=Tryz.sizeOf327
  v85:=Tryz.zeroValue327
  t127:=Tryz.underlying202
  a127:=Tryz.isAgg202
  z127:=Tryz.sizeOf202
  v127:=Tryz.zeroValue202
  t143:=Tryz.underlying467
  a143:=Tryz.isAgg467
  z143:=Tryz.sizeOf467
  v143:=Tryz.zeroValue467
  t145:=Tryz.underlying469
  a145:=Tryz.isAgg469
  z145:=Tryz.sizeOf469
  v145:=Tryz.zeroValue469
  t167:=Tryz.underlying326
  a167:=Tryz.isAgg326
  z167:=Tryz.sizeOf326
  v167:=Tryz.zeroValue326
  t168:=Tryz.underlying329
  a168:=Tryz.isAgg329
  z168:=Tryz.sizeOf329
  v168:=Tryz.zeroValue329
  t171:=Tryz.underlying406
  a171:=Tryz.isAgg406
  z171:=Tryz.sizeOf406
  v171:=Tryz.zeroValue406
  t173:=Tryz.underlying408
  a173:=Tryz.isAgg408
  z173:=Tryz.sizeOf408
  v173:=Tryz.zeroValue408
  t175:=Tryz.underlying401
  a175:=Tryz.isAgg401
  z175:=Tryz.sizeOf401
  v175:=Tryz.zeroValue401
  t210:=Tryz.underlying404
  a210:=Tryz.isAgg404
  z210:=Tryz.sizeOf404
  v210:=Tryz.zeroValue404
  t212:=Tryz.underlying470
  a212:=Tryz.isAgg470
  z212:=Tryz.sizeOf470
  v212:=Tryz.zeroValue470
  t213:=Tryz.underlying471
  a213:=Tryz.isAgg471
  z213:=Tryz.sizeOf471
  t232:=Tryz.underlying552
  a232:=Tryz.isAgg552
  z232:=Tryz.sizeOf552
  v232:=Tryz.zeroValue552
  t233:=Tryz.underlying553
  a233:=Tryz.isAgg553
  z233:=Tryz.sizeOf553
  v233:=Tryz.zeroValue553
  g15:=by kernel_rfl
  g16:=by kernel_rfl
  g17:=by kernel_rfl
  g18:=by kernel_rfl
  g19:=by kernel_rfl
  t80:=Tryz.underlying22
  a80:=Tryz.isAgg22
  z80:=Tryz.sizeOf22
  v80:=Tryz.zeroValue22
  i0:=by kernel_rfl
  i2:=by kernel_rfl
  i3:=by kernel_rfl
  i4:=by kernel_rfl
  i5:=by kernel_rfl
  i9:=by kernel_rfl
  i20:=by kernel_rfl
  i21:=by kernel_rfl
  i37:=by kernel_rfl
  i46:=by kernel_rfl
  i51:=by kernel_rfl
  i53:=by kernel_rfl
  i75:=by kernel_rfl
  i76:=by kernel_rfl
  i80:=by kernel_rfl
  i85:=by kernel_rfl
  i127:=by kernel_rfl
  i143:=by kernel_rfl
  i145:=by kernel_rfl
  i167:=by kernel_rfl
  i168:=by kernel_rfl
  i171:=by kernel_rfl
  i173:=by kernel_rfl
  i175:=by kernel_rfl
  i210:=by kernel_rfl
  i212:=by kernel_rfl
  i232:=by kernel_rfl
  i233:=by kernel_rfl
  m15:=by kernel_rfl
  m16:=by kernel_rfl
  m17:=by kernel_rfl
  m18:=by kernel_rfl
  m19:=by kernel_rfl
  c0:=by kernel_rfl
  c2:=by kernel_rfl
  c3:=by kernel_rfl
  c4:=by kernel_rfl
  c5:=by kernel_rfl
  c9:=by kernel_rfl
  c20:=by kernel_rfl
  c21:=by kernel_rfl
  c37:=by kernel_rfl
  c46:=by kernel_rfl
  c51:=by kernel_rfl
  c53:=by kernel_rfl
  c75:=by kernel_rfl
  c76:=by kernel_rfl
  c80:=by kernel_rfl
  c85:=by kernel_rfl
  c127:=by kernel_rfl
  c143:=by kernel_rfl
  c145:=by kernel_rfl
  c167:=by kernel_rfl
  c168:=by kernel_rfl
  c171:=by kernel_rfl
  c173:=by kernel_rfl
  c175:=by kernel_rfl
  c210:=by kernel_rfl
  c212:=by kernel_rfl
  c213:=by kernel_rfl
  c232:=by kernel_rfl
  c233:=by kernel_rfl }
open Go.RowKit in
theorem Tryz.strconv_Atoi_ok (s:ByteArray) (hmax:s.size≤9223372036854775806) (v:Int) (h:Lib.atoiAll s.data.toList=.ok v) (w:World) :
    Calls Tryz.prog 97 #[.string s] w fun e w'=>e=.returned (.tuple #[.int .i64 v,.nilIface])∧(w'=w∨∃ t,w'=Lib.bytesWorld w 5 t):=Any.strconv_Atoi_ok Tryz.laysC172 s hmax v h w
open Go.RowKit in
theorem Tryz.strconv_Atoi_syntax (s:ByteArray) (hlim:s.size≤281474976710656) (h:Lib.atoiAll s.data.toList=Lib.atoiAll []) (ev:Value) (w:World) (hv:w.cell? ⟨1,0,none⟩=some ev) (hev:ev=.nilIface∨∃ te pe,ev=.iface te pe) :
    Calls Tryz.prog 97 #[.string s] w fun e w'=>∃ N,e=.returned (.tuple #[.int .i64 (0),.iface 329 (.pointer (some ⟨N,0,none⟩))])∧w.heap.size≤N∧w'.heap[N]? = some (.cells #[.string ⟨#[65,116,111,105]⟩,.string s,ev] 404 (0,0))∧Below w.heap.size w w':=Any.strconv_Atoi_syntax Tryz.laysC172 s hlim h ev w hv hev
open Go.RowKit in
theorem Tryz.strconv_Atoi_range (s:ByteArray) (hlim:s.size≤281474976710656) (h:Lib.atoiAll s.data.toList=.range) (ev:Value) (w:World) (hv:w.cell? ⟨2,0,none⟩=some ev) (hev:ev=.nilIface∨∃ te pe,ev=.iface te pe) :
    Calls Tryz.prog 97 #[.string s] w fun e w'=>∃ N,e=.returned (.tuple #[.int .i64 (Lib.atoiSat s.data.toList),.iface 329 (.pointer (some ⟨N,0,none⟩))])∧w.heap.size≤N∧w'.heap[N]? = some (.cells #[.string ⟨#[65,116,111,105]⟩,.string s,ev] 404 (0,0))∧Below w.heap.size w w':=Any.strconv_Atoi_range Tryz.laysC172 s hlim h ev w hv hev
def Tryz.lays190_ren:Go.Shelf.Ren:=⟨fun | 190=>20 | 125=>32 | 258=>31 | 128=>74 | 129=>75 | 302=>65 | 303=>66 | 304=>67 | 305=>68 | 306=>69 | 307=>70 | 308=>71 | 309=>72 | 310=>73 | 333=>122 | 329=>123 | 330=>124 | 334=>125 | 335=>126 | 336=>127 | 344=>182 | n=>n,fun | 31=>24 | 9=>9 | 3=>3 | 46=>91 | 0=>0 | 51=>160 | 53=>162 | 4=>4 | 183=>153 | 182=>152 | 131=>121 | 5=>5 | 218=>219 | 222=>223 | 228=>291 | 229=>292 | n=>n,fun | n=>n⟩
theorem Tryz.lays190:Go.Proofs.Lays.n190 Tryz.prog Tryz.lays190_ren:={
  mixed:=by kernel_rfl
  f125:=Tryz.func32.trans (congrArg some (by kernel_rfl))
  f128:=Tryz.func74.trans (congrArg some (by kernel_rfl))
  f129:=Tryz.func75.trans (congrArg some (by kernel_rfl))
  f190:=Tryz.func20.trans (congrArg some (by kernel_rfl))
  f258:=Tryz.func31.trans (congrArg some (by kernel_rfl))
  f302:=Tryz.func65.trans (congrArg some (by kernel_rfl))
  f303:=Tryz.func66.trans (congrArg some (by kernel_rfl))
  f304:=Tryz.func67.trans (congrArg some (by kernel_rfl))
  f305:=Tryz.func68.trans (congrArg some (by kernel_rfl))
  f306:=Tryz.func69.trans (congrArg some (by kernel_rfl))
  f307:=Tryz.func70.trans (congrArg some (by kernel_rfl))
  f308:=Tryz.func71.trans (congrArg some (by kernel_rfl))
  f309:=Tryz.func72.trans (congrArg some (by kernel_rfl))
  f310:=Tryz.func73.trans (congrArg some (by kernel_rfl))
  f329:=Tryz.func123.trans (congrArg some (by kernel_rfl))
  f330:=Tryz.func124.trans (congrArg some (by kernel_rfl))
  f333:=Tryz.func122.trans (congrArg some (by kernel_rfl))
  f334:=Tryz.func125.trans (congrArg some (by kernel_rfl))
  f335:=Tryz.func126.trans (congrArg some (by kernel_rfl))
  f336:=Tryz.func127.trans (congrArg some (by kernel_rfl))
  f344:=Tryz.func182.trans (congrArg some (by kernel_rfl))
  t0:=Tryz.underlying0
  a0:=Tryz.isAgg0
  z0:=Tryz.sizeOf0
  v0:=Tryz.zeroValue0
  t3:=Tryz.underlying3
  a3:=Tryz.isAgg3
  z3:=Tryz.sizeOf3
  v3:=Tryz.zeroValue3
  t4:=Tryz.underlying4
  a4:=Tryz.isAgg4
  z4:=Tryz.sizeOf4
  v4:=Tryz.zeroValue4
  t5:=Tryz.underlying5
  a5:=Tryz.isAgg5
  z5:=Tryz.sizeOf5
  v5:=Tryz.zeroValue5
  t9:=Tryz.underlying9
  a9:=Tryz.isAgg9
  z9:=Tryz.sizeOf9
  v9:=Tryz.zeroValue9
  t31:=Tryz.underlying24
  a31:=Tryz.isAgg24
  z31:=Tryz.sizeOf24
  v31:=Tryz.zeroValue24
  t46:=Tryz.underlying91
  a46:=Tryz.isAgg91
  z46:=Tryz.sizeOf91
  v46:=Tryz.zeroValue91
  t51:=Tryz.underlying160
  a51:=Tryz.isAgg160
  z51:=Tryz.sizeOf160
  v51:=Tryz.zeroValue160
  t53:=Tryz.underlying162
  a53:=Tryz.isAgg162
  z53:=Tryz.sizeOf162
  v53:=Tryz.zeroValue162
  t131:=Tryz.underlying121
  a131:=Tryz.isAgg121
  z131:=Tryz.sizeOf121
  v131:=Tryz.zeroValue121
  t182:=Tryz.underlying152
  a182:=Tryz.isAgg152
  z182:=Tryz.sizeOf152
  v182:=Tryz.zeroValue152
  t183:=Tryz.underlying153
  a183:=Tryz.isAgg153
  z183:=Tryz.sizeOf153
  v183:=Tryz.zeroValue153
  t218:=Tryz.underlying219
  a218:=Tryz.isAgg219
  z218:=Tryz.sizeOf219
  v218:=Tryz.zeroValue219
  t222:=Tryz.underlying223
  a222:=Tryz.isAgg223
  z222:=Tryz.sizeOf223
  v222:=Tryz.zeroValue223
  t228:=Tryz.underlying291
  a228:=Tryz.isAgg291
  z228:=Tryz.sizeOf291
  v228:=Tryz.zeroValue291
  t229:=Tryz.underlying292
  a229:=Tryz.isAgg292
  z229:=Tryz.sizeOf292
  v229:=Tryz.zeroValue292 }
open Go.Sort Go.RowKit in
theorem Tryz.slices_Sort_string (blk off cap:Nat) (ss:List (List UInt8)) (w:World) (hH:Holds encStr w blk off ss.toArray) (hblk:blk<w.heap.size) (hsz:ss.length<4611686018427387904) :
    Calls Tryz.prog 20 #[.slice (some ⟨blk,off,none⟩) ss.length cap] w fun e w'=>
      e=.returned (.tuple #[])∧∃ n os,w'=grow (putRow encStr (Sort.ahead w n) blk off (ss.mergeSort fun x y=>decide (x≤y)).toArray) os:=Any.slices_Sort_string Tryz.lays190 blk off cap ss w hH hblk hsz
def Tryz.lays221_ren:Go.Shelf.Ren:=⟨fun | 221=>94 | 268=>153 | 138=>154 | 143=>155 | 195=>213 | 197=>214 | 218=>215 | 219=>216 | 260=>288 | 217=>289 | 225=>290 | 224=>291 | 267=>292 | 266=>357 | 314=>358 | n=>n,fun | 9=>9 | 3=>3 | 31=>24 | 4=>4 | 0=>0 | 105=>323 | 21=>21 | 5=>5 | 46=>91 | 119=>460 | 139=>463 | 138=>462 | 146=>464 | 51=>160 | n=>n,fun | 1=>0 | 3=>3 | 4=>4 | n=>n⟩
def Tryz.lays146_ren:Go.Shelf.Ren:=⟨fun | 146=>43 | 221=>94 | 268=>153 | 138=>154 | 143=>155 | 195=>213 | 197=>214 | 218=>215 | 219=>216 | 260=>288 | 217=>289 | 225=>290 | 224=>291 | 267=>292 | 266=>357 | 314=>358 | n=>n,fun | 9=>9 | 31=>24 | 3=>3 | 4=>4 | 0=>0 | 105=>323 | 21=>21 | 5=>5 | 46=>91 | 119=>460 | 139=>463 | 138=>462 | 146=>464 | 51=>160 | n=>n,fun | 1=>0 | 3=>3 | 4=>4 | n=>n⟩
theorem Tryz.lays146:Go.Proofs.Lays.n146 Tryz.prog Tryz.lays146_ren:={
  mixed:=by kernel_rfl
  f138:=Tryz.func154.trans (congrArg some (by kernel_rfl))
  f143:=Tryz.func155.trans (congrArg some (by kernel_rfl))
  f146:=Tryz.func43.trans (congrArg some (by kernel_rfl))
  f195:=Tryz.func213.trans (congrArg some (by kernel_rfl))
  f197:=Tryz.func214.trans (congrArg some (by kernel_rfl))
  f217:=Tryz.func289.trans (congrArg some (by kernel_rfl))
  f218:=Tryz.func215.trans (congrArg some (by kernel_rfl))
  f219:=Tryz.func216.trans (congrArg some (by kernel_rfl))
  f221:=Tryz.func94.trans (congrArg some (by kernel_rfl))
  f224:=Tryz.func291.trans (congrArg some (by kernel_rfl))
  f225:=Tryz.func290.trans (congrArg some (by kernel_rfl))
  f260:=Tryz.func288.trans (congrArg some (by kernel_rfl))
  f266:=Tryz.func357.trans (congrArg some (by kernel_rfl))
  f267:=Tryz.func292.trans (congrArg some (by kernel_rfl))
  f268:=Tryz.func153.trans (congrArg some (by kernel_rfl))
  f314:=Tryz.func358.trans (congrArg some (by kernel_rfl))
  t0:=Tryz.underlying0
  a0:=Tryz.isAgg0
  z0:=Tryz.sizeOf0
  v0:=Tryz.zeroValue0
  t3:=Tryz.underlying3
  a3:=Tryz.isAgg3
  z3:=Tryz.sizeOf3
  v3:=Tryz.zeroValue3
  t4:=Tryz.underlying4
  a4:=Tryz.isAgg4
  z4:=Tryz.sizeOf4
  v4:=Tryz.zeroValue4
  t5:=Tryz.underlying5
  a5:=Tryz.isAgg5
  z5:=Tryz.sizeOf5
  v5:=Tryz.zeroValue5
  t9:=Tryz.underlying9
  a9:=Tryz.isAgg9
  z9:=Tryz.sizeOf9
  v9:=Tryz.zeroValue9
  t21:=Tryz.underlying21
  a21:=Tryz.isAgg21
  z21:=Tryz.sizeOf21
  v21:=Tryz.zeroValue21
  t31:=Tryz.underlying24
  a31:=Tryz.isAgg24
  z31:=Tryz.sizeOf24
  v31:=Tryz.zeroValue24
  t46:=Tryz.underlying91
  a46:=Tryz.isAgg91
  z46:=Tryz.sizeOf91
  v46:=Tryz.zeroValue91
  t51:=Tryz.underlying160
  a51:=Tryz.isAgg160
  z51:=Tryz.sizeOf160
  v51:=Tryz.zeroValue160
  t105:=Tryz.underlying323
  a105:=Tryz.isAgg323
  z105:=Tryz.sizeOf323
  v105:=Tryz.zeroValue323
  t119:=Tryz.underlying460
  a119:=Tryz.isAgg460
  z119:=Tryz.sizeOf460
  t138:=Tryz.underlying462
  a138:=Tryz.isAgg462
  z138:=Tryz.sizeOf462
  v138:=Tryz.zeroValue462
  t139:=Tryz.underlying463
  a139:=Tryz.isAgg463
  z139:=Tryz.sizeOf463
  v139:=Tryz.zeroValue463
  t146:=Tryz.underlying464
  a146:=Tryz.isAgg464
  z146:=Tryz.sizeOf464
  v146:=Tryz.zeroValue464
  g1:=by kernel_rfl
  g3:=by kernel_rfl
  g4:=by kernel_rfl }
open Go.RowKit Go.Lib in
theorem Tryz.strings_Split (s sep:ByteArray) (m:Int) (w:World) (hs:s.size<4294967281) (hm:w.cell? ⟨0,0,none⟩=some (.int .i64 m)) (h1:1≤sep.size) :
    Calls Tryz.prog 43 #[.string s,.string sep] w fun e w'=>
      e=.returned (.slice (some ⟨w.heap.size,0,none⟩) (Lib.countB s sep+1) (Lib.countB s sep+1))∧w'=w.alloc (.cells ((Lib.splitB sep 0 (Lib.countB s sep) s).map Value.string).toArray 9):=Any.strings_Split Tryz.lays146 (by kernel_rfl) s sep m w hs hm h1
def Tryz.lays157_ren:Go.Shelf.Ren:=⟨fun | 157=>365 | 229=>412 | 199=>413 | 261=>442 | 311=>472 | 312=>473 | n=>n,fun | 9=>9 | 31=>24 | 3=>3 | 5=>5 | 4=>4 | 119=>460 | 0=>0 | 40=>516 | 152=>554 | 21=>21 | 154=>556 | 51=>160 | 141=>558 | 196=>589 | 193=>586 | 198=>592 | 49=>590 | 194=>587 | 201=>595 | 226=>612 | 46=>91 | 227=>613 | n=>n,fun | 0=>6 | 6=>9 | n=>n⟩
def Tryz.laysM157_ren:Go.Shelf.Ren:=⟨fun | 157=>365 | 229=>412 | 199=>413 | 261=>442 | 311=>472 | 312=>473 | n=>n,fun | 9=>9 | 31=>24 | 3=>3 | 5=>5 | 4=>4 | 119=>460 | 0=>0 | 40=>516 | 152=>554 | 21=>21 | 154=>556 | 51=>160 | 141=>558 | 196=>589 | 193=>586 | 198=>592 | 49=>590 | 194=>587 | 201=>595 | 226=>612 | 46=>91 | 227=>613 | n=>n,fun | 0=>6 | 6=>9 | n=>n⟩
theorem Tryz.laysM157:Go.Proofs.LaysM.n157 Tryz.prog Tryz.laysM157_ren:={
  mixed:=by kernel_rfl
  f157:=Tryz.func365.trans (congrArg some (by kernel_rfl))
  f199:=Tryz.func413.trans (congrArg some (by kernel_rfl))
  f229:=Tryz.func412.trans (congrArg some (by kernel_rfl))
  f261:=Tryz.func442.trans (congrArg some (by kernel_rfl))
  f311:=Tryz.func472.trans (congrArg some (by kernel_rfl))
  f312:=Tryz.func473.trans (congrArg some (by kernel_rfl))
  t0:=Tryz.underlying0
  a0:=Tryz.isAgg0
  z0:=Tryz.sizeOf0
  v0:=Tryz.zeroValue0
  t3:=Tryz.underlying3
  a3:=Tryz.isAgg3
  z3:=Tryz.sizeOf3
  v3:=Tryz.zeroValue3
  t4:=Tryz.underlying4
  a4:=Tryz.isAgg4
  z4:=Tryz.sizeOf4
  v4:=Tryz.zeroValue4
  t5:=Tryz.underlying5
  a5:=Tryz.isAgg5
  z5:=Tryz.sizeOf5
  v5:=Tryz.zeroValue5
  t9:=Tryz.underlying9
  a9:=Tryz.isAgg9
  z9:=Tryz.sizeOf9
  v9:=Tryz.zeroValue9
  t21:=Tryz.underlying21
  a21:=Tryz.isAgg21
  z21:=Tryz.sizeOf21
  v21:=Tryz.zeroValue21
  t31:=Tryz.underlying24
  a31:=Tryz.isAgg24
  z31:=Tryz.sizeOf24
  v31:=Tryz.zeroValue24
  t40:=Tryz.underlying516
  a40:=Tryz.isAgg516
  z40:=Tryz.sizeOf516
  v40:=Tryz.zeroValue516
  t46:=Tryz.underlying91
  a46:=Tryz.isAgg91
  z46:=Tryz.sizeOf91
  v46:=Tryz.zeroValue91
  t49:=Tryz.underlying590
  a49:=Tryz.isAgg590
  z49:=Tryz.sizeOf590
  v49:=Tryz.zeroValue590
  t51:=Tryz.underlying160
  a51:=Tryz.isAgg160
  z51:=Tryz.sizeOf160
  v51:=Tryz.zeroValue160
  t119:=Tryz.underlying460
  a119:=Tryz.isAgg460
  z119:=Tryz.sizeOf460
  t141:=Tryz.underlying558
  a141:=Tryz.isAgg558
  z141:=Tryz.sizeOf558
  v141:=Tryz.zeroValue558
  t152:=Tryz.underlying554
  a152:=Tryz.isAgg554
  z152:=Tryz.sizeOf554
  v152:=Tryz.zeroValue554
  t154:=Tryz.underlying556
  a154:=Tryz.isAgg556
  z154:=Tryz.sizeOf556
  v154:=Tryz.zeroValue556
  t193:=Tryz.underlying586
  a193:=Tryz.isAgg586
  z193:=Tryz.sizeOf586
  v193:=Tryz.zeroValue586
  t194:=Tryz.underlying587
  a194:=Tryz.isAgg587
  z194:=Tryz.sizeOf587
  v194:=Tryz.zeroValue587
  t196:=Tryz.underlying589
  a196:=Tryz.isAgg589
  z196:=Tryz.sizeOf589
  v196:=Tryz.zeroValue589
  t198:=Tryz.underlying592
  a198:=Tryz.isAgg592
  z198:=Tryz.sizeOf592
  v198:=Tryz.zeroValue592
  t201:=Tryz.underlying595
  a201:=Tryz.isAgg595
  z201:=Tryz.sizeOf595
  v201:=Tryz.zeroValue595
  t226:=Tryz.underlying612
  a226:=Tryz.isAgg612
  z226:=Tryz.sizeOf612
  v226:=Tryz.zeroValue612
  t227:=Tryz.underlying613
  a227:=Tryz.isAgg613
  z227:=Tryz.sizeOf613
  v227:=Tryz.zeroValue613
  g0:=by kernel_rfl
  g6:=by kernel_rfl
  i0:=by kernel_rfl
  i3:=by kernel_rfl
  i4:=by kernel_rfl
  i5:=by kernel_rfl
  i9:=by kernel_rfl
  i21:=by kernel_rfl
  i31:=by kernel_rfl
  i40:=by kernel_rfl
  i46:=by kernel_rfl
  i49:=by kernel_rfl
  i51:=by kernel_rfl
  i141:=by kernel_rfl
  i152:=by kernel_rfl
  i154:=by kernel_rfl
  i193:=by kernel_rfl
  i194:=by kernel_rfl
  i196:=by kernel_rfl
  i198:=by kernel_rfl
  i201:=by kernel_rfl
  i226:=by kernel_rfl
  i227:=by kernel_rfl
  m0:=by kernel_rfl
  m6:=by kernel_rfl }
open Go.RowKit Go.Lib in
theorem Tryz.strings_Fields_laid (s:ByteArray) (w:World) (hs:s.size<4294967281) (hascii:∀ (j:Nat) b,s.data.toList[j]? = some b→b.toNat<128) (htab:Lib.TabIs Tryz.prog w "strings.asciiSpace" .u8 Lib.asciiSpaceTab) :
    Calls Tryz.prog 365 #[.string s] w fun e w'=>
      e=.returned (.slice (some ⟨w.heap.size,0,none⟩) (Lib.fields s.data.toList).length (Lib.fields s.data.toList).length)∧w'=w.alloc (.cells ((Lib.fields s.data.toList).map fun l=>Value.string ⟨l.toArray⟩).toArray 9):=Any.strings_Fields_laid Tryz.laysM157 s w hs hascii htab
def Tryz.lays264_ren:Go.Shelf.Ren:=⟨fun | 264=>387 | n=>n,fun | 53=>162 | 46=>91 | n=>n,fun | n=>n⟩
theorem Tryz.lays264:Go.Proofs.Lays.n264 Tryz.prog Tryz.lays264_ren:={
  mixed:=by kernel_rfl
  f264:=Tryz.func387.trans (congrArg some (by kernel_rfl))
  t46:=Tryz.underlying91
  a46:=Tryz.isAgg91
  z46:=Tryz.sizeOf91
  v46:=Tryz.zeroValue91
  t53:=Tryz.underlying162
  a53:=Tryz.isAgg162
  z53:=Tryz.sizeOf162
  v53:=Tryz.zeroValue162 }
open Go.RowKit Go.Lib in
theorem Tryz.bits_Mul64 (x y:Nat) (hx:x<18446744073709551616) (hy:y<18446744073709551616) (w:World) :
    Calls Tryz.prog 387 #[.int .u64 x,.int .u64 y] w fun e w'=>e=.returned (.tuple #[.int .u64 ((x * y / 18446744073709551616:Nat):Int),.int .u64 ((x * y % 18446744073709551616:Nat):Int)])∧w'=w:=Any.bits_Mul64 Tryz.lays264 x y hx hy w
def Tryz.lays194_ren:Go.Shelf.Ren:=⟨fun | 194=>21 | n=>n,fun | 31=>24 | 9=>9 | 3=>3 | 4=>4 | 0=>0 | n=>n,fun | n=>n⟩
theorem Tryz.lays194:Go.Proofs.Lays.n194 Tryz.prog Tryz.lays194_ren:={
  mixed:=by kernel_rfl
  f194:=Tryz.func21.trans (congrArg some (by kernel_rfl))
  t0:=Tryz.underlying0
  a0:=Tryz.isAgg0
  z0:=Tryz.sizeOf0
  v0:=Tryz.zeroValue0
  t3:=Tryz.underlying3
  a3:=Tryz.isAgg3
  z3:=Tryz.sizeOf3
  v3:=Tryz.zeroValue3
  t4:=Tryz.underlying4
  a4:=Tryz.isAgg4
  z4:=Tryz.sizeOf4
  v4:=Tryz.zeroValue4
  t9:=Tryz.underlying9
  a9:=Tryz.isAgg9
  z9:=Tryz.sizeOf9
  v9:=Tryz.zeroValue9
  t31:=Tryz.underlying24
  a31:=Tryz.isAgg24
  z31:=Tryz.sizeOf24
  v31:=Tryz.zeroValue24 }
open Go.RowKit Go.Lib Go.Sort in
theorem Tryz.slices_Compact_string (blk off cap:Nat) (zs:List (List UInt8)) (w:World) (hH:Holds encStr w blk off zs.toArray) (hsz:zs.length≤9223372036854775807) (hcap:zs.length≤cap) :
    Calls Tryz.prog 21 #[.slice (some ⟨blk,off,none⟩) zs.length cap] w fun e w'=>e=.returned (.slice (some ⟨blk,off,none⟩) (Lib.compact zs).length cap)∧∃ q,w'=putRow encStr (Sort.ahead w q) blk off (Lib.compact zs++List.replicate (zs.length - (Lib.compact zs).length) []).toArray:=Any.slices_Compact_string Tryz.lays194 blk off cap zs w hH hsz hcap
open Go.RowKit Go.Lib Go.Sort in
theorem Tryz.slices_Compact_string_empty (a:Option Addr) (cap:Nat) (w:World) :
    Calls Tryz.prog 21 #[.slice a 0 cap] w fun e w'=>e=.returned (.slice a 0 cap)∧w'=w:=Any.slices_Compact_string_empty Tryz.lays194 a cap w
open Go.RowKit Go.Sort in
theorem Tryz.slices_Sort_string_none (p:Option Addr) (cap:Nat) (w:World) :
    Calls Tryz.prog 20 #[.slice p 0 cap] w fun e w'=>e=.returned (.tuple #[])∧w'=w:=Any.slices_Sort_string_none Tryz.lays190 p cap w
def Tryz.laysSlE041_f92_ren:Go.Shelf.Ren:=⟨fun | 41=>92 | n=>n,fun | 22=>24 | 23=>9 | 4=>4 | n=>n,fun | n=>n⟩
theorem Tryz.laysSlE041_f92:Go.Proofs.SlLaysE0.n41 Tryz.prog Tryz.laysSlE041_f92_ren:={
  mixed:=by kernel_rfl
  f41:=⟨Tryz.f92.name,by decide,Tryz.func92.trans (congrArg some (by kernel_rfl))⟩
  t4:=Tryz.underlying4
  a4:=Tryz.isAgg4
  z4:=Tryz.sizeOf4
  v4:=Tryz.zeroValue4
  t22:=Tryz.underlying24
  a22:=Tryz.isAgg24
  z22:=Tryz.sizeOf24
  v22:=Tryz.zeroValue24 }
def Tryz.laysSlE041_f329_ren:Go.Shelf.Ren:=⟨fun | 41=>329 | n=>n,fun | 22=>106 | 23=>3 | 4=>4 | n=>n,fun | n=>n⟩
theorem Tryz.laysSlE041_f329:Go.Proofs.SlLaysE0.n41 Tryz.prog Tryz.laysSlE041_f329_ren:={
  mixed:=by kernel_rfl
  f41:=⟨Tryz.f329.name,by decide,Tryz.func329.trans (congrArg some (by kernel_rfl))⟩
  t4:=Tryz.underlying4
  a4:=Tryz.isAgg4
  z4:=Tryz.sizeOf4
  v4:=Tryz.zeroValue4
  t22:=Tryz.underlying106
  a22:=Tryz.isAgg106
  z22:=Tryz.sizeOf106
  v22:=Tryz.zeroValue106 }
end Go.Proofs
