/-
  DERIVED: THE SHELF's CONTRACTS AT THIS DUMP, IN PLAIN WORDS (tools/lay-plain.mjs out of 'TryzShelf.lean', which tools/lay-shelf.mjs wrote): THE SAME DECLARATIONS UNDER THE SAME NAMES: 'import', 'namespace', 'open', 'def', 'theorem' AND NOTHING ELSE: no command of the shelf's: FOR A HAND-IN. Each laying: the table of numbers ('.._ren') and one theorem, a field a fact of the dump's own or the kernel's comparison; each contract: ONE APPLICATION.
-/
import Derived.Shelf.Strings.Builder1
import Derived.Shelf.Strings.Builder2
import Derived.Shelf.Strings.OnBuilder
import Derived.Shelf.Small.Strs
import Derived.Shelf.Strconv.Atoi
import Derived.Shelf.Strconv.Itoa0
import Derived.Shelf.Strconv.Itoa1
import Derived.Shelf.LaysM
import Derived.Shelf.Strconv.Itoa2
import Derived.Shelf.Strconv.Itoa3
import Derived.Shelf.Strings.Search1
import Derived.Shelf.Strings.Search2
import Derived.Shelf.Strings.Search3
import Derived.Shelf.Strings.Count
import Derived.Shelf.Strings.Shaped
import Derived.Shelf.Sort.Plain
import Derived.Shelf.Strings.Prefix
import Derived.Shelf.Strings.Split
import Derived.Shelf.Strings.Fields
import Derived.Shelf.Strings.SplitShaped
import Derived.Shelf.Unicode.Latin
import Derived.Shelf.Unicode.DecodeSlow
import Derived.Shelf.Unicode.Is16White
import Derived.Shelf.Unicode.IsSpaceAny
import Derived.Shelf.Unicode.Is16Any
import Derived.Shelf.Unicode.Is32Any
import Derived.Shelf.Unicode.ExclAny
import Derived.Shelf.Slices.CompactS
import Derived.Shelf.Slices.In.SortNone
import Derived.Test.YthmcdebdkbhbmaaGreatDoorProg
namespace Go.Proofs
open Go.Shelf
def Tryz.lays169_ren : Go.Shelf.Ren := ⟨fun | 169 => 99 | n => n, fun | 70 => 121 | 9 => 9 | 0 => 0 | 72 => 124 | 37 => 122 | 127 => 181 | 3 => 3 | 5 => 5 | n => n, fun | n => n⟩
theorem Tryz.lays169 : Go.Proofs.Lays.n169 Tryz.prog Tryz.lays169_ren := {
  mixed := by kernel_rfl
  f169 := Tryz.func99.trans (congrArg some (by kernel_rfl))
  t0 := Tryz.underlying0
  a0 := Tryz.isAgg0
  z0 := Tryz.sizeOf0
  v0 := Tryz.zeroValue0
  t3 := Tryz.underlying3
  a3 := Tryz.isAgg3
  z3 := Tryz.sizeOf3
  v3 := Tryz.zeroValue3
  t9 := Tryz.underlying9
  a9 := Tryz.isAgg9
  z9 := Tryz.sizeOf9
  v9 := Tryz.zeroValue9
  t37 := Tryz.underlying122
  a37 := Tryz.isAgg122
  z37 := Tryz.sizeOf122
  v37 := Tryz.zeroValue122
  t70 := Tryz.underlying121
  a70 := Tryz.isAgg121
  z70 := Tryz.sizeOf121
  v70 := Tryz.zeroValue121
  t72 := Tryz.underlying124
  a72 := Tryz.isAgg124
  z72 := Tryz.sizeOf124
  v72 := Tryz.zeroValue124
  t127 := Tryz.underlying181
  a127 := Tryz.isAgg181
  z127 := Tryz.sizeOf181
  v127 := Tryz.zeroValue181 }
theorem Tryz.Builder_Extra_169 : Builder.Extra Tryz.prog Tryz.lays169_ren := {
  sizeBuilder := by kernel_rfl
  liesBuilder := by kernel_rfl
  t5 := Tryz.underlying5
  a5 := Tryz.isAgg5
  z5 := Tryz.sizeOf5
  v5 := Tryz.zeroValue5
  infoByte := by kernel_rfl
  cellsByte := by kernel_rfl
  sizeByte := by kernel_rfl
  neB5 := by decide }
open Go.RowKit in
/-- (*strings.Builder).String: "String returns the accumulated string.": OF A BUILDER THAT HOLDS AT LEAST ONE BYTE. ✋ THE MODEL FREEZES THOSE BYTES IN THE BUFFER (unsafe.String): a later write INTO them ends the model's run without an answer; a later append BEHIND them goes on. The statement's order of evaluation is drawn: one draw. (LAID: no walk: one application.) -/
theorem Tryz.Builder_String (B b : Nat) (l : List UInt8) (w : World) (h : Lib.IsBuilder 124 5 B b (Lib.byteCells l) w) (h0 : l ≠ []) :
    Calls Tryz.prog 99 #[.pointer (some ⟨b, 0, none⟩)] w fun e w' => e = .returned (.string ⟨l.toArray⟩) ∧ Below B w w' := Any.Builder_String Tryz.lays169 Tryz.Builder_Extra_169 B b l w h h0
open Go.RowKit in
/-- (*strings.Builder).String OF A BUILDER THAT HOLDS NO BYTE: the empty string. (Its buffer is nil, or a row of which it has taken nothing yet; where that row has NO capacity the model lays one new block for unsafe.SliceData's 'some address'.) One draw. (LAID: no walk: one application.) -/
theorem Tryz.Builder_String_empty (B b : Nat) (w : World) (h : Lib.IsBuilder 124 5 B b [] w) (hBw : B ≤ w.heap.size) :
    Calls Tryz.prog 99 #[.pointer (some ⟨b, 0, none⟩)] w fun e w' => e = .returned (.string ⟨#[]⟩) ∧ Below B w w' := Any.Builder_String_empty Tryz.lays169 Tryz.Builder_Extra_169 B b w h hBw
open Go.RowKit in
/-- (*strings.Builder).String: "String returns the accumulated string.": WHATEVER THE BUILDER HOLDS. (LAID: no walk: one application.) -/
theorem Tryz.Builder_String_any (B b : Nat) (l : List UInt8) (w : World) (h : Lib.IsBuilder 124 5 B b (Lib.byteCells l) w) (hBw : B ≤ w.heap.size) :
    Calls Tryz.prog 99 #[.pointer (some ⟨b, 0, none⟩)] w fun e w' => e = .returned (.string ⟨l.toArray⟩) ∧ Below B w w' := Any.Builder_String_any Tryz.lays169 Tryz.Builder_Extra_169 B b l w h hBw
def Tryz.lays241_ren : Go.Shelf.Ren := ⟨fun | 241 => 167 | 277 => 208 | n => n, fun | 70 => 121 | 3 => 3 | 0 => 0 | 72 => 124 | 37 => 122 | 5 => 5 | n => n, fun | n => n⟩
theorem Tryz.lays241 : Go.Proofs.Lays.n241 Tryz.prog Tryz.lays241_ren := {
  mixed := by kernel_rfl
  f241 := Tryz.func167.trans (congrArg some (by kernel_rfl))
  f277 := Tryz.func208.trans (congrArg some (by kernel_rfl))
  t0 := Tryz.underlying0
  a0 := Tryz.isAgg0
  z0 := Tryz.sizeOf0
  v0 := Tryz.zeroValue0
  t3 := Tryz.underlying3
  a3 := Tryz.isAgg3
  z3 := Tryz.sizeOf3
  v3 := Tryz.zeroValue3
  t37 := Tryz.underlying122
  a37 := Tryz.isAgg122
  z37 := Tryz.sizeOf122
  v37 := Tryz.zeroValue122
  t70 := Tryz.underlying121
  a70 := Tryz.isAgg121
  z70 := Tryz.sizeOf121
  v70 := Tryz.zeroValue121
  t72 := Tryz.underlying124
  a72 := Tryz.isAgg124
  z72 := Tryz.sizeOf124
  v72 := Tryz.zeroValue124 }
theorem Tryz.Builder_Extra_241 : Builder.Extra Tryz.prog Tryz.lays241_ren := {
  sizeBuilder := by kernel_rfl
  liesBuilder := by kernel_rfl
  t5 := Tryz.underlying5
  a5 := Tryz.isAgg5
  z5 := Tryz.sizeOf5
  v5 := Tryz.zeroValue5
  infoByte := by kernel_rfl
  cellsByte := by kernel_rfl
  sizeByte := by kernel_rfl
  neB5 := by decide }
open Go.RowKit in
/-- (*strings.Builder).grow (no doc but "grow copies the buffer to a new, larger buffer so that there are at least n bytes of capacity beyond len(b.buf)."): AT A BUILDER WITHOUT A BUFFER: a new row of whatever bytes for its buffer, none of them its own yet. Three draws. (LAID: no walk: one application.) -/
theorem Tryz.Builder_grow_fresh (B b n : Nat) (w : World) (hB : B ≤ b) (hbk : w.heap[b]? = some (.cells #[.pointer (some ⟨b, 0, none⟩), .slice none 0 0] 124 (0, 0))) (hBw : B ≤ w.heap.size) (hn : n ≤ 281474976710656) :
    Calls Tryz.prog 167 #[.pointer (some ⟨b, 0, none⟩), .int .i64 n] w fun e w' => e = .returned (.tuple #[]) ∧ (Lib.BuilderAt 124 5 B b (.pointer (some ⟨b, 0, none⟩)) [] w' ∧ Below B w w') := Any.Builder_grow_fresh Tryz.lays241 Tryz.Builder_Extra_241 B b n w hB hbk hBw hn
def Tryz.lays165_ren : Go.Shelf.Ren := ⟨fun | 165 => 97 | 240 => 166 | 241 => 167 | 276 => 207 | 277 => 208 | n => n, fun | 70 => 121 | 3 => 3 | 0 => 0 | 4 => 4 | 9 => 9 | 20 => 20 | 72 => 124 | 37 => 122 | 164 => 203 | 5 => 5 | n => n, fun | n => n⟩
theorem Tryz.lays165 : Go.Proofs.Lays.n165 Tryz.prog Tryz.lays165_ren := {
  mixed := by kernel_rfl
  f165 := Tryz.func97.trans (congrArg some (by kernel_rfl))
  f240 := Tryz.func166.trans (congrArg some (by kernel_rfl))
  f241 := Tryz.func167.trans (congrArg some (by kernel_rfl))
  f276 := Tryz.func207.trans (congrArg some (by kernel_rfl))
  f277 := Tryz.func208.trans (congrArg some (by kernel_rfl))
  t0 := Tryz.underlying0
  a0 := Tryz.isAgg0
  z0 := Tryz.sizeOf0
  v0 := Tryz.zeroValue0
  t3 := Tryz.underlying3
  a3 := Tryz.isAgg3
  z3 := Tryz.sizeOf3
  v3 := Tryz.zeroValue3
  t4 := Tryz.underlying4
  a4 := Tryz.isAgg4
  z4 := Tryz.sizeOf4
  v4 := Tryz.zeroValue4
  t9 := Tryz.underlying9
  a9 := Tryz.isAgg9
  z9 := Tryz.sizeOf9
  v9 := Tryz.zeroValue9
  t20 := Tryz.underlying20
  a20 := Tryz.isAgg20
  z20 := Tryz.sizeOf20
  v20 := Tryz.zeroValue20
  t37 := Tryz.underlying122
  a37 := Tryz.isAgg122
  z37 := Tryz.sizeOf122
  v37 := Tryz.zeroValue122
  t70 := Tryz.underlying121
  a70 := Tryz.isAgg121
  z70 := Tryz.sizeOf121
  v70 := Tryz.zeroValue121
  t72 := Tryz.underlying124
  a72 := Tryz.isAgg124
  z72 := Tryz.sizeOf124
  v72 := Tryz.zeroValue124
  t164 := Tryz.underlying203
  a164 := Tryz.isAgg203
  z164 := Tryz.sizeOf203
  v164 := Tryz.zeroValue203 }
theorem Tryz.Builder_Extra_165 : Builder.Extra Tryz.prog Tryz.lays165_ren := {
  sizeBuilder := by kernel_rfl
  liesBuilder := by kernel_rfl
  t5 := Tryz.underlying5
  a5 := Tryz.isAgg5
  z5 := Tryz.sizeOf5
  v5 := Tryz.zeroValue5
  infoByte := by kernel_rfl
  cellsByte := by kernel_rfl
  sizeByte := by kernel_rfl
  neB5 := by decide }
open Go.RowKit in
/-- (*strings.Builder).Grow AT A BUILDER THAT HAS NOT BEEN WRITTEN ('var b strings.Builder; b.Grow(n)'): "Grow grows b's capacity, if necessary, to guarantee space for another n bytes.": it holds no byte behind it as before it. (LAID: no walk: one application.) -/
theorem Tryz.Builder_Grow_fresh (B b n : Nat) (w : World) (hB : B ≤ b) (hbk : w.heap[b]? = some (.cells #[.pointer none, .slice none 0 0] 124 (0, 0))) (hBw : B ≤ w.heap.size) (hn : n ≤ 281474976710656) :
    Calls Tryz.prog 97 #[.pointer (some ⟨b, 0, none⟩), .int .i64 n] w fun e w' => e = .returned (.tuple #[]) ∧ (Lib.BuilderAt 124 5 B b (.pointer (some ⟨b, 0, none⟩)) [] w' ∧ Below B w w') := Any.Builder_Grow_fresh Tryz.lays165 Tryz.Builder_Extra_165 B b n w hB hbk hBw hn
def Tryz.lays156_ren : Go.Shelf.Ren := ⟨fun | 156 => 49 | 165 => 97 | 166 => 98 | 169 => 99 | 240 => 166 | 241 => 167 | 276 => 207 | 277 => 208 | n => n, fun | 31 => 48 | 9 => 9 | 3 => 3 | 4 => 4 | 0 => 0 | 20 => 20 | 72 => 124 | 76 => 128 | 70 => 121 | 37 => 122 | 75 => 127 | 127 => 181 | 164 => 203 | 5 => 5 | 80 => 130 | n => n, fun | n => n⟩
theorem Tryz.lays156 : Go.Proofs.Lays.n156 Tryz.prog Tryz.lays156_ren := {
  mixed := by kernel_rfl
  f156 := Tryz.func49.trans (congrArg some (by kernel_rfl))
  f165 := Tryz.func97.trans (congrArg some (by kernel_rfl))
  f166 := Tryz.func98.trans (congrArg some (by kernel_rfl))
  f169 := Tryz.func99.trans (congrArg some (by kernel_rfl))
  f240 := Tryz.func166.trans (congrArg some (by kernel_rfl))
  f241 := Tryz.func167.trans (congrArg some (by kernel_rfl))
  f276 := Tryz.func207.trans (congrArg some (by kernel_rfl))
  f277 := Tryz.func208.trans (congrArg some (by kernel_rfl))
  t0 := Tryz.underlying0
  a0 := Tryz.isAgg0
  z0 := Tryz.sizeOf0
  v0 := Tryz.zeroValue0
  t3 := Tryz.underlying3
  a3 := Tryz.isAgg3
  z3 := Tryz.sizeOf3
  v3 := Tryz.zeroValue3
  t4 := Tryz.underlying4
  a4 := Tryz.isAgg4
  z4 := Tryz.sizeOf4
  v4 := Tryz.zeroValue4
  t9 := Tryz.underlying9
  a9 := Tryz.isAgg9
  z9 := Tryz.sizeOf9
  v9 := Tryz.zeroValue9
  t20 := Tryz.underlying20
  a20 := Tryz.isAgg20
  z20 := Tryz.sizeOf20
  v20 := Tryz.zeroValue20
  t31 := Tryz.underlying48
  a31 := Tryz.isAgg48
  z31 := Tryz.sizeOf48
  v31 := Tryz.zeroValue48
  t37 := Tryz.underlying122
  a37 := Tryz.isAgg122
  z37 := Tryz.sizeOf122
  v37 := Tryz.zeroValue122
  t70 := Tryz.underlying121
  a70 := Tryz.isAgg121
  z70 := Tryz.sizeOf121
  v70 := Tryz.zeroValue121
  t72 := Tryz.underlying124
  a72 := Tryz.isAgg124
  z72 := Tryz.sizeOf124
  v72 := Tryz.zeroValue124
  t75 := Tryz.underlying127
  a75 := Tryz.isAgg127
  z75 := Tryz.sizeOf127
  v75 := Tryz.zeroValue127
  t76 := Tryz.underlying128
  a76 := Tryz.isAgg128
  z76 := Tryz.sizeOf128
  v76 := Tryz.zeroValue128
  t127 := Tryz.underlying181
  a127 := Tryz.isAgg181
  z127 := Tryz.sizeOf181
  v127 := Tryz.zeroValue181
  t164 := Tryz.underlying203
  a164 := Tryz.isAgg203
  z164 := Tryz.sizeOf203
  v164 := Tryz.zeroValue203 }
theorem Tryz.Builder_Extra_156 : Builder.Extra Tryz.prog Tryz.lays156_ren := {
  sizeBuilder := by kernel_rfl
  liesBuilder := by kernel_rfl
  t5 := Tryz.underlying5
  a5 := Tryz.isAgg5
  z5 := Tryz.sizeOf5
  v5 := Tryz.zeroValue5
  infoByte := by kernel_rfl
  cellsByte := by kernel_rfl
  sizeByte := by kernel_rfl
  neB5 := by decide }
open Go.RowKit in
/-- No element: the empty string; the world is as it was. (Whatever the slice's address and capacity: a nil slice too.) (LAID: no walk: one application.) -/
theorem Tryz.strings_Join_none (a : Option Addr) (c : Nat) (sep : ByteArray) (w : World) :
    Calls Tryz.prog 49 #[.slice a 0 c, .string sep] w fun e w' => e = .returned (.string ⟨#[]⟩) ∧ w' = w := Any.strings_Join_none Tryz.lays156 Tryz.Builder_Extra_156 a c sep w
open Go.RowKit in
/-- strings.Join: "Join concatenates the elements of its first argument to create a single string. The separator string sep is placed between elements in the resulting string.": HOWEVER MANY ELEMENTS. Below the heap's end the world is as it was. (LAID: no walk: one application.) -/
theorem Tryz.strings_Join (bk o c : Nat) (xs : List ByteArray) (sep : ByteArray) (w : World) (hcells : ∀ (j : Nat) x, xs[j]? = some x → w.cell? ⟨bk, o + j, none⟩ = some (.string x)) (hbk : bk < w.heap.size) (hN : xs.length ≤ 140737488355328) (hcap : xs.length ≤ c) (hlen : (Lib.join (xs.map (·.data.toList)) sep.data.toList).length ≤ 140737488355328) :
    Calls Tryz.prog 49 #[.slice (some ⟨bk, o, none⟩) xs.length c, .string sep] w fun e w' => e = .returned (.string ⟨(Lib.join (xs.map (·.data.toList)) sep.data.toList).toArray⟩) ∧ Below w.heap.size w w' := Any.strings_Join Tryz.lays156 Tryz.Builder_Extra_156 bk o c xs sep w hcells hbk hN hcap hlen
def Tryz.lays137_ren : Go.Shelf.Ren := ⟨fun | 137 => 215 | 217 => 241 | 266 => 259 | n => n, fun | 9 => 9 | 5 => 5 | 3 => 3 | n => n, fun | n => n⟩
theorem Tryz.lays137 : Go.Proofs.Lays.n137 Tryz.prog Tryz.lays137_ren := {
  mixed := by kernel_rfl
  f137 := Tryz.func215.trans (congrArg some (by kernel_rfl))
  f217 := Tryz.func241.trans (congrArg some (by kernel_rfl))
  f266 := Tryz.func259.trans (congrArg some (by kernel_rfl))
  t3 := Tryz.underlying3
  a3 := Tryz.isAgg3
  z3 := Tryz.sizeOf3
  v3 := Tryz.zeroValue3
  t5 := Tryz.underlying5
  a5 := Tryz.isAgg5
  z5 := Tryz.sizeOf5
  v5 := Tryz.zeroValue5
  t9 := Tryz.underlying9
  a9 := Tryz.isAgg9
  z9 := Tryz.sizeOf9
  v9 := Tryz.zeroValue9 }
open Go.RowKit in
/-- strings.IndexByte: "IndexByte returns the index of the first instance of c in s, or -1 if c is not present in s.": IT RETURNS 'Lib.indexByte s c'; the world is as it was. (LAID: no walk: one application.) -/
theorem Tryz.strings_IndexByte (s : ByteArray) (c : Int) (w : World) :
    Calls Tryz.prog 215 #[.string s, .int .u8 c] w fun e w' => e = .returned (.int .i64 (Lib.indexByte s.data.toList c.toNat.toUInt8)) ∧ w' = w := Any.strings_IndexByte Tryz.lays137 s c w
def Tryz.lays244_ren : Go.Shelf.Ren := ⟨fun | 244 => 224 | 247 => 249 | 287 => 266 | 321 => 278 | 322 => 279 | n => n, fun | 9 => 9 | 3 => 3 | 75 => 127 | 4 => 4 | 5 => 5 | 167 => 226 | 37 => 122 | 0 => 0 | 85 => 227 | 2 => 2 | 53 => 201 | 175 => 241 | 46 => 170 | 21 => 21 | 80 => 130 | n => n, fun | n => n⟩
theorem Tryz.lays244 : Go.Proofs.Lays.n244 Tryz.prog Tryz.lays244_ren := {
  mixed := by kernel_rfl
  f244 := Tryz.func224.trans (congrArg some (by kernel_rfl))
  f247 := Tryz.func249.trans (congrArg some (by kernel_rfl))
  f287 := Tryz.func266.trans (congrArg some (by kernel_rfl))
  f321 := Tryz.func278.trans (congrArg some (by kernel_rfl))
  f322 := Tryz.func279.trans (congrArg some (by kernel_rfl))
  t0 := Tryz.underlying0
  a0 := Tryz.isAgg0
  z0 := Tryz.sizeOf0
  v0 := Tryz.zeroValue0
  t2 := Tryz.underlying2
  a2 := Tryz.isAgg2
  z2 := Tryz.sizeOf2
  v2 := Tryz.zeroValue2
  t3 := Tryz.underlying3
  a3 := Tryz.isAgg3
  z3 := Tryz.sizeOf3
  v3 := Tryz.zeroValue3
  t4 := Tryz.underlying4
  a4 := Tryz.isAgg4
  z4 := Tryz.sizeOf4
  v4 := Tryz.zeroValue4
  t5 := Tryz.underlying5
  a5 := Tryz.isAgg5
  z5 := Tryz.sizeOf5
  v5 := Tryz.zeroValue5
  t9 := Tryz.underlying9
  a9 := Tryz.isAgg9
  z9 := Tryz.sizeOf9
  v9 := Tryz.zeroValue9
  t21 := Tryz.underlying21
  a21 := Tryz.isAgg21
  z21 := Tryz.sizeOf21
  v21 := Tryz.zeroValue21
  t37 := Tryz.underlying122
  a37 := Tryz.isAgg122
  z37 := Tryz.sizeOf122
  v37 := Tryz.zeroValue122
  t46 := Tryz.underlying170
  a46 := Tryz.isAgg170
  z46 := Tryz.sizeOf170
  v46 := Tryz.zeroValue170
  t53 := Tryz.underlying201
  a53 := Tryz.isAgg201
  z53 := Tryz.sizeOf201
  v53 := Tryz.zeroValue201
  t75 := Tryz.underlying127
  a75 := Tryz.isAgg127
  z75 := Tryz.sizeOf127
  v75 := Tryz.zeroValue127
  t85 := Tryz.underlying227
  a85 := Tryz.isAgg227
  z85 := Tryz.sizeOf227
  v85 := Tryz.zeroValue227
  t167 := Tryz.underlying226
  a167 := Tryz.isAgg226
  z167 := Tryz.sizeOf226
  v167 := Tryz.zeroValue226
  t175 := Tryz.underlying241
  a175 := Tryz.isAgg241
  z175 := Tryz.sizeOf241
  v175 := Tryz.zeroValue241 }
open Go.RowKit in
/-- internal/strconv.Atoi, at a decimal numeral of at most 18 bytes: ITS VALUE, AND NO ERROR. The world behind the call: the one new row that '[]byte(s)' lays. (LAID: no walk: one application.) -/
theorem Tryz.internal_strconv_Atoi (s : ByteArray) (n : Int) (hl : s.size ≤ 18) (h : Lib.atoi s.data.toList = some n) (w : World) :
    Calls Tryz.prog 224 #[.string s] w fun e w' => e = .returned (.tuple #[.int .i64 n, .nilIface]) ∧ ∃ t, w' = Lib.bytesWorld w 5 t := Any.internal_strconv_Atoi Tryz.lays244 s n hl h w
def Tryz.lays172_ren : Go.Shelf.Ren := ⟨fun | 172 => 188 | 244 => 224 | 245 => 225 | 247 => 249 | 279 => 250 | 280 => 251 | 281 => 252 | 282 => 253 | 287 => 266 | 316 => 267 | 171 => 86 | 205 => 268 | 321 => 278 | 322 => 279 | 243 => 160 | 246 => 204 | 283 => 232 | 284 => 233 | 285 => 234 | 286 => 235 | 129 => 203 | 317 => 255 | 318 => 256 | 319 => 257 | 320 => 258 | 337 => 269 | 338 => 270 | n => n, fun | 9 => 9 | 3 => 3 | 75 => 127 | 76 => 128 | 4 => 4 | 5 => 5 | 167 => 226 | 37 => 122 | 0 => 0 | 85 => 227 | 2 => 2 | 168 => 229 | 53 => 201 | 175 => 241 | 46 => 170 | 210 => 244 | 127 => 181 | 145 => 253 | 143 => 251 | 21 => 21 | 171 => 218 | 173 => 220 | 212 => 236 | 51 => 199 | 20 => 20 | 213 => 237 | 232 => 254 | 233 => 255 | 80 => 130 | n => n, fun | 15 => 2 | 16 => 3 | 17 => 1 | 18 => 5 | 19 => 6 | n => n⟩
theorem Tryz.lays172 : Go.Proofs.Lays.n172 Tryz.prog Tryz.lays172_ren := {
  mixed := by kernel_rfl
  f129 := Tryz.func203.trans (congrArg some (by kernel_rfl))
  f171 := Tryz.func86.trans (congrArg some (by kernel_rfl))
  f172 := Tryz.func188.trans (congrArg some (by kernel_rfl))
  f205 := Tryz.func268.trans (congrArg some (by kernel_rfl))
  f243 := Tryz.func160.trans (congrArg some (by kernel_rfl))
  f244 := Tryz.func224.trans (congrArg some (by kernel_rfl))
  f245 := Tryz.func225.trans (congrArg some (by kernel_rfl))
  f246 := Tryz.func204.trans (congrArg some (by kernel_rfl))
  f247 := Tryz.func249.trans (congrArg some (by kernel_rfl))
  f279 := Tryz.func250.trans (congrArg some (by kernel_rfl))
  f280 := Tryz.func251.trans (congrArg some (by kernel_rfl))
  f281 := Tryz.func252.trans (congrArg some (by kernel_rfl))
  f282 := Tryz.func253.trans (congrArg some (by kernel_rfl))
  f283 := Tryz.func232.trans (congrArg some (by kernel_rfl))
  f284 := Tryz.func233.trans (congrArg some (by kernel_rfl))
  f285 := Tryz.func234.trans (congrArg some (by kernel_rfl))
  f286 := Tryz.func235.trans (congrArg some (by kernel_rfl))
  f287 := Tryz.func266.trans (congrArg some (by kernel_rfl))
  f316 := Tryz.func267.trans (congrArg some (by kernel_rfl))
  f317 := Tryz.func255.trans (congrArg some (by kernel_rfl))
  f318 := Tryz.func256.trans (congrArg some (by kernel_rfl))
  f319 := Tryz.func257.trans (congrArg some (by kernel_rfl))
  f320 := Tryz.func258.trans (congrArg some (by kernel_rfl))
  f321 := Tryz.func278.trans (congrArg some (by kernel_rfl))
  f322 := Tryz.func279.trans (congrArg some (by kernel_rfl))
  f337 := Tryz.func269.trans (congrArg some (by kernel_rfl))
  f338 := Tryz.func270.trans (congrArg some (by kernel_rfl))
  t0 := Tryz.underlying0
  a0 := Tryz.isAgg0
  z0 := Tryz.sizeOf0
  v0 := Tryz.zeroValue0
  t2 := Tryz.underlying2
  a2 := Tryz.isAgg2
  z2 := Tryz.sizeOf2
  v2 := Tryz.zeroValue2
  t3 := Tryz.underlying3
  a3 := Tryz.isAgg3
  z3 := Tryz.sizeOf3
  v3 := Tryz.zeroValue3
  t4 := Tryz.underlying4
  a4 := Tryz.isAgg4
  z4 := Tryz.sizeOf4
  v4 := Tryz.zeroValue4
  t5 := Tryz.underlying5
  a5 := Tryz.isAgg5
  z5 := Tryz.sizeOf5
  v5 := Tryz.zeroValue5
  t9 := Tryz.underlying9
  a9 := Tryz.isAgg9
  z9 := Tryz.sizeOf9
  v9 := Tryz.zeroValue9
  t20 := Tryz.underlying20
  a20 := Tryz.isAgg20
  z20 := Tryz.sizeOf20
  v20 := Tryz.zeroValue20
  t21 := Tryz.underlying21
  a21 := Tryz.isAgg21
  z21 := Tryz.sizeOf21
  v21 := Tryz.zeroValue21
  t37 := Tryz.underlying122
  a37 := Tryz.isAgg122
  z37 := Tryz.sizeOf122
  v37 := Tryz.zeroValue122
  t46 := Tryz.underlying170
  a46 := Tryz.isAgg170
  z46 := Tryz.sizeOf170
  v46 := Tryz.zeroValue170
  t51 := Tryz.underlying199
  a51 := Tryz.isAgg199
  z51 := Tryz.sizeOf199
  v51 := Tryz.zeroValue199
  t53 := Tryz.underlying201
  a53 := Tryz.isAgg201
  z53 := Tryz.sizeOf201
  v53 := Tryz.zeroValue201
  t75 := Tryz.underlying127
  a75 := Tryz.isAgg127
  z75 := Tryz.sizeOf127
  v75 := Tryz.zeroValue127
  t76 := Tryz.underlying128
  a76 := Tryz.isAgg128
  z76 := Tryz.sizeOf128
  v76 := Tryz.zeroValue128
  t85 := Tryz.underlying227
  a85 := Tryz.isAgg227
  z85 := Tryz.sizeOf227
  v85 := Tryz.zeroValue227
  t127 := Tryz.underlying181
  a127 := Tryz.isAgg181
  z127 := Tryz.sizeOf181
  v127 := Tryz.zeroValue181
  t143 := Tryz.underlying251
  a143 := Tryz.isAgg251
  z143 := Tryz.sizeOf251
  v143 := Tryz.zeroValue251
  t145 := Tryz.underlying253
  a145 := Tryz.isAgg253
  z145 := Tryz.sizeOf253
  v145 := Tryz.zeroValue253
  t167 := Tryz.underlying226
  a167 := Tryz.isAgg226
  z167 := Tryz.sizeOf226
  v167 := Tryz.zeroValue226
  t168 := Tryz.underlying229
  a168 := Tryz.isAgg229
  z168 := Tryz.sizeOf229
  v168 := Tryz.zeroValue229
  t171 := Tryz.underlying218
  a171 := Tryz.isAgg218
  z171 := Tryz.sizeOf218
  v171 := Tryz.zeroValue218
  t173 := Tryz.underlying220
  a173 := Tryz.isAgg220
  z173 := Tryz.sizeOf220
  v173 := Tryz.zeroValue220
  t175 := Tryz.underlying241
  a175 := Tryz.isAgg241
  z175 := Tryz.sizeOf241
  v175 := Tryz.zeroValue241
  t210 := Tryz.underlying244
  a210 := Tryz.isAgg244
  z210 := Tryz.sizeOf244
  v210 := Tryz.zeroValue244
  t212 := Tryz.underlying236
  a212 := Tryz.isAgg236
  z212 := Tryz.sizeOf236
  v212 := Tryz.zeroValue236
  t213 := Tryz.underlying237
  a213 := Tryz.isAgg237
  z213 := Tryz.sizeOf237
  t232 := Tryz.underlying254
  a232 := Tryz.isAgg254
  z232 := Tryz.sizeOf254
  v232 := Tryz.zeroValue254
  t233 := Tryz.underlying255
  a233 := Tryz.isAgg255
  z233 := Tryz.sizeOf255
  v233 := Tryz.zeroValue255
  g15 := by kernel_rfl
  g16 := by kernel_rfl
  g17 := by kernel_rfl
  g18 := by kernel_rfl
  g19 := by kernel_rfl }
open Go.RowKit in
/-- strconv.Atoi: "Atoi is equivalent to ParseInt(s, 10, 0), converted to type int.": AT A DECIMAL NUMERAL OF AT MOST 18 BYTES: its value, and a nil error. The world behind the call: the one new row that the library's '[]byte(s)' lays. (LAID: no walk: one application.) -/
theorem Tryz.strconv_Atoi (s : ByteArray) (n : Int) (hl : s.size ≤ 18) (h : Lib.atoi s.data.toList = some n) (w : World) :
    Calls Tryz.prog 188 #[.string s] w fun e w' => e = .returned (.tuple #[.int .i64 n, .nilIface]) ∧ ∃ t, w' = Lib.bytesWorld w 5 t := Any.strconv_Atoi Tryz.lays172 s n hl h w
def Tryz.lays129_ren : Go.Shelf.Ren := ⟨fun | 129 => 203 | n => n, fun | 53 => 201 | 3 => 3 | 4 => 4 | 46 => 170 | 5 => 5 | 9 => 9 | n => n, fun | n => n⟩
theorem Tryz.lays129 : Go.Proofs.Lays.n129 Tryz.prog Tryz.lays129_ren := {
  mixed := by kernel_rfl
  f129 := Tryz.func203.trans (congrArg some (by kernel_rfl))
  t3 := Tryz.underlying3
  a3 := Tryz.isAgg3
  z3 := Tryz.sizeOf3
  v3 := Tryz.zeroValue3
  t4 := Tryz.underlying4
  a4 := Tryz.isAgg4
  z4 := Tryz.sizeOf4
  v4 := Tryz.zeroValue4
  t5 := Tryz.underlying5
  a5 := Tryz.isAgg5
  z5 := Tryz.sizeOf5
  v5 := Tryz.zeroValue5
  t9 := Tryz.underlying9
  a9 := Tryz.isAgg9
  z9 := Tryz.sizeOf9
  v9 := Tryz.zeroValue9
  t46 := Tryz.underlying170
  a46 := Tryz.isAgg170
  z46 := Tryz.sizeOf170
  v46 := Tryz.zeroValue170
  t53 := Tryz.underlying201
  a53 := Tryz.isAgg201
  z53 := Tryz.sizeOf201
  v53 := Tryz.zeroValue201 }
/-- bits.Len64: "Len64 returns the minimum number of bits required to represent x; the result is 0 for x == 0.": IT RETURNS 'Lib.bitLen x'; the world is as it was. ('h0', 'h1': x is a uint64.) (LAID: no walk: one application.) -/
theorem Tryz.bits_Len64 (x : Int) (w : World) (h0 : 0 ≤ x) (h1 : x ≤ 18446744073709551615) :
    Calls Tryz.prog 203 #[.int .u64 x] w fun e w' => e = .returned (.int .i64 (Lib.bitLen x.toNat)) ∧ w' = w := Any.bits_Len64 Tryz.lays129 x w h0 h1
def Tryz.lays317_ren : Go.Shelf.Ren := ⟨fun | 317 => 255 | n => n, fun | 3 => 3 | 46 => 170 | n => n, fun | n => n⟩
theorem Tryz.lays317 : Go.Proofs.Lays.n317 Tryz.prog Tryz.lays317_ren := {
  mixed := by kernel_rfl
  f317 := Tryz.func255.trans (congrArg some (by kernel_rfl))
  t3 := Tryz.underlying3
  a3 := Tryz.isAgg3
  z3 := Tryz.sizeOf3
  v3 := Tryz.zeroValue3
  t46 := Tryz.underlying170
  a46 := Tryz.isAgg170
  z46 := Tryz.sizeOf170
  v46 := Tryz.zeroValue170 }
open Go.Lib in
/-- internal/strconv.log10Pow2: "log10Pow2(x) returns ⌊log₁₀ 2**x⌋ = ⌊x * log₁₀ 2⌋.": '(x * 78913) >> 18', at an x up to 64 (a length in bits). The world is as it was. (LAID: no walk: one application.) -/
theorem Tryz.internal_strconv_log10Pow2 (x : Nat) (h : x ≤ 64) (w : World) :
    Calls Tryz.prog 255 #[.int .i64 x] w fun e w' => e = .returned (.int .i64 (Lib.l10 x)) ∧ w' = w := Any.internal_strconv_log10Pow2 Tryz.lays317 x h w
def Tryz.lays318_ren : Go.Shelf.Ren := ⟨fun | 318 => 256 | n => n, fun | 3 => 3 | 4 => 4 | n => n, fun | n => n⟩
theorem Tryz.lays318 : Go.Proofs.Lays.n318 Tryz.prog Tryz.lays318_ren := {
  mixed := by kernel_rfl
  f318 := Tryz.func256.trans (congrArg some (by kernel_rfl))
  t3 := Tryz.underlying3
  a3 := Tryz.isAgg3
  z3 := Tryz.sizeOf3
  v3 := Tryz.zeroValue3
  t4 := Tryz.underlying4
  a4 := Tryz.isAgg4
  z4 := Tryz.sizeOf4
  v4 := Tryz.zeroValue4 }
open Go.Lib in
/-- internal/strconv.bool2: "bool2 converts b to an integer: 1 for true, 0 for false." The world is as it was. (LAID: no walk: one application.) -/
theorem Tryz.internal_strconv_bool2_int (b : Bool) (w : World) :
    Calls Tryz.prog 256 #[.bool b] w fun e w' => e = .returned (.int .i64 (if b then 1 else 0)) ∧ w' = w := Any.internal_strconv_bool2_int Tryz.lays318 b w
def Tryz.lays283_ren : Go.Shelf.Ren := ⟨fun | 283 => 232 | n => n, fun | 3 => 3 | 9 => 9 | 4 => 4 | n => n, fun | n => n⟩
theorem Tryz.lays283 : Go.Proofs.Lays.n283 Tryz.prog Tryz.lays283_ren := {
  mixed := by kernel_rfl
  f283 := Tryz.func232.trans (congrArg some (by kernel_rfl))
  t3 := Tryz.underlying3
  a3 := Tryz.isAgg3
  z3 := Tryz.sizeOf3
  v3 := Tryz.zeroValue3
  t4 := Tryz.underlying4
  a4 := Tryz.isAgg4
  z4 := Tryz.sizeOf4
  v4 := Tryz.zeroValue4
  t9 := Tryz.underlying9
  a9 := Tryz.isAgg9
  z9 := Tryz.sizeOf9
  v9 := Tryz.zeroValue9 }
open Go.Lib in
/-- internal/strconv.small: "small returns the string for an i with 0 <= i < nSmalls.": i's decimal numeral. The world is as it was. (LAID: no walk: one application.) -/
theorem Tryz.internal_strconv_small (i : Nat) (h : i < 100) (w : World) :
    Calls Tryz.prog 232 #[.int .i64 i] w fun e w' => e = .returned (.string ⟨(Lib.decDigits i).toArray⟩) ∧ w' = w := Any.internal_strconv_small Tryz.lays283 i h w
def Tryz.laysM284_ren : Go.Shelf.Ren := ⟨fun | 284 => 233 | 129 => 203 | 317 => 255 | 318 => 256 | n => n, fun | 53 => 201 | 3 => 3 | 212 => 236 | 0 => 0 | 4 => 4 | 46 => 170 | 5 => 5 | 9 => 9 | n => n, fun | 17 => 1 | n => n⟩
theorem Tryz.laysM284 : Go.Proofs.LaysM.n284 Tryz.prog Tryz.laysM284_ren := {
  mixed := by kernel_rfl
  f129 := Tryz.func203.trans (congrArg some (by kernel_rfl))
  f284 := Tryz.func233.trans (congrArg some (by kernel_rfl))
  f317 := Tryz.func255.trans (congrArg some (by kernel_rfl))
  f318 := Tryz.func256.trans (congrArg some (by kernel_rfl))
  t0 := Tryz.underlying0
  a0 := Tryz.isAgg0
  z0 := Tryz.sizeOf0
  v0 := Tryz.zeroValue0
  t3 := Tryz.underlying3
  a3 := Tryz.isAgg3
  z3 := Tryz.sizeOf3
  v3 := Tryz.zeroValue3
  t4 := Tryz.underlying4
  a4 := Tryz.isAgg4
  z4 := Tryz.sizeOf4
  v4 := Tryz.zeroValue4
  t5 := Tryz.underlying5
  a5 := Tryz.isAgg5
  z5 := Tryz.sizeOf5
  v5 := Tryz.zeroValue5
  t9 := Tryz.underlying9
  a9 := Tryz.isAgg9
  z9 := Tryz.sizeOf9
  v9 := Tryz.zeroValue9
  t46 := Tryz.underlying170
  a46 := Tryz.isAgg170
  z46 := Tryz.sizeOf170
  v46 := Tryz.zeroValue170
  t53 := Tryz.underlying201
  a53 := Tryz.isAgg201
  z53 := Tryz.sizeOf201
  v53 := Tryz.zeroValue201
  t212 := Tryz.underlying236
  a212 := Tryz.isAgg236
  z212 := Tryz.sizeOf236
  v212 := Tryz.zeroValue236
  g17 := by kernel_rfl
  i0 := by kernel_rfl
  i3 := by kernel_rfl
  i4 := by kernel_rfl
  i5 := by kernel_rfl
  i9 := by kernel_rfl
  i46 := by kernel_rfl
  i53 := by kernel_rfl
  i212 := by kernel_rfl
  m17 := by kernel_rfl }
open Go.Lib in
/-- internal/strconv.numDigits, at a d that is not 0: THE NUMBER OF d's DECIMAL DIGITS. The world is as it was. (LAID: no walk: one application.) -/
theorem Tryz.internal_strconv_numDigits (u : Nat) (h1 : 1 ≤ u) (h2 : u < 18446744073709551616) (w : World) (htab : Lib.TabIs Tryz.prog w "internal/strconv.uint64pow10" .u64 Lib.pow10Tab) :
    Calls Tryz.prog 233 #[.int .u64 u] w fun e w' => e = .returned (.int .i64 (Lib.nDigits u)) ∧ w' = w := Any.internal_strconv_numDigits Tryz.laysM284 u h1 h2 w htab
def Tryz.lays285_ren : Go.Shelf.Ren := ⟨fun | 285 => 234 | n => n, fun | 37 => 122 | 53 => 201 | 3 => 3 | 4 => 4 | 51 => 199 | 9 => 9 | 5 => 5 | 0 => 0 | n => n, fun | n => n⟩
theorem Tryz.lays285 : Go.Proofs.Lays.n285 Tryz.prog Tryz.lays285_ren := {
  mixed := by kernel_rfl
  f285 := Tryz.func234.trans (congrArg some (by kernel_rfl))
  t0 := Tryz.underlying0
  a0 := Tryz.isAgg0
  z0 := Tryz.sizeOf0
  v0 := Tryz.zeroValue0
  t3 := Tryz.underlying3
  a3 := Tryz.isAgg3
  z3 := Tryz.sizeOf3
  v3 := Tryz.zeroValue3
  t4 := Tryz.underlying4
  a4 := Tryz.isAgg4
  z4 := Tryz.sizeOf4
  v4 := Tryz.zeroValue4
  t5 := Tryz.underlying5
  a5 := Tryz.isAgg5
  z5 := Tryz.sizeOf5
  v5 := Tryz.zeroValue5
  t9 := Tryz.underlying9
  a9 := Tryz.isAgg9
  z9 := Tryz.sizeOf9
  v9 := Tryz.zeroValue9
  t37 := Tryz.underlying122
  a37 := Tryz.isAgg122
  z37 := Tryz.sizeOf122
  v37 := Tryz.zeroValue122
  t51 := Tryz.underlying199
  a51 := Tryz.isAgg199
  z51 := Tryz.sizeOf199
  v51 := Tryz.zeroValue199
  t53 := Tryz.underlying201
  a53 := Tryz.isAgg201
  z53 := Tryz.sizeOf201
  v53 := Tryz.zeroValue201 }
open Go.RowKit Go.Sort Go.Lib in
/-- internal/strconv.formatBase10: "formatBase10 formats the decimal representation of u into a. The caller is responsible for ensuring that a is big enough to hold u. If a is too big, leading zeros will be filled in as needed.": THE ROW HOLDS u's DIGITS ('FmtInv .. 0 ..': every place t holds 'dg u (len - 1 - t)'); all else is as it was but for the count of draws. (LAID: no walk: one application.) -/
theorem Tryz.internal_strconv_formatBase10 (blk off cap : Nat) (u : Nat) (d : Array UInt8) (w : World) (hH : Holds (fun (b : UInt8) => Value.int .u8 (b.toNat : Int)) w blk off d) (hu : u < 10 ^ d.size) (hu64 : u < 18446744073709551616) (hsz : d.size < 4611686018427387904) :
    Calls Tryz.prog 234 #[.slice (some ⟨blk, off, none⟩) d.size cap, .int .u64 u] w fun e w' =>
      e = .returned (.tuple #[]) ∧ ∃ (n v' : Nat) (dk : Array UInt8), w' = (putRow (fun (b : UInt8) => Value.int .u8 (b.toNat : Int)) w blk off dk).drewN n ∧ FmtInv d.size u 0 v' dk := Any.internal_strconv_formatBase10 Tryz.lays285 blk off cap u d w hH hu hu64 hsz
def Tryz.laysM246_ren : Go.Shelf.Ren := ⟨fun | 246 => 204 | 283 => 232 | 284 => 233 | 285 => 234 | 286 => 235 | 129 => 203 | 317 => 255 | 318 => 256 | 319 => 257 | 320 => 258 | 337 => 269 | 338 => 270 | n => n, fun | 2 => 2 | 3 => 3 | 9 => 9 | 4 => 4 | 171 => 218 | 0 => 0 | 53 => 201 | 37 => 122 | 5 => 5 | 173 => 220 | 212 => 236 | 51 => 199 | 20 => 20 | 213 => 237 | 46 => 170 | 232 => 254 | 233 => 255 | n => n, fun | 17 => 1 | 18 => 5 | 19 => 6 | n => n⟩
theorem Tryz.laysM246 : Go.Proofs.LaysM.n246 Tryz.prog Tryz.laysM246_ren := {
  mixed := by kernel_rfl
  f129 := Tryz.func203.trans (congrArg some (by kernel_rfl))
  f246 := Tryz.func204.trans (congrArg some (by kernel_rfl))
  f283 := Tryz.func232.trans (congrArg some (by kernel_rfl))
  f284 := Tryz.func233.trans (congrArg some (by kernel_rfl))
  f285 := Tryz.func234.trans (congrArg some (by kernel_rfl))
  f286 := Tryz.func235.trans (congrArg some (by kernel_rfl))
  f317 := Tryz.func255.trans (congrArg some (by kernel_rfl))
  f318 := Tryz.func256.trans (congrArg some (by kernel_rfl))
  f319 := Tryz.func257.trans (congrArg some (by kernel_rfl))
  f320 := Tryz.func258.trans (congrArg some (by kernel_rfl))
  f337 := Tryz.func269.trans (congrArg some (by kernel_rfl))
  f338 := Tryz.func270.trans (congrArg some (by kernel_rfl))
  t0 := Tryz.underlying0
  a0 := Tryz.isAgg0
  z0 := Tryz.sizeOf0
  v0 := Tryz.zeroValue0
  t2 := Tryz.underlying2
  a2 := Tryz.isAgg2
  z2 := Tryz.sizeOf2
  v2 := Tryz.zeroValue2
  t3 := Tryz.underlying3
  a3 := Tryz.isAgg3
  z3 := Tryz.sizeOf3
  v3 := Tryz.zeroValue3
  t4 := Tryz.underlying4
  a4 := Tryz.isAgg4
  z4 := Tryz.sizeOf4
  v4 := Tryz.zeroValue4
  t5 := Tryz.underlying5
  a5 := Tryz.isAgg5
  z5 := Tryz.sizeOf5
  v5 := Tryz.zeroValue5
  t9 := Tryz.underlying9
  a9 := Tryz.isAgg9
  z9 := Tryz.sizeOf9
  v9 := Tryz.zeroValue9
  t20 := Tryz.underlying20
  a20 := Tryz.isAgg20
  z20 := Tryz.sizeOf20
  v20 := Tryz.zeroValue20
  t37 := Tryz.underlying122
  a37 := Tryz.isAgg122
  z37 := Tryz.sizeOf122
  v37 := Tryz.zeroValue122
  t46 := Tryz.underlying170
  a46 := Tryz.isAgg170
  z46 := Tryz.sizeOf170
  v46 := Tryz.zeroValue170
  t51 := Tryz.underlying199
  a51 := Tryz.isAgg199
  z51 := Tryz.sizeOf199
  v51 := Tryz.zeroValue199
  t53 := Tryz.underlying201
  a53 := Tryz.isAgg201
  z53 := Tryz.sizeOf201
  v53 := Tryz.zeroValue201
  t171 := Tryz.underlying218
  a171 := Tryz.isAgg218
  z171 := Tryz.sizeOf218
  v171 := Tryz.zeroValue218
  t173 := Tryz.underlying220
  a173 := Tryz.isAgg220
  z173 := Tryz.sizeOf220
  v173 := Tryz.zeroValue220
  t212 := Tryz.underlying236
  a212 := Tryz.isAgg236
  z212 := Tryz.sizeOf236
  v212 := Tryz.zeroValue236
  t213 := Tryz.underlying237
  a213 := Tryz.isAgg237
  z213 := Tryz.sizeOf237
  t232 := Tryz.underlying254
  a232 := Tryz.isAgg254
  z232 := Tryz.sizeOf254
  v232 := Tryz.zeroValue254
  t233 := Tryz.underlying255
  a233 := Tryz.isAgg255
  z233 := Tryz.sizeOf255
  v233 := Tryz.zeroValue255
  g17 := by kernel_rfl
  g18 := by kernel_rfl
  g19 := by kernel_rfl
  i0 := by kernel_rfl
  i2 := by kernel_rfl
  i3 := by kernel_rfl
  i4 := by kernel_rfl
  i5 := by kernel_rfl
  i9 := by kernel_rfl
  i20 := by kernel_rfl
  i37 := by kernel_rfl
  i46 := by kernel_rfl
  i51 := by kernel_rfl
  i53 := by kernel_rfl
  i171 := by kernel_rfl
  i173 := by kernel_rfl
  i212 := by kernel_rfl
  i232 := by kernel_rfl
  i233 := by kernel_rfl
  m17 := by kernel_rfl
  m18 := by kernel_rfl
  m19 := by kernel_rfl }
open Go.RowKit Go.Sort Go.Lib in
/-- internal/strconv.FormatInt: "FormatInt returns the string representation of i in the given base": AT BASE 10: i's decimal numeral, for every int64. The world behind the call: the world before it, new blocks behind the heap, draws. (LAID: no walk: one application.) -/
theorem Tryz.internal_strconv_FormatInt_10 (n : Int) (h0 : -9223372036854775808 ≤ n) (h1 : n ≤ 9223372036854775807) (w : World) (htab : Lib.TabIs Tryz.prog w "internal/strconv.uint64pow10" .u64 Lib.pow10Tab) :
    Calls Tryz.prog 204 #[.int .i64 n, .int .i64 10] w fun e w' => e = .returned (.string ⟨(Lib.itoa n).toArray⟩) ∧ ∃ k os, w' = grow (w.drewN k) os := Any.internal_strconv_FormatInt_10 Tryz.laysM246 n h0 h1 w htab
def Tryz.lays246_ren : Go.Shelf.Ren := ⟨fun | 246 => 204 | 283 => 232 | 284 => 233 | 285 => 234 | 286 => 235 | 129 => 203 | 317 => 255 | 318 => 256 | 319 => 257 | 320 => 258 | 337 => 269 | 338 => 270 | n => n, fun | 2 => 2 | 3 => 3 | 9 => 9 | 4 => 4 | 171 => 218 | 0 => 0 | 53 => 201 | 37 => 122 | 5 => 5 | 173 => 220 | 212 => 236 | 51 => 199 | 20 => 20 | 213 => 237 | 46 => 170 | 232 => 254 | 233 => 255 | n => n, fun | 17 => 1 | 18 => 5 | 19 => 6 | n => n⟩
theorem Tryz.lays246 : Go.Proofs.Lays.n246 Tryz.prog Tryz.lays246_ren := {
  mixed := by kernel_rfl
  f129 := Tryz.func203.trans (congrArg some (by kernel_rfl))
  f246 := Tryz.func204.trans (congrArg some (by kernel_rfl))
  f283 := Tryz.func232.trans (congrArg some (by kernel_rfl))
  f284 := Tryz.func233.trans (congrArg some (by kernel_rfl))
  f285 := Tryz.func234.trans (congrArg some (by kernel_rfl))
  f286 := Tryz.func235.trans (congrArg some (by kernel_rfl))
  f317 := Tryz.func255.trans (congrArg some (by kernel_rfl))
  f318 := Tryz.func256.trans (congrArg some (by kernel_rfl))
  f319 := Tryz.func257.trans (congrArg some (by kernel_rfl))
  f320 := Tryz.func258.trans (congrArg some (by kernel_rfl))
  f337 := Tryz.func269.trans (congrArg some (by kernel_rfl))
  f338 := Tryz.func270.trans (congrArg some (by kernel_rfl))
  t0 := Tryz.underlying0
  a0 := Tryz.isAgg0
  z0 := Tryz.sizeOf0
  v0 := Tryz.zeroValue0
  t2 := Tryz.underlying2
  a2 := Tryz.isAgg2
  z2 := Tryz.sizeOf2
  v2 := Tryz.zeroValue2
  t3 := Tryz.underlying3
  a3 := Tryz.isAgg3
  z3 := Tryz.sizeOf3
  v3 := Tryz.zeroValue3
  t4 := Tryz.underlying4
  a4 := Tryz.isAgg4
  z4 := Tryz.sizeOf4
  v4 := Tryz.zeroValue4
  t5 := Tryz.underlying5
  a5 := Tryz.isAgg5
  z5 := Tryz.sizeOf5
  v5 := Tryz.zeroValue5
  t9 := Tryz.underlying9
  a9 := Tryz.isAgg9
  z9 := Tryz.sizeOf9
  v9 := Tryz.zeroValue9
  t20 := Tryz.underlying20
  a20 := Tryz.isAgg20
  z20 := Tryz.sizeOf20
  v20 := Tryz.zeroValue20
  t37 := Tryz.underlying122
  a37 := Tryz.isAgg122
  z37 := Tryz.sizeOf122
  v37 := Tryz.zeroValue122
  t46 := Tryz.underlying170
  a46 := Tryz.isAgg170
  z46 := Tryz.sizeOf170
  v46 := Tryz.zeroValue170
  t51 := Tryz.underlying199
  a51 := Tryz.isAgg199
  z51 := Tryz.sizeOf199
  v51 := Tryz.zeroValue199
  t53 := Tryz.underlying201
  a53 := Tryz.isAgg201
  z53 := Tryz.sizeOf201
  v53 := Tryz.zeroValue201
  t171 := Tryz.underlying218
  a171 := Tryz.isAgg218
  z171 := Tryz.sizeOf218
  v171 := Tryz.zeroValue218
  t173 := Tryz.underlying220
  a173 := Tryz.isAgg220
  z173 := Tryz.sizeOf220
  v173 := Tryz.zeroValue220
  t212 := Tryz.underlying236
  a212 := Tryz.isAgg236
  z212 := Tryz.sizeOf236
  v212 := Tryz.zeroValue236
  t213 := Tryz.underlying237
  a213 := Tryz.isAgg237
  z213 := Tryz.sizeOf237
  t232 := Tryz.underlying254
  a232 := Tryz.isAgg254
  z232 := Tryz.sizeOf254
  v232 := Tryz.zeroValue254
  t233 := Tryz.underlying255
  a233 := Tryz.isAgg255
  z233 := Tryz.sizeOf255
  v233 := Tryz.zeroValue255
  g17 := by kernel_rfl
  g18 := by kernel_rfl
  g19 := by kernel_rfl }
open Go.RowKit Go.Sort Go.Lib in
/-- THE ROAD WITHOUT THE TABLE: 0 <= i < 100: two constants are read, nothing is laid: no premise on the world, and the world is as it was. (LAID: no walk: one application.) -/
theorem Tryz.internal_strconv_FormatInt_10_small (i : Nat) (hi : i < 100) (w : World) :
    Calls Tryz.prog 204 #[.int .i64 i, .int .i64 10] w fun e w' => e = .returned (.string ⟨(Lib.decDigits i).toArray⟩) ∧ w' = w := Any.internal_strconv_FormatInt_10_small Tryz.lays246 i hi w
def Tryz.laysM243_ren : Go.Shelf.Ren := ⟨fun | 243 => 160 | 246 => 204 | 283 => 232 | 284 => 233 | 285 => 234 | 286 => 235 | 129 => 203 | 317 => 255 | 318 => 256 | 319 => 257 | 320 => 258 | 337 => 269 | 338 => 270 | n => n, fun | 3 => 3 | 9 => 9 | 2 => 2 | 4 => 4 | 171 => 218 | 0 => 0 | 53 => 201 | 37 => 122 | 5 => 5 | 173 => 220 | 212 => 236 | 51 => 199 | 20 => 20 | 213 => 237 | 46 => 170 | 232 => 254 | 233 => 255 | n => n, fun | 17 => 1 | 18 => 5 | 19 => 6 | n => n⟩
theorem Tryz.laysM243 : Go.Proofs.LaysM.n243 Tryz.prog Tryz.laysM243_ren := {
  mixed := by kernel_rfl
  f129 := Tryz.func203.trans (congrArg some (by kernel_rfl))
  f243 := Tryz.func160.trans (congrArg some (by kernel_rfl))
  f246 := Tryz.func204.trans (congrArg some (by kernel_rfl))
  f283 := Tryz.func232.trans (congrArg some (by kernel_rfl))
  f284 := Tryz.func233.trans (congrArg some (by kernel_rfl))
  f285 := Tryz.func234.trans (congrArg some (by kernel_rfl))
  f286 := Tryz.func235.trans (congrArg some (by kernel_rfl))
  f317 := Tryz.func255.trans (congrArg some (by kernel_rfl))
  f318 := Tryz.func256.trans (congrArg some (by kernel_rfl))
  f319 := Tryz.func257.trans (congrArg some (by kernel_rfl))
  f320 := Tryz.func258.trans (congrArg some (by kernel_rfl))
  f337 := Tryz.func269.trans (congrArg some (by kernel_rfl))
  f338 := Tryz.func270.trans (congrArg some (by kernel_rfl))
  t0 := Tryz.underlying0
  a0 := Tryz.isAgg0
  z0 := Tryz.sizeOf0
  v0 := Tryz.zeroValue0
  t2 := Tryz.underlying2
  a2 := Tryz.isAgg2
  z2 := Tryz.sizeOf2
  v2 := Tryz.zeroValue2
  t3 := Tryz.underlying3
  a3 := Tryz.isAgg3
  z3 := Tryz.sizeOf3
  v3 := Tryz.zeroValue3
  t4 := Tryz.underlying4
  a4 := Tryz.isAgg4
  z4 := Tryz.sizeOf4
  v4 := Tryz.zeroValue4
  t5 := Tryz.underlying5
  a5 := Tryz.isAgg5
  z5 := Tryz.sizeOf5
  v5 := Tryz.zeroValue5
  t9 := Tryz.underlying9
  a9 := Tryz.isAgg9
  z9 := Tryz.sizeOf9
  v9 := Tryz.zeroValue9
  t20 := Tryz.underlying20
  a20 := Tryz.isAgg20
  z20 := Tryz.sizeOf20
  v20 := Tryz.zeroValue20
  t37 := Tryz.underlying122
  a37 := Tryz.isAgg122
  z37 := Tryz.sizeOf122
  v37 := Tryz.zeroValue122
  t46 := Tryz.underlying170
  a46 := Tryz.isAgg170
  z46 := Tryz.sizeOf170
  v46 := Tryz.zeroValue170
  t51 := Tryz.underlying199
  a51 := Tryz.isAgg199
  z51 := Tryz.sizeOf199
  v51 := Tryz.zeroValue199
  t53 := Tryz.underlying201
  a53 := Tryz.isAgg201
  z53 := Tryz.sizeOf201
  v53 := Tryz.zeroValue201
  t171 := Tryz.underlying218
  a171 := Tryz.isAgg218
  z171 := Tryz.sizeOf218
  v171 := Tryz.zeroValue218
  t173 := Tryz.underlying220
  a173 := Tryz.isAgg220
  z173 := Tryz.sizeOf220
  v173 := Tryz.zeroValue220
  t212 := Tryz.underlying236
  a212 := Tryz.isAgg236
  z212 := Tryz.sizeOf236
  v212 := Tryz.zeroValue236
  t213 := Tryz.underlying237
  a213 := Tryz.isAgg237
  z213 := Tryz.sizeOf237
  t232 := Tryz.underlying254
  a232 := Tryz.isAgg254
  z232 := Tryz.sizeOf254
  v232 := Tryz.zeroValue254
  t233 := Tryz.underlying255
  a233 := Tryz.isAgg255
  z233 := Tryz.sizeOf255
  v233 := Tryz.zeroValue255
  g17 := by kernel_rfl
  g18 := by kernel_rfl
  g19 := by kernel_rfl
  i0 := by kernel_rfl
  i2 := by kernel_rfl
  i3 := by kernel_rfl
  i4 := by kernel_rfl
  i5 := by kernel_rfl
  i9 := by kernel_rfl
  i20 := by kernel_rfl
  i37 := by kernel_rfl
  i46 := by kernel_rfl
  i51 := by kernel_rfl
  i53 := by kernel_rfl
  i171 := by kernel_rfl
  i173 := by kernel_rfl
  i212 := by kernel_rfl
  i232 := by kernel_rfl
  i233 := by kernel_rfl
  m17 := by kernel_rfl
  m18 := by kernel_rfl
  m19 := by kernel_rfl }
open Go.RowKit Go.Sort Go.Lib in
/-- internal/strconv.Itoa: "Itoa is equivalent to FormatInt(int64(i), 10).": i's decimal numeral, for every int. (LAID: no walk: one application.) -/
theorem Tryz.internal_strconv_Itoa (n : Int) (h0 : -9223372036854775808 ≤ n) (h1 : n ≤ 9223372036854775807) (w : World) (htab : Lib.TabIs Tryz.prog w "internal/strconv.uint64pow10" .u64 Lib.pow10Tab) :
    Calls Tryz.prog 160 #[.int .i64 n] w fun e w' => e = .returned (.string ⟨(Lib.itoa n).toArray⟩) ∧ ∃ k os, w' = grow (w.drewN k) os := Any.internal_strconv_Itoa Tryz.laysM243 n h0 h1 w htab
def Tryz.lays243_ren : Go.Shelf.Ren := ⟨fun | 243 => 160 | 246 => 204 | 283 => 232 | 284 => 233 | 285 => 234 | 286 => 235 | 129 => 203 | 317 => 255 | 318 => 256 | 319 => 257 | 320 => 258 | 337 => 269 | 338 => 270 | n => n, fun | 3 => 3 | 9 => 9 | 2 => 2 | 4 => 4 | 171 => 218 | 0 => 0 | 53 => 201 | 37 => 122 | 5 => 5 | 173 => 220 | 212 => 236 | 51 => 199 | 20 => 20 | 213 => 237 | 46 => 170 | 232 => 254 | 233 => 255 | n => n, fun | 17 => 1 | 18 => 5 | 19 => 6 | n => n⟩
theorem Tryz.lays243 : Go.Proofs.Lays.n243 Tryz.prog Tryz.lays243_ren := {
  mixed := by kernel_rfl
  f129 := Tryz.func203.trans (congrArg some (by kernel_rfl))
  f243 := Tryz.func160.trans (congrArg some (by kernel_rfl))
  f246 := Tryz.func204.trans (congrArg some (by kernel_rfl))
  f283 := Tryz.func232.trans (congrArg some (by kernel_rfl))
  f284 := Tryz.func233.trans (congrArg some (by kernel_rfl))
  f285 := Tryz.func234.trans (congrArg some (by kernel_rfl))
  f286 := Tryz.func235.trans (congrArg some (by kernel_rfl))
  f317 := Tryz.func255.trans (congrArg some (by kernel_rfl))
  f318 := Tryz.func256.trans (congrArg some (by kernel_rfl))
  f319 := Tryz.func257.trans (congrArg some (by kernel_rfl))
  f320 := Tryz.func258.trans (congrArg some (by kernel_rfl))
  f337 := Tryz.func269.trans (congrArg some (by kernel_rfl))
  f338 := Tryz.func270.trans (congrArg some (by kernel_rfl))
  t0 := Tryz.underlying0
  a0 := Tryz.isAgg0
  z0 := Tryz.sizeOf0
  v0 := Tryz.zeroValue0
  t2 := Tryz.underlying2
  a2 := Tryz.isAgg2
  z2 := Tryz.sizeOf2
  v2 := Tryz.zeroValue2
  t3 := Tryz.underlying3
  a3 := Tryz.isAgg3
  z3 := Tryz.sizeOf3
  v3 := Tryz.zeroValue3
  t4 := Tryz.underlying4
  a4 := Tryz.isAgg4
  z4 := Tryz.sizeOf4
  v4 := Tryz.zeroValue4
  t5 := Tryz.underlying5
  a5 := Tryz.isAgg5
  z5 := Tryz.sizeOf5
  v5 := Tryz.zeroValue5
  t9 := Tryz.underlying9
  a9 := Tryz.isAgg9
  z9 := Tryz.sizeOf9
  v9 := Tryz.zeroValue9
  t20 := Tryz.underlying20
  a20 := Tryz.isAgg20
  z20 := Tryz.sizeOf20
  v20 := Tryz.zeroValue20
  t37 := Tryz.underlying122
  a37 := Tryz.isAgg122
  z37 := Tryz.sizeOf122
  v37 := Tryz.zeroValue122
  t46 := Tryz.underlying170
  a46 := Tryz.isAgg170
  z46 := Tryz.sizeOf170
  v46 := Tryz.zeroValue170
  t51 := Tryz.underlying199
  a51 := Tryz.isAgg199
  z51 := Tryz.sizeOf199
  v51 := Tryz.zeroValue199
  t53 := Tryz.underlying201
  a53 := Tryz.isAgg201
  z53 := Tryz.sizeOf201
  v53 := Tryz.zeroValue201
  t171 := Tryz.underlying218
  a171 := Tryz.isAgg218
  z171 := Tryz.sizeOf218
  v171 := Tryz.zeroValue218
  t173 := Tryz.underlying220
  a173 := Tryz.isAgg220
  z173 := Tryz.sizeOf220
  v173 := Tryz.zeroValue220
  t212 := Tryz.underlying236
  a212 := Tryz.isAgg236
  z212 := Tryz.sizeOf236
  v212 := Tryz.zeroValue236
  t213 := Tryz.underlying237
  a213 := Tryz.isAgg237
  z213 := Tryz.sizeOf237
  t232 := Tryz.underlying254
  a232 := Tryz.isAgg254
  z232 := Tryz.sizeOf254
  v232 := Tryz.zeroValue254
  t233 := Tryz.underlying255
  a233 := Tryz.isAgg255
  z233 := Tryz.sizeOf255
  v233 := Tryz.zeroValue255
  g17 := by kernel_rfl
  g18 := by kernel_rfl
  g19 := by kernel_rfl }
open Go.RowKit Go.Sort Go.Lib in
/-- THE ROAD WITHOUT THE TABLE: 0 <= i < 100. (LAID: no walk: one application.) -/
theorem Tryz.internal_strconv_Itoa_small (i : Nat) (hi : i < 100) (w : World) :
    Calls Tryz.prog 160 #[.int .i64 i] w fun e w' => e = .returned (.string ⟨(Lib.decDigits i).toArray⟩) ∧ w' = w := Any.internal_strconv_Itoa_small Tryz.lays243 i hi w
def Tryz.laysM171_ren : Go.Shelf.Ren := ⟨fun | 171 => 86 | 243 => 160 | 246 => 204 | 283 => 232 | 284 => 233 | 285 => 234 | 286 => 235 | 129 => 203 | 317 => 255 | 318 => 256 | 319 => 257 | 320 => 258 | 337 => 269 | 338 => 270 | n => n, fun | 3 => 3 | 9 => 9 | 2 => 2 | 4 => 4 | 171 => 218 | 0 => 0 | 53 => 201 | 37 => 122 | 5 => 5 | 173 => 220 | 212 => 236 | 51 => 199 | 20 => 20 | 213 => 237 | 46 => 170 | 232 => 254 | 233 => 255 | n => n, fun | 17 => 1 | 18 => 5 | 19 => 6 | n => n⟩
theorem Tryz.laysM171 : Go.Proofs.LaysM.n171 Tryz.prog Tryz.laysM171_ren := {
  mixed := by kernel_rfl
  f129 := Tryz.func203.trans (congrArg some (by kernel_rfl))
  f171 := Tryz.func86.trans (congrArg some (by kernel_rfl))
  f243 := Tryz.func160.trans (congrArg some (by kernel_rfl))
  f246 := Tryz.func204.trans (congrArg some (by kernel_rfl))
  f283 := Tryz.func232.trans (congrArg some (by kernel_rfl))
  f284 := Tryz.func233.trans (congrArg some (by kernel_rfl))
  f285 := Tryz.func234.trans (congrArg some (by kernel_rfl))
  f286 := Tryz.func235.trans (congrArg some (by kernel_rfl))
  f317 := Tryz.func255.trans (congrArg some (by kernel_rfl))
  f318 := Tryz.func256.trans (congrArg some (by kernel_rfl))
  f319 := Tryz.func257.trans (congrArg some (by kernel_rfl))
  f320 := Tryz.func258.trans (congrArg some (by kernel_rfl))
  f337 := Tryz.func269.trans (congrArg some (by kernel_rfl))
  f338 := Tryz.func270.trans (congrArg some (by kernel_rfl))
  t0 := Tryz.underlying0
  a0 := Tryz.isAgg0
  z0 := Tryz.sizeOf0
  v0 := Tryz.zeroValue0
  t2 := Tryz.underlying2
  a2 := Tryz.isAgg2
  z2 := Tryz.sizeOf2
  v2 := Tryz.zeroValue2
  t3 := Tryz.underlying3
  a3 := Tryz.isAgg3
  z3 := Tryz.sizeOf3
  v3 := Tryz.zeroValue3
  t4 := Tryz.underlying4
  a4 := Tryz.isAgg4
  z4 := Tryz.sizeOf4
  v4 := Tryz.zeroValue4
  t5 := Tryz.underlying5
  a5 := Tryz.isAgg5
  z5 := Tryz.sizeOf5
  v5 := Tryz.zeroValue5
  t9 := Tryz.underlying9
  a9 := Tryz.isAgg9
  z9 := Tryz.sizeOf9
  v9 := Tryz.zeroValue9
  t20 := Tryz.underlying20
  a20 := Tryz.isAgg20
  z20 := Tryz.sizeOf20
  v20 := Tryz.zeroValue20
  t37 := Tryz.underlying122
  a37 := Tryz.isAgg122
  z37 := Tryz.sizeOf122
  v37 := Tryz.zeroValue122
  t46 := Tryz.underlying170
  a46 := Tryz.isAgg170
  z46 := Tryz.sizeOf170
  v46 := Tryz.zeroValue170
  t51 := Tryz.underlying199
  a51 := Tryz.isAgg199
  z51 := Tryz.sizeOf199
  v51 := Tryz.zeroValue199
  t53 := Tryz.underlying201
  a53 := Tryz.isAgg201
  z53 := Tryz.sizeOf201
  v53 := Tryz.zeroValue201
  t171 := Tryz.underlying218
  a171 := Tryz.isAgg218
  z171 := Tryz.sizeOf218
  v171 := Tryz.zeroValue218
  t173 := Tryz.underlying220
  a173 := Tryz.isAgg220
  z173 := Tryz.sizeOf220
  v173 := Tryz.zeroValue220
  t212 := Tryz.underlying236
  a212 := Tryz.isAgg236
  z212 := Tryz.sizeOf236
  v212 := Tryz.zeroValue236
  t213 := Tryz.underlying237
  a213 := Tryz.isAgg237
  z213 := Tryz.sizeOf237
  t232 := Tryz.underlying254
  a232 := Tryz.isAgg254
  z232 := Tryz.sizeOf254
  v232 := Tryz.zeroValue254
  t233 := Tryz.underlying255
  a233 := Tryz.isAgg255
  z233 := Tryz.sizeOf255
  v233 := Tryz.zeroValue255
  g17 := by kernel_rfl
  g18 := by kernel_rfl
  g19 := by kernel_rfl
  i0 := by kernel_rfl
  i2 := by kernel_rfl
  i3 := by kernel_rfl
  i4 := by kernel_rfl
  i5 := by kernel_rfl
  i9 := by kernel_rfl
  i20 := by kernel_rfl
  i37 := by kernel_rfl
  i46 := by kernel_rfl
  i51 := by kernel_rfl
  i53 := by kernel_rfl
  i171 := by kernel_rfl
  i173 := by kernel_rfl
  i212 := by kernel_rfl
  i232 := by kernel_rfl
  i233 := by kernel_rfl
  m17 := by kernel_rfl
  m18 := by kernel_rfl
  m19 := by kernel_rfl }
open Go.RowKit Go.Sort Go.Lib in
/-- strconv.Itoa: "Itoa is equivalent to FormatInt(int64(i), 10).": i's DECIMAL NUMERAL ('Lib.itoa': a '-' where i is negative, then the digits), FOR EVERY int. The world behind the call: the world before it, new blocks behind the heap (the library's 'var a [24]byte'), draws. (LAID: no walk: one application.) -/
theorem Tryz.strconv_Itoa (n : Int) (h0 : -9223372036854775808 ≤ n) (h1 : n ≤ 9223372036854775807) (w : World) (htab : Lib.TabIs Tryz.prog w "internal/strconv.uint64pow10" .u64 Lib.pow10Tab) :
    Calls Tryz.prog 86 #[.int .i64 n] w fun e w' => e = .returned (.string ⟨(Lib.itoa n).toArray⟩) ∧ ∃ k os, w' = grow (w.drewN k) os := Any.strconv_Itoa Tryz.laysM171 n h0 h1 w htab
def Tryz.lays171_ren : Go.Shelf.Ren := ⟨fun | 171 => 86 | 243 => 160 | 246 => 204 | 283 => 232 | 284 => 233 | 285 => 234 | 286 => 235 | 129 => 203 | 317 => 255 | 318 => 256 | 319 => 257 | 320 => 258 | 337 => 269 | 338 => 270 | n => n, fun | 3 => 3 | 9 => 9 | 2 => 2 | 4 => 4 | 171 => 218 | 0 => 0 | 53 => 201 | 37 => 122 | 5 => 5 | 173 => 220 | 212 => 236 | 51 => 199 | 20 => 20 | 213 => 237 | 46 => 170 | 232 => 254 | 233 => 255 | n => n, fun | 17 => 1 | 18 => 5 | 19 => 6 | n => n⟩
theorem Tryz.lays171 : Go.Proofs.Lays.n171 Tryz.prog Tryz.lays171_ren := {
  mixed := by kernel_rfl
  f129 := Tryz.func203.trans (congrArg some (by kernel_rfl))
  f171 := Tryz.func86.trans (congrArg some (by kernel_rfl))
  f243 := Tryz.func160.trans (congrArg some (by kernel_rfl))
  f246 := Tryz.func204.trans (congrArg some (by kernel_rfl))
  f283 := Tryz.func232.trans (congrArg some (by kernel_rfl))
  f284 := Tryz.func233.trans (congrArg some (by kernel_rfl))
  f285 := Tryz.func234.trans (congrArg some (by kernel_rfl))
  f286 := Tryz.func235.trans (congrArg some (by kernel_rfl))
  f317 := Tryz.func255.trans (congrArg some (by kernel_rfl))
  f318 := Tryz.func256.trans (congrArg some (by kernel_rfl))
  f319 := Tryz.func257.trans (congrArg some (by kernel_rfl))
  f320 := Tryz.func258.trans (congrArg some (by kernel_rfl))
  f337 := Tryz.func269.trans (congrArg some (by kernel_rfl))
  f338 := Tryz.func270.trans (congrArg some (by kernel_rfl))
  t0 := Tryz.underlying0
  a0 := Tryz.isAgg0
  z0 := Tryz.sizeOf0
  v0 := Tryz.zeroValue0
  t2 := Tryz.underlying2
  a2 := Tryz.isAgg2
  z2 := Tryz.sizeOf2
  v2 := Tryz.zeroValue2
  t3 := Tryz.underlying3
  a3 := Tryz.isAgg3
  z3 := Tryz.sizeOf3
  v3 := Tryz.zeroValue3
  t4 := Tryz.underlying4
  a4 := Tryz.isAgg4
  z4 := Tryz.sizeOf4
  v4 := Tryz.zeroValue4
  t5 := Tryz.underlying5
  a5 := Tryz.isAgg5
  z5 := Tryz.sizeOf5
  v5 := Tryz.zeroValue5
  t9 := Tryz.underlying9
  a9 := Tryz.isAgg9
  z9 := Tryz.sizeOf9
  v9 := Tryz.zeroValue9
  t20 := Tryz.underlying20
  a20 := Tryz.isAgg20
  z20 := Tryz.sizeOf20
  v20 := Tryz.zeroValue20
  t37 := Tryz.underlying122
  a37 := Tryz.isAgg122
  z37 := Tryz.sizeOf122
  v37 := Tryz.zeroValue122
  t46 := Tryz.underlying170
  a46 := Tryz.isAgg170
  z46 := Tryz.sizeOf170
  v46 := Tryz.zeroValue170
  t51 := Tryz.underlying199
  a51 := Tryz.isAgg199
  z51 := Tryz.sizeOf199
  v51 := Tryz.zeroValue199
  t53 := Tryz.underlying201
  a53 := Tryz.isAgg201
  z53 := Tryz.sizeOf201
  v53 := Tryz.zeroValue201
  t171 := Tryz.underlying218
  a171 := Tryz.isAgg218
  z171 := Tryz.sizeOf218
  v171 := Tryz.zeroValue218
  t173 := Tryz.underlying220
  a173 := Tryz.isAgg220
  z173 := Tryz.sizeOf220
  v173 := Tryz.zeroValue220
  t212 := Tryz.underlying236
  a212 := Tryz.isAgg236
  z212 := Tryz.sizeOf236
  v212 := Tryz.zeroValue236
  t213 := Tryz.underlying237
  a213 := Tryz.isAgg237
  z213 := Tryz.sizeOf237
  t232 := Tryz.underlying254
  a232 := Tryz.isAgg254
  z232 := Tryz.sizeOf254
  v232 := Tryz.zeroValue254
  t233 := Tryz.underlying255
  a233 := Tryz.isAgg255
  z233 := Tryz.sizeOf255
  v233 := Tryz.zeroValue255
  g17 := by kernel_rfl
  g18 := by kernel_rfl
  g19 := by kernel_rfl }
open Go.RowKit Go.Sort Go.Lib in
/-- THE ROAD WITHOUT THE TABLE: 0 <= i < 100: NO PREMISE ON THE WORLD, AND THE WORLD IS AS IT WAS: a row that keeps its argument in that range need list no table ('laid = []'). (LAID: no walk: one application.) -/
theorem Tryz.strconv_Itoa_small (i : Nat) (hi : i < 100) (w : World) :
    Calls Tryz.prog 86 #[.int .i64 i] w fun e w' => e = .returned (.string ⟨(Lib.decDigits i).toArray⟩) ∧ w' = w := Any.strconv_Itoa_small Tryz.lays171 i hi w
def Tryz.lays217_ren : Go.Shelf.Ren := ⟨fun | 217 => 241 | 266 => 259 | n => n, fun | 9 => 9 | 5 => 5 | 3 => 3 | n => n, fun | n => n⟩
theorem Tryz.lays217 : Go.Proofs.Lays.n217 Tryz.prog Tryz.lays217_ren := {
  mixed := by kernel_rfl
  f217 := Tryz.func241.trans (congrArg some (by kernel_rfl))
  f266 := Tryz.func259.trans (congrArg some (by kernel_rfl))
  t3 := Tryz.underlying3
  a3 := Tryz.isAgg3
  z3 := Tryz.sizeOf3
  v3 := Tryz.zeroValue3
  t5 := Tryz.underlying5
  a5 := Tryz.isAgg5
  z5 := Tryz.sizeOf5
  v5 := Tryz.zeroValue5
  t9 := Tryz.underlying9
  a9 := Tryz.isAgg9
  z9 := Tryz.sizeOf9
  v9 := Tryz.zeroValue9 }
open Go.RowKit Go.Lib in
/-- internal/stringslite.IndexByte (what strings.IndexByte calls): IT RETURNS 'Lib.indexByte s c'; the world is as it was. (LAID: no walk: one application.) -/
theorem Tryz.stringslite_IndexByte (s : ByteArray) (c : Int) (w : World) :
    Calls Tryz.prog 241 #[.string s, .int .u8 c] w fun e w' => e = .returned (.int .i64 (Lib.indexByte s.data.toList c.toNat.toUInt8)) ∧ w' = w := Any.stringslite_IndexByte Tryz.lays217 s c w
def Tryz.lays224_ren : Go.Shelf.Ren := ⟨fun | 224 => 276 | n => n, fun | 3 => 3 | n => n, fun | n => n⟩
theorem Tryz.lays224 : Go.Proofs.Lays.n224 Tryz.prog Tryz.lays224_ren := {
  mixed := by kernel_rfl
  f224 := Tryz.func276.trans (congrArg some (by kernel_rfl))
  t3 := Tryz.underlying3
  a3 := Tryz.isAgg3
  z3 := Tryz.sizeOf3
  v3 := Tryz.zeroValue3 }
open Go.RowKit Go.Lib in
/-- internal/bytealg.Cutover: "Cutover reports the number of failures of IndexByte we should tolerate before switching over to Index. n is the number of bytes processed so far.": on amd64: (n + 16) / 8. (LAID: no walk: one application.) -/
theorem Tryz.bytealg_Cutover (n : Int) (h0 : 0 ≤ n) (h1 : n < 4611686018427387904) (w : World) :
    Calls Tryz.prog 276 #[.int .i64 n] w fun e w' => e = .returned (.int .i64 ((n + 16) / 8)) ∧ w' = w := Any.bytealg_Cutover Tryz.lays224 n h0 h1 w
def Tryz.lays314_ren : Go.Shelf.Ren := ⟨fun | 314 => 281 | n => n, fun | 9 => 9 | 51 => 199 | 3 => 3 | 4 => 4 | 5 => 5 | 46 => 170 | n => n, fun | n => n⟩
theorem Tryz.lays314 : Go.Proofs.Lays.n314 Tryz.prog Tryz.lays314_ren := {
  mixed := by kernel_rfl
  f314 := Tryz.func281.trans (congrArg some (by kernel_rfl))
  t3 := Tryz.underlying3
  a3 := Tryz.isAgg3
  z3 := Tryz.sizeOf3
  v3 := Tryz.zeroValue3
  t4 := Tryz.underlying4
  a4 := Tryz.isAgg4
  z4 := Tryz.sizeOf4
  v4 := Tryz.zeroValue4
  t5 := Tryz.underlying5
  a5 := Tryz.isAgg5
  z5 := Tryz.sizeOf5
  v5 := Tryz.zeroValue5
  t9 := Tryz.underlying9
  a9 := Tryz.isAgg9
  z9 := Tryz.sizeOf9
  v9 := Tryz.zeroValue9
  t46 := Tryz.underlying170
  a46 := Tryz.isAgg170
  z46 := Tryz.sizeOf170
  v46 := Tryz.zeroValue170
  t51 := Tryz.underlying199
  a51 := Tryz.isAgg199
  z51 := Tryz.sizeOf199
  v51 := Tryz.zeroValue199 }
open Go.RowKit Go.Lib in
/-- hashStr: "returns the hash and the appropriate multiplicative factor for use in Rabin-Karp algorithm": THE HASH OF ALL OF sep, AND 16777619 ^ len(sep), both in uint32. (LAID: no walk: one application.) -/
theorem Tryz.bytealg_hashStr (sep : ByteArray) (hs : sep.size < 4294967281) (w : World) :
    Calls Tryz.prog 281 #[.string sep] w fun e w' => e = .returned (.tuple #[.int .u32 (RK.H sep.data.toList % 4294967296), .int .u32 (16777619 ^ sep.size % 4294967296)]) ∧ w' = w := Any.bytealg_hashStr Tryz.lays314 sep hs w
def Tryz.lays267_ren : Go.Shelf.Ren := ⟨fun | 267 => 277 | 314 => 281 | n => n, fun | 9 => 9 | 3 => 3 | 146 => 264 | 51 => 199 | 4 => 4 | 5 => 5 | 46 => 170 | n => n, fun | n => n⟩
theorem Tryz.lays267 : Go.Proofs.Lays.n267 Tryz.prog Tryz.lays267_ren := {
  mixed := by kernel_rfl
  f267 := Tryz.func277.trans (congrArg some (by kernel_rfl))
  f314 := Tryz.func281.trans (congrArg some (by kernel_rfl))
  t3 := Tryz.underlying3
  a3 := Tryz.isAgg3
  z3 := Tryz.sizeOf3
  v3 := Tryz.zeroValue3
  t4 := Tryz.underlying4
  a4 := Tryz.isAgg4
  z4 := Tryz.sizeOf4
  v4 := Tryz.zeroValue4
  t5 := Tryz.underlying5
  a5 := Tryz.isAgg5
  z5 := Tryz.sizeOf5
  v5 := Tryz.zeroValue5
  t9 := Tryz.underlying9
  a9 := Tryz.isAgg9
  z9 := Tryz.sizeOf9
  v9 := Tryz.zeroValue9
  t46 := Tryz.underlying170
  a46 := Tryz.isAgg170
  z46 := Tryz.sizeOf170
  v46 := Tryz.zeroValue170
  t51 := Tryz.underlying199
  a51 := Tryz.isAgg199
  z51 := Tryz.sizeOf199
  v51 := Tryz.zeroValue199
  t146 := Tryz.underlying264
  a146 := Tryz.isAgg264
  z146 := Tryz.sizeOf264
  v146 := Tryz.zeroValue264 }
open Go.RowKit Go.Lib in
theorem Tryz.bytealg_IndexRabinKarp (s sep : ByteArray) (h1 : 1 ≤ sep.size) (h2 : sep.size ≤ s.size) (hs : s.size < 4294967281) (w : World) :
    Calls Tryz.prog 277 #[.string s, .string sep] w fun e w' => e = .returned (.int .i64 (Lib.index s.data.toList sep.data.toList)) ∧ w' = w := Any.bytealg_IndexRabinKarp Tryz.lays267 s sep h1 h2 hs w
def Tryz.lays219_ren : Go.Shelf.Ren := ⟨fun | 219 => 265 | 217 => 241 | 225 => 275 | 224 => 276 | 267 => 277 | 266 => 259 | 314 => 281 | n => n, fun | 9 => 9 | 3 => 3 | 4 => 4 | 5 => 5 | 46 => 170 | 146 => 264 | 51 => 199 | n => n, fun | 1 => 0 | n => n⟩
theorem Tryz.lays219 : Go.Proofs.Lays.n219 Tryz.prog Tryz.lays219_ren := {
  mixed := by kernel_rfl
  f217 := Tryz.func241.trans (congrArg some (by kernel_rfl))
  f219 := Tryz.func265.trans (congrArg some (by kernel_rfl))
  f224 := Tryz.func276.trans (congrArg some (by kernel_rfl))
  f225 := Tryz.func275.trans (congrArg some (by kernel_rfl))
  f266 := Tryz.func259.trans (congrArg some (by kernel_rfl))
  f267 := Tryz.func277.trans (congrArg some (by kernel_rfl))
  f314 := Tryz.func281.trans (congrArg some (by kernel_rfl))
  t3 := Tryz.underlying3
  a3 := Tryz.isAgg3
  z3 := Tryz.sizeOf3
  v3 := Tryz.zeroValue3
  t4 := Tryz.underlying4
  a4 := Tryz.isAgg4
  z4 := Tryz.sizeOf4
  v4 := Tryz.zeroValue4
  t5 := Tryz.underlying5
  a5 := Tryz.isAgg5
  z5 := Tryz.sizeOf5
  v5 := Tryz.zeroValue5
  t9 := Tryz.underlying9
  a9 := Tryz.isAgg9
  z9 := Tryz.sizeOf9
  v9 := Tryz.zeroValue9
  t46 := Tryz.underlying170
  a46 := Tryz.isAgg170
  z46 := Tryz.sizeOf170
  v46 := Tryz.zeroValue170
  t51 := Tryz.underlying199
  a51 := Tryz.isAgg199
  z51 := Tryz.sizeOf199
  v51 := Tryz.zeroValue199
  t146 := Tryz.underlying264
  a146 := Tryz.isAgg264
  z146 := Tryz.sizeOf264
  v146 := Tryz.zeroValue264
  g1 := by kernel_rfl }
open Go.RowKit Go.Lib in
/-- internal/stringslite.Index (what strings.Index calls) AT A substr OF ONE BYTE c: IT RETURNS 'Lib.indexByte s c'; the world is as it was. (LAID: no walk: one application.) -/
theorem Tryz.stringslite_Index_one (s : ByteArray) (c : UInt8) (w : World) :
    Calls Tryz.prog 265 #[.string s, .string ⟨#[c]⟩] w fun e w' => e = .returned (.int .i64 (Lib.indexByte s.data.toList c)) ∧ w' = w := Any.stringslite_Index_one Tryz.lays219 s c w
open Go.RowKit Go.Lib in
/-- internal/stringslite.Index (what strings.Index calls) AT A substr OF WHATEVER LENGTH: IT RETURNS 'Lib.index s substr'; the world is as it was. 'm': what internal/bytealg.MaxLen holds: whatever. (LAID: no walk: one application.) -/
theorem Tryz.stringslite_Index (s sub : ByteArray) (m : Int) (w : World) (hs : s.size < 4294967281) (hm : w.cell? ⟨0, 0, none⟩ = some (.int .i64 m)) :
    Calls Tryz.prog 265 #[.string s, .string sub] w fun e w' => e = .returned (.int .i64 (Lib.index s.data.toList sub.data.toList)) ∧ w' = w := Any.stringslite_Index Tryz.lays219 s sub m w hs hm
def Tryz.lays143_ren : Go.Shelf.Ren := ⟨fun | 143 => 248 | 219 => 265 | 217 => 241 | 225 => 275 | 224 => 276 | 267 => 277 | 266 => 259 | 314 => 281 | n => n, fun | 9 => 9 | 3 => 3 | 4 => 4 | 5 => 5 | 46 => 170 | 146 => 264 | 51 => 199 | n => n, fun | 1 => 0 | n => n⟩
theorem Tryz.lays143 : Go.Proofs.Lays.n143 Tryz.prog Tryz.lays143_ren := {
  mixed := by kernel_rfl
  f143 := Tryz.func248.trans (congrArg some (by kernel_rfl))
  f217 := Tryz.func241.trans (congrArg some (by kernel_rfl))
  f219 := Tryz.func265.trans (congrArg some (by kernel_rfl))
  f224 := Tryz.func276.trans (congrArg some (by kernel_rfl))
  f225 := Tryz.func275.trans (congrArg some (by kernel_rfl))
  f266 := Tryz.func259.trans (congrArg some (by kernel_rfl))
  f267 := Tryz.func277.trans (congrArg some (by kernel_rfl))
  f314 := Tryz.func281.trans (congrArg some (by kernel_rfl))
  t3 := Tryz.underlying3
  a3 := Tryz.isAgg3
  z3 := Tryz.sizeOf3
  v3 := Tryz.zeroValue3
  t4 := Tryz.underlying4
  a4 := Tryz.isAgg4
  z4 := Tryz.sizeOf4
  v4 := Tryz.zeroValue4
  t5 := Tryz.underlying5
  a5 := Tryz.isAgg5
  z5 := Tryz.sizeOf5
  v5 := Tryz.zeroValue5
  t9 := Tryz.underlying9
  a9 := Tryz.isAgg9
  z9 := Tryz.sizeOf9
  v9 := Tryz.zeroValue9
  t46 := Tryz.underlying170
  a46 := Tryz.isAgg170
  z46 := Tryz.sizeOf170
  v46 := Tryz.zeroValue170
  t51 := Tryz.underlying199
  a51 := Tryz.isAgg199
  z51 := Tryz.sizeOf199
  v51 := Tryz.zeroValue199
  t146 := Tryz.underlying264
  a146 := Tryz.isAgg264
  z146 := Tryz.sizeOf264
  v146 := Tryz.zeroValue264
  g1 := by kernel_rfl }
open Go.RowKit Go.Lib in
/-- strings.Index: "Index returns the index of the first instance of substr in s, or -1 if substr is not present in s.": AT A substr OF ONE BYTE c: IT RETURNS 'Lib.indexByte s c'; the world is as it was. (LAID: no walk: one application.) -/
theorem Tryz.strings_Index_one (s : ByteArray) (c : UInt8) (w : World) :
    Calls Tryz.prog 248 #[.string s, .string ⟨#[c]⟩] w fun e w' => e = .returned (.int .i64 (Lib.indexByte s.data.toList c)) ∧ w' = w := Any.strings_Index_one Tryz.lays143 s c w
open Go.RowKit Go.Lib in
/-- strings.Index: "Index returns the index of the first instance of substr in s, or -1 if substr is not present in s.": IT RETURNS 'Lib.index s substr'; the world is as it was. (LAID: no walk: one application.) -/
theorem Tryz.strings_Index (s sub : ByteArray) (m : Int) (w : World) (hs : s.size < 4294967281) (hm : w.cell? ⟨0, 0, none⟩ = some (.int .i64 m)) :
    Calls Tryz.prog 248 #[.string s, .string sub] w fun e w' => e = .returned (.int .i64 (Lib.index s.data.toList sub.data.toList)) ∧ w' = w := Any.strings_Index Tryz.lays143 s sub m w hs hm
def Tryz.lays138_ren : Go.Shelf.Ren := ⟨fun | 138 => 247 | 195 => 262 | 218 => 264 | 143 => 248 | 219 => 265 | 217 => 241 | 225 => 275 | 224 => 276 | 267 => 277 | 266 => 259 | 314 => 281 | n => n, fun | 9 => 9 | 3 => 3 | 4 => 4 | 5 => 5 | 0 => 0 | 46 => 170 | 146 => 264 | 51 => 199 | n => n, fun | 1 => 0 | n => n⟩
theorem Tryz.lays138 : Go.Proofs.Lays.n138 Tryz.prog Tryz.lays138_ren := {
  mixed := by kernel_rfl
  f138 := Tryz.func247.trans (congrArg some (by kernel_rfl))
  f143 := Tryz.func248.trans (congrArg some (by kernel_rfl))
  f195 := Tryz.func262.trans (congrArg some (by kernel_rfl))
  f217 := Tryz.func241.trans (congrArg some (by kernel_rfl))
  f218 := Tryz.func264.trans (congrArg some (by kernel_rfl))
  f219 := Tryz.func265.trans (congrArg some (by kernel_rfl))
  f224 := Tryz.func276.trans (congrArg some (by kernel_rfl))
  f225 := Tryz.func275.trans (congrArg some (by kernel_rfl))
  f266 := Tryz.func259.trans (congrArg some (by kernel_rfl))
  f267 := Tryz.func277.trans (congrArg some (by kernel_rfl))
  f314 := Tryz.func281.trans (congrArg some (by kernel_rfl))
  t0 := Tryz.underlying0
  a0 := Tryz.isAgg0
  z0 := Tryz.sizeOf0
  v0 := Tryz.zeroValue0
  t3 := Tryz.underlying3
  a3 := Tryz.isAgg3
  z3 := Tryz.sizeOf3
  v3 := Tryz.zeroValue3
  t4 := Tryz.underlying4
  a4 := Tryz.isAgg4
  z4 := Tryz.sizeOf4
  v4 := Tryz.zeroValue4
  t5 := Tryz.underlying5
  a5 := Tryz.isAgg5
  z5 := Tryz.sizeOf5
  v5 := Tryz.zeroValue5
  t9 := Tryz.underlying9
  a9 := Tryz.isAgg9
  z9 := Tryz.sizeOf9
  v9 := Tryz.zeroValue9
  t46 := Tryz.underlying170
  a46 := Tryz.isAgg170
  z46 := Tryz.sizeOf170
  v46 := Tryz.zeroValue170
  t51 := Tryz.underlying199
  a51 := Tryz.isAgg199
  z51 := Tryz.sizeOf199
  v51 := Tryz.zeroValue199
  t146 := Tryz.underlying264
  a146 := Tryz.isAgg264
  z146 := Tryz.sizeOf264
  v146 := Tryz.zeroValue264
  g1 := by kernel_rfl }
open Go.RowKit Go.Lib in
/-- strings.Count AT A substr OF ONE BYTE ('hp'): "Count counts the number of non-overlapping instances of substr in s.": IT RETURNS 'Lib.countByte s (that byte)'; the world is as it was. ✋ NO CONTRACT HERE YET at an empty substr (utf8.RuneCountInString) or at a longer one (a loop over strings.Index). (LAID: no walk: one application.) -/
theorem Tryz.strings_Count_one (s : ByteArray) (c : UInt8) (w : World) :
    Calls Tryz.prog 247 #[.string s, .string ⟨#[c]⟩] w fun e w' => e = .returned (.int .i64 (Lib.countByte s.data.toList c)) ∧ w' = w := Any.strings_Count_one Tryz.lays138 s c w
open Go.RowKit Go.Lib in
/-- strings.Count AT A substr OF TWO BYTES OR MORE: "Count counts the number of non-overlapping instances of substr in s.": IT RETURNS 'Lib.count s substr'; the world is as it was. (LAID: no walk: one application.) -/
theorem Tryz.strings_Count (s sub : ByteArray) (m : Int) (w : World) (hs : s.size < 4294967281) (hm : w.cell? ⟨0, 0, none⟩ = some (.int .i64 m)) (h2 : 2 ≤ sub.size) :
    Calls Tryz.prog 247 #[.string s, .string sub] w fun e w' => e = .returned (.int .i64 (Lib.countB s sub)) ∧ w' = w := Any.strings_Count Tryz.lays138 s sub m w hs hm h2
def Tryz.laysM219_ren : Go.Shelf.Ren := ⟨fun | 219 => 265 | 217 => 241 | 225 => 275 | 224 => 276 | 267 => 277 | 266 => 259 | 314 => 281 | n => n, fun | 9 => 9 | 3 => 3 | 4 => 4 | 5 => 5 | 46 => 170 | 146 => 264 | 51 => 199 | n => n, fun | 1 => 0 | n => n⟩
theorem Tryz.laysM219 : Go.Proofs.LaysM.n219 Tryz.prog Tryz.laysM219_ren := {
  mixed := by kernel_rfl
  f217 := Tryz.func241.trans (congrArg some (by kernel_rfl))
  f219 := Tryz.func265.trans (congrArg some (by kernel_rfl))
  f224 := Tryz.func276.trans (congrArg some (by kernel_rfl))
  f225 := Tryz.func275.trans (congrArg some (by kernel_rfl))
  f266 := Tryz.func259.trans (congrArg some (by kernel_rfl))
  f267 := Tryz.func277.trans (congrArg some (by kernel_rfl))
  f314 := Tryz.func281.trans (congrArg some (by kernel_rfl))
  t3 := Tryz.underlying3
  a3 := Tryz.isAgg3
  z3 := Tryz.sizeOf3
  v3 := Tryz.zeroValue3
  t4 := Tryz.underlying4
  a4 := Tryz.isAgg4
  z4 := Tryz.sizeOf4
  v4 := Tryz.zeroValue4
  t5 := Tryz.underlying5
  a5 := Tryz.isAgg5
  z5 := Tryz.sizeOf5
  v5 := Tryz.zeroValue5
  t9 := Tryz.underlying9
  a9 := Tryz.isAgg9
  z9 := Tryz.sizeOf9
  v9 := Tryz.zeroValue9
  t46 := Tryz.underlying170
  a46 := Tryz.isAgg170
  z46 := Tryz.sizeOf170
  v46 := Tryz.zeroValue170
  t51 := Tryz.underlying199
  a51 := Tryz.isAgg199
  z51 := Tryz.sizeOf199
  v51 := Tryz.zeroValue199
  t146 := Tryz.underlying264
  a146 := Tryz.isAgg264
  z146 := Tryz.sizeOf264
  v146 := Tryz.zeroValue264
  g1 := by kernel_rfl
  i3 := by kernel_rfl
  i4 := by kernel_rfl
  i5 := by kernel_rfl
  i9 := by kernel_rfl
  i46 := by kernel_rfl
  i51 := by kernel_rfl
  i146 := by kernel_rfl
  m1 := by kernel_rfl
  s1_3 := fun w h => Go.Proofs.cell_of_shapedOpen_int (zero := #[.int .i64 0]) (t := 3) h (of_decide_eq_true (by kernel_rfl)) (by kernel_rfl) rfl (by kernel_rfl) (by kernel_rfl) Tryz.underlying3 }
open Go.RowKit Go.Lib in
theorem Tryz.stringslite_Index_shaped (s sub : ByteArray) (w : World) (h : w.ShapedOpen Tryz.prog) (hs : s.size < 4294967281) :
    Calls Tryz.prog 265 #[.string s, .string sub] w fun e w' => e = .returned (.int .i64 (Lib.index s.data.toList sub.data.toList)) ∧ w' = w := Any.stringslite_Index_shaped Tryz.laysM219 s sub w h hs
def Tryz.laysM143_ren : Go.Shelf.Ren := ⟨fun | 143 => 248 | 219 => 265 | 217 => 241 | 225 => 275 | 224 => 276 | 267 => 277 | 266 => 259 | 314 => 281 | n => n, fun | 9 => 9 | 3 => 3 | 4 => 4 | 5 => 5 | 46 => 170 | 146 => 264 | 51 => 199 | n => n, fun | 1 => 0 | n => n⟩
theorem Tryz.laysM143 : Go.Proofs.LaysM.n143 Tryz.prog Tryz.laysM143_ren := {
  mixed := by kernel_rfl
  f143 := Tryz.func248.trans (congrArg some (by kernel_rfl))
  f217 := Tryz.func241.trans (congrArg some (by kernel_rfl))
  f219 := Tryz.func265.trans (congrArg some (by kernel_rfl))
  f224 := Tryz.func276.trans (congrArg some (by kernel_rfl))
  f225 := Tryz.func275.trans (congrArg some (by kernel_rfl))
  f266 := Tryz.func259.trans (congrArg some (by kernel_rfl))
  f267 := Tryz.func277.trans (congrArg some (by kernel_rfl))
  f314 := Tryz.func281.trans (congrArg some (by kernel_rfl))
  t3 := Tryz.underlying3
  a3 := Tryz.isAgg3
  z3 := Tryz.sizeOf3
  v3 := Tryz.zeroValue3
  t4 := Tryz.underlying4
  a4 := Tryz.isAgg4
  z4 := Tryz.sizeOf4
  v4 := Tryz.zeroValue4
  t5 := Tryz.underlying5
  a5 := Tryz.isAgg5
  z5 := Tryz.sizeOf5
  v5 := Tryz.zeroValue5
  t9 := Tryz.underlying9
  a9 := Tryz.isAgg9
  z9 := Tryz.sizeOf9
  v9 := Tryz.zeroValue9
  t46 := Tryz.underlying170
  a46 := Tryz.isAgg170
  z46 := Tryz.sizeOf170
  v46 := Tryz.zeroValue170
  t51 := Tryz.underlying199
  a51 := Tryz.isAgg199
  z51 := Tryz.sizeOf199
  v51 := Tryz.zeroValue199
  t146 := Tryz.underlying264
  a146 := Tryz.isAgg264
  z146 := Tryz.sizeOf264
  v146 := Tryz.zeroValue264
  g1 := by kernel_rfl
  i3 := by kernel_rfl
  i4 := by kernel_rfl
  i5 := by kernel_rfl
  i9 := by kernel_rfl
  i46 := by kernel_rfl
  i51 := by kernel_rfl
  i146 := by kernel_rfl
  m1 := by kernel_rfl
  s1_3 := fun w h => Go.Proofs.cell_of_shapedOpen_int (zero := #[.int .i64 0]) (t := 3) h (of_decide_eq_true (by kernel_rfl)) (by kernel_rfl) rfl (by kernel_rfl) (by kernel_rfl) Tryz.underlying3 }
open Go.RowKit Go.Lib in
theorem Tryz.strings_Index_shaped (s sub : ByteArray) (w : World) (h : w.ShapedOpen Tryz.prog) (hs : s.size < 4294967281) :
    Calls Tryz.prog 248 #[.string s, .string sub] w fun e w' => e = .returned (.int .i64 (Lib.index s.data.toList sub.data.toList)) ∧ w' = w := Any.strings_Index_shaped Tryz.laysM143 s sub w h hs
def Tryz.laysM138_ren : Go.Shelf.Ren := ⟨fun | 138 => 247 | 195 => 262 | 218 => 264 | 143 => 248 | 219 => 265 | 217 => 241 | 225 => 275 | 224 => 276 | 267 => 277 | 266 => 259 | 314 => 281 | n => n, fun | 9 => 9 | 3 => 3 | 4 => 4 | 5 => 5 | 0 => 0 | 46 => 170 | 146 => 264 | 51 => 199 | n => n, fun | 1 => 0 | n => n⟩
theorem Tryz.laysM138 : Go.Proofs.LaysM.n138 Tryz.prog Tryz.laysM138_ren := {
  mixed := by kernel_rfl
  f138 := Tryz.func247.trans (congrArg some (by kernel_rfl))
  f143 := Tryz.func248.trans (congrArg some (by kernel_rfl))
  f195 := Tryz.func262.trans (congrArg some (by kernel_rfl))
  f217 := Tryz.func241.trans (congrArg some (by kernel_rfl))
  f218 := Tryz.func264.trans (congrArg some (by kernel_rfl))
  f219 := Tryz.func265.trans (congrArg some (by kernel_rfl))
  f224 := Tryz.func276.trans (congrArg some (by kernel_rfl))
  f225 := Tryz.func275.trans (congrArg some (by kernel_rfl))
  f266 := Tryz.func259.trans (congrArg some (by kernel_rfl))
  f267 := Tryz.func277.trans (congrArg some (by kernel_rfl))
  f314 := Tryz.func281.trans (congrArg some (by kernel_rfl))
  t0 := Tryz.underlying0
  a0 := Tryz.isAgg0
  z0 := Tryz.sizeOf0
  v0 := Tryz.zeroValue0
  t3 := Tryz.underlying3
  a3 := Tryz.isAgg3
  z3 := Tryz.sizeOf3
  v3 := Tryz.zeroValue3
  t4 := Tryz.underlying4
  a4 := Tryz.isAgg4
  z4 := Tryz.sizeOf4
  v4 := Tryz.zeroValue4
  t5 := Tryz.underlying5
  a5 := Tryz.isAgg5
  z5 := Tryz.sizeOf5
  v5 := Tryz.zeroValue5
  t9 := Tryz.underlying9
  a9 := Tryz.isAgg9
  z9 := Tryz.sizeOf9
  v9 := Tryz.zeroValue9
  t46 := Tryz.underlying170
  a46 := Tryz.isAgg170
  z46 := Tryz.sizeOf170
  v46 := Tryz.zeroValue170
  t51 := Tryz.underlying199
  a51 := Tryz.isAgg199
  z51 := Tryz.sizeOf199
  v51 := Tryz.zeroValue199
  t146 := Tryz.underlying264
  a146 := Tryz.isAgg264
  z146 := Tryz.sizeOf264
  v146 := Tryz.zeroValue264
  g1 := by kernel_rfl
  i0 := by kernel_rfl
  i3 := by kernel_rfl
  i4 := by kernel_rfl
  i5 := by kernel_rfl
  i9 := by kernel_rfl
  i46 := by kernel_rfl
  i51 := by kernel_rfl
  i146 := by kernel_rfl
  m1 := by kernel_rfl
  s1_3 := fun w h => Go.Proofs.cell_of_shapedOpen_int (zero := #[.int .i64 0]) (t := 3) h (of_decide_eq_true (by kernel_rfl)) (by kernel_rfl) rfl (by kernel_rfl) (by kernel_rfl) Tryz.underlying3 }
open Go.RowKit Go.Lib in
theorem Tryz.strings_Count_shaped (s sub : ByteArray) (w : World) (h : w.ShapedOpen Tryz.prog) (hs : s.size < 4294967281) (h2 : 2 ≤ sub.size) :
    Calls Tryz.prog 247 #[.string s, .string sub] w fun e w' => e = .returned (.int .i64 (Lib.countB s sub)) ∧ w' = w := Any.strings_Count_shaped Tryz.laysM138 s sub w h hs h2
def Tryz.lays190_ren : Go.Shelf.Ren := ⟨fun | 190 => 79 | 125 => 154 | 258 => 153 | 128 => 202 | 129 => 203 | 302 => 193 | 303 => 194 | 304 => 195 | 305 => 196 | 306 => 197 | 307 => 198 | 308 => 199 | 309 => 200 | 310 => 201 | 333 => 226 | 329 => 227 | 330 => 228 | 334 => 229 | 335 => 230 | 336 => 231 | 344 => 254 | n => n, fun | 31 => 48 | 9 => 9 | 3 => 3 | 46 => 170 | 0 => 0 | 51 => 199 | 53 => 201 | 4 => 4 | 183 => 192 | 182 => 191 | 131 => 196 | 5 => 5 | 218 => 212 | 222 => 216 | 228 => 232 | 229 => 101 | n => n, fun | n => n⟩
theorem Tryz.lays190 : Go.Proofs.Lays.n190 Tryz.prog Tryz.lays190_ren := {
  mixed := by kernel_rfl
  f125 := Tryz.func154.trans (congrArg some (by kernel_rfl))
  f128 := Tryz.func202.trans (congrArg some (by kernel_rfl))
  f129 := Tryz.func203.trans (congrArg some (by kernel_rfl))
  f190 := Tryz.func79.trans (congrArg some (by kernel_rfl))
  f258 := Tryz.func153.trans (congrArg some (by kernel_rfl))
  f302 := Tryz.func193.trans (congrArg some (by kernel_rfl))
  f303 := Tryz.func194.trans (congrArg some (by kernel_rfl))
  f304 := Tryz.func195.trans (congrArg some (by kernel_rfl))
  f305 := Tryz.func196.trans (congrArg some (by kernel_rfl))
  f306 := Tryz.func197.trans (congrArg some (by kernel_rfl))
  f307 := Tryz.func198.trans (congrArg some (by kernel_rfl))
  f308 := Tryz.func199.trans (congrArg some (by kernel_rfl))
  f309 := Tryz.func200.trans (congrArg some (by kernel_rfl))
  f310 := Tryz.func201.trans (congrArg some (by kernel_rfl))
  f329 := Tryz.func227.trans (congrArg some (by kernel_rfl))
  f330 := Tryz.func228.trans (congrArg some (by kernel_rfl))
  f333 := Tryz.func226.trans (congrArg some (by kernel_rfl))
  f334 := Tryz.func229.trans (congrArg some (by kernel_rfl))
  f335 := Tryz.func230.trans (congrArg some (by kernel_rfl))
  f336 := Tryz.func231.trans (congrArg some (by kernel_rfl))
  f344 := Tryz.func254.trans (congrArg some (by kernel_rfl))
  t0 := Tryz.underlying0
  a0 := Tryz.isAgg0
  z0 := Tryz.sizeOf0
  v0 := Tryz.zeroValue0
  t3 := Tryz.underlying3
  a3 := Tryz.isAgg3
  z3 := Tryz.sizeOf3
  v3 := Tryz.zeroValue3
  t4 := Tryz.underlying4
  a4 := Tryz.isAgg4
  z4 := Tryz.sizeOf4
  v4 := Tryz.zeroValue4
  t5 := Tryz.underlying5
  a5 := Tryz.isAgg5
  z5 := Tryz.sizeOf5
  v5 := Tryz.zeroValue5
  t9 := Tryz.underlying9
  a9 := Tryz.isAgg9
  z9 := Tryz.sizeOf9
  v9 := Tryz.zeroValue9
  t31 := Tryz.underlying48
  a31 := Tryz.isAgg48
  z31 := Tryz.sizeOf48
  v31 := Tryz.zeroValue48
  t46 := Tryz.underlying170
  a46 := Tryz.isAgg170
  z46 := Tryz.sizeOf170
  v46 := Tryz.zeroValue170
  t51 := Tryz.underlying199
  a51 := Tryz.isAgg199
  z51 := Tryz.sizeOf199
  v51 := Tryz.zeroValue199
  t53 := Tryz.underlying201
  a53 := Tryz.isAgg201
  z53 := Tryz.sizeOf201
  v53 := Tryz.zeroValue201
  t131 := Tryz.underlying196
  a131 := Tryz.isAgg196
  z131 := Tryz.sizeOf196
  v131 := Tryz.zeroValue196
  t182 := Tryz.underlying191
  a182 := Tryz.isAgg191
  z182 := Tryz.sizeOf191
  v182 := Tryz.zeroValue191
  t183 := Tryz.underlying192
  a183 := Tryz.isAgg192
  z183 := Tryz.sizeOf192
  v183 := Tryz.zeroValue192
  t218 := Tryz.underlying212
  a218 := Tryz.isAgg212
  z218 := Tryz.sizeOf212
  v218 := Tryz.zeroValue212
  t222 := Tryz.underlying216
  a222 := Tryz.isAgg216
  z222 := Tryz.sizeOf216
  v222 := Tryz.zeroValue216
  t228 := Tryz.underlying232
  a228 := Tryz.isAgg232
  z228 := Tryz.sizeOf232
  v228 := Tryz.zeroValue232
  t229 := Tryz.underlying101
  a229 := Tryz.isAgg101
  z229 := Tryz.sizeOf101
  v229 := Tryz.zeroValue101 }
open Go.Sort Go.RowKit in
theorem Tryz.slices_Sort_string (blk off cap : Nat) (ss : List (List UInt8)) (w : World) (hH : Holds encStr w blk off ss.toArray) (hblk : blk < w.heap.size) (hsz : ss.length < 4611686018427387904) :
    Calls Tryz.prog 79 #[.slice (some ⟨blk, off, none⟩) ss.length cap] w fun e w' =>
      e = .returned (.tuple #[]) ∧ ∃ n os, w' = grow (putRow encStr (Sort.ahead w n) blk off (ss.mergeSort fun x y => decide (x ≤ y)).toArray) os := Any.slices_Sort_string Tryz.lays190 blk off cap ss w hH hblk hsz
def Tryz.lays206_ren : Go.Shelf.Ren := ⟨fun | 206 => 240 | n => n, fun | 9 => 9 | 4 => 4 | 3 => 3 | n => n, fun | n => n⟩
theorem Tryz.lays206 : Go.Proofs.Lays.n206 Tryz.prog Tryz.lays206_ren := {
  mixed := by kernel_rfl
  f206 := Tryz.func240.trans (congrArg some (by kernel_rfl))
  t3 := Tryz.underlying3
  a3 := Tryz.isAgg3
  z3 := Tryz.sizeOf3
  v3 := Tryz.zeroValue3
  t4 := Tryz.underlying4
  a4 := Tryz.isAgg4
  z4 := Tryz.sizeOf4
  v4 := Tryz.zeroValue4
  t9 := Tryz.underlying9
  a9 := Tryz.isAgg9
  z9 := Tryz.sizeOf9
  v9 := Tryz.zeroValue9 }
open Go.RowKit Go.Lib in
/-- internal/stringslite.HasPrefix (what strings.HasPrefix calls). (LAID: no walk: one application.) -/
theorem Tryz.stringslite_HasPrefix (s p : ByteArray) (w : World) :
    Calls Tryz.prog 240 #[.string s, .string p] w fun e w' => e = .returned (.bool (Lib.hasPrefix s.data.toList p.data.toList)) ∧ w' = w := Any.stringslite_HasPrefix Tryz.lays206 s p w
def Tryz.lays99_ren : Go.Shelf.Ren := ⟨fun | 99 => 214 | 206 => 240 | n => n, fun | 9 => 9 | 4 => 4 | 3 => 3 | n => n, fun | n => n⟩
theorem Tryz.lays99 : Go.Proofs.Lays.n99 Tryz.prog Tryz.lays99_ren := {
  mixed := by kernel_rfl
  f99 := Tryz.func214.trans (congrArg some (by kernel_rfl))
  f206 := Tryz.func240.trans (congrArg some (by kernel_rfl))
  t3 := Tryz.underlying3
  a3 := Tryz.isAgg3
  z3 := Tryz.sizeOf3
  v3 := Tryz.zeroValue3
  t4 := Tryz.underlying4
  a4 := Tryz.isAgg4
  z4 := Tryz.sizeOf4
  v4 := Tryz.zeroValue4
  t9 := Tryz.underlying9
  a9 := Tryz.isAgg9
  z9 := Tryz.sizeOf9
  v9 := Tryz.zeroValue9 }
open Go.RowKit Go.Lib in
/-- strings.HasPrefix: "HasPrefix reports whether the string s begins with prefix.": IT RETURNS 'Lib.hasPrefix s prefix'; the world is as it was. (LAID: no walk: one application.) -/
theorem Tryz.strings_HasPrefix (s p : ByteArray) (w : World) :
    Calls Tryz.prog 214 #[.string s, .string p] w fun e w' => e = .returned (.bool (Lib.hasPrefix s.data.toList p.data.toList)) ∧ w' = w := Any.strings_HasPrefix Tryz.lays99 s p w
open Go.RowKit Go.Lib in
/-- strings.Count at whatever sep that is not empty: the two roads under one statement. (LAID: no walk: one application.) -/
theorem Tryz.strings_Count_any (s sep : ByteArray) (m : Int) (w : World) (hs : s.size < 4294967281) (hm : w.cell? ⟨0, 0, none⟩ = some (.int .i64 m)) (h1 : 1 ≤ sep.size) :
    Calls Tryz.prog 247 #[.string s, .string sep] w fun e w' => e = .returned (.int .i64 (Lib.countB s sep)) ∧ w' = w := Any.strings_Count_any Tryz.lays138 s sep m w hs hm h1
def Tryz.lays221_ren : Go.Shelf.Ren := ⟨fun | 221 => 223 | 268 => 246 | 138 => 247 | 143 => 248 | 195 => 262 | 197 => 263 | 218 => 264 | 219 => 265 | 260 => 274 | 217 => 241 | 225 => 275 | 224 => 276 | 267 => 277 | 266 => 259 | 314 => 281 | n => n, fun | 9 => 9 | 3 => 3 | 31 => 48 | 4 => 4 | 0 => 0 | 105 => 239 | 21 => 21 | 5 => 5 | 46 => 170 | 119 => 247 | 139 => 263 | 138 => 262 | 146 => 264 | 51 => 199 | n => n, fun | 1 => 0 | 3 => 8 | 4 => 9 | n => n⟩
theorem Tryz.lays221 : Go.Proofs.Lays.n221 Tryz.prog Tryz.lays221_ren := {
  mixed := by kernel_rfl
  f138 := Tryz.func247.trans (congrArg some (by kernel_rfl))
  f143 := Tryz.func248.trans (congrArg some (by kernel_rfl))
  f195 := Tryz.func262.trans (congrArg some (by kernel_rfl))
  f197 := Tryz.func263.trans (congrArg some (by kernel_rfl))
  f217 := Tryz.func241.trans (congrArg some (by kernel_rfl))
  f218 := Tryz.func264.trans (congrArg some (by kernel_rfl))
  f219 := Tryz.func265.trans (congrArg some (by kernel_rfl))
  f221 := Tryz.func223.trans (congrArg some (by kernel_rfl))
  f224 := Tryz.func276.trans (congrArg some (by kernel_rfl))
  f225 := Tryz.func275.trans (congrArg some (by kernel_rfl))
  f260 := Tryz.func274.trans (congrArg some (by kernel_rfl))
  f266 := Tryz.func259.trans (congrArg some (by kernel_rfl))
  f267 := Tryz.func277.trans (congrArg some (by kernel_rfl))
  f268 := Tryz.func246.trans (congrArg some (by kernel_rfl))
  f314 := Tryz.func281.trans (congrArg some (by kernel_rfl))
  t0 := Tryz.underlying0
  a0 := Tryz.isAgg0
  z0 := Tryz.sizeOf0
  v0 := Tryz.zeroValue0
  t3 := Tryz.underlying3
  a3 := Tryz.isAgg3
  z3 := Tryz.sizeOf3
  v3 := Tryz.zeroValue3
  t4 := Tryz.underlying4
  a4 := Tryz.isAgg4
  z4 := Tryz.sizeOf4
  v4 := Tryz.zeroValue4
  t5 := Tryz.underlying5
  a5 := Tryz.isAgg5
  z5 := Tryz.sizeOf5
  v5 := Tryz.zeroValue5
  t9 := Tryz.underlying9
  a9 := Tryz.isAgg9
  z9 := Tryz.sizeOf9
  v9 := Tryz.zeroValue9
  t21 := Tryz.underlying21
  a21 := Tryz.isAgg21
  z21 := Tryz.sizeOf21
  v21 := Tryz.zeroValue21
  t31 := Tryz.underlying48
  a31 := Tryz.isAgg48
  z31 := Tryz.sizeOf48
  v31 := Tryz.zeroValue48
  t46 := Tryz.underlying170
  a46 := Tryz.isAgg170
  z46 := Tryz.sizeOf170
  v46 := Tryz.zeroValue170
  t51 := Tryz.underlying199
  a51 := Tryz.isAgg199
  z51 := Tryz.sizeOf199
  v51 := Tryz.zeroValue199
  t105 := Tryz.underlying239
  a105 := Tryz.isAgg239
  z105 := Tryz.sizeOf239
  v105 := Tryz.zeroValue239
  t119 := Tryz.underlying247
  a119 := Tryz.isAgg247
  z119 := Tryz.sizeOf247
  t138 := Tryz.underlying262
  a138 := Tryz.isAgg262
  z138 := Tryz.sizeOf262
  v138 := Tryz.zeroValue262
  t139 := Tryz.underlying263
  a139 := Tryz.isAgg263
  z139 := Tryz.sizeOf263
  v139 := Tryz.zeroValue263
  t146 := Tryz.underlying264
  a146 := Tryz.isAgg264
  z146 := Tryz.sizeOf264
  v146 := Tryz.zeroValue264
  g1 := by kernel_rfl
  g3 := by kernel_rfl
  g4 := by kernel_rfl }
open Go.RowKit Go.Lib in
theorem Tryz.strings_genSplit (s sep : ByteArray) (sv : Nat) (n : Int) (N : Nat) (m : Int) (w : World) (hs : s.size < 4294967281) (hm : w.cell? ⟨0, 0, none⟩ = some (.int .i64 m)) (h1 : 1 ≤ sep.size) (hsv : sv ≤ sep.size) (hn0 : n ≠ 0) (hn63 : n ≤ 9223372036854775807) (hN : (N : Int) = min (if n < 0 then (Lib.countB s sep : Int) + 1 else n) ((s.size : Int) + 1)) :
    Calls Tryz.prog 223 #[.string s, .string sep, .int .i64 sv, .int .i64 n] w fun e w' =>
      e = .returned (.slice (some ⟨w.heap.size, 0, none⟩) (Lib.splitB sep sv (N - 1) s).length N) ∧ w' = w.alloc (.cells (Lib.cellsOf (Lib.splitB sep sv (N - 1) s) N) 9) := Any.strings_genSplit Tryz.lays221 (by kernel_rfl) s sep sv n N m w hs hm h1 hsv hn0 hn63 hN
def Tryz.lays146_ren : Go.Shelf.Ren := ⟨fun | 146 => 179 | 221 => 223 | 268 => 246 | 138 => 247 | 143 => 248 | 195 => 262 | 197 => 263 | 218 => 264 | 219 => 265 | 260 => 274 | 217 => 241 | 225 => 275 | 224 => 276 | 267 => 277 | 266 => 259 | 314 => 281 | n => n, fun | 9 => 9 | 31 => 48 | 3 => 3 | 4 => 4 | 0 => 0 | 105 => 239 | 21 => 21 | 5 => 5 | 46 => 170 | 119 => 247 | 139 => 263 | 138 => 262 | 146 => 264 | 51 => 199 | n => n, fun | 1 => 0 | 3 => 8 | 4 => 9 | n => n⟩
theorem Tryz.lays146 : Go.Proofs.Lays.n146 Tryz.prog Tryz.lays146_ren := {
  mixed := by kernel_rfl
  f138 := Tryz.func247.trans (congrArg some (by kernel_rfl))
  f143 := Tryz.func248.trans (congrArg some (by kernel_rfl))
  f146 := Tryz.func179.trans (congrArg some (by kernel_rfl))
  f195 := Tryz.func262.trans (congrArg some (by kernel_rfl))
  f197 := Tryz.func263.trans (congrArg some (by kernel_rfl))
  f217 := Tryz.func241.trans (congrArg some (by kernel_rfl))
  f218 := Tryz.func264.trans (congrArg some (by kernel_rfl))
  f219 := Tryz.func265.trans (congrArg some (by kernel_rfl))
  f221 := Tryz.func223.trans (congrArg some (by kernel_rfl))
  f224 := Tryz.func276.trans (congrArg some (by kernel_rfl))
  f225 := Tryz.func275.trans (congrArg some (by kernel_rfl))
  f260 := Tryz.func274.trans (congrArg some (by kernel_rfl))
  f266 := Tryz.func259.trans (congrArg some (by kernel_rfl))
  f267 := Tryz.func277.trans (congrArg some (by kernel_rfl))
  f268 := Tryz.func246.trans (congrArg some (by kernel_rfl))
  f314 := Tryz.func281.trans (congrArg some (by kernel_rfl))
  t0 := Tryz.underlying0
  a0 := Tryz.isAgg0
  z0 := Tryz.sizeOf0
  v0 := Tryz.zeroValue0
  t3 := Tryz.underlying3
  a3 := Tryz.isAgg3
  z3 := Tryz.sizeOf3
  v3 := Tryz.zeroValue3
  t4 := Tryz.underlying4
  a4 := Tryz.isAgg4
  z4 := Tryz.sizeOf4
  v4 := Tryz.zeroValue4
  t5 := Tryz.underlying5
  a5 := Tryz.isAgg5
  z5 := Tryz.sizeOf5
  v5 := Tryz.zeroValue5
  t9 := Tryz.underlying9
  a9 := Tryz.isAgg9
  z9 := Tryz.sizeOf9
  v9 := Tryz.zeroValue9
  t21 := Tryz.underlying21
  a21 := Tryz.isAgg21
  z21 := Tryz.sizeOf21
  v21 := Tryz.zeroValue21
  t31 := Tryz.underlying48
  a31 := Tryz.isAgg48
  z31 := Tryz.sizeOf48
  v31 := Tryz.zeroValue48
  t46 := Tryz.underlying170
  a46 := Tryz.isAgg170
  z46 := Tryz.sizeOf170
  v46 := Tryz.zeroValue170
  t51 := Tryz.underlying199
  a51 := Tryz.isAgg199
  z51 := Tryz.sizeOf199
  v51 := Tryz.zeroValue199
  t105 := Tryz.underlying239
  a105 := Tryz.isAgg239
  z105 := Tryz.sizeOf239
  v105 := Tryz.zeroValue239
  t119 := Tryz.underlying247
  a119 := Tryz.isAgg247
  z119 := Tryz.sizeOf247
  t138 := Tryz.underlying262
  a138 := Tryz.isAgg262
  z138 := Tryz.sizeOf262
  v138 := Tryz.zeroValue262
  t139 := Tryz.underlying263
  a139 := Tryz.isAgg263
  z139 := Tryz.sizeOf263
  v139 := Tryz.zeroValue263
  t146 := Tryz.underlying264
  a146 := Tryz.isAgg264
  z146 := Tryz.sizeOf264
  v146 := Tryz.zeroValue264
  g1 := by kernel_rfl
  g3 := by kernel_rfl
  g4 := by kernel_rfl }
open Go.RowKit Go.Lib in
/-- strings.Split. (LAID: no walk: one application.) -/
theorem Tryz.strings_Split (s sep : ByteArray) (m : Int) (w : World) (hs : s.size < 4294967281) (hm : w.cell? ⟨0, 0, none⟩ = some (.int .i64 m)) (h1 : 1 ≤ sep.size) :
    Calls Tryz.prog 179 #[.string s, .string sep] w fun e w' =>
      e = .returned (.slice (some ⟨w.heap.size, 0, none⟩) (Lib.countB s sep + 1) (Lib.countB s sep + 1)) ∧ w' = w.alloc (.cells ((Lib.splitB sep 0 (Lib.countB s sep) s).map Value.string).toArray 9) := Any.strings_Split Tryz.lays146 (by kernel_rfl) s sep m w hs hm h1
def Tryz.lays157_ren : Go.Shelf.Ren := ⟨fun | 157 => 261 | 229 => 272 | 199 => 273 | 261 => 280 | 311 => 282 | 312 => 283 | n => n, fun | 9 => 9 | 31 => 48 | 3 => 3 | 5 => 5 | 4 => 4 | 119 => 247 | 0 => 0 | 40 => 249 | 152 => 256 | 21 => 21 | 154 => 258 | 51 => 199 | 141 => 260 | 196 => 269 | 193 => 266 | 198 => 272 | 49 => 270 | 194 => 267 | 201 => 275 | 226 => 277 | 46 => 170 | 227 => 278 | n => n, fun | 0 => 4 | 6 => 7 | n => n⟩
theorem Tryz.lays157 : Go.Proofs.Lays.n157 Tryz.prog Tryz.lays157_ren := {
  mixed := by kernel_rfl
  f157 := Tryz.func261.trans (congrArg some (by kernel_rfl))
  f199 := Tryz.func273.trans (congrArg some (by kernel_rfl))
  f229 := Tryz.func272.trans (congrArg some (by kernel_rfl))
  f261 := Tryz.func280.trans (congrArg some (by kernel_rfl))
  f311 := Tryz.func282.trans (congrArg some (by kernel_rfl))
  f312 := Tryz.func283.trans (congrArg some (by kernel_rfl))
  t0 := Tryz.underlying0
  a0 := Tryz.isAgg0
  z0 := Tryz.sizeOf0
  v0 := Tryz.zeroValue0
  t3 := Tryz.underlying3
  a3 := Tryz.isAgg3
  z3 := Tryz.sizeOf3
  v3 := Tryz.zeroValue3
  t4 := Tryz.underlying4
  a4 := Tryz.isAgg4
  z4 := Tryz.sizeOf4
  v4 := Tryz.zeroValue4
  t5 := Tryz.underlying5
  a5 := Tryz.isAgg5
  z5 := Tryz.sizeOf5
  v5 := Tryz.zeroValue5
  t9 := Tryz.underlying9
  a9 := Tryz.isAgg9
  z9 := Tryz.sizeOf9
  v9 := Tryz.zeroValue9
  t21 := Tryz.underlying21
  a21 := Tryz.isAgg21
  z21 := Tryz.sizeOf21
  v21 := Tryz.zeroValue21
  t31 := Tryz.underlying48
  a31 := Tryz.isAgg48
  z31 := Tryz.sizeOf48
  v31 := Tryz.zeroValue48
  t40 := Tryz.underlying249
  a40 := Tryz.isAgg249
  z40 := Tryz.sizeOf249
  v40 := Tryz.zeroValue249
  t46 := Tryz.underlying170
  a46 := Tryz.isAgg170
  z46 := Tryz.sizeOf170
  v46 := Tryz.zeroValue170
  t49 := Tryz.underlying270
  a49 := Tryz.isAgg270
  z49 := Tryz.sizeOf270
  v49 := Tryz.zeroValue270
  t51 := Tryz.underlying199
  a51 := Tryz.isAgg199
  z51 := Tryz.sizeOf199
  v51 := Tryz.zeroValue199
  t119 := Tryz.underlying247
  a119 := Tryz.isAgg247
  z119 := Tryz.sizeOf247
  t141 := Tryz.underlying260
  a141 := Tryz.isAgg260
  z141 := Tryz.sizeOf260
  v141 := Tryz.zeroValue260
  t152 := Tryz.underlying256
  a152 := Tryz.isAgg256
  z152 := Tryz.sizeOf256
  v152 := Tryz.zeroValue256
  t154 := Tryz.underlying258
  a154 := Tryz.isAgg258
  z154 := Tryz.sizeOf258
  v154 := Tryz.zeroValue258
  t193 := Tryz.underlying266
  a193 := Tryz.isAgg266
  z193 := Tryz.sizeOf266
  v193 := Tryz.zeroValue266
  t194 := Tryz.underlying267
  a194 := Tryz.isAgg267
  z194 := Tryz.sizeOf267
  v194 := Tryz.zeroValue267
  t196 := Tryz.underlying269
  a196 := Tryz.isAgg269
  z196 := Tryz.sizeOf269
  v196 := Tryz.zeroValue269
  t198 := Tryz.underlying272
  a198 := Tryz.isAgg272
  z198 := Tryz.sizeOf272
  v198 := Tryz.zeroValue272
  t201 := Tryz.underlying275
  a201 := Tryz.isAgg275
  z201 := Tryz.sizeOf275
  v201 := Tryz.zeroValue275
  t226 := Tryz.underlying277
  a226 := Tryz.isAgg277
  z226 := Tryz.sizeOf277
  v226 := Tryz.zeroValue277
  t227 := Tryz.underlying278
  a227 := Tryz.isAgg278
  z227 := Tryz.sizeOf278
  v227 := Tryz.zeroValue278
  g0 := by kernel_rfl
  g6 := by kernel_rfl }
open Go.RowKit Go.Lib in
/-- strings.Fields, the table by 'Lib.TabIs' (as strings.TrimSpace's contract). 'hg': the table's number, by its name: at a dump 'by kernel_rfl'. (LAID: no walk: one application.) -/
theorem Tryz.strings_Fields (s : ByteArray) (w : World) (hs : s.size < 4294967281) (hascii : ∀ (j : Nat) b, s.data.toList[j]? = some b → b.toNat < 128) (htab : Lib.TabIs Tryz.prog w "strings.asciiSpace" .u8 Lib.asciiSpaceTab) :
    Calls Tryz.prog 261 #[.string s] w fun e w' =>
      e = .returned (.slice (some ⟨w.heap.size, 0, none⟩) (Lib.fields s.data.toList).length (Lib.fields s.data.toList).length) ∧ w' = w.alloc (.cells ((Lib.fields s.data.toList).map fun l => Value.string ⟨l.toArray⟩).toArray 9) := Any.strings_Fields Tryz.lays157 (by kernel_rfl) (by kernel_rfl) s w hs hascii htab
def Tryz.laysM146_ren : Go.Shelf.Ren := ⟨fun | 146 => 179 | 221 => 223 | 268 => 246 | 138 => 247 | 143 => 248 | 195 => 262 | 197 => 263 | 218 => 264 | 219 => 265 | 260 => 274 | 217 => 241 | 225 => 275 | 224 => 276 | 267 => 277 | 266 => 259 | 314 => 281 | n => n, fun | 9 => 9 | 31 => 48 | 3 => 3 | 4 => 4 | 0 => 0 | 105 => 239 | 21 => 21 | 5 => 5 | 46 => 170 | 119 => 247 | 139 => 263 | 138 => 262 | 146 => 264 | 51 => 199 | n => n, fun | 1 => 0 | 3 => 8 | 4 => 9 | n => n⟩
theorem Tryz.laysM146 : Go.Proofs.LaysM.n146 Tryz.prog Tryz.laysM146_ren := {
  mixed := by kernel_rfl
  f138 := Tryz.func247.trans (congrArg some (by kernel_rfl))
  f143 := Tryz.func248.trans (congrArg some (by kernel_rfl))
  f146 := Tryz.func179.trans (congrArg some (by kernel_rfl))
  f195 := Tryz.func262.trans (congrArg some (by kernel_rfl))
  f197 := Tryz.func263.trans (congrArg some (by kernel_rfl))
  f217 := Tryz.func241.trans (congrArg some (by kernel_rfl))
  f218 := Tryz.func264.trans (congrArg some (by kernel_rfl))
  f219 := Tryz.func265.trans (congrArg some (by kernel_rfl))
  f221 := Tryz.func223.trans (congrArg some (by kernel_rfl))
  f224 := Tryz.func276.trans (congrArg some (by kernel_rfl))
  f225 := Tryz.func275.trans (congrArg some (by kernel_rfl))
  f260 := Tryz.func274.trans (congrArg some (by kernel_rfl))
  f266 := Tryz.func259.trans (congrArg some (by kernel_rfl))
  f267 := Tryz.func277.trans (congrArg some (by kernel_rfl))
  f268 := Tryz.func246.trans (congrArg some (by kernel_rfl))
  f314 := Tryz.func281.trans (congrArg some (by kernel_rfl))
  t0 := Tryz.underlying0
  a0 := Tryz.isAgg0
  z0 := Tryz.sizeOf0
  v0 := Tryz.zeroValue0
  t3 := Tryz.underlying3
  a3 := Tryz.isAgg3
  z3 := Tryz.sizeOf3
  v3 := Tryz.zeroValue3
  t4 := Tryz.underlying4
  a4 := Tryz.isAgg4
  z4 := Tryz.sizeOf4
  v4 := Tryz.zeroValue4
  t5 := Tryz.underlying5
  a5 := Tryz.isAgg5
  z5 := Tryz.sizeOf5
  v5 := Tryz.zeroValue5
  t9 := Tryz.underlying9
  a9 := Tryz.isAgg9
  z9 := Tryz.sizeOf9
  v9 := Tryz.zeroValue9
  t21 := Tryz.underlying21
  a21 := Tryz.isAgg21
  z21 := Tryz.sizeOf21
  v21 := Tryz.zeroValue21
  t31 := Tryz.underlying48
  a31 := Tryz.isAgg48
  z31 := Tryz.sizeOf48
  v31 := Tryz.zeroValue48
  t46 := Tryz.underlying170
  a46 := Tryz.isAgg170
  z46 := Tryz.sizeOf170
  v46 := Tryz.zeroValue170
  t51 := Tryz.underlying199
  a51 := Tryz.isAgg199
  z51 := Tryz.sizeOf199
  v51 := Tryz.zeroValue199
  t105 := Tryz.underlying239
  a105 := Tryz.isAgg239
  z105 := Tryz.sizeOf239
  v105 := Tryz.zeroValue239
  t119 := Tryz.underlying247
  a119 := Tryz.isAgg247
  z119 := Tryz.sizeOf247
  t138 := Tryz.underlying262
  a138 := Tryz.isAgg262
  z138 := Tryz.sizeOf262
  v138 := Tryz.zeroValue262
  t139 := Tryz.underlying263
  a139 := Tryz.isAgg263
  z139 := Tryz.sizeOf263
  v139 := Tryz.zeroValue263
  t146 := Tryz.underlying264
  a146 := Tryz.isAgg264
  z146 := Tryz.sizeOf264
  v146 := Tryz.zeroValue264
  g1 := by kernel_rfl
  g3 := by kernel_rfl
  g4 := by kernel_rfl
  i0 := by kernel_rfl
  i3 := by kernel_rfl
  i4 := by kernel_rfl
  i5 := by kernel_rfl
  i9 := by kernel_rfl
  i21 := by kernel_rfl
  i31 := by kernel_rfl
  i46 := by kernel_rfl
  i51 := by kernel_rfl
  i105 := by kernel_rfl
  i138 := by kernel_rfl
  i139 := by kernel_rfl
  i146 := by kernel_rfl
  m1 := by kernel_rfl
  s1_3 := fun w h => Go.Proofs.cell_of_shapedOpen_int (zero := #[.int .i64 0]) (t := 3) h (of_decide_eq_true (by kernel_rfl)) (by kernel_rfl) rfl (by kernel_rfl) (by kernel_rfl) Tryz.underlying3
  m3 := by kernel_rfl
  m4 := by kernel_rfl }
open Go.RowKit Go.Lib in
/-- strings.Split, sep not empty. (LAID: no walk: one application.) -/
theorem Tryz.strings_Split_shaped (s sep : ByteArray) (w : World) (h : w.ShapedOpen Tryz.prog) (hs : s.size < 4294967281) (h1 : 1 ≤ sep.size) :
    Calls Tryz.prog 179 #[.string s, .string sep] w fun e w' =>
      e = .returned (.slice (some ⟨w.heap.size, 0, none⟩) (Lib.countB s sep + 1) (Lib.countB s sep + 1)) ∧ w' = w.alloc (.cells ((Lib.splitB sep 0 (Lib.countB s sep) s).map Value.string).toArray 9) := Any.strings_Split_shaped Tryz.laysM146 s sep w h hs h1
def Tryz.laysM157_ren : Go.Shelf.Ren := ⟨fun | 157 => 261 | 229 => 272 | 199 => 273 | 261 => 280 | 311 => 282 | 312 => 283 | n => n, fun | 9 => 9 | 31 => 48 | 3 => 3 | 5 => 5 | 4 => 4 | 119 => 247 | 0 => 0 | 40 => 249 | 152 => 256 | 21 => 21 | 154 => 258 | 51 => 199 | 141 => 260 | 196 => 269 | 193 => 266 | 198 => 272 | 49 => 270 | 194 => 267 | 201 => 275 | 226 => 277 | 46 => 170 | 227 => 278 | n => n, fun | 0 => 4 | 6 => 7 | n => n⟩
theorem Tryz.laysM157 : Go.Proofs.LaysM.n157 Tryz.prog Tryz.laysM157_ren := {
  mixed := by kernel_rfl
  f157 := Tryz.func261.trans (congrArg some (by kernel_rfl))
  f199 := Tryz.func273.trans (congrArg some (by kernel_rfl))
  f229 := Tryz.func272.trans (congrArg some (by kernel_rfl))
  f261 := Tryz.func280.trans (congrArg some (by kernel_rfl))
  f311 := Tryz.func282.trans (congrArg some (by kernel_rfl))
  f312 := Tryz.func283.trans (congrArg some (by kernel_rfl))
  t0 := Tryz.underlying0
  a0 := Tryz.isAgg0
  z0 := Tryz.sizeOf0
  v0 := Tryz.zeroValue0
  t3 := Tryz.underlying3
  a3 := Tryz.isAgg3
  z3 := Tryz.sizeOf3
  v3 := Tryz.zeroValue3
  t4 := Tryz.underlying4
  a4 := Tryz.isAgg4
  z4 := Tryz.sizeOf4
  v4 := Tryz.zeroValue4
  t5 := Tryz.underlying5
  a5 := Tryz.isAgg5
  z5 := Tryz.sizeOf5
  v5 := Tryz.zeroValue5
  t9 := Tryz.underlying9
  a9 := Tryz.isAgg9
  z9 := Tryz.sizeOf9
  v9 := Tryz.zeroValue9
  t21 := Tryz.underlying21
  a21 := Tryz.isAgg21
  z21 := Tryz.sizeOf21
  v21 := Tryz.zeroValue21
  t31 := Tryz.underlying48
  a31 := Tryz.isAgg48
  z31 := Tryz.sizeOf48
  v31 := Tryz.zeroValue48
  t40 := Tryz.underlying249
  a40 := Tryz.isAgg249
  z40 := Tryz.sizeOf249
  v40 := Tryz.zeroValue249
  t46 := Tryz.underlying170
  a46 := Tryz.isAgg170
  z46 := Tryz.sizeOf170
  v46 := Tryz.zeroValue170
  t49 := Tryz.underlying270
  a49 := Tryz.isAgg270
  z49 := Tryz.sizeOf270
  v49 := Tryz.zeroValue270
  t51 := Tryz.underlying199
  a51 := Tryz.isAgg199
  z51 := Tryz.sizeOf199
  v51 := Tryz.zeroValue199
  t119 := Tryz.underlying247
  a119 := Tryz.isAgg247
  z119 := Tryz.sizeOf247
  t141 := Tryz.underlying260
  a141 := Tryz.isAgg260
  z141 := Tryz.sizeOf260
  v141 := Tryz.zeroValue260
  t152 := Tryz.underlying256
  a152 := Tryz.isAgg256
  z152 := Tryz.sizeOf256
  v152 := Tryz.zeroValue256
  t154 := Tryz.underlying258
  a154 := Tryz.isAgg258
  z154 := Tryz.sizeOf258
  v154 := Tryz.zeroValue258
  t193 := Tryz.underlying266
  a193 := Tryz.isAgg266
  z193 := Tryz.sizeOf266
  v193 := Tryz.zeroValue266
  t194 := Tryz.underlying267
  a194 := Tryz.isAgg267
  z194 := Tryz.sizeOf267
  v194 := Tryz.zeroValue267
  t196 := Tryz.underlying269
  a196 := Tryz.isAgg269
  z196 := Tryz.sizeOf269
  v196 := Tryz.zeroValue269
  t198 := Tryz.underlying272
  a198 := Tryz.isAgg272
  z198 := Tryz.sizeOf272
  v198 := Tryz.zeroValue272
  t201 := Tryz.underlying275
  a201 := Tryz.isAgg275
  z201 := Tryz.sizeOf275
  v201 := Tryz.zeroValue275
  t226 := Tryz.underlying277
  a226 := Tryz.isAgg277
  z226 := Tryz.sizeOf277
  v226 := Tryz.zeroValue277
  t227 := Tryz.underlying278
  a227 := Tryz.isAgg278
  z227 := Tryz.sizeOf278
  v227 := Tryz.zeroValue278
  g0 := by kernel_rfl
  g6 := by kernel_rfl
  i0 := by kernel_rfl
  i3 := by kernel_rfl
  i4 := by kernel_rfl
  i5 := by kernel_rfl
  i9 := by kernel_rfl
  i21 := by kernel_rfl
  i31 := by kernel_rfl
  i40 := by kernel_rfl
  i46 := by kernel_rfl
  i49 := by kernel_rfl
  i51 := by kernel_rfl
  i141 := by kernel_rfl
  i152 := by kernel_rfl
  i154 := by kernel_rfl
  i193 := by kernel_rfl
  i194 := by kernel_rfl
  i196 := by kernel_rfl
  i198 := by kernel_rfl
  i201 := by kernel_rfl
  i226 := by kernel_rfl
  i227 := by kernel_rfl
  m0 := by kernel_rfl
  m6 := by kernel_rfl }
open Go.RowKit Go.Lib in
/-- strings.Fields on ASCII bytes. (The table: 'Lib.TabIs', as strings.TrimSpace's contract asks it.) (LAID: no walk: one application.) -/
theorem Tryz.strings_Fields_laid (s : ByteArray) (w : World) (hs : s.size < 4294967281) (hascii : ∀ (j : Nat) b, s.data.toList[j]? = some b → b.toNat < 128) (htab : Lib.TabIs Tryz.prog w "strings.asciiSpace" .u8 Lib.asciiSpaceTab) :
    Calls Tryz.prog 261 #[.string s] w fun e w' =>
      e = .returned (.slice (some ⟨w.heap.size, 0, none⟩) (Lib.fields s.data.toList).length (Lib.fields s.data.toList).length) ∧ w' = w.alloc (.cells ((Lib.fields s.data.toList).map fun l => Value.string ⟨l.toArray⟩).toArray 9) := Any.strings_Fields_laid Tryz.laysM157 s w hs hascii htab
def Tryz.lays199_ren : Go.Shelf.Ren := ⟨fun | 199 => 273 | 261 => 280 | 311 => 282 | 312 => 283 | n => n, fun | 21 => 21 | 4 => 4 | 51 => 199 | 141 => 260 | 0 => 0 | 196 => 269 | 193 => 266 | 3 => 3 | 198 => 272 | 49 => 270 | 194 => 267 | 201 => 275 | 226 => 277 | 46 => 170 | 227 => 278 | n => n, fun | 6 => 7 | n => n⟩
theorem Tryz.lays199 : Go.Proofs.Lays.n199 Tryz.prog Tryz.lays199_ren := {
  mixed := by kernel_rfl
  f199 := Tryz.func273.trans (congrArg some (by kernel_rfl))
  f261 := Tryz.func280.trans (congrArg some (by kernel_rfl))
  f311 := Tryz.func282.trans (congrArg some (by kernel_rfl))
  f312 := Tryz.func283.trans (congrArg some (by kernel_rfl))
  t0 := Tryz.underlying0
  a0 := Tryz.isAgg0
  z0 := Tryz.sizeOf0
  v0 := Tryz.zeroValue0
  t3 := Tryz.underlying3
  a3 := Tryz.isAgg3
  z3 := Tryz.sizeOf3
  v3 := Tryz.zeroValue3
  t4 := Tryz.underlying4
  a4 := Tryz.isAgg4
  z4 := Tryz.sizeOf4
  v4 := Tryz.zeroValue4
  t21 := Tryz.underlying21
  a21 := Tryz.isAgg21
  z21 := Tryz.sizeOf21
  v21 := Tryz.zeroValue21
  t46 := Tryz.underlying170
  a46 := Tryz.isAgg170
  z46 := Tryz.sizeOf170
  v46 := Tryz.zeroValue170
  t49 := Tryz.underlying270
  a49 := Tryz.isAgg270
  z49 := Tryz.sizeOf270
  v49 := Tryz.zeroValue270
  t51 := Tryz.underlying199
  a51 := Tryz.isAgg199
  z51 := Tryz.sizeOf199
  v51 := Tryz.zeroValue199
  t141 := Tryz.underlying260
  a141 := Tryz.isAgg260
  z141 := Tryz.sizeOf260
  v141 := Tryz.zeroValue260
  t193 := Tryz.underlying266
  a193 := Tryz.isAgg266
  z193 := Tryz.sizeOf266
  v193 := Tryz.zeroValue266
  t194 := Tryz.underlying267
  a194 := Tryz.isAgg267
  z194 := Tryz.sizeOf267
  v194 := Tryz.zeroValue267
  t196 := Tryz.underlying269
  a196 := Tryz.isAgg269
  z196 := Tryz.sizeOf269
  v196 := Tryz.zeroValue269
  t198 := Tryz.underlying272
  a198 := Tryz.isAgg272
  z198 := Tryz.sizeOf272
  v198 := Tryz.zeroValue272
  t201 := Tryz.underlying275
  a201 := Tryz.isAgg275
  z201 := Tryz.sizeOf275
  v201 := Tryz.zeroValue275
  t226 := Tryz.underlying277
  a226 := Tryz.isAgg277
  z226 := Tryz.sizeOf277
  v226 := Tryz.zeroValue277
  t227 := Tryz.underlying278
  a227 := Tryz.isAgg278
  z227 := Tryz.sizeOf278
  v227 := Tryz.zeroValue278
  g6 := by kernel_rfl }
open Go.RowKit Go.Lib in
theorem Tryz.unicode_IsSpace (r : Int) (w : World) (h0 : 0 ≤ r) (h : r ≤ 255) :
    Calls Tryz.prog 273 #[.int .i32 r] w fun e w' => e = .returned (.bool (Lib.isSpaceL r)) ∧ w' = w := Any.unicode_IsSpace Tryz.lays199 r w h0 h
def Tryz.lays260_ren : Go.Shelf.Ren := ⟨fun | 260 => 274 | n => n, fun | 9 => 9 | 21 => 21 | 3 => 3 | 4 => 4 | 5 => 5 | 119 => 247 | 0 => 0 | 46 => 170 | 139 => 263 | 138 => 262 | n => n, fun | 3 => 8 | 4 => 9 | n => n⟩
theorem Tryz.lays260 : Go.Proofs.Lays.n260 Tryz.prog Tryz.lays260_ren := {
  mixed := by kernel_rfl
  f260 := Tryz.func274.trans (congrArg some (by kernel_rfl))
  t0 := Tryz.underlying0
  a0 := Tryz.isAgg0
  z0 := Tryz.sizeOf0
  v0 := Tryz.zeroValue0
  t3 := Tryz.underlying3
  a3 := Tryz.isAgg3
  z3 := Tryz.sizeOf3
  v3 := Tryz.zeroValue3
  t4 := Tryz.underlying4
  a4 := Tryz.isAgg4
  z4 := Tryz.sizeOf4
  v4 := Tryz.zeroValue4
  t5 := Tryz.underlying5
  a5 := Tryz.isAgg5
  z5 := Tryz.sizeOf5
  v5 := Tryz.zeroValue5
  t9 := Tryz.underlying9
  a9 := Tryz.isAgg9
  z9 := Tryz.sizeOf9
  v9 := Tryz.zeroValue9
  t21 := Tryz.underlying21
  a21 := Tryz.isAgg21
  z21 := Tryz.sizeOf21
  v21 := Tryz.zeroValue21
  t46 := Tryz.underlying170
  a46 := Tryz.isAgg170
  z46 := Tryz.sizeOf170
  v46 := Tryz.zeroValue170
  t119 := Tryz.underlying247
  a119 := Tryz.isAgg247
  z119 := Tryz.sizeOf247
  t138 := Tryz.underlying262
  a138 := Tryz.isAgg262
  z138 := Tryz.sizeOf262
  v138 := Tryz.zeroValue262
  t139 := Tryz.underlying263
  a139 := Tryz.isAgg263
  z139 := Tryz.sizeOf263
  v139 := Tryz.zeroValue263
  g3 := by kernel_rfl
  g4 := by kernel_rfl }
open Go.RowKit Go.Lib in
theorem Tryz.utf8_decodeRuneInStringSlow (s : ByteArray) (w : World) (hT : Lib.Utf8Tabs 8 9 w) :
    Calls Tryz.prog 274 #[.string s] w fun e w' => e = .returned (.tuple #[.int .i32 (Lib.decodeGo s).1, .int .i64 (Lib.decodeGo s).2]) ∧ Below w.heap.size w w' := Any.utf8_decodeRuneInStringSlow Tryz.lays260 s w hT
def Tryz.lays311_ren : Go.Shelf.Ren := ⟨fun | 311 => 282 | n => n, fun | 193 => 266 | 49 => 270 | 4 => 4 | 3 => 3 | 0 => 0 | 226 => 277 | 198 => 272 | 46 => 170 | n => n, fun | n => n⟩
theorem Tryz.lays311 : Go.Proofs.Lays.n311 Tryz.prog Tryz.lays311_ren := {
  mixed := by kernel_rfl
  f311 := Tryz.func282.trans (congrArg some (by kernel_rfl))
  t0 := Tryz.underlying0
  a0 := Tryz.isAgg0
  z0 := Tryz.sizeOf0
  v0 := Tryz.zeroValue0
  t3 := Tryz.underlying3
  a3 := Tryz.isAgg3
  z3 := Tryz.sizeOf3
  v3 := Tryz.zeroValue3
  t4 := Tryz.underlying4
  a4 := Tryz.isAgg4
  z4 := Tryz.sizeOf4
  v4 := Tryz.zeroValue4
  t46 := Tryz.underlying170
  a46 := Tryz.isAgg170
  z46 := Tryz.sizeOf170
  v46 := Tryz.zeroValue170
  t49 := Tryz.underlying270
  a49 := Tryz.isAgg270
  z49 := Tryz.sizeOf270
  v49 := Tryz.zeroValue270
  t193 := Tryz.underlying266
  a193 := Tryz.isAgg266
  z193 := Tryz.sizeOf266
  v193 := Tryz.zeroValue266
  t198 := Tryz.underlying272
  a198 := Tryz.isAgg272
  z198 := Tryz.sizeOf272
  v198 := Tryz.zeroValue272
  t226 := Tryz.underlying277
  a226 := Tryz.isAgg277
  z226 := Tryz.sizeOf277
  v226 := Tryz.zeroValue277 }
open Go.RowKit Go.Lib in
theorem Tryz.unicode_is16_white (R oR : Nat) (z : Nat) (w : World) (hz : z < 65536) (hz0 : 255 < z) (c6 : w.cell? ⟨R, oR + 6, none⟩ = some (.int .u16 160)) (c7 : w.cell? ⟨R, oR + 7, none⟩ = some (.int .u16 5760)) (c8 : w.cell? ⟨R, oR + 8, none⟩ = some (.int .u16 5600)) (c9 : w.cell? ⟨R, oR + 9, none⟩ = some (.int .u16 8192)) (c10 : w.cell? ⟨R, oR + 10, none⟩ = some (.int .u16 8202)) (c11 : w.cell? ⟨R, oR + 11, none⟩ = some (.int .u16 1)) (c12 : w.cell? ⟨R, oR + 12, none⟩ = some (.int .u16 8232)) (c13 : w.cell? ⟨R, oR + 13, none⟩ = some (.int .u16 8233)) (c14 : w.cell? ⟨R, oR + 14, none⟩ = some (.int .u16 1)) (c15 : w.cell? ⟨R, oR + 15, none⟩ = some (.int .u16 8239)) (c16 : w.cell? ⟨R, oR + 16, none⟩ = some (.int .u16 8287)) (c17 : w.cell? ⟨R, oR + 17, none⟩ = some (.int .u16 48)) (c18 : w.cell? ⟨R, oR + 18, none⟩ = some (.int .u16 12288)) (c19 : w.cell? ⟨R, oR + 19, none⟩ = some (.int .u16 12288)) (c20 : w.cell? ⟨R, oR + 20, none⟩ = some (.int .u16 1)) :
    Calls Tryz.prog 282 #[.slice (some ⟨R, oR + 6, none⟩) 5 5, .int .u16 z] w fun e w' => e = .returned (.bool (Lib.isSpaceR z)) ∧ Below w.heap.size w w' := Any.unicode_is16_white Tryz.lays311 R oR z w hz hz0 c6 c7 c8 c9 c10 c11 c12 c13 c14 c15 c16 c17 c18 c19 c20
def Tryz.lays261_ren : Go.Shelf.Ren := ⟨fun | 261 => 280 | 311 => 282 | 312 => 283 | n => n, fun | 141 => 260 | 21 => 21 | 4 => 4 | 0 => 0 | 196 => 269 | 193 => 266 | 3 => 3 | 51 => 199 | 198 => 272 | 49 => 270 | 194 => 267 | 201 => 275 | 226 => 277 | 46 => 170 | 227 => 278 | n => n, fun | n => n⟩
theorem Tryz.lays261 : Go.Proofs.Lays.n261 Tryz.prog Tryz.lays261_ren := {
  mixed := by kernel_rfl
  f261 := Tryz.func280.trans (congrArg some (by kernel_rfl))
  f311 := Tryz.func282.trans (congrArg some (by kernel_rfl))
  f312 := Tryz.func283.trans (congrArg some (by kernel_rfl))
  t0 := Tryz.underlying0
  a0 := Tryz.isAgg0
  z0 := Tryz.sizeOf0
  v0 := Tryz.zeroValue0
  t3 := Tryz.underlying3
  a3 := Tryz.isAgg3
  z3 := Tryz.sizeOf3
  v3 := Tryz.zeroValue3
  t4 := Tryz.underlying4
  a4 := Tryz.isAgg4
  z4 := Tryz.sizeOf4
  v4 := Tryz.zeroValue4
  t21 := Tryz.underlying21
  a21 := Tryz.isAgg21
  z21 := Tryz.sizeOf21
  v21 := Tryz.zeroValue21
  t46 := Tryz.underlying170
  a46 := Tryz.isAgg170
  z46 := Tryz.sizeOf170
  v46 := Tryz.zeroValue170
  t49 := Tryz.underlying270
  a49 := Tryz.isAgg270
  z49 := Tryz.sizeOf270
  v49 := Tryz.zeroValue270
  t51 := Tryz.underlying199
  a51 := Tryz.isAgg199
  z51 := Tryz.sizeOf199
  v51 := Tryz.zeroValue199
  t141 := Tryz.underlying260
  a141 := Tryz.isAgg260
  z141 := Tryz.sizeOf260
  v141 := Tryz.zeroValue260
  t193 := Tryz.underlying266
  a193 := Tryz.isAgg266
  z193 := Tryz.sizeOf266
  v193 := Tryz.zeroValue266
  t194 := Tryz.underlying267
  a194 := Tryz.isAgg267
  z194 := Tryz.sizeOf267
  v194 := Tryz.zeroValue267
  t196 := Tryz.underlying269
  a196 := Tryz.isAgg269
  z196 := Tryz.sizeOf269
  v196 := Tryz.zeroValue269
  t198 := Tryz.underlying272
  a198 := Tryz.isAgg272
  z198 := Tryz.sizeOf272
  v198 := Tryz.zeroValue272
  t201 := Tryz.underlying275
  a201 := Tryz.isAgg275
  z201 := Tryz.sizeOf275
  v201 := Tryz.zeroValue275
  t226 := Tryz.underlying277
  a226 := Tryz.isAgg277
  z226 := Tryz.sizeOf277
  v226 := Tryz.zeroValue277
  t227 := Tryz.underlying278
  a227 := Tryz.isAgg278
  z227 := Tryz.sizeOf278
  v227 := Tryz.zeroValue278 }
open Go.RowKit Go.Lib in
/-- unicode.isExcludingLatin(White_Space, r), r beyond U+00FF or negative. (LAID: no walk: one application.) -/
theorem Tryz.unicode_isExcludingLatin_white (T oT R oR : Nat) (r : Int) (w : World) (hlo : -2147483648 ≤ r) (hhi : r ≤ 2147483647) (hr : r < 0 ∨ 255 < r) (h2 : w.cell? ⟨T, oT, none⟩ = some (.slice (some ⟨R, oR, none⟩) 7 7)) (h3 : w.cell? ⟨T, oT + 1, none⟩ = some (.slice none 0 0)) (h4 : w.cell? ⟨T, oT + 2, none⟩ = some (.int .i64 2)) (h5 : ∀ i, i < 21 → w.cell? ⟨R, oR + i, none⟩ = some (.int .u16 (whiteT.getD i 0))) :
    Calls Tryz.prog 280 #[.pointer (some ⟨T, oT, none⟩), .int .i32 r] w fun e w' => e = .returned (.bool (Lib.isSpaceZ r)) ∧ Below w.heap.size w w' := Any.unicode_isExcludingLatin_white Tryz.lays261 T oT R oR r w hlo hhi hr h2 h3 h4 h5
open Go.RowKit Go.Lib in
/-- **unicode.IsSpace AT EVERY int32.** (LAID: no walk: one application.) -/
theorem Tryz.unicode_IsSpace_any (r : Int) (w : World) (hlo : -2147483648 ≤ r) (hhi : r ≤ 2147483647) (hW : Lib.WhiteTab 7 w) :
    Calls Tryz.prog 273 #[.int .i32 r] w fun e w' => e = .returned (.bool (Lib.isSpaceZ r)) ∧ Below w.heap.size w w' := Any.unicode_IsSpace_any Tryz.lays199 r w hlo hhi hW
open Go.RowKit Go.Lib in
theorem Tryz.unicode_is16_any (T : Array Rg) (R oR cap : Nat) (z : Nat) (w : World) (hz : z < 65536) (hT : RgTab .u16 R oR T w) (hok : RgOk 65536 T) (hn : T.size ≤ 1000000000) :
    Calls Tryz.prog 282 #[.slice (some ⟨R, oR, none⟩) T.size cap, .int .u16 z] w fun e w' => e = .returned (.bool (is16Go T z)) ∧ ∃ q, w' = w.drewN q := Any.unicode_is16_any Tryz.lays311 T R oR cap z w hz hT hok hn
def Tryz.lays312_ren : Go.Shelf.Ren := ⟨fun | 312 => 283 | n => n, fun | 194 => 267 | 51 => 199 | 4 => 4 | 3 => 3 | 0 => 0 | 227 => 278 | 201 => 275 | 46 => 170 | n => n, fun | n => n⟩
theorem Tryz.lays312 : Go.Proofs.Lays.n312 Tryz.prog Tryz.lays312_ren := {
  mixed := by kernel_rfl
  f312 := Tryz.func283.trans (congrArg some (by kernel_rfl))
  t0 := Tryz.underlying0
  a0 := Tryz.isAgg0
  z0 := Tryz.sizeOf0
  v0 := Tryz.zeroValue0
  t3 := Tryz.underlying3
  a3 := Tryz.isAgg3
  z3 := Tryz.sizeOf3
  v3 := Tryz.zeroValue3
  t4 := Tryz.underlying4
  a4 := Tryz.isAgg4
  z4 := Tryz.sizeOf4
  v4 := Tryz.zeroValue4
  t46 := Tryz.underlying170
  a46 := Tryz.isAgg170
  z46 := Tryz.sizeOf170
  v46 := Tryz.zeroValue170
  t51 := Tryz.underlying199
  a51 := Tryz.isAgg199
  z51 := Tryz.sizeOf199
  v51 := Tryz.zeroValue199
  t194 := Tryz.underlying267
  a194 := Tryz.isAgg267
  z194 := Tryz.sizeOf267
  v194 := Tryz.zeroValue267
  t201 := Tryz.underlying275
  a201 := Tryz.isAgg275
  z201 := Tryz.sizeOf275
  v201 := Tryz.zeroValue275
  t227 := Tryz.underlying278
  a227 := Tryz.isAgg278
  z227 := Tryz.sizeOf278
  v227 := Tryz.zeroValue278 }
open Go.RowKit Go.Lib in
theorem Tryz.unicode_is32_any (T : Array Rg) (R oR cap : Nat) (z : Nat) (w : World) (hz : z < 4294967296) (hT : RgTab .u32 R oR T w) (hok : RgOk 4294967296 T) (hn : T.size ≤ 1000000000) :
    Calls Tryz.prog 283 #[.slice (some ⟨R, oR, none⟩) T.size cap, .int .u32 z] w fun e w' => e = .returned (.bool (is32Go T z)) ∧ Below w.heap.size w w' := Any.unicode_is32_any Tryz.lays312 T R oR cap z w hz hT hok hn
open Go.RowKit Go.Lib in
theorem Tryz.unicode_isExcludingLatin_any (Tb oT : Nat) (T : RTab) (r : Int) (w : World) (hlo : -2147483648 ≤ r) (hhi : r ≤ 2147483647) (hA : RTabAt Tb oT T w) (hok : RTabOk T) :
    Calls Tryz.prog 280 #[.pointer (some ⟨Tb, oT, none⟩), .int .i32 r] w fun e w' => e = .returned (.bool (exclGo T r)) ∧ Below w.heap.size w w' := Any.unicode_isExcludingLatin_any Tryz.lays261 Tb oT T r w hlo hhi hA hok
def Tryz.lays194_ren : Go.Shelf.Ren := ⟨fun | 194 => 80 | n => n, fun | 31 => 48 | 9 => 9 | 3 => 3 | 4 => 4 | 0 => 0 | n => n, fun | n => n⟩
theorem Tryz.lays194 : Go.Proofs.Lays.n194 Tryz.prog Tryz.lays194_ren := {
  mixed := by kernel_rfl
  f194 := Tryz.func80.trans (congrArg some (by kernel_rfl))
  t0 := Tryz.underlying0
  a0 := Tryz.isAgg0
  z0 := Tryz.sizeOf0
  v0 := Tryz.zeroValue0
  t3 := Tryz.underlying3
  a3 := Tryz.isAgg3
  z3 := Tryz.sizeOf3
  v3 := Tryz.zeroValue3
  t4 := Tryz.underlying4
  a4 := Tryz.isAgg4
  z4 := Tryz.sizeOf4
  v4 := Tryz.zeroValue4
  t9 := Tryz.underlying9
  a9 := Tryz.isAgg9
  z9 := Tryz.sizeOf9
  v9 := Tryz.zeroValue9
  t31 := Tryz.underlying48
  a31 := Tryz.isAgg48
  z31 := Tryz.sizeOf48
  v31 := Tryz.zeroValue48 }
open Go.RowKit Go.Lib Go.Sort in
/-- slices.Compact at []string, over an array: the library's two loops are walked. (LAID: no walk: one application.) -/
theorem Tryz.slices_Compact_string_arr (blk off cap : Nat) (d : Array (List UInt8)) (w : World) (hH : Holds encStr w blk off d) (hsz : d.size ≤ 9223372036854775807) (hcap : d.size ≤ cap) :
    Calls Tryz.prog 80 #[.slice (some ⟨blk, off, none⟩) d.size cap] w fun e w' => e = .returned (.slice (some ⟨blk, off, none⟩) (compactUpTo d d.size).length cap) ∧ ∃ q, w' = putRow encStr (Sort.ahead w q) blk off (compactUpTo d d.size ++ List.replicate (d.size - (compactUpTo d d.size).length) []).toArray := Any.slices_Compact_string_arr Tryz.lays194 blk off cap d w hH hsz hcap
open Go.RowKit Go.Lib Go.Sort in
/-- slices.Compact at []string: "Compact replaces consecutive runs of equal elements with a single copy. This is like the uniq command found on Unix. Compact modifies the contents of the slice s and returns the modified slice, which may have a smaller length. Compact zeroes the elements between the new length and the original length. The result preserves the nilness of s.": IT RETURNS THE SLICE CUT TO 'Lib.compact zs'; ITS CELLS HOLD 'Lib.compact zs', THEN ZERO VALUES up to the old length; all else is as it was, but for the count of draws. IN THE WORDS OF slices.Sort's CONTRACT ('Holds', 'putRow'): so the everyday 'slices.Sort(xs); xs = slices.Compact(xs)' goes from the one contract to the other. It asks 'zs.length ≤ cap' (every slice's: the reslicing 's[:k]' looks at it). Length 0, nil: '.._empty'. (LAID: no walk: one application.) -/
theorem Tryz.slices_Compact_string (blk off cap : Nat) (zs : List (List UInt8)) (w : World) (hH : Holds encStr w blk off zs.toArray) (hsz : zs.length ≤ 9223372036854775807) (hcap : zs.length ≤ cap) :
    Calls Tryz.prog 80 #[.slice (some ⟨blk, off, none⟩) zs.length cap] w fun e w' => e = .returned (.slice (some ⟨blk, off, none⟩) (Lib.compact zs).length cap) ∧ ∃ q, w' = putRow encStr (Sort.ahead w q) blk off (Lib.compact zs ++ List.replicate (zs.length - (Lib.compact zs).length) []).toArray := Any.slices_Compact_string Tryz.lays194 blk off cap zs w hH hsz hcap
open Go.RowKit Go.Lib Go.Sort in
/-- The same at a slice of length 0, a nil one too: it comes back as it is. (LAID: no walk: one application.) -/
theorem Tryz.slices_Compact_string_empty (a : Option Addr) (cap : Nat) (w : World) :
    Calls Tryz.prog 80 #[.slice a 0 cap] w fun e w' => e = .returned (.slice a 0 cap) ∧ w' = w := Any.slices_Compact_string_empty Tryz.lays194 a cap w
open Go.RowKit Go.Sort in
/-- .. and plain. (LAID: no walk: one application.) -/
theorem Tryz.slices_Sort_string_none (p : Option Addr) (cap : Nat) (w : World) :
    Calls Tryz.prog 79 #[.slice p 0 cap] w fun e w' => e = .returned (.tuple #[]) ∧ w' = w := Any.slices_Sort_string_none Tryz.lays190 p cap w
end Go.Proofs
