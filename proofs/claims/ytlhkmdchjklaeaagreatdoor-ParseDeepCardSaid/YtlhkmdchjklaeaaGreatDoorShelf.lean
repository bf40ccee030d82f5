/-
  DERIVED: THE SHELF's CONTRACTS AT THIS DUMP, IN PLAIN WORDS (tools/lay-plain.mjs out of 'TryzShelf.lean', which tools/lay-shelf.mjs wrote): THE SAME DECLARATIONS UNDER THE SAME NAMES: 'import', 'namespace', 'open', 'def', 'theorem' AND NOTHING ELSE: no command of the shelf's: FOR A HAND-IN. Each laying: the table of numbers ('.._ren') and one theorem, a field a fact of the dump's own or the kernel's comparison; each contract: ONE APPLICATION.
-/
import Derived.Shelf.Strings.Builder1
import Derived.Shelf.Strings.Builder2
import Derived.Shelf.Strings.OnBuilder
import Derived.Shelf.Strings.Trim
import Derived.Shelf.Small.Utf8
import Derived.Shelf.Small.Bits
import Derived.Shelf.Small.Strs
import Derived.Shelf.Small.Wraps
import Derived.Shelf.Strings.BuilderF
import Derived.Shelf.Strings.BuilderK
import Derived.Shelf.Strings.BuilderRune
import Derived.Shelf.Utf8.AppendRune
import Derived.Shelf.Utf8.AppendRunePlain
import Derived.Shelf.Utf8.RuneCount
import Derived.Shelf.Strings.Builder2Cap
import Derived.Shelf.Strconv.Itoa0
import Derived.Shelf.Strconv.Itoa1
import Derived.Shelf.LaysM
import Derived.Shelf.Strconv.Itoa2
import Derived.Shelf.Strconv.Itoa3
import Derived.Shelf.Strconv.Itoa4
import Derived.Shelf.Strconv.ParseIntEmpty
import Derived.Shelf.Strconv.Clone
import Derived.Shelf.Strconv.SyntaxError
import Derived.Shelf.LaysC
import Derived.Shelf.Strconv.ToError
import Derived.Shelf.Strconv.Lower
import Derived.Shelf.Strconv.ParseUint10
import Derived.Shelf.Strconv.ParseUint10Empty
import Derived.Shelf.Strconv.ParseUint10Any
import Derived.Shelf.Strconv.ParseInt10
import Derived.Shelf.Strconv.RangeError
import Derived.Shelf.Strconv.ToErrorRange
import Derived.Shelf.Strconv.ParseUintEmpty
import Derived.Shelf.Strconv.ParseUint10b64
import Derived.Shelf.Strconv.ParseUint10b32
import Derived.Shelf.Strconv.ParseUint10b16
import Derived.Shelf.Strconv.ParseUint10b8
import Derived.Shelf.Strconv.ParseUint10At
import Derived.Shelf.Strconv.ParseInt10At64
import Derived.Shelf.Strconv.ParseInt10At32
import Derived.Shelf.Strconv.ParseInt10At16
import Derived.Shelf.Strconv.ParseInt10At8
import Derived.Shelf.Strconv.ParseInt10All
import Derived.Shelf.Strconv.ParseIntPublic10
import Derived.Shelf.Strconv.ErrVarParseInt
import Derived.Shelf.Strings.Search1
import Derived.Shelf.Strings.Search2
import Derived.Shelf.Strings.Search3
import Derived.Shelf.Strings.Count
import Derived.Shelf.Strings.Shaped
import Derived.Shelf.Strings.Prefix
import Derived.Shelf.Strings.Split
import Derived.Shelf.Strings.Replace
import Derived.Shelf.Strings.SplitShaped
import Derived.Shelf.Unicode.Latin
import Derived.Shelf.Unicode.Decode
import Derived.Shelf.Strings.Runes
import Derived.Shelf.Strings.RuneCount
import Derived.Shelf.Strings.AsciiSet
import Derived.Shelf.Bits.Mul64
import Derived.Shelf.Unicode.DecodeSlow
import Derived.Shelf.Unicode.DecodeAny
import Derived.Shelf.Unicode.DecodeLast
import Derived.Shelf.Unicode.CaseLookup
import Derived.Shelf.Unicode.CaseConvert
import Derived.Shelf.Unicode.CaseTo
import Derived.Shelf.Unicode.CaseLaid
import Derived.Shelf.Strings.MapAny
import Derived.Shelf.Strings.BuilderCap
import Derived.Shelf.Strings.MapGrows
import Derived.Shelf.Slices.Reverse
import Derived.Ground.Names2Prog
import Derived.Shelf.Slices.SearchI
import Derived.Shelf.Slices.Cells
import Derived.Ground.SlgnProg
import Derived.Shelf.SlicesG.SearchI
import Derived.Shelf.SlicesE.Reverse
import Derived.Test.YtlhkmdchjklaeaaGreatDoorProg
namespace Go.Proofs
open Go.Shelf
def Tryz.lays169_ren : Go.Shelf.Ren := ⟨fun | 169 => 43 | n => n, fun | 70 => 89 | 9 => 9 | 0 => 0 | 72 => 92 | 37 => 90 | 127 => 142 | 3 => 3 | 5 => 5 | n => n, fun | n => n⟩
theorem Tryz.lays169 : Go.Proofs.Lays.n169 Tryz.prog Tryz.lays169_ren := {
  mixed := by kernel_rfl
  f169 := Tryz.func43.trans (congrArg some (by kernel_rfl))
  t0 := Tryz.underlying0
  a0 := Tryz.isAgg0
  z0 := Tryz.sizeOf0
  v0 := Tryz.zeroValue0
  t3 := Tryz.underlying3
  a3 := Tryz.isAgg3
  z3 := Tryz.sizeOf3
  v3 := Tryz.zeroValue3
  t9 := Tryz.underlying9
  a9 := Tryz.isAgg9
  z9 := Tryz.sizeOf9
  v9 := Tryz.zeroValue9
  t37 := Tryz.underlying90
  a37 := Tryz.isAgg90
  z37 := Tryz.sizeOf90
  v37 := Tryz.zeroValue90
  t70 := Tryz.underlying89
  a70 := Tryz.isAgg89
  z70 := Tryz.sizeOf89
  v70 := Tryz.zeroValue89
  t72 := Tryz.underlying92
  a72 := Tryz.isAgg92
  z72 := Tryz.sizeOf92
  v72 := Tryz.zeroValue92
  t127 := Tryz.underlying142
  a127 := Tryz.isAgg142
  z127 := Tryz.sizeOf142
  v127 := Tryz.zeroValue142 }
theorem Tryz.Builder_Extra_169 : Builder.Extra Tryz.prog Tryz.lays169_ren := {
  sizeBuilder := by kernel_rfl
  liesBuilder := by kernel_rfl
  t5 := Tryz.underlying5
  a5 := Tryz.isAgg5
  z5 := Tryz.sizeOf5
  v5 := Tryz.zeroValue5
  infoByte := by kernel_rfl
  cellsByte := by kernel_rfl
  sizeByte := by kernel_rfl
  neB5 := by decide }
open Go.RowKit in
/-- (*strings.Builder).String: "String returns the accumulated string.": WHATEVER THE BUILDER HOLDS. (LAID: no walk: one application.) -/
theorem Tryz.Builder_String_any (B b : Nat) (l : List UInt8) (w : World) (h : Lib.IsBuilder 92 5 B b (Lib.byteCells l) w) (hBw : B ≤ w.heap.size) :
    Calls Tryz.prog 43 #[.pointer (some ⟨b, 0, none⟩)] w fun e w' => e = .returned (.string ⟨l.toArray⟩) ∧ Below B w w' := Any.Builder_String_any Tryz.lays169 Tryz.Builder_Extra_169 B b l w h hBw
def Tryz.lays158_ren : Go.Shelf.Ren := ⟨fun | 158 => 196 | 165 => 41 | 166 => 42 | 167 => 200 | 169 => 43 | 230 => 236 | 203 => 237 | 240 => 78 | 241 => 79 | 197 => 275 | 118 => 276 | 168 => 277 | 270 => 278 | 262 => 279 | 276 => 144 | 277 => 145 | 260 => 312 | 242 => 313 | 313 => 314 | 278 => 347 | 274 => 348 | 275 => 349 | n => n, fun | 9 => 9 | 4 => 4 | 3 => 3 | 5 => 5 | 72 => 92 | 0 => 0 | 76 => 96 | 75 => 95 | 107 => 284 | 70 => 89 | 20 => 20 | 37 => 90 | 127 => 142 | 21 => 21 | 105 => 305 | 164 => 177 | 162 => 344 | 203 => 342 | 119 => 361 | 46 => 313 | 139 => 364 | 138 => 363 | 51 => 149 | 160 => 366 | 208 => 386 | 206 => 384 | 80 => 98 | n => n, fun | 13 => 1 | 3 => 5 | 4 => 6 | n => n⟩
theorem Tryz.lays158 : Go.Proofs.Lays.n158 Tryz.prog Tryz.lays158_ren := {
  mixed := by kernel_rfl
  f118 := Tryz.func276.trans (congrArg some (by kernel_rfl))
  f158 := Tryz.func196.trans (congrArg some (by kernel_rfl))
  f165 := Tryz.func41.trans (congrArg some (by kernel_rfl))
  f166 := Tryz.func42.trans (congrArg some (by kernel_rfl))
  f167 := Tryz.func200.trans (congrArg some (by kernel_rfl))
  f168 := Tryz.func277.trans (congrArg some (by kernel_rfl))
  f169 := Tryz.func43.trans (congrArg some (by kernel_rfl))
  f197 := Tryz.func275.trans (congrArg some (by kernel_rfl))
  f203 := Tryz.func237.trans (congrArg some (by kernel_rfl))
  f230 := Tryz.func236.trans (congrArg some (by kernel_rfl))
  f240 := Tryz.func78.trans (congrArg some (by kernel_rfl))
  f241 := Tryz.func79.trans (congrArg some (by kernel_rfl))
  f242 := Tryz.func313.trans (congrArg some (by kernel_rfl))
  f260 := Tryz.func312.trans (congrArg some (by kernel_rfl))
  f262 := Tryz.func279.trans (congrArg some (by kernel_rfl))
  f270 := Tryz.func278.trans (congrArg some (by kernel_rfl))
  f274 := Tryz.func348.trans (congrArg some (by kernel_rfl))
  f275 := Tryz.func349.trans (congrArg some (by kernel_rfl))
  f276 := Tryz.func144.trans (congrArg some (by kernel_rfl))
  f277 := Tryz.func145.trans (congrArg some (by kernel_rfl))
  f278 := Tryz.func347.trans (congrArg some (by kernel_rfl))
  f313 := Tryz.func314.trans (congrArg some (by kernel_rfl))
  t0 := Tryz.underlying0
  a0 := Tryz.isAgg0
  z0 := Tryz.sizeOf0
  v0 := Tryz.zeroValue0
  t3 := Tryz.underlying3
  a3 := Tryz.isAgg3
  z3 := Tryz.sizeOf3
  v3 := Tryz.zeroValue3
  t4 := Tryz.underlying4
  a4 := Tryz.isAgg4
  z4 := Tryz.sizeOf4
  v4 := Tryz.zeroValue4
  t5 := Tryz.underlying5
  a5 := Tryz.isAgg5
  z5 := Tryz.sizeOf5
  v5 := Tryz.zeroValue5
  t9 := Tryz.underlying9
  a9 := Tryz.isAgg9
  z9 := Tryz.sizeOf9
  v9 := Tryz.zeroValue9
  t20 := Tryz.underlying20
  a20 := Tryz.isAgg20
  z20 := Tryz.sizeOf20
  v20 := Tryz.zeroValue20
  t21 := Tryz.underlying21
  a21 := Tryz.isAgg21
  z21 := Tryz.sizeOf21
  v21 := Tryz.zeroValue21
  t37 := Tryz.underlying90
  a37 := Tryz.isAgg90
  z37 := Tryz.sizeOf90
  v37 := Tryz.zeroValue90
  t46 := Tryz.underlying313
  a46 := Tryz.isAgg313
  z46 := Tryz.sizeOf313
  v46 := Tryz.zeroValue313
  t51 := Tryz.underlying149
  a51 := Tryz.isAgg149
  z51 := Tryz.sizeOf149
  v51 := Tryz.zeroValue149
  t70 := Tryz.underlying89
  a70 := Tryz.isAgg89
  z70 := Tryz.sizeOf89
  v70 := Tryz.zeroValue89
  t72 := Tryz.underlying92
  a72 := Tryz.isAgg92
  z72 := Tryz.sizeOf92
  v72 := Tryz.zeroValue92
  t75 := Tryz.underlying95
  a75 := Tryz.isAgg95
  z75 := Tryz.sizeOf95
  v75 := Tryz.zeroValue95
  t76 := Tryz.underlying96
  a76 := Tryz.isAgg96
  z76 := Tryz.sizeOf96
  v76 := Tryz.zeroValue96
  t105 := Tryz.underlying305
  a105 := Tryz.isAgg305
  z105 := Tryz.sizeOf305
  v105 := Tryz.zeroValue305
  t107 := Tryz.underlying284
  a107 := Tryz.isAgg284
  z107 := Tryz.sizeOf284
  v107 := Tryz.zeroValue284
  t119 := Tryz.underlying361
  a119 := Tryz.isAgg361
  z119 := Tryz.sizeOf361
  t127 := Tryz.underlying142
  a127 := Tryz.isAgg142
  z127 := Tryz.sizeOf142
  v127 := Tryz.zeroValue142
  t138 := Tryz.underlying363
  a138 := Tryz.isAgg363
  z138 := Tryz.sizeOf363
  v138 := Tryz.zeroValue363
  t139 := Tryz.underlying364
  a139 := Tryz.isAgg364
  z139 := Tryz.sizeOf364
  v139 := Tryz.zeroValue364
  t160 := Tryz.underlying366
  a160 := Tryz.isAgg366
  z160 := Tryz.sizeOf366
  v160 := Tryz.zeroValue366
  t162 := Tryz.underlying344
  a162 := Tryz.isAgg344
  z162 := Tryz.sizeOf344
  v162 := Tryz.zeroValue344
  t164 := Tryz.underlying177
  a164 := Tryz.isAgg177
  z164 := Tryz.sizeOf177
  v164 := Tryz.zeroValue177
  t203 := Tryz.underlying342
  a203 := Tryz.isAgg342
  z203 := Tryz.sizeOf342
  v203 := Tryz.zeroValue342
  t206 := Tryz.underlying384
  a206 := Tryz.isAgg384
  z206 := Tryz.sizeOf384
  v206 := Tryz.zeroValue384
  t208 := Tryz.underlying386
  a208 := Tryz.isAgg386
  z208 := Tryz.sizeOf386
  v208 := Tryz.zeroValue386
  g3 := by kernel_rfl
  g4 := by kernel_rfl
  g13 := by kernel_rfl }
theorem Tryz.Builder_Extra_158 : Builder.Extra Tryz.prog Tryz.lays158_ren := {
  sizeBuilder := by kernel_rfl
  liesBuilder := by kernel_rfl
  t5 := Tryz.underlying5
  a5 := Tryz.isAgg5
  z5 := Tryz.sizeOf5
  v5 := Tryz.zeroValue5
  infoByte := by kernel_rfl
  cellsByte := by kernel_rfl
  sizeByte := by kernel_rfl
  neB5 := by decide }
open Go.RowKit in
/-- strings.ToUpper: "ToUpper returns s with all Unicode letters mapped to their upper case.": ON ASCII TEXT OF AT MOST 2^47 BYTES. Below the heap's end the world is as it was: where a letter turns, the call makes a builder and its buffer. (LAID: no walk: one application.) -/
theorem Tryz.strings_ToUpper_ascii (s : ByteArray) (w : World) (hs : s.size ≤ 140737488355328) (hascii : ∀ (j : Nat) (b : UInt8), s.data.toList[j]? = some b → b.toNat < 128) :
    Calls Tryz.prog 196 #[.string s] w fun e w' => e = .returned (.string ⟨(Lib.toUpperA s.data.toList).toArray⟩) ∧ Below w.heap.size w w' := Any.strings_ToUpper_ascii Tryz.lays158 Tryz.Builder_Extra_158 s w hs hascii
def Tryz.lays159_ren : Go.Shelf.Ren := ⟨fun | 159 => 198 | 165 => 41 | 166 => 42 | 167 => 200 | 169 => 43 | 230 => 236 | 204 => 239 | 240 => 78 | 241 => 79 | 197 => 275 | 118 => 276 | 168 => 277 | 270 => 278 | 262 => 279 | 276 => 144 | 277 => 145 | 260 => 312 | 242 => 313 | 313 => 314 | 278 => 347 | 274 => 348 | 275 => 349 | n => n, fun | 9 => 9 | 4 => 4 | 3 => 3 | 5 => 5 | 72 => 92 | 0 => 0 | 76 => 96 | 75 => 95 | 107 => 284 | 70 => 89 | 20 => 20 | 37 => 90 | 127 => 142 | 21 => 21 | 105 => 305 | 164 => 177 | 162 => 344 | 203 => 342 | 119 => 361 | 46 => 313 | 139 => 364 | 138 => 363 | 51 => 149 | 160 => 366 | 208 => 386 | 206 => 384 | 80 => 98 | n => n, fun | 13 => 1 | 3 => 5 | 4 => 6 | n => n⟩
theorem Tryz.lays159 : Go.Proofs.Lays.n159 Tryz.prog Tryz.lays159_ren := {
  mixed := by kernel_rfl
  f118 := Tryz.func276.trans (congrArg some (by kernel_rfl))
  f159 := Tryz.func198.trans (congrArg some (by kernel_rfl))
  f165 := Tryz.func41.trans (congrArg some (by kernel_rfl))
  f166 := Tryz.func42.trans (congrArg some (by kernel_rfl))
  f167 := Tryz.func200.trans (congrArg some (by kernel_rfl))
  f168 := Tryz.func277.trans (congrArg some (by kernel_rfl))
  f169 := Tryz.func43.trans (congrArg some (by kernel_rfl))
  f197 := Tryz.func275.trans (congrArg some (by kernel_rfl))
  f204 := Tryz.func239.trans (congrArg some (by kernel_rfl))
  f230 := Tryz.func236.trans (congrArg some (by kernel_rfl))
  f240 := Tryz.func78.trans (congrArg some (by kernel_rfl))
  f241 := Tryz.func79.trans (congrArg some (by kernel_rfl))
  f242 := Tryz.func313.trans (congrArg some (by kernel_rfl))
  f260 := Tryz.func312.trans (congrArg some (by kernel_rfl))
  f262 := Tryz.func279.trans (congrArg some (by kernel_rfl))
  f270 := Tryz.func278.trans (congrArg some (by kernel_rfl))
  f274 := Tryz.func348.trans (congrArg some (by kernel_rfl))
  f275 := Tryz.func349.trans (congrArg some (by kernel_rfl))
  f276 := Tryz.func144.trans (congrArg some (by kernel_rfl))
  f277 := Tryz.func145.trans (congrArg some (by kernel_rfl))
  f278 := Tryz.func347.trans (congrArg some (by kernel_rfl))
  f313 := Tryz.func314.trans (congrArg some (by kernel_rfl))
  t0 := Tryz.underlying0
  a0 := Tryz.isAgg0
  z0 := Tryz.sizeOf0
  v0 := Tryz.zeroValue0
  t3 := Tryz.underlying3
  a3 := Tryz.isAgg3
  z3 := Tryz.sizeOf3
  v3 := Tryz.zeroValue3
  t4 := Tryz.underlying4
  a4 := Tryz.isAgg4
  z4 := Tryz.sizeOf4
  v4 := Tryz.zeroValue4
  t5 := Tryz.underlying5
  a5 := Tryz.isAgg5
  z5 := Tryz.sizeOf5
  v5 := Tryz.zeroValue5
  t9 := Tryz.underlying9
  a9 := Tryz.isAgg9
  z9 := Tryz.sizeOf9
  v9 := Tryz.zeroValue9
  t20 := Tryz.underlying20
  a20 := Tryz.isAgg20
  z20 := Tryz.sizeOf20
  v20 := Tryz.zeroValue20
  t21 := Tryz.underlying21
  a21 := Tryz.isAgg21
  z21 := Tryz.sizeOf21
  v21 := Tryz.zeroValue21
  t37 := Tryz.underlying90
  a37 := Tryz.isAgg90
  z37 := Tryz.sizeOf90
  v37 := Tryz.zeroValue90
  t46 := Tryz.underlying313
  a46 := Tryz.isAgg313
  z46 := Tryz.sizeOf313
  v46 := Tryz.zeroValue313
  t51 := Tryz.underlying149
  a51 := Tryz.isAgg149
  z51 := Tryz.sizeOf149
  v51 := Tryz.zeroValue149
  t70 := Tryz.underlying89
  a70 := Tryz.isAgg89
  z70 := Tryz.sizeOf89
  v70 := Tryz.zeroValue89
  t72 := Tryz.underlying92
  a72 := Tryz.isAgg92
  z72 := Tryz.sizeOf92
  v72 := Tryz.zeroValue92
  t75 := Tryz.underlying95
  a75 := Tryz.isAgg95
  z75 := Tryz.sizeOf95
  v75 := Tryz.zeroValue95
  t76 := Tryz.underlying96
  a76 := Tryz.isAgg96
  z76 := Tryz.sizeOf96
  v76 := Tryz.zeroValue96
  t105 := Tryz.underlying305
  a105 := Tryz.isAgg305
  z105 := Tryz.sizeOf305
  v105 := Tryz.zeroValue305
  t107 := Tryz.underlying284
  a107 := Tryz.isAgg284
  z107 := Tryz.sizeOf284
  v107 := Tryz.zeroValue284
  t119 := Tryz.underlying361
  a119 := Tryz.isAgg361
  z119 := Tryz.sizeOf361
  t127 := Tryz.underlying142
  a127 := Tryz.isAgg142
  z127 := Tryz.sizeOf142
  v127 := Tryz.zeroValue142
  t138 := Tryz.underlying363
  a138 := Tryz.isAgg363
  z138 := Tryz.sizeOf363
  v138 := Tryz.zeroValue363
  t139 := Tryz.underlying364
  a139 := Tryz.isAgg364
  z139 := Tryz.sizeOf364
  v139 := Tryz.zeroValue364
  t160 := Tryz.underlying366
  a160 := Tryz.isAgg366
  z160 := Tryz.sizeOf366
  v160 := Tryz.zeroValue366
  t162 := Tryz.underlying344
  a162 := Tryz.isAgg344
  z162 := Tryz.sizeOf344
  v162 := Tryz.zeroValue344
  t164 := Tryz.underlying177
  a164 := Tryz.isAgg177
  z164 := Tryz.sizeOf177
  v164 := Tryz.zeroValue177
  t203 := Tryz.underlying342
  a203 := Tryz.isAgg342
  z203 := Tryz.sizeOf342
  v203 := Tryz.zeroValue342
  t206 := Tryz.underlying384
  a206 := Tryz.isAgg384
  z206 := Tryz.sizeOf384
  v206 := Tryz.zeroValue384
  t208 := Tryz.underlying386
  a208 := Tryz.isAgg386
  z208 := Tryz.sizeOf386
  v208 := Tryz.zeroValue386
  g3 := by kernel_rfl
  g4 := by kernel_rfl
  g13 := by kernel_rfl }
theorem Tryz.Builder_Extra_159 : Builder.Extra Tryz.prog Tryz.lays159_ren := {
  sizeBuilder := by kernel_rfl
  liesBuilder := by kernel_rfl
  t5 := Tryz.underlying5
  a5 := Tryz.isAgg5
  z5 := Tryz.sizeOf5
  v5 := Tryz.zeroValue5
  infoByte := by kernel_rfl
  cellsByte := by kernel_rfl
  sizeByte := by kernel_rfl
  neB5 := by decide }
open Go.RowKit in
/-- strings.ToLower: "ToLower returns s with all Unicode letters mapped to their lower case.": ON ASCII TEXT OF AT MOST 2^47 BYTES. Below the heap's end the world is as it was: where a letter turns, the call makes a builder and its buffer. (LAID: no walk: one application.) -/
theorem Tryz.strings_ToLower_ascii (s : ByteArray) (w : World) (hs : s.size ≤ 140737488355328) (hascii : ∀ (j : Nat) (b : UInt8), s.data.toList[j]? = some b → b.toNat < 128) :
    Calls Tryz.prog 198 #[.string s] w fun e w' => e = .returned (.string ⟨(Lib.toLowerA s.data.toList).toArray⟩) ∧ Below w.heap.size w w' := Any.strings_ToLower_ascii Tryz.lays159 Tryz.Builder_Extra_159 s w hs hascii
def Tryz.lays156_ren : Go.Shelf.Ren := ⟨fun | 156 => 22 | 165 => 41 | 166 => 42 | 169 => 43 | 240 => 78 | 241 => 79 | 276 => 144 | 277 => 145 | n => n, fun | 31 => 22 | 9 => 9 | 3 => 3 | 4 => 4 | 0 => 0 | 20 => 20 | 72 => 92 | 76 => 96 | 70 => 89 | 37 => 90 | 75 => 95 | 127 => 142 | 164 => 177 | 5 => 5 | 80 => 98 | n => n, fun | n => n⟩
theorem Tryz.lays156 : Go.Proofs.Lays.n156 Tryz.prog Tryz.lays156_ren := {
  mixed := by kernel_rfl
  f156 := Tryz.func22.trans (congrArg some (by kernel_rfl))
  f165 := Tryz.func41.trans (congrArg some (by kernel_rfl))
  f166 := Tryz.func42.trans (congrArg some (by kernel_rfl))
  f169 := Tryz.func43.trans (congrArg some (by kernel_rfl))
  f240 := Tryz.func78.trans (congrArg some (by kernel_rfl))
  f241 := Tryz.func79.trans (congrArg some (by kernel_rfl))
  f276 := Tryz.func144.trans (congrArg some (by kernel_rfl))
  f277 := Tryz.func145.trans (congrArg some (by kernel_rfl))
  t0 := Tryz.underlying0
  a0 := Tryz.isAgg0
  z0 := Tryz.sizeOf0
  v0 := Tryz.zeroValue0
  t3 := Tryz.underlying3
  a3 := Tryz.isAgg3
  z3 := Tryz.sizeOf3
  v3 := Tryz.zeroValue3
  t4 := Tryz.underlying4
  a4 := Tryz.isAgg4
  z4 := Tryz.sizeOf4
  v4 := Tryz.zeroValue4
  t9 := Tryz.underlying9
  a9 := Tryz.isAgg9
  z9 := Tryz.sizeOf9
  v9 := Tryz.zeroValue9
  t20 := Tryz.underlying20
  a20 := Tryz.isAgg20
  z20 := Tryz.sizeOf20
  v20 := Tryz.zeroValue20
  t31 := Tryz.underlying22
  a31 := Tryz.isAgg22
  z31 := Tryz.sizeOf22
  v31 := Tryz.zeroValue22
  t37 := Tryz.underlying90
  a37 := Tryz.isAgg90
  z37 := Tryz.sizeOf90
  v37 := Tryz.zeroValue90
  t70 := Tryz.underlying89
  a70 := Tryz.isAgg89
  z70 := Tryz.sizeOf89
  v70 := Tryz.zeroValue89
  t72 := Tryz.underlying92
  a72 := Tryz.isAgg92
  z72 := Tryz.sizeOf92
  v72 := Tryz.zeroValue92
  t75 := Tryz.underlying95
  a75 := Tryz.isAgg95
  z75 := Tryz.sizeOf95
  v75 := Tryz.zeroValue95
  t76 := Tryz.underlying96
  a76 := Tryz.isAgg96
  z76 := Tryz.sizeOf96
  v76 := Tryz.zeroValue96
  t127 := Tryz.underlying142
  a127 := Tryz.isAgg142
  z127 := Tryz.sizeOf142
  v127 := Tryz.zeroValue142
  t164 := Tryz.underlying177
  a164 := Tryz.isAgg177
  z164 := Tryz.sizeOf177
  v164 := Tryz.zeroValue177 }
theorem Tryz.Builder_Extra_156 : Builder.Extra Tryz.prog Tryz.lays156_ren := {
  sizeBuilder := by kernel_rfl
  liesBuilder := by kernel_rfl
  t5 := Tryz.underlying5
  a5 := Tryz.isAgg5
  z5 := Tryz.sizeOf5
  v5 := Tryz.zeroValue5
  infoByte := by kernel_rfl
  cellsByte := by kernel_rfl
  sizeByte := by kernel_rfl
  neB5 := by decide }
open Go.RowKit in
/-- No element: the empty string; the world is as it was. (Whatever the slice's address and capacity: a nil slice too.) (LAID: no walk: one application.) -/
theorem Tryz.strings_Join_none (a : Option Addr) (c : Nat) (sep : ByteArray) (w : World) :
    Calls Tryz.prog 22 #[.slice a 0 c, .string sep] w fun e w' => e = .returned (.string ⟨#[]⟩) ∧ w' = w := Any.strings_Join_none Tryz.lays156 Tryz.Builder_Extra_156 a c sep w
open Go.RowKit in
/-- strings.Join: "Join concatenates the elements of its first argument to create a single string. The separator string sep is placed between elements in the resulting string.": HOWEVER MANY ELEMENTS. Below the heap's end the world is as it was. (LAID: no walk: one application.) -/
theorem Tryz.strings_Join (bk o c : Nat) (xs : List ByteArray) (sep : ByteArray) (w : World) (hcells : ∀ (j : Nat) x, xs[j]? = some x → w.cell? ⟨bk, o + j, none⟩ = some (.string x)) (hbk : bk < w.heap.size) (hN : xs.length ≤ 140737488355328) (hcap : xs.length ≤ c) (hlen : (Lib.join (xs.map (·.data.toList)) sep.data.toList).length ≤ 140737488355328) :
    Calls Tryz.prog 22 #[.slice (some ⟨bk, o, none⟩) xs.length c, .string sep] w fun e w' => e = .returned (.string ⟨(Lib.join (xs.map (·.data.toList)) sep.data.toList).toArray⟩) ∧ Below w.heap.size w w' := Any.strings_Join Tryz.lays156 Tryz.Builder_Extra_156 bk o c xs sep w hcells hbk hN hcap hlen
def Tryz.lays160_ren : Go.Shelf.Ren := ⟨fun | 160 => 272 | 232 => 305 | 231 => 304 | 227 => 306 | 234 => 308 | 233 => 307 | 236 => 310 | 235 => 309 | 228 => 344 | 271 => 346 | 151 => 345 | 197 => 275 | 120 => 365 | 152 => 364 | 260 => 312 | 137 => 114 | 119 => 372 | 224 => 316 | 225 => 315 | 217 => 193 | 266 => 235 | n => n, fun | 9 => 9 | 4 => 4 | 3 => 3 | 5 => 5 | 117 => 337 | 116 => 336 | 0 => 0 | 124 => 340 | 21 => 21 | 105 => 305 | 46 => 313 | 119 => 361 | 139 => 364 | 138 => 363 | n => n, fun | 3 => 5 | 4 => 6 | n => n⟩
theorem Tryz.lays160 : Go.Proofs.Lays.n160 Tryz.prog Tryz.lays160_ren := {
  mixed := by kernel_rfl
  f119 := Tryz.func372.trans (congrArg some (by kernel_rfl))
  f120 := Tryz.func365.trans (congrArg some (by kernel_rfl))
  f137 := Tryz.func114.trans (congrArg some (by kernel_rfl))
  f151 := Tryz.func345.trans (congrArg some (by kernel_rfl))
  f152 := Tryz.func364.trans (congrArg some (by kernel_rfl))
  f160 := Tryz.func272.trans (congrArg some (by kernel_rfl))
  f197 := Tryz.func275.trans (congrArg some (by kernel_rfl))
  f217 := Tryz.func193.trans (congrArg some (by kernel_rfl))
  f224 := Tryz.func316.trans (congrArg some (by kernel_rfl))
  f225 := Tryz.func315.trans (congrArg some (by kernel_rfl))
  f227 := Tryz.func306.trans (congrArg some (by kernel_rfl))
  f228 := Tryz.func344.trans (congrArg some (by kernel_rfl))
  f231 := Tryz.func304.trans (congrArg some (by kernel_rfl))
  f232 := Tryz.func305.trans (congrArg some (by kernel_rfl))
  f233 := Tryz.func307.trans (congrArg some (by kernel_rfl))
  f234 := Tryz.func308.trans (congrArg some (by kernel_rfl))
  f235 := Tryz.func309.trans (congrArg some (by kernel_rfl))
  f236 := Tryz.func310.trans (congrArg some (by kernel_rfl))
  f260 := Tryz.func312.trans (congrArg some (by kernel_rfl))
  f266 := Tryz.func235.trans (congrArg some (by kernel_rfl))
  f271 := Tryz.func346.trans (congrArg some (by kernel_rfl))
  t0 := Tryz.underlying0
  a0 := Tryz.isAgg0
  z0 := Tryz.sizeOf0
  v0 := Tryz.zeroValue0
  t3 := Tryz.underlying3
  a3 := Tryz.isAgg3
  z3 := Tryz.sizeOf3
  v3 := Tryz.zeroValue3
  t4 := Tryz.underlying4
  a4 := Tryz.isAgg4
  z4 := Tryz.sizeOf4
  v4 := Tryz.zeroValue4
  t5 := Tryz.underlying5
  a5 := Tryz.isAgg5
  z5 := Tryz.sizeOf5
  v5 := Tryz.zeroValue5
  t9 := Tryz.underlying9
  a9 := Tryz.isAgg9
  z9 := Tryz.sizeOf9
  v9 := Tryz.zeroValue9
  t21 := Tryz.underlying21
  a21 := Tryz.isAgg21
  z21 := Tryz.sizeOf21
  v21 := Tryz.zeroValue21
  t46 := Tryz.underlying313
  a46 := Tryz.isAgg313
  z46 := Tryz.sizeOf313
  v46 := Tryz.zeroValue313
  t105 := Tryz.underlying305
  a105 := Tryz.isAgg305
  z105 := Tryz.sizeOf305
  v105 := Tryz.zeroValue305
  t116 := Tryz.underlying336
  a116 := Tryz.isAgg336
  z116 := Tryz.sizeOf336
  t117 := Tryz.underlying337
  a117 := Tryz.isAgg337
  z117 := Tryz.sizeOf337
  v117 := Tryz.zeroValue337
  t119 := Tryz.underlying361
  a119 := Tryz.isAgg361
  z119 := Tryz.sizeOf361
  t124 := Tryz.underlying340
  a124 := Tryz.isAgg340
  z124 := Tryz.sizeOf340
  v124 := Tryz.zeroValue340
  t138 := Tryz.underlying363
  a138 := Tryz.isAgg363
  z138 := Tryz.sizeOf363
  v138 := Tryz.zeroValue363
  t139 := Tryz.underlying364
  a139 := Tryz.isAgg364
  z139 := Tryz.sizeOf364
  v139 := Tryz.zeroValue364
  g3 := by kernel_rfl
  g4 := by kernel_rfl }
open Go.RowKit in
/-- strings.Trim: "Trim returns a slice of the string s with all leading and trailing Unicode code points contained in cutset removed.": AT A cutset OF ONE ASCII BYTE. THE WORLD BEHIND IT: as it was, or (where s is not empty) with ONE DRAW MORE off the tape: the statement 'return trimLeftByte(trimRightByte(s, c), c)' draws its order of evaluation. (LAID: no walk: one application.) -/
theorem Tryz.strings_Trim_one (s : ByteArray) (c : UInt8) (hc : c.toNat < 128) (w : World) (hs : s.size ≤ 9223372036854775807) :
    Calls Tryz.prog 272 #[.string s, .string ⟨#[c]⟩] w fun e w' => e = .returned (.string ⟨(Lib.trimB s.data.toList c).toArray⟩) ∧ (w' = w ∨ w' = w.drew) := Any.strings_Trim_one Tryz.lays160 s c hc w hs
def Tryz.lays118_ren : Go.Shelf.Ren := ⟨fun | 118 => 276 | n => n, fun | 21 => 21 | 3 => 3 | 4 => 4 | n => n, fun | n => n⟩
theorem Tryz.lays118 : Go.Proofs.Lays.n118 Tryz.prog Tryz.lays118_ren := {
  mixed := by kernel_rfl
  f118 := Tryz.func276.trans (congrArg some (by kernel_rfl))
  t3 := Tryz.underlying3
  a3 := Tryz.isAgg3
  z3 := Tryz.sizeOf3
  v3 := Tryz.zeroValue3
  t4 := Tryz.underlying4
  a4 := Tryz.isAgg4
  z4 := Tryz.sizeOf4
  v4 := Tryz.zeroValue4
  t21 := Tryz.underlying21
  a21 := Tryz.isAgg21
  z21 := Tryz.sizeOf21
  v21 := Tryz.zeroValue21 }
/-- utf8.RuneLen: "RuneLen returns the number of bytes in the UTF-8 encoding of the rune. It returns -1 if the rune is not a valid value to encode in UTF-8.": IT RETURNS 'Lib.runeLen r'; the world is as it was. (LAID: no walk: one application.) -/
theorem Tryz.utf8_RuneLen (r : Int) (w : World) :
    Calls Tryz.prog 276 #[.int .i32 r] w fun e w' => e = .returned (.int .i64 (Lib.runeLen r)) ∧ w' = w := Any.utf8_RuneLen Tryz.lays118 r w
def Tryz.lays119_ren : Go.Shelf.Ren := ⟨fun | 119 => 372 | n => n, fun | 21 => 21 | 4 => 4 | n => n, fun | n => n⟩
theorem Tryz.lays119 : Go.Proofs.Lays.n119 Tryz.prog Tryz.lays119_ren := {
  mixed := by kernel_rfl
  f119 := Tryz.func372.trans (congrArg some (by kernel_rfl))
  t4 := Tryz.underlying4
  a4 := Tryz.isAgg4
  z4 := Tryz.sizeOf4
  v4 := Tryz.zeroValue4
  t21 := Tryz.underlying21
  a21 := Tryz.isAgg21
  z21 := Tryz.sizeOf21
  v21 := Tryz.zeroValue21 }
/-- utf8.ValidRune: "ValidRune reports whether r can be legally encoded as UTF-8. Code points that are out of range or a surrogate half are illegal.": IT RETURNS 'Lib.validRune r'; the world is as it was. (LAID: no walk: one application.) -/
theorem Tryz.utf8_ValidRune (r : Int) (w : World) :
    Calls Tryz.prog 372 #[.int .i32 r] w fun e w' => e = .returned (.bool (Lib.validRune r)) ∧ w' = w := Any.utf8_ValidRune Tryz.lays119 r w
def Tryz.lays125_ren : Go.Shelf.Ren := ⟨fun | 125 => 294 | 128 => 338 | 129 => 325 | n => n, fun | 46 => 313 | 3 => 3 | 51 => 149 | 53 => 288 | 4 => 4 | 5 => 5 | 9 => 9 | n => n, fun | n => n⟩
theorem Tryz.lays125 : Go.Proofs.Lays.n125 Tryz.prog Tryz.lays125_ren := {
  mixed := by kernel_rfl
  f125 := Tryz.func294.trans (congrArg some (by kernel_rfl))
  f128 := Tryz.func338.trans (congrArg some (by kernel_rfl))
  f129 := Tryz.func325.trans (congrArg some (by kernel_rfl))
  t3 := Tryz.underlying3
  a3 := Tryz.isAgg3
  z3 := Tryz.sizeOf3
  v3 := Tryz.zeroValue3
  t4 := Tryz.underlying4
  a4 := Tryz.isAgg4
  z4 := Tryz.sizeOf4
  v4 := Tryz.zeroValue4
  t5 := Tryz.underlying5
  a5 := Tryz.isAgg5
  z5 := Tryz.sizeOf5
  v5 := Tryz.zeroValue5
  t9 := Tryz.underlying9
  a9 := Tryz.isAgg9
  z9 := Tryz.sizeOf9
  v9 := Tryz.zeroValue9
  t46 := Tryz.underlying313
  a46 := Tryz.isAgg313
  z46 := Tryz.sizeOf313
  v46 := Tryz.zeroValue313
  t51 := Tryz.underlying149
  a51 := Tryz.isAgg149
  z51 := Tryz.sizeOf149
  v51 := Tryz.zeroValue149
  t53 := Tryz.underlying288
  a53 := Tryz.isAgg288
  z53 := Tryz.sizeOf288
  v53 := Tryz.zeroValue288 }
/-- bits.Len: "Len returns the minimum number of bits required to represent x; the result is 0 for x == 0.": IT RETURNS 'Lib.bitLen x'; the world is as it was. (A uint has 64 bits in the model.) ITS CALLEE bits.Len64 IS MET BY ITS OWN CONTRACT OFF THE SHELF (lay that first). (LAID: no walk: one application.) -/
theorem Tryz.bits_Len (x : Int) (w : World) (h0 : 0 ≤ x) (h1 : x ≤ 18446744073709551615) :
    Calls Tryz.prog 294 #[.int .u64 x] w fun e w' => e = .returned (.int .i64 (Lib.bitLen x.toNat)) ∧ w' = w := Any.bits_Len Tryz.lays125 x w h0 h1
def Tryz.lays137_ren : Go.Shelf.Ren := ⟨fun | 137 => 114 | 217 => 193 | 266 => 235 | n => n, fun | 9 => 9 | 5 => 5 | 3 => 3 | n => n, fun | n => n⟩
theorem Tryz.lays137 : Go.Proofs.Lays.n137 Tryz.prog Tryz.lays137_ren := {
  mixed := by kernel_rfl
  f137 := Tryz.func114.trans (congrArg some (by kernel_rfl))
  f217 := Tryz.func193.trans (congrArg some (by kernel_rfl))
  f266 := Tryz.func235.trans (congrArg some (by kernel_rfl))
  t3 := Tryz.underlying3
  a3 := Tryz.isAgg3
  z3 := Tryz.sizeOf3
  v3 := Tryz.zeroValue3
  t5 := Tryz.underlying5
  a5 := Tryz.isAgg5
  z5 := Tryz.sizeOf5
  v5 := Tryz.zeroValue5
  t9 := Tryz.underlying9
  a9 := Tryz.isAgg9
  z9 := Tryz.sizeOf9
  v9 := Tryz.zeroValue9 }
open Go.RowKit in
/-- strings.IndexByte: "IndexByte returns the index of the first instance of c in s, or -1 if c is not present in s.": IT RETURNS 'Lib.indexByte s c'; the world is as it was. (LAID: no walk: one application.) -/
theorem Tryz.strings_IndexByte (s : ByteArray) (c : Int) (w : World) :
    Calls Tryz.prog 114 #[.string s, .int .u8 c] w fun e w' => e = .returned (.int .i64 (Lib.indexByte s.data.toList c.toNat.toUInt8)) ∧ w' = w := Any.strings_IndexByte Tryz.lays137 s c w
def Tryz.lays195_ren : Go.Shelf.Ren := ⟨fun | 195 => 273 | n => n, fun | 9 => 9 | 3 => 3 | 0 => 0 | 4 => 4 | n => n, fun | n => n⟩
theorem Tryz.lays195 : Go.Proofs.Lays.n195 Tryz.prog Tryz.lays195_ren := {
  mixed := by kernel_rfl
  f195 := Tryz.func273.trans (congrArg some (by kernel_rfl))
  t0 := Tryz.underlying0
  a0 := Tryz.isAgg0
  z0 := Tryz.sizeOf0
  v0 := Tryz.zeroValue0
  t3 := Tryz.underlying3
  a3 := Tryz.isAgg3
  z3 := Tryz.sizeOf3
  v3 := Tryz.zeroValue3
  t4 := Tryz.underlying4
  a4 := Tryz.isAgg4
  z4 := Tryz.sizeOf4
  v4 := Tryz.zeroValue4
  t9 := Tryz.underlying9
  a9 := Tryz.isAgg9
  z9 := Tryz.sizeOf9
  v9 := Tryz.zeroValue9 }
open Go.RowKit in
/-- unicode/utf8.RuneCountInString: "RuneCountInString is like RuneCount but its input is a string." ("RuneCount returns the number of runes in p. Erroneous and short encodings are treated as single runes of width 1 byte."): EVERY STRING, valid UTF-8 or not: 'Lib.runeCount s' (plain Lean over the model's own 'Utf8.decode'; 'Lib.runeCount_le': at most len(s); 'Lib.runeCount_ascii': on ASCII: len(s)). THE ONE CONDITION: len(s) below 2^63 - 1 (the counter does not wrap): the form's reach pays it. THE WORLD BEHIND THE CALL: ONE BLOCK MORE: the model's iterator over s, at its end: all else as it was. (LAID: no walk: one application.) -/
theorem Tryz.utf8_RuneCountInString (s : ByteArray) (w : World) (hs : s.size < 9223372036854775807) :
    Calls Tryz.prog 273 #[.string s] w fun e w' => e = .returned (.int .i64 (Lib.runeCount s)) ∧ ∃ pos, w' = w.iter s pos := Any.utf8_RuneCountInString Tryz.lays195 s w hs
def Tryz.laysM173_ren : Go.Shelf.Ren := ⟨fun | 173 => 206 | 246 => 244 | 283 => 287 | 284 => 288 | 285 => 289 | 286 => 290 | 129 => 325 | 317 => 324 | 318 => 326 | 319 => 327 | 320 => 328 | 337 => 352 | 338 => 353 | n => n, fun | 2 => 2 | 3 => 3 | 9 => 9 | 4 => 4 | 171 => 317 | 0 => 0 | 53 => 288 | 37 => 90 | 5 => 5 | 173 => 320 | 212 => 350 | 51 => 149 | 20 => 20 | 213 => 351 | 46 => 313 | 232 => 387 | 233 => 388 | n => n, fun | 17 => 4 | 18 => 7 | 19 => 8 | n => n⟩
theorem Tryz.laysM173 : Go.Proofs.LaysM.n173 Tryz.prog Tryz.laysM173_ren := {
  mixed := by kernel_rfl
  f129 := Tryz.func325.trans (congrArg some (by kernel_rfl))
  f173 := Tryz.func206.trans (congrArg some (by kernel_rfl))
  f246 := Tryz.func244.trans (congrArg some (by kernel_rfl))
  f283 := Tryz.func287.trans (congrArg some (by kernel_rfl))
  f284 := Tryz.func288.trans (congrArg some (by kernel_rfl))
  f285 := Tryz.func289.trans (congrArg some (by kernel_rfl))
  f286 := Tryz.func290.trans (congrArg some (by kernel_rfl))
  f317 := Tryz.func324.trans (congrArg some (by kernel_rfl))
  f318 := Tryz.func326.trans (congrArg some (by kernel_rfl))
  f319 := Tryz.func327.trans (congrArg some (by kernel_rfl))
  f320 := Tryz.func328.trans (congrArg some (by kernel_rfl))
  f337 := Tryz.func352.trans (congrArg some (by kernel_rfl))
  f338 := Tryz.func353.trans (congrArg some (by kernel_rfl))
  t0 := Tryz.underlying0
  a0 := Tryz.isAgg0
  z0 := Tryz.sizeOf0
  v0 := Tryz.zeroValue0
  t2 := Tryz.underlying2
  a2 := Tryz.isAgg2
  z2 := Tryz.sizeOf2
  v2 := Tryz.zeroValue2
  t3 := Tryz.underlying3
  a3 := Tryz.isAgg3
  z3 := Tryz.sizeOf3
  v3 := Tryz.zeroValue3
  t4 := Tryz.underlying4
  a4 := Tryz.isAgg4
  z4 := Tryz.sizeOf4
  v4 := Tryz.zeroValue4
  t5 := Tryz.underlying5
  a5 := Tryz.isAgg5
  z5 := Tryz.sizeOf5
  v5 := Tryz.zeroValue5
  t9 := Tryz.underlying9
  a9 := Tryz.isAgg9
  z9 := Tryz.sizeOf9
  v9 := Tryz.zeroValue9
  t20 := Tryz.underlying20
  a20 := Tryz.isAgg20
  z20 := Tryz.sizeOf20
  v20 := Tryz.zeroValue20
  t37 := Tryz.underlying90
  a37 := Tryz.isAgg90
  z37 := Tryz.sizeOf90
  v37 := Tryz.zeroValue90
  t46 := Tryz.underlying313
  a46 := Tryz.isAgg313
  z46 := Tryz.sizeOf313
  v46 := Tryz.zeroValue313
  t51 := Tryz.underlying149
  a51 := Tryz.isAgg149
  z51 := Tryz.sizeOf149
  v51 := Tryz.zeroValue149
  t53 := Tryz.underlying288
  a53 := Tryz.isAgg288
  z53 := Tryz.sizeOf288
  v53 := Tryz.zeroValue288
  t171 := Tryz.underlying317
  a171 := Tryz.isAgg317
  z171 := Tryz.sizeOf317
  v171 := Tryz.zeroValue317
  t173 := Tryz.underlying320
  a173 := Tryz.isAgg320
  z173 := Tryz.sizeOf320
  v173 := Tryz.zeroValue320
  t212 := Tryz.underlying350
  a212 := Tryz.isAgg350
  z212 := Tryz.sizeOf350
  v212 := Tryz.zeroValue350
  t213 := Tryz.underlying351
  a213 := Tryz.isAgg351
  z213 := Tryz.sizeOf351
  t232 := Tryz.underlying387
  a232 := Tryz.isAgg387
  z232 := Tryz.sizeOf387
  v232 := Tryz.zeroValue387
  t233 := Tryz.underlying388
  a233 := Tryz.isAgg388
  z233 := Tryz.sizeOf388
  v233 := Tryz.zeroValue388
  g17 := by kernel_rfl
  g18 := by kernel_rfl
  g19 := by kernel_rfl
  i0 := by kernel_rfl
  i2 := by kernel_rfl
  i3 := by kernel_rfl
  i4 := by kernel_rfl
  i5 := by kernel_rfl
  i9 := by kernel_rfl
  i20 := by kernel_rfl
  i37 := by kernel_rfl
  i46 := by kernel_rfl
  i51 := by kernel_rfl
  i53 := by kernel_rfl
  i171 := by kernel_rfl
  i173 := by kernel_rfl
  i212 := by kernel_rfl
  i232 := by kernel_rfl
  i233 := by kernel_rfl
  m17 := by kernel_rfl
  m18 := by kernel_rfl
  m19 := by kernel_rfl }
open Go.RowKit Go.Sort Go.Lib in
/-- strconv.FormatInt: "FormatInt returns the string representation of i in the given base": AT BASE 10: i's decimal numeral, for every int64. (LAID: no walk: one application.) -/
theorem Tryz.strconv_FormatInt_10 (n : Int) (h0 : -9223372036854775808 ≤ n) (h1 : n ≤ 9223372036854775807) (w : World) (htab : Lib.TabIs Tryz.prog w "internal/strconv.uint64pow10" .u64 Lib.pow10Tab) :
    Calls Tryz.prog 206 #[.int .i64 n, .int .i64 10] w fun e w' => e = .returned (.string ⟨(Lib.itoa n).toArray⟩) ∧ ∃ k os, w' = grow (w.drewN k) os := Any.strconv_FormatInt_10 Tryz.laysM173 n h0 h1 w htab
def Tryz.lays173_ren : Go.Shelf.Ren := ⟨fun | 173 => 206 | 246 => 244 | 283 => 287 | 284 => 288 | 285 => 289 | 286 => 290 | 129 => 325 | 317 => 324 | 318 => 326 | 319 => 327 | 320 => 328 | 337 => 352 | 338 => 353 | n => n, fun | 2 => 2 | 3 => 3 | 9 => 9 | 4 => 4 | 171 => 317 | 0 => 0 | 53 => 288 | 37 => 90 | 5 => 5 | 173 => 320 | 212 => 350 | 51 => 149 | 20 => 20 | 213 => 351 | 46 => 313 | 232 => 387 | 233 => 388 | n => n, fun | 17 => 4 | 18 => 7 | 19 => 8 | n => n⟩
theorem Tryz.lays173 : Go.Proofs.Lays.n173 Tryz.prog Tryz.lays173_ren := {
  mixed := by kernel_rfl
  f129 := Tryz.func325.trans (congrArg some (by kernel_rfl))
  f173 := Tryz.func206.trans (congrArg some (by kernel_rfl))
  f246 := Tryz.func244.trans (congrArg some (by kernel_rfl))
  f283 := Tryz.func287.trans (congrArg some (by kernel_rfl))
  f284 := Tryz.func288.trans (congrArg some (by kernel_rfl))
  f285 := Tryz.func289.trans (congrArg some (by kernel_rfl))
  f286 := Tryz.func290.trans (congrArg some (by kernel_rfl))
  f317 := Tryz.func324.trans (congrArg some (by kernel_rfl))
  f318 := Tryz.func326.trans (congrArg some (by kernel_rfl))
  f319 := Tryz.func327.trans (congrArg some (by kernel_rfl))
  f320 := Tryz.func328.trans (congrArg some (by kernel_rfl))
  f337 := Tryz.func352.trans (congrArg some (by kernel_rfl))
  f338 := Tryz.func353.trans (congrArg some (by kernel_rfl))
  t0 := Tryz.underlying0
  a0 := Tryz.isAgg0
  z0 := Tryz.sizeOf0
  v0 := Tryz.zeroValue0
  t2 := Tryz.underlying2
  a2 := Tryz.isAgg2
  z2 := Tryz.sizeOf2
  v2 := Tryz.zeroValue2
  t3 := Tryz.underlying3
  a3 := Tryz.isAgg3
  z3 := Tryz.sizeOf3
  v3 := Tryz.zeroValue3
  t4 := Tryz.underlying4
  a4 := Tryz.isAgg4
  z4 := Tryz.sizeOf4
  v4 := Tryz.zeroValue4
  t5 := Tryz.underlying5
  a5 := Tryz.isAgg5
  z5 := Tryz.sizeOf5
  v5 := Tryz.zeroValue5
  t9 := Tryz.underlying9
  a9 := Tryz.isAgg9
  z9 := Tryz.sizeOf9
  v9 := Tryz.zeroValue9
  t20 := Tryz.underlying20
  a20 := Tryz.isAgg20
  z20 := Tryz.sizeOf20
  v20 := Tryz.zeroValue20
  t37 := Tryz.underlying90
  a37 := Tryz.isAgg90
  z37 := Tryz.sizeOf90
  v37 := Tryz.zeroValue90
  t46 := Tryz.underlying313
  a46 := Tryz.isAgg313
  z46 := Tryz.sizeOf313
  v46 := Tryz.zeroValue313
  t51 := Tryz.underlying149
  a51 := Tryz.isAgg149
  z51 := Tryz.sizeOf149
  v51 := Tryz.zeroValue149
  t53 := Tryz.underlying288
  a53 := Tryz.isAgg288
  z53 := Tryz.sizeOf288
  v53 := Tryz.zeroValue288
  t171 := Tryz.underlying317
  a171 := Tryz.isAgg317
  z171 := Tryz.sizeOf317
  v171 := Tryz.zeroValue317
  t173 := Tryz.underlying320
  a173 := Tryz.isAgg320
  z173 := Tryz.sizeOf320
  v173 := Tryz.zeroValue320
  t212 := Tryz.underlying350
  a212 := Tryz.isAgg350
  z212 := Tryz.sizeOf350
  v212 := Tryz.zeroValue350
  t213 := Tryz.underlying351
  a213 := Tryz.isAgg351
  z213 := Tryz.sizeOf351
  t232 := Tryz.underlying387
  a232 := Tryz.isAgg387
  z232 := Tryz.sizeOf387
  v232 := Tryz.zeroValue387
  t233 := Tryz.underlying388
  a233 := Tryz.isAgg388
  z233 := Tryz.sizeOf388
  v233 := Tryz.zeroValue388
  g17 := by kernel_rfl
  g18 := by kernel_rfl
  g19 := by kernel_rfl }
open Go.RowKit Go.Sort Go.Lib in
/-- THE ROAD WITHOUT THE TABLE: 0 <= i < 100. (LAID: no walk: one application.) -/
theorem Tryz.strconv_FormatInt_10_small (i : Nat) (hi : i < 100) (w : World) :
    Calls Tryz.prog 206 #[.int .i64 i, .int .i64 10] w fun e w' => e = .returned (.string ⟨(Lib.decDigits i).toArray⟩) ∧ w' = w := Any.strconv_FormatInt_10_small Tryz.lays173 i hi w
def Tryz.laysC174_ren : Go.Shelf.Ren := ⟨fun | 174 => 199 | 247 => 240 | 245 => 241 | 287 => 281 | 279 => 282 | 280 => 283 | 281 => 284 | 282 => 285 | 321 => 318 | 322 => 319 | 316 => 320 | 171 => 322 | 205 => 321 | 243 => 351 | 246 => 244 | 283 => 287 | 284 => 288 | 285 => 289 | 286 => 290 | 129 => 325 | 317 => 324 | 318 => 326 | 319 => 327 | 320 => 328 | 337 => 352 | 338 => 353 | n => n, fun | 9 => 9 | 3 => 3 | 2 => 2 | 75 => 95 | 85 => 235 | 4 => 4 | 167 => 310 | 5 => 5 | 53 => 288 | 175 => 311 | 46 => 313 | 168 => 314 | 37 => 90 | 0 => 0 | 210 => 347 | 21 => 21 | 127 => 142 | 145 => 373 | 143 => 371 | 171 => 317 | 173 => 320 | 212 => 350 | 51 => 149 | 20 => 20 | 213 => 351 | 232 => 387 | 233 => 388 | 80 => 98 | n => n, fun | 15 => 2 | 16 => 3 | 17 => 4 | 18 => 7 | 19 => 8 | n => n⟩
theorem Tryz.laysC174 : Go.Proofs.LaysC.n174 Tryz.prog Tryz.laysC174_ren := {
  mixed := by kernel_rfl
  f129 := Tryz.func325.trans (congrArg some (by kernel_rfl))
  f171 := Tryz.func322.trans (congrArg some (by kernel_rfl))
  f174 := Tryz.func199.trans (congrArg some (by kernel_rfl))
  f205 := Tryz.func321.trans (congrArg some (by kernel_rfl))
  f243 := Tryz.func351.trans (congrArg some (by kernel_rfl))
  f245 := Tryz.func241.trans (congrArg some (by kernel_rfl))
  f246 := Tryz.func244.trans (congrArg some (by kernel_rfl))
  f247 := Tryz.func240.trans (congrArg some (by kernel_rfl))
  f279 := Tryz.func282.trans (congrArg some (by kernel_rfl))
  f280 := Tryz.func283.trans (congrArg some (by kernel_rfl))
  f281 := Tryz.func284.trans (congrArg some (by kernel_rfl))
  f282 := Tryz.func285.trans (congrArg some (by kernel_rfl))
  f283 := Tryz.func287.trans (congrArg some (by kernel_rfl))
  f284 := Tryz.func288.trans (congrArg some (by kernel_rfl))
  f285 := Tryz.func289.trans (congrArg some (by kernel_rfl))
  f286 := Tryz.func290.trans (congrArg some (by kernel_rfl))
  f287 := Tryz.func281.trans (congrArg some (by kernel_rfl))
  f316 := Tryz.func320.trans (congrArg some (by kernel_rfl))
  f317 := Tryz.func324.trans (congrArg some (by kernel_rfl))
  f318 := Tryz.func326.trans (congrArg some (by kernel_rfl))
  f319 := Tryz.func327.trans (congrArg some (by kernel_rfl))
  f320 := Tryz.func328.trans (congrArg some (by kernel_rfl))
  f321 := Tryz.func318.trans (congrArg some (by kernel_rfl))
  f322 := Tryz.func319.trans (congrArg some (by kernel_rfl))
  f337 := Tryz.func352.trans (congrArg some (by kernel_rfl))
  f338 := Tryz.func353.trans (congrArg some (by kernel_rfl))
  t0 := Tryz.underlying0
  a0 := Tryz.isAgg0
  z0 := Tryz.sizeOf0
  v0 := Tryz.zeroValue0
  t2 := Tryz.underlying2
  a2 := Tryz.isAgg2
  z2 := Tryz.sizeOf2
  v2 := Tryz.zeroValue2
  t3 := Tryz.underlying3
  a3 := Tryz.isAgg3
  z3 := Tryz.sizeOf3
  v3 := Tryz.zeroValue3
  t4 := Tryz.underlying4
  a4 := Tryz.isAgg4
  z4 := Tryz.sizeOf4
  v4 := Tryz.zeroValue4
  t5 := Tryz.underlying5
  a5 := Tryz.isAgg5
  z5 := Tryz.sizeOf5
  v5 := Tryz.zeroValue5
  t9 := Tryz.underlying9
  a9 := Tryz.isAgg9
  z9 := Tryz.sizeOf9
  v9 := Tryz.zeroValue9
  t20 := Tryz.underlying20
  a20 := Tryz.isAgg20
  z20 := Tryz.sizeOf20
  v20 := Tryz.zeroValue20
  t21 := Tryz.underlying21
  a21 := Tryz.isAgg21
  z21 := Tryz.sizeOf21
  v21 := Tryz.zeroValue21
  t37 := Tryz.underlying90
  a37 := Tryz.isAgg90
  z37 := Tryz.sizeOf90
  v37 := Tryz.zeroValue90
  t46 := Tryz.underlying313
  a46 := Tryz.isAgg313
  z46 := Tryz.sizeOf313
  v46 := Tryz.zeroValue313
  t51 := Tryz.underlying149
  a51 := Tryz.isAgg149
  z51 := Tryz.sizeOf149
  v51 := Tryz.zeroValue149
  t53 := Tryz.underlying288
  a53 := Tryz.isAgg288
  z53 := Tryz.sizeOf288
  v53 := Tryz.zeroValue288
  t75 := Tryz.underlying95
  a75 := Tryz.isAgg95
  z75 := Tryz.sizeOf95
  v75 := Tryz.zeroValue95
  t85 := Tryz.underlying235
  a85 := Tryz.isAgg235
  z85 := Tryz.sizeOf235
  v85 := Tryz.zeroValue235
  t127 := Tryz.underlying142
  a127 := Tryz.isAgg142
  z127 := Tryz.sizeOf142
  v127 := Tryz.zeroValue142
  t143 := Tryz.underlying371
  a143 := Tryz.isAgg371
  z143 := Tryz.sizeOf371
  v143 := Tryz.zeroValue371
  t145 := Tryz.underlying373
  a145 := Tryz.isAgg373
  z145 := Tryz.sizeOf373
  v145 := Tryz.zeroValue373
  t167 := Tryz.underlying310
  a167 := Tryz.isAgg310
  z167 := Tryz.sizeOf310
  v167 := Tryz.zeroValue310
  t168 := Tryz.underlying314
  a168 := Tryz.isAgg314
  z168 := Tryz.sizeOf314
  v168 := Tryz.zeroValue314
  t171 := Tryz.underlying317
  a171 := Tryz.isAgg317
  z171 := Tryz.sizeOf317
  v171 := Tryz.zeroValue317
  t173 := Tryz.underlying320
  a173 := Tryz.isAgg320
  z173 := Tryz.sizeOf320
  v173 := Tryz.zeroValue320
  t175 := Tryz.underlying311
  a175 := Tryz.isAgg311
  z175 := Tryz.sizeOf311
  v175 := Tryz.zeroValue311
  t210 := Tryz.underlying347
  a210 := Tryz.isAgg347
  z210 := Tryz.sizeOf347
  v210 := Tryz.zeroValue347
  t212 := Tryz.underlying350
  a212 := Tryz.isAgg350
  z212 := Tryz.sizeOf350
  v212 := Tryz.zeroValue350
  t213 := Tryz.underlying351
  a213 := Tryz.isAgg351
  z213 := Tryz.sizeOf351
  t232 := Tryz.underlying387
  a232 := Tryz.isAgg387
  z232 := Tryz.sizeOf387
  v232 := Tryz.zeroValue387
  t233 := Tryz.underlying388
  a233 := Tryz.isAgg388
  z233 := Tryz.sizeOf388
  v233 := Tryz.zeroValue388
  g15 := by kernel_rfl
  g16 := by kernel_rfl
  g17 := by kernel_rfl
  g18 := by kernel_rfl
  g19 := by kernel_rfl
  t80 := Tryz.underlying98
  a80 := Tryz.isAgg98
  z80 := Tryz.sizeOf98
  v80 := Tryz.zeroValue98
  i0 := by kernel_rfl
  i2 := by kernel_rfl
  i3 := by kernel_rfl
  i4 := by kernel_rfl
  i5 := by kernel_rfl
  i9 := by kernel_rfl
  i20 := by kernel_rfl
  i21 := by kernel_rfl
  i37 := by kernel_rfl
  i46 := by kernel_rfl
  i51 := by kernel_rfl
  i53 := by kernel_rfl
  i75 := by kernel_rfl
  i80 := by kernel_rfl
  i85 := by kernel_rfl
  i127 := by kernel_rfl
  i143 := by kernel_rfl
  i145 := by kernel_rfl
  i167 := by kernel_rfl
  i168 := by kernel_rfl
  i171 := by kernel_rfl
  i173 := by kernel_rfl
  i175 := by kernel_rfl
  i210 := by kernel_rfl
  i212 := by kernel_rfl
  i232 := by kernel_rfl
  i233 := by kernel_rfl
  m15 := by kernel_rfl
  m16 := by kernel_rfl
  m17 := by kernel_rfl
  m18 := by kernel_rfl
  m19 := by kernel_rfl
  c0 := by kernel_rfl
  c2 := by kernel_rfl
  c3 := by kernel_rfl
  c4 := by kernel_rfl
  c5 := by kernel_rfl
  c9 := by kernel_rfl
  c20 := by kernel_rfl
  c21 := by kernel_rfl
  c37 := by kernel_rfl
  c46 := by kernel_rfl
  c51 := by kernel_rfl
  c53 := by kernel_rfl
  c75 := by kernel_rfl
  c80 := by kernel_rfl
  c85 := by kernel_rfl
  c127 := by kernel_rfl
  c143 := by kernel_rfl
  c145 := by kernel_rfl
  c167 := by kernel_rfl
  c168 := by kernel_rfl
  c171 := by kernel_rfl
  c173 := by kernel_rfl
  c175 := by kernel_rfl
  c210 := by kernel_rfl
  c212 := by kernel_rfl
  c213 := by kernel_rfl
  c232 := by kernel_rfl
  c233 := by kernel_rfl }
open Go.RowKit in
/-- strconv.ParseInt(s, 10, 64), AT EVERY STRING THAT SPELLS AN int64 ('Lib.parseIntB 64 s.data.toList = .ok v'): v, AND NO ERROR. (LAID: no walk: one application.) -/
theorem Tryz.strconv_ParseInt_10_at64_ok (s : ByteArray) (hmax : s.size ≤ 9223372036854775806) (v : Int) (h : Lib.parseIntB 64 s.data.toList = .ok v) (w : World) :
    Calls Tryz.prog 199 #[.string s, .int .i64 10, .int .i64 64] w fun e w' => e = .returned (.tuple #[.int .i64 v, .nilIface]) ∧ (w' = w ∨ ∃ t, w' = Lib.bytesWorld w 5 t) := Any.strconv_ParseInt_10_at64_ok Tryz.laysC174 s hmax v h w
open Go.RowKit in
theorem Tryz.strconv_ParseInt_10_at64_range_var (s : ByteArray) (hlim : s.size ≤ 281474976710656) (h : Lib.parseIntB 64 s.data.toList = .range) (tp : TypeId) (p : Value) (w : World) (hvar : w.var? Tryz.prog "strconv.ErrRange" = some #[.iface tp p]) :
    Calls Tryz.prog 199 #[.string s, .int .i64 10, .int .i64 64] w fun e w' => ∃ N, e = .returned (.tuple #[.int .i64 (Lib.intSat 64 s.data.toList), .iface 314 (.pointer (some ⟨N, 0, none⟩))]) ∧ w.heap.size ≤ N ∧ w'.heap[N]? = some (.cells #[.string ⟨#[80, 97, 114, 115, 101, 73, 110, 116]⟩, .string s, .iface tp p] 347 (0, 0)) ∧ Below w.heap.size w w' := Any.strconv_ParseInt_10_at64_range_var Tryz.laysC174 s hlim h tp p w hvar
def Tryz.lays144_ren : Go.Shelf.Ren := ⟨fun | 144 => 197 | 143 => 238 | 219 => 280 | 217 => 193 | 225 => 315 | 224 => 316 | 267 => 317 | 266 => 235 | 314 => 350 | n => n, fun | 9 => 9 | 4 => 4 | 3 => 3 | 5 => 5 | 46 => 313 | 146 => 369 | 51 => 149 | n => n, fun | 1 => 0 | n => n⟩
theorem Tryz.lays144 : Go.Proofs.Lays.n144 Tryz.prog Tryz.lays144_ren := {
  mixed := by kernel_rfl
  f143 := Tryz.func238.trans (congrArg some (by kernel_rfl))
  f144 := Tryz.func197.trans (congrArg some (by kernel_rfl))
  f217 := Tryz.func193.trans (congrArg some (by kernel_rfl))
  f219 := Tryz.func280.trans (congrArg some (by kernel_rfl))
  f224 := Tryz.func316.trans (congrArg some (by kernel_rfl))
  f225 := Tryz.func315.trans (congrArg some (by kernel_rfl))
  f266 := Tryz.func235.trans (congrArg some (by kernel_rfl))
  f267 := Tryz.func317.trans (congrArg some (by kernel_rfl))
  f314 := Tryz.func350.trans (congrArg some (by kernel_rfl))
  t3 := Tryz.underlying3
  a3 := Tryz.isAgg3
  z3 := Tryz.sizeOf3
  v3 := Tryz.zeroValue3
  t4 := Tryz.underlying4
  a4 := Tryz.isAgg4
  z4 := Tryz.sizeOf4
  v4 := Tryz.zeroValue4
  t5 := Tryz.underlying5
  a5 := Tryz.isAgg5
  z5 := Tryz.sizeOf5
  v5 := Tryz.zeroValue5
  t9 := Tryz.underlying9
  a9 := Tryz.isAgg9
  z9 := Tryz.sizeOf9
  v9 := Tryz.zeroValue9
  t46 := Tryz.underlying313
  a46 := Tryz.isAgg313
  z46 := Tryz.sizeOf313
  v46 := Tryz.zeroValue313
  t51 := Tryz.underlying149
  a51 := Tryz.isAgg149
  z51 := Tryz.sizeOf149
  v51 := Tryz.zeroValue149
  t146 := Tryz.underlying369
  a146 := Tryz.isAgg369
  z146 := Tryz.sizeOf369
  v146 := Tryz.zeroValue369
  g1 := by kernel_rfl }
open Go.RowKit Go.Lib in
/-- strings.Contains: "Contains reports whether substr is within s.": IT RETURNS 'Lib.contains s substr'; the world is as it was. (LAID: no walk: one application.) -/
theorem Tryz.strings_Contains (s sub : ByteArray) (m : Int) (w : World) (hs : s.size < 4294967281) (hm : w.cell? ⟨0, 0, none⟩ = some (.int .i64 m)) :
    Calls Tryz.prog 197 #[.string s, .string sub] w fun e w' => e = .returned (.bool (Lib.contains s.data.toList sub.data.toList)) ∧ w' = w := Any.strings_Contains Tryz.lays144 s sub m w hs hm
def Tryz.lays99_ren : Go.Shelf.Ren := ⟨fun | 99 => 115 | 206 => 194 | n => n, fun | 9 => 9 | 4 => 4 | 3 => 3 | n => n, fun | n => n⟩
theorem Tryz.lays99 : Go.Proofs.Lays.n99 Tryz.prog Tryz.lays99_ren := {
  mixed := by kernel_rfl
  f99 := Tryz.func115.trans (congrArg some (by kernel_rfl))
  f206 := Tryz.func194.trans (congrArg some (by kernel_rfl))
  t3 := Tryz.underlying3
  a3 := Tryz.isAgg3
  z3 := Tryz.sizeOf3
  v3 := Tryz.zeroValue3
  t4 := Tryz.underlying4
  a4 := Tryz.isAgg4
  z4 := Tryz.sizeOf4
  v4 := Tryz.zeroValue4
  t9 := Tryz.underlying9
  a9 := Tryz.isAgg9
  z9 := Tryz.sizeOf9
  v9 := Tryz.zeroValue9 }
open Go.RowKit Go.Lib in
/-- strings.HasPrefix: "HasPrefix reports whether the string s begins with prefix.": IT RETURNS 'Lib.hasPrefix s prefix'; the world is as it was. (LAID: no walk: one application.) -/
theorem Tryz.strings_HasPrefix (s p : ByteArray) (w : World) :
    Calls Tryz.prog 115 #[.string s, .string p] w fun e w' => e = .returned (.bool (Lib.hasPrefix s.data.toList p.data.toList)) ∧ w' = w := Any.strings_HasPrefix Tryz.lays99 s p w
def Tryz.lays101_ren : Go.Shelf.Ren := ⟨fun | 101 => 303 | 208 => 343 | 206 => 194 | n => n, fun | 9 => 9 | 4 => 4 | 3 => 3 | n => n, fun | n => n⟩
theorem Tryz.lays101 : Go.Proofs.Lays.n101 Tryz.prog Tryz.lays101_ren := {
  mixed := by kernel_rfl
  f101 := Tryz.func303.trans (congrArg some (by kernel_rfl))
  f206 := Tryz.func194.trans (congrArg some (by kernel_rfl))
  f208 := Tryz.func343.trans (congrArg some (by kernel_rfl))
  t3 := Tryz.underlying3
  a3 := Tryz.isAgg3
  z3 := Tryz.sizeOf3
  v3 := Tryz.zeroValue3
  t4 := Tryz.underlying4
  a4 := Tryz.isAgg4
  z4 := Tryz.sizeOf4
  v4 := Tryz.zeroValue4
  t9 := Tryz.underlying9
  a9 := Tryz.isAgg9
  z9 := Tryz.sizeOf9
  v9 := Tryz.zeroValue9 }
open Go.RowKit Go.Lib in
/-- strings.TrimPrefix: "TrimPrefix returns s without the provided leading prefix string. If s doesn't start with prefix, s is returned unchanged.": IT RETURNS 'Lib.trimPrefix s prefix'; the world is as it was. (LAID: no walk: one application.) -/
theorem Tryz.strings_TrimPrefix (s p : ByteArray) (w : World) :
    Calls Tryz.prog 303 #[.string s, .string p] w fun e w' => e = .returned (.string ⟨(Lib.trimPrefix s.data.toList p.data.toList).toArray⟩) ∧ w' = w := Any.strings_TrimPrefix Tryz.lays101 s p w
def Tryz.lays155_ren : Go.Shelf.Ren := ⟨fun | 155 => 205 | 154 => 243 | 138 => 286 | 165 => 41 | 143 => 238 | 166 => 42 | 197 => 275 | 169 => 43 | 195 => 273 | 218 => 323 | 240 => 78 | 241 => 79 | 219 => 280 | 260 => 312 | 276 => 144 | 277 => 145 | 217 => 193 | 225 => 315 | 224 => 316 | 267 => 317 | 266 => 235 | 314 => 350 | n => n, fun | 9 => 9 | 3 => 3 | 4 => 4 | 72 => 92 | 0 => 0 | 76 => 96 | 105 => 305 | 21 => 21 | 5 => 5 | 70 => 89 | 20 => 20 | 37 => 90 | 75 => 95 | 127 => 142 | 164 => 177 | 46 => 313 | 119 => 361 | 139 => 364 | 138 => 363 | 146 => 369 | 51 => 149 | 80 => 98 | n => n, fun | 1 => 0 | 3 => 5 | 4 => 6 | n => n⟩
theorem Tryz.lays155 : Go.Proofs.Lays.n155 Tryz.prog Tryz.lays155_ren := {
  mixed := by kernel_rfl
  f138 := Tryz.func286.trans (congrArg some (by kernel_rfl))
  f143 := Tryz.func238.trans (congrArg some (by kernel_rfl))
  f154 := Tryz.func243.trans (congrArg some (by kernel_rfl))
  f155 := Tryz.func205.trans (congrArg some (by kernel_rfl))
  f165 := Tryz.func41.trans (congrArg some (by kernel_rfl))
  f166 := Tryz.func42.trans (congrArg some (by kernel_rfl))
  f169 := Tryz.func43.trans (congrArg some (by kernel_rfl))
  f195 := Tryz.func273.trans (congrArg some (by kernel_rfl))
  f197 := Tryz.func275.trans (congrArg some (by kernel_rfl))
  f217 := Tryz.func193.trans (congrArg some (by kernel_rfl))
  f218 := Tryz.func323.trans (congrArg some (by kernel_rfl))
  f219 := Tryz.func280.trans (congrArg some (by kernel_rfl))
  f224 := Tryz.func316.trans (congrArg some (by kernel_rfl))
  f225 := Tryz.func315.trans (congrArg some (by kernel_rfl))
  f240 := Tryz.func78.trans (congrArg some (by kernel_rfl))
  f241 := Tryz.func79.trans (congrArg some (by kernel_rfl))
  f260 := Tryz.func312.trans (congrArg some (by kernel_rfl))
  f266 := Tryz.func235.trans (congrArg some (by kernel_rfl))
  f267 := Tryz.func317.trans (congrArg some (by kernel_rfl))
  f276 := Tryz.func144.trans (congrArg some (by kernel_rfl))
  f277 := Tryz.func145.trans (congrArg some (by kernel_rfl))
  f314 := Tryz.func350.trans (congrArg some (by kernel_rfl))
  t0 := Tryz.underlying0
  a0 := Tryz.isAgg0
  z0 := Tryz.sizeOf0
  v0 := Tryz.zeroValue0
  t3 := Tryz.underlying3
  a3 := Tryz.isAgg3
  z3 := Tryz.sizeOf3
  v3 := Tryz.zeroValue3
  t4 := Tryz.underlying4
  a4 := Tryz.isAgg4
  z4 := Tryz.sizeOf4
  v4 := Tryz.zeroValue4
  t5 := Tryz.underlying5
  a5 := Tryz.isAgg5
  z5 := Tryz.sizeOf5
  v5 := Tryz.zeroValue5
  t9 := Tryz.underlying9
  a9 := Tryz.isAgg9
  z9 := Tryz.sizeOf9
  v9 := Tryz.zeroValue9
  t20 := Tryz.underlying20
  a20 := Tryz.isAgg20
  z20 := Tryz.sizeOf20
  v20 := Tryz.zeroValue20
  t21 := Tryz.underlying21
  a21 := Tryz.isAgg21
  z21 := Tryz.sizeOf21
  v21 := Tryz.zeroValue21
  t37 := Tryz.underlying90
  a37 := Tryz.isAgg90
  z37 := Tryz.sizeOf90
  v37 := Tryz.zeroValue90
  t46 := Tryz.underlying313
  a46 := Tryz.isAgg313
  z46 := Tryz.sizeOf313
  v46 := Tryz.zeroValue313
  t51 := Tryz.underlying149
  a51 := Tryz.isAgg149
  z51 := Tryz.sizeOf149
  v51 := Tryz.zeroValue149
  t70 := Tryz.underlying89
  a70 := Tryz.isAgg89
  z70 := Tryz.sizeOf89
  v70 := Tryz.zeroValue89
  t72 := Tryz.underlying92
  a72 := Tryz.isAgg92
  z72 := Tryz.sizeOf92
  v72 := Tryz.zeroValue92
  t75 := Tryz.underlying95
  a75 := Tryz.isAgg95
  z75 := Tryz.sizeOf95
  v75 := Tryz.zeroValue95
  t76 := Tryz.underlying96
  a76 := Tryz.isAgg96
  z76 := Tryz.sizeOf96
  v76 := Tryz.zeroValue96
  t105 := Tryz.underlying305
  a105 := Tryz.isAgg305
  z105 := Tryz.sizeOf305
  v105 := Tryz.zeroValue305
  t119 := Tryz.underlying361
  a119 := Tryz.isAgg361
  z119 := Tryz.sizeOf361
  t127 := Tryz.underlying142
  a127 := Tryz.isAgg142
  z127 := Tryz.sizeOf142
  v127 := Tryz.zeroValue142
  t138 := Tryz.underlying363
  a138 := Tryz.isAgg363
  z138 := Tryz.sizeOf363
  v138 := Tryz.zeroValue363
  t139 := Tryz.underlying364
  a139 := Tryz.isAgg364
  z139 := Tryz.sizeOf364
  v139 := Tryz.zeroValue364
  t146 := Tryz.underlying369
  a146 := Tryz.isAgg369
  z146 := Tryz.sizeOf369
  v146 := Tryz.zeroValue369
  t164 := Tryz.underlying177
  a164 := Tryz.isAgg177
  z164 := Tryz.sizeOf177
  v164 := Tryz.zeroValue177
  g1 := by kernel_rfl
  g3 := by kernel_rfl
  g4 := by kernel_rfl }
theorem Tryz.Builder_Extra_155 : Builder.Extra Tryz.prog Tryz.lays155_ren := {
  sizeBuilder := by kernel_rfl
  liesBuilder := by kernel_rfl
  t5 := Tryz.underlying5
  a5 := Tryz.isAgg5
  z5 := Tryz.sizeOf5
  v5 := Tryz.zeroValue5
  infoByte := by kernel_rfl
  cellsByte := by kernel_rfl
  sizeByte := by kernel_rfl
  neB5 := by decide }
open Go.RowKit Go.Lib in
/-- strings.ReplaceAll: "ReplaceAll returns a copy of the string s with all non-overlapping instances of old replaced by new.": AT AN old THAT IS NOT EMPTY: 'Lib.replaceAll s old new'. (LAID: no walk: one application.) -/
theorem Tryz.strings_ReplaceAll (s old new : ByteArray) (m : Int) (w : World) (hs : s.size < 4294967281) (hm : w.cell? ⟨0, 0, none⟩ = some (.int .i64 m)) (h1 : 1 ≤ old.size) (hlen : s.size + Lib.countB s old * new.size ≤ 140737488355328) :
    Calls Tryz.prog 205 #[.string s, .string old, .string new] w fun e w' =>
      e = .returned (.string ⟨(Lib.replaceAll s.data.toList old.data.toList new.data.toList).toArray⟩) ∧ Below w.heap.size w w' := Any.strings_ReplaceAll Tryz.lays155 Tryz.Builder_Extra_155 s old new m w hs hm h1 hlen
def Tryz.lays197_ren : Go.Shelf.Ren := ⟨fun | 197 => 275 | 260 => 312 | n => n, fun | 9 => 9 | 21 => 21 | 3 => 3 | 4 => 4 | 5 => 5 | 105 => 305 | 119 => 361 | 0 => 0 | 46 => 313 | 139 => 364 | 138 => 363 | n => n, fun | 3 => 5 | 4 => 6 | n => n⟩
theorem Tryz.lays197 : Go.Proofs.Lays.n197 Tryz.prog Tryz.lays197_ren := {
  mixed := by kernel_rfl
  f197 := Tryz.func275.trans (congrArg some (by kernel_rfl))
  f260 := Tryz.func312.trans (congrArg some (by kernel_rfl))
  t0 := Tryz.underlying0
  a0 := Tryz.isAgg0
  z0 := Tryz.sizeOf0
  v0 := Tryz.zeroValue0
  t3 := Tryz.underlying3
  a3 := Tryz.isAgg3
  z3 := Tryz.sizeOf3
  v3 := Tryz.zeroValue3
  t4 := Tryz.underlying4
  a4 := Tryz.isAgg4
  z4 := Tryz.sizeOf4
  v4 := Tryz.zeroValue4
  t5 := Tryz.underlying5
  a5 := Tryz.isAgg5
  z5 := Tryz.sizeOf5
  v5 := Tryz.zeroValue5
  t9 := Tryz.underlying9
  a9 := Tryz.isAgg9
  z9 := Tryz.sizeOf9
  v9 := Tryz.zeroValue9
  t21 := Tryz.underlying21
  a21 := Tryz.isAgg21
  z21 := Tryz.sizeOf21
  v21 := Tryz.zeroValue21
  t46 := Tryz.underlying313
  a46 := Tryz.isAgg313
  z46 := Tryz.sizeOf313
  v46 := Tryz.zeroValue313
  t105 := Tryz.underlying305
  a105 := Tryz.isAgg305
  z105 := Tryz.sizeOf305
  v105 := Tryz.zeroValue305
  t119 := Tryz.underlying361
  a119 := Tryz.isAgg361
  z119 := Tryz.sizeOf361
  t138 := Tryz.underlying363
  a138 := Tryz.isAgg363
  z138 := Tryz.sizeOf363
  v138 := Tryz.zeroValue363
  t139 := Tryz.underlying364
  a139 := Tryz.isAgg364
  z139 := Tryz.sizeOf364
  v139 := Tryz.zeroValue364
  g3 := by kernel_rfl
  g4 := by kernel_rfl }
def Tryz.lays151_ren : Go.Shelf.Ren := ⟨fun | 151 => 345 | 152 => 364 | 137 => 114 | 119 => 372 | 224 => 316 | 225 => 315 | 217 => 193 | 266 => 235 | n => n, fun | 9 => 9 | 21 => 21 | 4 => 4 | 3 => 3 | 5 => 5 | 0 => 0 | 46 => 313 | n => n, fun | n => n⟩
theorem Tryz.lays151 : Go.Proofs.Lays.n151 Tryz.prog Tryz.lays151_ren := {
  mixed := by kernel_rfl
  f119 := Tryz.func372.trans (congrArg some (by kernel_rfl))
  f137 := Tryz.func114.trans (congrArg some (by kernel_rfl))
  f151 := Tryz.func345.trans (congrArg some (by kernel_rfl))
  f152 := Tryz.func364.trans (congrArg some (by kernel_rfl))
  f217 := Tryz.func193.trans (congrArg some (by kernel_rfl))
  f224 := Tryz.func316.trans (congrArg some (by kernel_rfl))
  f225 := Tryz.func315.trans (congrArg some (by kernel_rfl))
  f266 := Tryz.func235.trans (congrArg some (by kernel_rfl))
  t0 := Tryz.underlying0
  a0 := Tryz.isAgg0
  z0 := Tryz.sizeOf0
  v0 := Tryz.zeroValue0
  t3 := Tryz.underlying3
  a3 := Tryz.isAgg3
  z3 := Tryz.sizeOf3
  v3 := Tryz.zeroValue3
  t4 := Tryz.underlying4
  a4 := Tryz.isAgg4
  z4 := Tryz.sizeOf4
  v4 := Tryz.zeroValue4
  t5 := Tryz.underlying5
  a5 := Tryz.isAgg5
  z5 := Tryz.sizeOf5
  v5 := Tryz.zeroValue5
  t9 := Tryz.underlying9
  a9 := Tryz.isAgg9
  z9 := Tryz.sizeOf9
  v9 := Tryz.zeroValue9
  t21 := Tryz.underlying21
  a21 := Tryz.isAgg21
  z21 := Tryz.sizeOf21
  v21 := Tryz.zeroValue21
  t46 := Tryz.underlying313
  a46 := Tryz.isAgg313
  z46 := Tryz.sizeOf313
  v46 := Tryz.zeroValue313 }
open Go.RowKit Go.Lib in
theorem Tryz.strings_ContainsRune_ascii (s : ByteArray) (r : Int) (w : World) (h0 : 0 ≤ r) (h1 : r < 128) :
    Calls Tryz.prog 345 #[.string s, .int .i32 r] w fun e w' => e = .returned (.bool (decide (0 ≤ Lib.indexByte s.data.toList r.toNat.toUInt8))) ∧ w' = w := Any.strings_ContainsRune_ascii Tryz.lays151 s r w h0 h1
def Tryz.lays227_ren : Go.Shelf.Ren := ⟨fun | 227 => 306 | n => n, fun | 9 => 9 | 116 => 336 | 4 => 4 | 0 => 0 | 3 => 3 | 5 => 5 | n => n, fun | n => n⟩
theorem Tryz.lays227 : Go.Proofs.Lays.n227 Tryz.prog Tryz.lays227_ren := {
  mixed := by kernel_rfl
  f227 := Tryz.func306.trans (congrArg some (by kernel_rfl))
  t0 := Tryz.underlying0
  a0 := Tryz.isAgg0
  z0 := Tryz.sizeOf0
  v0 := Tryz.zeroValue0
  t3 := Tryz.underlying3
  a3 := Tryz.isAgg3
  z3 := Tryz.sizeOf3
  v3 := Tryz.zeroValue3
  t4 := Tryz.underlying4
  a4 := Tryz.isAgg4
  z4 := Tryz.sizeOf4
  v4 := Tryz.zeroValue4
  t5 := Tryz.underlying5
  a5 := Tryz.isAgg5
  z5 := Tryz.sizeOf5
  v5 := Tryz.zeroValue5
  t9 := Tryz.underlying9
  a9 := Tryz.isAgg9
  z9 := Tryz.sizeOf9
  v9 := Tryz.zeroValue9
  t116 := Tryz.underlying336
  a116 := Tryz.isAgg336
  z116 := Tryz.sizeOf336 }
open Go.RowKit Go.Lib in
theorem Tryz.strings_makeASCIISet (hv116 : ∀ w, (zeroValue 336).run Tryz.prog w = .ok (.agg (Array.replicate 256 (.bool false))) w) (chars : ByteArray) (w : World) (hs : chars.size < 4294967281) (hascii : ∀ (j : Nat) b, chars.data.toList[j]? = some b → b.toNat < 128) :
    Calls Tryz.prog 306 #[.string chars] w fun e w' => e = .returned (.tuple #[.agg (Lib.setCells chars.data.toList), .bool true]) ∧ w' = w.alloc (.cells (Lib.setCells chars.data.toList) 336) := Any.strings_makeASCIISet Tryz.lays227 hv116 (by kernel_rfl) chars w hs hascii
def Tryz.lays228_ren : Go.Shelf.Ren := ⟨fun | 228 => 344 | n => n, fun | 124 => 340 | 5 => 5 | 4 => 4 | 0 => 0 | 116 => 336 | n => n, fun | n => n⟩
theorem Tryz.lays228 : Go.Proofs.Lays.n228 Tryz.prog Tryz.lays228_ren := {
  mixed := by kernel_rfl
  f228 := Tryz.func344.trans (congrArg some (by kernel_rfl))
  t0 := Tryz.underlying0
  a0 := Tryz.isAgg0
  z0 := Tryz.sizeOf0
  v0 := Tryz.zeroValue0
  t4 := Tryz.underlying4
  a4 := Tryz.isAgg4
  z4 := Tryz.sizeOf4
  v4 := Tryz.zeroValue4
  t5 := Tryz.underlying5
  a5 := Tryz.isAgg5
  z5 := Tryz.sizeOf5
  v5 := Tryz.zeroValue5
  t116 := Tryz.underlying336
  a116 := Tryz.isAgg336
  z116 := Tryz.sizeOf336
  t124 := Tryz.underlying340
  a124 := Tryz.isAgg340
  z124 := Tryz.sizeOf340
  v124 := Tryz.zeroValue340 }
open Go.RowKit Go.Lib in
/-- '(as *asciiSet) contains(c)': 'as[c]': the set lies at block b, whole. (LAID: no walk: one application.) -/
theorem Tryz.asciiSet_contains (b : Nat) (x : UInt8) (v : Bool) (w : World) (hc : w.cell? ⟨b, x.toNat, none⟩ = some (.bool v)) :
    Calls Tryz.prog 344 #[.pointer (some ⟨b, 0, none⟩), .int .u8 x.toNat] w fun e w' => e = .returned (.bool v) ∧ w' = w := Any.asciiSet_contains Tryz.lays228 b x v w hc
open Go.RowKit Go.Lib in
/-- **unicode/utf8.DecodeRuneInString AT EVERY STRING.** (LAID: no walk: one application.) -/
theorem Tryz.utf8_DecodeRuneInString (s : ByteArray) (w : World) (hT : Lib.Utf8Tabs 5 6 w) :
    Calls Tryz.prog 275 #[.string s] w fun e w' => e = .returned (.tuple #[.int .i32 (Lib.decodeGo s).1, .int .i64 (Lib.decodeGo s).2]) ∧ Below w.heap.size w w' := Any.utf8_DecodeRuneInString Tryz.lays197 s w hT
def Tryz.lays230_ren : Go.Shelf.Ren := ⟨fun | 230 => 236 | 197 => 275 | 118 => 276 | 165 => 41 | 166 => 42 | 168 => 277 | 270 => 278 | 167 => 200 | 169 => 43 | 260 => 312 | 240 => 78 | 241 => 79 | 242 => 313 | 276 => 144 | 277 => 145 | 278 => 347 | n => n, fun | 107 => 284 | 9 => 9 | 72 => 92 | 0 => 0 | 4 => 4 | 3 => 3 | 21 => 21 | 105 => 305 | 76 => 96 | 5 => 5 | 75 => 95 | 70 => 89 | 20 => 20 | 37 => 90 | 127 => 142 | 119 => 361 | 46 => 313 | 139 => 364 | 138 => 363 | 164 => 177 | 51 => 149 | 80 => 98 | n => n, fun | 3 => 5 | 4 => 6 | n => n⟩
theorem Tryz.lays230 : Go.Proofs.Lays.n230 Tryz.prog Tryz.lays230_ren := {
  mixed := by kernel_rfl
  f118 := Tryz.func276.trans (congrArg some (by kernel_rfl))
  f165 := Tryz.func41.trans (congrArg some (by kernel_rfl))
  f166 := Tryz.func42.trans (congrArg some (by kernel_rfl))
  f167 := Tryz.func200.trans (congrArg some (by kernel_rfl))
  f168 := Tryz.func277.trans (congrArg some (by kernel_rfl))
  f169 := Tryz.func43.trans (congrArg some (by kernel_rfl))
  f197 := Tryz.func275.trans (congrArg some (by kernel_rfl))
  f230 := Tryz.func236.trans (congrArg some (by kernel_rfl))
  f240 := Tryz.func78.trans (congrArg some (by kernel_rfl))
  f241 := Tryz.func79.trans (congrArg some (by kernel_rfl))
  f242 := Tryz.func313.trans (congrArg some (by kernel_rfl))
  f260 := Tryz.func312.trans (congrArg some (by kernel_rfl))
  f270 := Tryz.func278.trans (congrArg some (by kernel_rfl))
  f276 := Tryz.func144.trans (congrArg some (by kernel_rfl))
  f277 := Tryz.func145.trans (congrArg some (by kernel_rfl))
  f278 := Tryz.func347.trans (congrArg some (by kernel_rfl))
  t0 := Tryz.underlying0
  a0 := Tryz.isAgg0
  z0 := Tryz.sizeOf0
  v0 := Tryz.zeroValue0
  t3 := Tryz.underlying3
  a3 := Tryz.isAgg3
  z3 := Tryz.sizeOf3
  v3 := Tryz.zeroValue3
  t4 := Tryz.underlying4
  a4 := Tryz.isAgg4
  z4 := Tryz.sizeOf4
  v4 := Tryz.zeroValue4
  t5 := Tryz.underlying5
  a5 := Tryz.isAgg5
  z5 := Tryz.sizeOf5
  v5 := Tryz.zeroValue5
  t9 := Tryz.underlying9
  a9 := Tryz.isAgg9
  z9 := Tryz.sizeOf9
  v9 := Tryz.zeroValue9
  t20 := Tryz.underlying20
  a20 := Tryz.isAgg20
  z20 := Tryz.sizeOf20
  v20 := Tryz.zeroValue20
  t21 := Tryz.underlying21
  a21 := Tryz.isAgg21
  z21 := Tryz.sizeOf21
  v21 := Tryz.zeroValue21
  t37 := Tryz.underlying90
  a37 := Tryz.isAgg90
  z37 := Tryz.sizeOf90
  v37 := Tryz.zeroValue90
  t46 := Tryz.underlying313
  a46 := Tryz.isAgg313
  z46 := Tryz.sizeOf313
  v46 := Tryz.zeroValue313
  t51 := Tryz.underlying149
  a51 := Tryz.isAgg149
  z51 := Tryz.sizeOf149
  v51 := Tryz.zeroValue149
  t70 := Tryz.underlying89
  a70 := Tryz.isAgg89
  z70 := Tryz.sizeOf89
  v70 := Tryz.zeroValue89
  t72 := Tryz.underlying92
  a72 := Tryz.isAgg92
  z72 := Tryz.sizeOf92
  v72 := Tryz.zeroValue92
  t75 := Tryz.underlying95
  a75 := Tryz.isAgg95
  z75 := Tryz.sizeOf95
  v75 := Tryz.zeroValue95
  t76 := Tryz.underlying96
  a76 := Tryz.isAgg96
  z76 := Tryz.sizeOf96
  v76 := Tryz.zeroValue96
  t105 := Tryz.underlying305
  a105 := Tryz.isAgg305
  z105 := Tryz.sizeOf305
  v105 := Tryz.zeroValue305
  t107 := Tryz.underlying284
  a107 := Tryz.isAgg284
  z107 := Tryz.sizeOf284
  v107 := Tryz.zeroValue284
  t119 := Tryz.underlying361
  a119 := Tryz.isAgg361
  z119 := Tryz.sizeOf361
  t127 := Tryz.underlying142
  a127 := Tryz.isAgg142
  z127 := Tryz.sizeOf142
  v127 := Tryz.zeroValue142
  t138 := Tryz.underlying363
  a138 := Tryz.isAgg363
  z138 := Tryz.sizeOf363
  v138 := Tryz.zeroValue363
  t139 := Tryz.underlying364
  a139 := Tryz.isAgg364
  z139 := Tryz.sizeOf364
  v139 := Tryz.zeroValue364
  t164 := Tryz.underlying177
  a164 := Tryz.isAgg177
  z164 := Tryz.sizeOf177
  v164 := Tryz.zeroValue177
  g3 := by kernel_rfl
  g4 := by kernel_rfl }
theorem Tryz.Builder_Extra_230 : Builder.Extra Tryz.prog Tryz.lays230_ren := {
  sizeBuilder := by kernel_rfl
  liesBuilder := by kernel_rfl
  t5 := Tryz.underlying5
  a5 := Tryz.isAgg5
  z5 := Tryz.sizeOf5
  v5 := Tryz.zeroValue5
  infoByte := by kernel_rfl
  cellsByte := by kernel_rfl
  sizeByte := by kernel_rfl
  neB5 := by decide }
open Go.RowKit Go.Lib in
theorem Tryz.strings_Map_runes (g : Nat) (lb : Array Value) (eg : ∀ args w, (callFunc g args).run Tryz.prog w = .ok (.enter g args) w) (f : Int → Int) (s : ByteArray) (w : World) (hs : s.size < 35184372088832) (hf : MapAtRunes Tryz.prog g lb f w) (hnn : ∀ x : Nat, x ≤ 1114111 → 0 ≤ f x ∧ f x ≤ 2147483647) (hT : Lib.Utf8Tabs 5 6 w) :
    Calls Tryz.prog 236 #[.func (.func g) #[] lb, .string s] w fun e w' => e = .returned (.string ⟨(Lib.mapD f s.data.toList).toArray⟩) ∧ Below w.heap.size w w' := Any.strings_Map_runes Tryz.lays230 Tryz.Builder_Extra_230 g lb eg f s w hs hf hnn hT
open Go.RowKit Go.Lib in
/-- **strings.Map(mapping, s) AT EVERY STRING, AT WHATEVER FUNCTION VALUE: IT MAY DROP RUNES (a negative result); IT MAY GROW THE HEAP.** (LAID: no walk: one application.) -/
theorem Tryz.strings_Map_grows (g : Nat) (lb : Array Value) (eg : ∀ args w, (callFunc g args).run Tryz.prog w = .ok (.enter g args) w) (f : Int → Int) (s : ByteArray) (w : World) (hs : s.size < 35184372088832) (hf : MapGrows Tryz.prog g lb f w) (hnn : ∀ x : Nat, x ≤ 1114111 → -2147483648 ≤ f x ∧ f x ≤ 2147483647) (hT : Lib.Utf8Tabs 5 6 w) :
    Calls Tryz.prog 236 #[.func (.func g) #[] lb, .string s] w fun e w' => e = .returned (.string ⟨(Lib.mapD f s.data.toList).toArray⟩) ∧ Below w.heap.size w w' := Any.strings_Map_grows Tryz.lays230 Tryz.Builder_Extra_230 g lb eg f s w hs hf hnn hT
def Tryz.lays112_ren : Go.Shelf.Ren := ⟨fun | 112 => 371 | n => n, fun | 28 => 155 | 3 => 3 | 4 => 4 | 0 => 0 | n => n, fun | n => n⟩
theorem Tryz.lays112 : Go.Proofs.Lays.n112 Tryz.prog Tryz.lays112_ren := {
  mixed := by kernel_rfl
  f112 := Tryz.func371.trans (congrArg some (by kernel_rfl))
  t0 := Tryz.underlying0
  a0 := Tryz.isAgg0
  z0 := Tryz.sizeOf0
  v0 := Tryz.zeroValue0
  t3 := Tryz.underlying3
  a3 := Tryz.isAgg3
  z3 := Tryz.sizeOf3
  v3 := Tryz.zeroValue3
  t4 := Tryz.underlying4
  a4 := Tryz.isAgg4
  z4 := Tryz.sizeOf4
  v4 := Tryz.zeroValue4
  t28 := Tryz.underlying155
  a28 := Tryz.isAgg155
  z28 := Tryz.sizeOf155
  v28 := Tryz.zeroValue155 }
open Go.RowKit Go.Lib Go.Sort in
/-- slices.Reverse at []int: "Reverse reverses the elements of the slice in place.": THE SLICE's CELLS HOLD 'zs.reverse' BEHIND THE CALL; all else is as it was, but for the count of draws (the exchange 's[i], s[j] = s[j], s[i]' draws its order, once a round). IN THE WORDS OF slices.Sort's CONTRACT: 'Holds': the cells hold zs and none is frozen; 'putRow': the world with those cells holding another array. A slice of length 0 that is not nil is among them ('zs = []'); nil: '.._nil'. (LAID: no walk: one application.) -/
theorem Tryz.slices_Reverse_int (blk off cap : Nat) (zs : List Int) (w : World) (hH : Holds (Value.int .i64) w blk off zs.toArray) (hsz : zs.length ≤ 9223372036854775807) :
    Calls Tryz.prog 371 #[.slice (some ⟨blk, off, none⟩) zs.length cap] w fun e w' => e = .returned (.tuple #[]) ∧ ∃ n, w' = putRow (Value.int .i64) (Sort.ahead w n) blk off zs.reverse.toArray := Any.slices_Reverse_int Tryz.lays112 blk off cap zs w hH hsz
open Go.RowKit Go.Lib Go.Sort in
/-- The same at a slice of length 0, a nil one too: nothing is read, nothing written, nothing drawn. (LAID: no walk: one application.) -/
theorem Tryz.slices_Reverse_int_empty (a : Option Addr) (cap : Nat) (w : World) :
    Calls Tryz.prog 371 #[.slice a 0 cap] w fun e w' => e = .returned (.tuple #[]) ∧ w' = w := Any.slices_Reverse_int_empty Tryz.lays112 a cap w
end Go.Proofs
