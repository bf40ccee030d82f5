import Derived.Shelf.Strings.Builder1
import Derived.Shelf.Strings.Builder2
import Derived.Shelf.Strings.OnBuilder
import Derived.Shelf.Strings.Trim
import Derived.Shelf.Small.Utf8
import Derived.Shelf.Small.Bits
import Derived.Shelf.Small.Strs
import Derived.Shelf.Small.Wraps
import Derived.Shelf.Strings.BuilderF
import Derived.Shelf.Strings.BuilderK
import Derived.Shelf.Strings.BuilderRune
import Derived.Shelf.Utf8.AppendRune
import Derived.Shelf.Utf8.AppendRunePlain
import Derived.Shelf.Utf8.RuneCount
import Derived.Shelf.Strings.Builder2Cap
import Derived.Shelf.Strconv.Itoa0
import Derived.Shelf.Strconv.Itoa1
import Derived.Shelf.LaysM
import Derived.Shelf.Strconv.Itoa2
import Derived.Shelf.Strconv.Itoa3
import Derived.Shelf.Strconv.Itoa4
import Derived.Shelf.Strconv.ParseIntEmpty
import Derived.Shelf.Strconv.Clone
import Derived.Shelf.Strconv.SyntaxError
import Derived.Shelf.LaysC
import Derived.Shelf.Strconv.ToError
import Derived.Shelf.Strconv.Lower
import Derived.Shelf.Strconv.ParseUint10
import Derived.Shelf.Strconv.ParseUint10Empty
import Derived.Shelf.Strconv.ParseUint10Any
import Derived.Shelf.Strconv.ParseInt10
import Derived.Shelf.Strconv.RangeError
import Derived.Shelf.Strconv.ToErrorRange
import Derived.Shelf.Strconv.ParseUintEmpty
import Derived.Shelf.Strconv.ParseUint10b64
import Derived.Shelf.Strconv.ParseUint10b32
import Derived.Shelf.Strconv.ParseUint10b16
import Derived.Shelf.Strconv.ParseUint10b8
import Derived.Shelf.Strconv.ParseUint10At
import Derived.Shelf.Strconv.ParseInt10At64
import Derived.Shelf.Strconv.ParseInt10At32
import Derived.Shelf.Strconv.ParseInt10At16
import Derived.Shelf.Strconv.ParseInt10At8
import Derived.Shelf.Strconv.ParseInt10All
import Derived.Shelf.Strconv.ParseIntPublic10
import Derived.Shelf.Strconv.ErrVarParseInt
import Derived.Shelf.Strings.Search1
import Derived.Shelf.Strings.Search2
import Derived.Shelf.Strings.Search3
import Derived.Shelf.Strings.Count
import Derived.Shelf.Strings.Shaped
import Derived.Shelf.Sort.Plain
import Derived.Shelf.Strings.Prefix
import Derived.Shelf.Strings.Split
import Derived.Shelf.Strings.Replace
import Derived.Shelf.Strings.SplitShaped
import Derived.Shelf.Unicode.Latin
import Derived.Shelf.Unicode.Decode
import Derived.Shelf.Strings.Runes
import Derived.Shelf.Strings.RuneCount
import Derived.Shelf.Strings.AsciiSet
import Derived.Shelf.Bits.Mul64
import Derived.Shelf.Unicode.DecodeSlow
import Derived.Shelf.Unicode.DecodeAny
import Derived.Shelf.Unicode.DecodeLast
import Derived.Shelf.Unicode.CaseLookup
import Derived.Shelf.Unicode.CaseConvert
import Derived.Shelf.Unicode.CaseTo
import Derived.Shelf.Unicode.CaseLaid
import Derived.Shelf.Strings.MapAny
import Derived.Shelf.Strings.CaseAny
import Derived.Shelf.Strings.BuilderCap
import Derived.Shelf.Strings.MapGrows
import Derived.Shelf.Slices.Reverse
import Derived.Ground.Names2Prog
import Derived.Shelf.Slices.ReverseS
import Derived.Shelf.Slices.Clone
import Derived.Shelf.Slices.SearchI
import Derived.Shelf.Slices.Delete
import Derived.Shelf.Slices.Cells
import Derived.Shelf.Slices.In.SortNone
import Derived.Shelf.Slices.Empties
import Derived.Ground.SlgnProg
import Derived.Shelf.SlicesG.SearchI
import Derived.Shelf.SlicesE.Reverse
import Derived.Shelf.SlicesE.Clone
import Derived.Test.YtchpbdodlbghaaaGreatDoorProg
namespace Go.Proofs
open Go.Shelf
def Tryz.lays169_ren : Go.Shelf.Ren := ⟨fun | 169 => 12 | n => n, fun | 70 => 34 | 9 => 9 | 0 => 0 | 72 => 36 | 37 => 24 | 127 => 65 | 3 => 3 | 5 => 5 | n => n, fun | n => n⟩
theorem Tryz.lays169 : Go.Proofs.Lays.n169 Tryz.prog Tryz.lays169_ren := {
  mixed := by kernel_rfl
  f169 := Tryz.func12.trans (congrArg some (by kernel_rfl))
  t0 := Tryz.underlying0
  a0 := Tryz.isAgg0
  z0 := Tryz.sizeOf0
  v0 := Tryz.zeroValue0
  t3 := Tryz.underlying3
  a3 := Tryz.isAgg3
  z3 := Tryz.sizeOf3
  v3 := Tryz.zeroValue3
  t9 := Tryz.underlying9
  a9 := Tryz.isAgg9
  z9 := Tryz.sizeOf9
  v9 := Tryz.zeroValue9
  t37 := Tryz.underlying24
  a37 := Tryz.isAgg24
  z37 := Tryz.sizeOf24
  v37 := Tryz.zeroValue24
  t70 := Tryz.underlying34
  a70 := Tryz.isAgg34
  z70 := Tryz.sizeOf34
  v70 := Tryz.zeroValue34
  t72 := Tryz.underlying36
  a72 := Tryz.isAgg36
  z72 := Tryz.sizeOf36
  v72 := Tryz.zeroValue36
  t127 := Tryz.underlying65
  a127 := Tryz.isAgg65
  z127 := Tryz.sizeOf65
  v127 := Tryz.zeroValue65 }
theorem Tryz.Builder_Extra_169 : Builder.Extra Tryz.prog Tryz.lays169_ren := {
  sizeBuilder := by kernel_rfl
  liesBuilder := by kernel_rfl
  t5 := Tryz.underlying5
  a5 := Tryz.isAgg5
  z5 := Tryz.sizeOf5
  v5 := Tryz.zeroValue5
  infoByte := by kernel_rfl
  cellsByte := by kernel_rfl
  sizeByte := by kernel_rfl
  neB5 := by decide }
open Go.RowKit in
theorem Tryz.Builder_String_any (B b : Nat) (l : List UInt8) (w : World) (h : Lib.IsBuilder 36 5 B b (Lib.byteCells l) w) (hBw : B ≤ w.heap.size) :
    Calls Tryz.prog 12 #[.pointer (some ⟨b, 0, none⟩)] w fun e w' => e = .returned (.string ⟨l.toArray⟩) ∧ Below B w w' := Any.Builder_String_any Tryz.lays169 Tryz.Builder_Extra_169 B b l w h hBw
def Tryz.lays158_ren : Go.Shelf.Ren := ⟨fun | 158 => 269 | 165 => 260 | 166 => 10 | 167 => 273 | 169 => 12 | 230 => 200 | 203 => 360 | 240 => 19 | 241 => 348 | 197 => 44 | 118 => 275 | 168 => 276 | 270 => 277 | 262 => 448 | 276 => 33 | 277 => 440 | 260 => 67 | 242 => 370 | 313 => 525 | 278 => 465 | 274 => 579 | 275 => 580 | n => n, fun | 9 => 9 | 4 => 4 | 3 => 3 | 5 => 5 | 72 => 36 | 0 => 0 | 76 => 41 | 75 => 40 | 107 => 361 | 70 => 34 | 20 => 20 | 37 => 24 | 127 => 65 | 21 => 21 | 105 => 134 | 164 => 91 | 162 => 653 | 203 => 651 | 119 => 250 | 46 => 248 | 139 => 253 | 138 => 252 | 51 => 124 | 160 => 695 | 208 => 719 | 206 => 717 | 80 => 44 | n => n, fun | 13 => 6 | 3 => 1 | 4 => 2 | n => n⟩
theorem Tryz.lays158 : Go.Proofs.Lays.n158 Tryz.prog Tryz.lays158_ren := {
  mixed := by kernel_rfl
  f118 := Tryz.func275.trans (congrArg some (by kernel_rfl))
  f158 := Tryz.func269.trans (congrArg some (by kernel_rfl))
  f165 := Tryz.func260.trans (congrArg some (by kernel_rfl))
  f166 := Tryz.func10.trans (congrArg some (by kernel_rfl))
  f167 := Tryz.func273.trans (congrArg some (by kernel_rfl))
  f168 := Tryz.func276.trans (congrArg some (by kernel_rfl))
  f169 := Tryz.func12.trans (congrArg some (by kernel_rfl))
  f197 := Tryz.func44.trans (congrArg some (by kernel_rfl))
  f203 := Tryz.func360.trans (congrArg some (by kernel_rfl))
  f230 := Tryz.func200.trans (congrArg some (by kernel_rfl))
  f240 := Tryz.func19.trans (congrArg some (by kernel_rfl))
  f241 := Tryz.func348.trans (congrArg some (by kernel_rfl))
  f242 := Tryz.func370.trans (congrArg some (by kernel_rfl))
  f260 := Tryz.func67.trans (congrArg some (by kernel_rfl))
  f262 := Tryz.func448.trans (congrArg some (by kernel_rfl))
  f270 := Tryz.func277.trans (congrArg some (by kernel_rfl))
  f274 := Tryz.func579.trans (congrArg some (by kernel_rfl))
  f275 := Tryz.func580.trans (congrArg some (by kernel_rfl))
  f276 := Tryz.func33.trans (congrArg some (by kernel_rfl))
  f277 := Tryz.func440.trans (congrArg some (by kernel_rfl))
  f278 := Tryz.func465.trans (congrArg some (by kernel_rfl))
  f313 := Tryz.func525.trans (congrArg some (by kernel_rfl))
  t0 := Tryz.underlying0
  a0 := Tryz.isAgg0
  z0 := Tryz.sizeOf0
  v0 := Tryz.zeroValue0
  t3 := Tryz.underlying3
  a3 := Tryz.isAgg3
  z3 := Tryz.sizeOf3
  v3 := Tryz.zeroValue3
  t4 := Tryz.underlying4
  a4 := Tryz.isAgg4
  z4 := Tryz.sizeOf4
  v4 := Tryz.zeroValue4
  t5 := Tryz.underlying5
  a5 := Tryz.isAgg5
  z5 := Tryz.sizeOf5
  v5 := Tryz.zeroValue5
  t9 := Tryz.underlying9
  a9 := Tryz.isAgg9
  z9 := Tryz.sizeOf9
  v9 := Tryz.zeroValue9
  t20 := Tryz.underlying20
  a20 := Tryz.isAgg20
  z20 := Tryz.sizeOf20
  v20 := Tryz.zeroValue20
  t21 := Tryz.underlying21
  a21 := Tryz.isAgg21
  z21 := Tryz.sizeOf21
  v21 := Tryz.zeroValue21
  t37 := Tryz.underlying24
  a37 := Tryz.isAgg24
  z37 := Tryz.sizeOf24
  v37 := Tryz.zeroValue24
  t46 := Tryz.underlying248
  a46 := Tryz.isAgg248
  z46 := Tryz.sizeOf248
  v46 := Tryz.zeroValue248
  t51 := Tryz.underlying124
  a51 := Tryz.isAgg124
  z51 := Tryz.sizeOf124
  v51 := Tryz.zeroValue124
  t70 := Tryz.underlying34
  a70 := Tryz.isAgg34
  z70 := Tryz.sizeOf34
  v70 := Tryz.zeroValue34
  t72 := Tryz.underlying36
  a72 := Tryz.isAgg36
  z72 := Tryz.sizeOf36
  v72 := Tryz.zeroValue36
  t75 := Tryz.underlying40
  a75 := Tryz.isAgg40
  z75 := Tryz.sizeOf40
  v75 := Tryz.zeroValue40
  t76 := Tryz.underlying41
  a76 := Tryz.isAgg41
  z76 := Tryz.sizeOf41
  v76 := Tryz.zeroValue41
  t105 := Tryz.underlying134
  a105 := Tryz.isAgg134
  z105 := Tryz.sizeOf134
  v105 := Tryz.zeroValue134
  t107 := Tryz.underlying361
  a107 := Tryz.isAgg361
  z107 := Tryz.sizeOf361
  v107 := Tryz.zeroValue361
  t119 := Tryz.underlying250
  a119 := Tryz.isAgg250
  z119 := Tryz.sizeOf250
  t127 := Tryz.underlying65
  a127 := Tryz.isAgg65
  z127 := Tryz.sizeOf65
  v127 := Tryz.zeroValue65
  t138 := Tryz.underlying252
  a138 := Tryz.isAgg252
  z138 := Tryz.sizeOf252
  v138 := Tryz.zeroValue252
  t139 := Tryz.underlying253
  a139 := Tryz.isAgg253
  z139 := Tryz.sizeOf253
  v139 := Tryz.zeroValue253
  t160 := Tryz.underlying695
  a160 := Tryz.isAgg695
  z160 := Tryz.sizeOf695
  v160 := Tryz.zeroValue695
  t162 := Tryz.underlying653
  a162 := Tryz.isAgg653
  z162 := Tryz.sizeOf653
  v162 := Tryz.zeroValue653
  t164 := Tryz.underlying91
  a164 := Tryz.isAgg91
  z164 := Tryz.sizeOf91
  v164 := Tryz.zeroValue91
  t203 := Tryz.underlying651
  a203 := Tryz.isAgg651
  z203 := Tryz.sizeOf651
  v203 := Tryz.zeroValue651
  t206 := Tryz.underlying717
  a206 := Tryz.isAgg717
  z206 := Tryz.sizeOf717
  v206 := Tryz.zeroValue717
  t208 := Tryz.underlying719
  a208 := Tryz.isAgg719
  z208 := Tryz.sizeOf719
  v208 := Tryz.zeroValue719
  g3 := by kernel_rfl
  g4 := by kernel_rfl
  g13 := by kernel_rfl }
theorem Tryz.Builder_Extra_158 : Builder.Extra Tryz.prog Tryz.lays158_ren := {
  sizeBuilder := by kernel_rfl
  liesBuilder := by kernel_rfl
  t5 := Tryz.underlying5
  a5 := Tryz.isAgg5
  z5 := Tryz.sizeOf5
  v5 := Tryz.zeroValue5
  infoByte := by kernel_rfl
  cellsByte := by kernel_rfl
  sizeByte := by kernel_rfl
  neB5 := by decide }
open Go.RowKit in
theorem Tryz.strings_ToUpper_ascii (s : ByteArray) (w : World) (hs : s.size ≤ 140737488355328) (hascii : ∀ (j : Nat) (b : UInt8), s.data.toList[j]? = some b → b.toNat < 128) :
    Calls Tryz.prog 269 #[.string s] w fun e w' => e = .returned (.string ⟨(Lib.toUpperA s.data.toList).toArray⟩) ∧ Below w.heap.size w w' := Any.strings_ToUpper_ascii Tryz.lays158 Tryz.Builder_Extra_158 s w hs hascii
def Tryz.lays159_ren : Go.Shelf.Ren := ⟨fun | 159 => 271 | 165 => 260 | 166 => 10 | 167 => 273 | 169 => 12 | 230 => 200 | 204 => 361 | 240 => 19 | 241 => 348 | 197 => 44 | 118 => 275 | 168 => 276 | 270 => 277 | 262 => 448 | 276 => 33 | 277 => 440 | 260 => 67 | 242 => 370 | 313 => 525 | 278 => 465 | 274 => 579 | 275 => 580 | n => n, fun | 9 => 9 | 4 => 4 | 3 => 3 | 5 => 5 | 72 => 36 | 0 => 0 | 76 => 41 | 75 => 40 | 107 => 361 | 70 => 34 | 20 => 20 | 37 => 24 | 127 => 65 | 21 => 21 | 105 => 134 | 164 => 91 | 162 => 653 | 203 => 651 | 119 => 250 | 46 => 248 | 139 => 253 | 138 => 252 | 51 => 124 | 160 => 695 | 208 => 719 | 206 => 717 | 80 => 44 | n => n, fun | 13 => 6 | 3 => 1 | 4 => 2 | n => n⟩
theorem Tryz.lays159 : Go.Proofs.Lays.n159 Tryz.prog Tryz.lays159_ren := {
  mixed := by kernel_rfl
  f118 := Tryz.func275.trans (congrArg some (by kernel_rfl))
  f159 := Tryz.func271.trans (congrArg some (by kernel_rfl))
  f165 := Tryz.func260.trans (congrArg some (by kernel_rfl))
  f166 := Tryz.func10.trans (congrArg some (by kernel_rfl))
  f167 := Tryz.func273.trans (congrArg some (by kernel_rfl))
  f168 := Tryz.func276.trans (congrArg some (by kernel_rfl))
  f169 := Tryz.func12.trans (congrArg some (by kernel_rfl))
  f197 := Tryz.func44.trans (congrArg some (by kernel_rfl))
  f204 := Tryz.func361.trans (congrArg some (by kernel_rfl))
  f230 := Tryz.func200.trans (congrArg some (by kernel_rfl))
  f240 := Tryz.func19.trans (congrArg some (by kernel_rfl))
  f241 := Tryz.func348.trans (congrArg some (by kernel_rfl))
  f242 := Tryz.func370.trans (congrArg some (by kernel_rfl))
  f260 := Tryz.func67.trans (congrArg some (by kernel_rfl))
  f262 := Tryz.func448.trans (congrArg some (by kernel_rfl))
  f270 := Tryz.func277.trans (congrArg some (by kernel_rfl))
  f274 := Tryz.func579.trans (congrArg some (by kernel_rfl))
  f275 := Tryz.func580.trans (congrArg some (by kernel_rfl))
  f276 := Tryz.func33.trans (congrArg some (by kernel_rfl))
  f277 := Tryz.func440.trans (congrArg some (by kernel_rfl))
  f278 := Tryz.func465.trans (congrArg some (by kernel_rfl))
  f313 := Tryz.func525.trans (congrArg some (by kernel_rfl))
  t0 := Tryz.underlying0
  a0 := Tryz.isAgg0
  z0 := Tryz.sizeOf0
  v0 := Tryz.zeroValue0
  t3 := Tryz.underlying3
  a3 := Tryz.isAgg3
  z3 := Tryz.sizeOf3
  v3 := Tryz.zeroValue3
  t4 := Tryz.underlying4
  a4 := Tryz.isAgg4
  z4 := Tryz.sizeOf4
  v4 := Tryz.zeroValue4
  t5 := Tryz.underlying5
  a5 := Tryz.isAgg5
  z5 := Tryz.sizeOf5
  v5 := Tryz.zeroValue5
  t9 := Tryz.underlying9
  a9 := Tryz.isAgg9
  z9 := Tryz.sizeOf9
  v9 := Tryz.zeroValue9
  t20 := Tryz.underlying20
  a20 := Tryz.isAgg20
  z20 := Tryz.sizeOf20
  v20 := Tryz.zeroValue20
  t21 := Tryz.underlying21
  a21 := Tryz.isAgg21
  z21 := Tryz.sizeOf21
  v21 := Tryz.zeroValue21
  t37 := Tryz.underlying24
  a37 := Tryz.isAgg24
  z37 := Tryz.sizeOf24
  v37 := Tryz.zeroValue24
  t46 := Tryz.underlying248
  a46 := Tryz.isAgg248
  z46 := Tryz.sizeOf248
  v46 := Tryz.zeroValue248
  t51 := Tryz.underlying124
  a51 := Tryz.isAgg124
  z51 := Tryz.sizeOf124
  v51 := Tryz.zeroValue124
  t70 := Tryz.underlying34
  a70 := Tryz.isAgg34
  z70 := Tryz.sizeOf34
  v70 := Tryz.zeroValue34
  t72 := Tryz.underlying36
  a72 := Tryz.isAgg36
  z72 := Tryz.sizeOf36
  v72 := Tryz.zeroValue36
  t75 := Tryz.underlying40
  a75 := Tryz.isAgg40
  z75 := Tryz.sizeOf40
  v75 := Tryz.zeroValue40
  t76 := Tryz.underlying41
  a76 := Tryz.isAgg41
  z76 := Tryz.sizeOf41
  v76 := Tryz.zeroValue41
  t105 := Tryz.underlying134
  a105 := Tryz.isAgg134
  z105 := Tryz.sizeOf134
  v105 := Tryz.zeroValue134
  t107 := Tryz.underlying361
  a107 := Tryz.isAgg361
  z107 := Tryz.sizeOf361
  v107 := Tryz.zeroValue361
  t119 := Tryz.underlying250
  a119 := Tryz.isAgg250
  z119 := Tryz.sizeOf250
  t127 := Tryz.underlying65
  a127 := Tryz.isAgg65
  z127 := Tryz.sizeOf65
  v127 := Tryz.zeroValue65
  t138 := Tryz.underlying252
  a138 := Tryz.isAgg252
  z138 := Tryz.sizeOf252
  v138 := Tryz.zeroValue252
  t139 := Tryz.underlying253
  a139 := Tryz.isAgg253
  z139 := Tryz.sizeOf253
  v139 := Tryz.zeroValue253
  t160 := Tryz.underlying695
  a160 := Tryz.isAgg695
  z160 := Tryz.sizeOf695
  v160 := Tryz.zeroValue695
  t162 := Tryz.underlying653
  a162 := Tryz.isAgg653
  z162 := Tryz.sizeOf653
  v162 := Tryz.zeroValue653
  t164 := Tryz.underlying91
  a164 := Tryz.isAgg91
  z164 := Tryz.sizeOf91
  v164 := Tryz.zeroValue91
  t203 := Tryz.underlying651
  a203 := Tryz.isAgg651
  z203 := Tryz.sizeOf651
  v203 := Tryz.zeroValue651
  t206 := Tryz.underlying717
  a206 := Tryz.isAgg717
  z206 := Tryz.sizeOf717
  v206 := Tryz.zeroValue717
  t208 := Tryz.underlying719
  a208 := Tryz.isAgg719
  z208 := Tryz.sizeOf719
  v208 := Tryz.zeroValue719
  g3 := by kernel_rfl
  g4 := by kernel_rfl
  g13 := by kernel_rfl }
theorem Tryz.Builder_Extra_159 : Builder.Extra Tryz.prog Tryz.lays159_ren := {
  sizeBuilder := by kernel_rfl
  liesBuilder := by kernel_rfl
  t5 := Tryz.underlying5
  a5 := Tryz.isAgg5
  z5 := Tryz.sizeOf5
  v5 := Tryz.zeroValue5
  infoByte := by kernel_rfl
  cellsByte := by kernel_rfl
  sizeByte := by kernel_rfl
  neB5 := by decide }
open Go.RowKit in
theorem Tryz.strings_ToLower_ascii (s : ByteArray) (w : World) (hs : s.size ≤ 140737488355328) (hascii : ∀ (j : Nat) (b : UInt8), s.data.toList[j]? = some b → b.toNat < 128) :
    Calls Tryz.prog 271 #[.string s] w fun e w' => e = .returned (.string ⟨(Lib.toLowerA s.data.toList).toArray⟩) ∧ Below w.heap.size w w' := Any.strings_ToLower_ascii Tryz.lays159 Tryz.Builder_Extra_159 s w hs hascii
def Tryz.lays137_ren : Go.Shelf.Ren := ⟨fun | 137 => 116 | 217 => 186 | 266 => 266 | n => n, fun | 9 => 9 | 5 => 5 | 3 => 3 | n => n, fun | n => n⟩
theorem Tryz.lays137 : Go.Proofs.Lays.n137 Tryz.prog Tryz.lays137_ren := {
  mixed := by kernel_rfl
  f137 := Tryz.func116.trans (congrArg some (by kernel_rfl))
  f217 := Tryz.func186.trans (congrArg some (by kernel_rfl))
  f266 := Tryz.func266.trans (congrArg some (by kernel_rfl))
  t3 := Tryz.underlying3
  a3 := Tryz.isAgg3
  z3 := Tryz.sizeOf3
  v3 := Tryz.zeroValue3
  t5 := Tryz.underlying5
  a5 := Tryz.isAgg5
  z5 := Tryz.sizeOf5
  v5 := Tryz.zeroValue5
  t9 := Tryz.underlying9
  a9 := Tryz.isAgg9
  z9 := Tryz.sizeOf9
  v9 := Tryz.zeroValue9 }
open Go.RowKit in
theorem Tryz.strings_IndexByte (s : ByteArray) (c : Int) (w : World) :
    Calls Tryz.prog 116 #[.string s, .int .u8 c] w fun e w' => e = .returned (.int .i64 (Lib.indexByte s.data.toList c.toNat.toUInt8)) ∧ w' = w := Any.strings_IndexByte Tryz.lays137 s c w
open Go.RowKit in
theorem Tryz.Builder_String_any_f (B b : Nat) (l : List UInt8) (w : World) (h : Lib.IsBuilderF 36 5 B b (Lib.byteCells l) w) (hBw : B ≤ w.heap.size) :
    Calls Tryz.prog 12 #[.pointer (some ⟨b, 0, none⟩)] w fun e w' => e = .returned (.string ⟨l.toArray⟩) ∧ (Lib.IsBuilderF 36 5 B b (Lib.byteCells l) w' ∧ Below B w w') := Any.Builder_String_any_f Tryz.lays169 Tryz.Builder_Extra_169 B b l w h hBw
def Tryz.lays173_ren : Go.Shelf.Ren := ⟨fun | 173 => 24 | 246 => 42 | 283 => 63 | 284 => 64 | 285 => 65 | 286 => 66 | 129 => 112 | 317 => 111 | 318 => 113 | 319 => 114 | 320 => 115 | 337 => 184 | 338 => 185 | n => n, fun | 2 => 2 | 3 => 3 | 9 => 9 | 4 => 4 | 171 => 157 | 0 => 0 | 53 => 158 | 37 => 24 | 5 => 5 | 173 => 161 | 212 => 245 | 51 => 124 | 20 => 20 | 213 => 246 | 46 => 248 | 232 => 436 | 233 => 437 | n => n, fun | 17 => 0 | 18 => 4 | 19 => 5 | n => n⟩
theorem Tryz.lays173 : Go.Proofs.Lays.n173 Tryz.prog Tryz.lays173_ren := {
  mixed := by kernel_rfl
  f129 := Tryz.func112.trans (congrArg some (by kernel_rfl))
  f173 := Tryz.func24.trans (congrArg some (by kernel_rfl))
  f246 := Tryz.func42.trans (congrArg some (by kernel_rfl))
  f283 := Tryz.func63.trans (congrArg some (by kernel_rfl))
  f284 := Tryz.func64.trans (congrArg some (by kernel_rfl))
  f285 := Tryz.func65.trans (congrArg some (by kernel_rfl))
  f286 := Tryz.func66.trans (congrArg some (by kernel_rfl))
  f317 := Tryz.func111.trans (congrArg some (by kernel_rfl))
  f318 := Tryz.func113.trans (congrArg some (by kernel_rfl))
  f319 := Tryz.func114.trans (congrArg some (by kernel_rfl))
  f320 := Tryz.func115.trans (congrArg some (by kernel_rfl))
  f337 := Tryz.func184.trans (congrArg some (by kernel_rfl))
  f338 := Tryz.func185.trans (congrArg some (by kernel_rfl))
  t0 := Tryz.underlying0
  a0 := Tryz.isAgg0
  z0 := Tryz.sizeOf0
  v0 := Tryz.zeroValue0
  t2 := Tryz.underlying2
  a2 := Tryz.isAgg2
  z2 := Tryz.sizeOf2
  v2 := Tryz.zeroValue2
  t3 := Tryz.underlying3
  a3 := Tryz.isAgg3
  z3 := Tryz.sizeOf3
  v3 := Tryz.zeroValue3
  t4 := Tryz.underlying4
  a4 := Tryz.isAgg4
  z4 := Tryz.sizeOf4
  v4 := Tryz.zeroValue4
  t5 := Tryz.underlying5
  a5 := Tryz.isAgg5
  z5 := Tryz.sizeOf5
  v5 := Tryz.zeroValue5
  t9 := Tryz.underlying9
  a9 := Tryz.isAgg9
  z9 := Tryz.sizeOf9
  v9 := Tryz.zeroValue9
  t20 := Tryz.underlying20
  a20 := Tryz.isAgg20
  z20 := Tryz.sizeOf20
  v20 := Tryz.zeroValue20
  t37 := Tryz.underlying24
  a37 := Tryz.isAgg24
  z37 := Tryz.sizeOf24
  v37 := Tryz.zeroValue24
  t46 := Tryz.underlying248
  a46 := Tryz.isAgg248
  z46 := Tryz.sizeOf248
  v46 := Tryz.zeroValue248
  t51 := Tryz.underlying124
  a51 := Tryz.isAgg124
  z51 := Tryz.sizeOf124
  v51 := Tryz.zeroValue124
  t53 := Tryz.underlying158
  a53 := Tryz.isAgg158
  z53 := Tryz.sizeOf158
  v53 := Tryz.zeroValue158
  t171 := Tryz.underlying157
  a171 := Tryz.isAgg157
  z171 := Tryz.sizeOf157
  v171 := Tryz.zeroValue157
  t173 := Tryz.underlying161
  a173 := Tryz.isAgg161
  z173 := Tryz.sizeOf161
  v173 := Tryz.zeroValue161
  t212 := Tryz.underlying245
  a212 := Tryz.isAgg245
  z212 := Tryz.sizeOf245
  v212 := Tryz.zeroValue245
  t213 := Tryz.underlying246
  a213 := Tryz.isAgg246
  z213 := Tryz.sizeOf246
  t232 := Tryz.underlying436
  a232 := Tryz.isAgg436
  z232 := Tryz.sizeOf436
  v232 := Tryz.zeroValue436
  t233 := Tryz.underlying437
  a233 := Tryz.isAgg437
  z233 := Tryz.sizeOf437
  v233 := Tryz.zeroValue437
  g17 := by kernel_rfl
  g18 := by kernel_rfl
  g19 := by kernel_rfl }
open Go.RowKit Go.Sort Go.Lib in
theorem Tryz.strconv_FormatInt_10_small (i : Nat) (hi : i < 100) (w : World) :
    Calls Tryz.prog 24 #[.int .i64 i, .int .i64 10] w fun e w' => e = .returned (.string ⟨(Lib.decDigits i).toArray⟩) ∧ w' = w := Any.strconv_FormatInt_10_small Tryz.lays173 i hi w
def Tryz.laysC174_ren : Go.Shelf.Ren := ⟨fun | 174 => 272 | 247 => 362 | 245 => 363 | 287 => 449 | 279 => 450 | 280 => 451 | 281 => 452 | 282 => 453 | 321 => 526 | 322 => 527 | 316 => 528 | 171 => 530 | 205 => 529 | 243 => 581 | 246 => 42 | 283 => 63 | 284 => 64 | 285 => 65 | 286 => 66 | 129 => 112 | 317 => 111 | 318 => 113 | 319 => 114 | 320 => 115 | 337 => 184 | 338 => 185 | n => n, fun | 9 => 9 | 3 => 3 | 2 => 2 | 75 => 40 | 85 => 438 | 4 => 4 | 167 => 596 | 5 => 5 | 53 => 158 | 175 => 597 | 46 => 248 | 168 => 599 | 37 => 24 | 0 => 0 | 210 => 656 | 21 => 21 | 127 => 65 | 145 => 700 | 143 => 698 | 171 => 157 | 173 => 161 | 212 => 245 | 51 => 124 | 20 => 20 | 213 => 246 | 232 => 436 | 233 => 437 | 80 => 44 | n => n, fun | 15 => 7 | 16 => 8 | 17 => 0 | 18 => 4 | 19 => 5 | n => n⟩
theorem Tryz.laysC174 : Go.Proofs.LaysC.n174 Tryz.prog Tryz.laysC174_ren := {
  mixed := by kernel_rfl
  f129 := Tryz.func112.trans (congrArg some (by kernel_rfl))
  f171 := Tryz.func530.trans (congrArg some (by kernel_rfl))
  f174 := Tryz.func272.trans (congrArg some (by kernel_rfl))
  f205 := Tryz.func529.trans (congrArg some (by kernel_rfl))
  f243 := Tryz.func581.trans (congrArg some (by kernel_rfl))
  f245 := Tryz.func363.trans (congrArg some (by kernel_rfl))
  f246 := Tryz.func42.trans (congrArg some (by kernel_rfl))
  f247 := Tryz.func362.trans (congrArg some (by kernel_rfl))
  f279 := Tryz.func450.trans (congrArg some (by kernel_rfl))
  f280 := Tryz.func451.trans (congrArg some (by kernel_rfl))
  f281 := Tryz.func452.trans (congrArg some (by kernel_rfl))
  f282 := Tryz.func453.trans (congrArg some (by kernel_rfl))
  f283 := Tryz.func63.trans (congrArg some (by kernel_rfl))
  f284 := Tryz.func64.trans (congrArg some (by kernel_rfl))
  f285 := Tryz.func65.trans (congrArg some (by kernel_rfl))
  f286 := Tryz.func66.trans (congrArg some (by kernel_rfl))
  f287 := Tryz.func449.trans (congrArg some (by kernel_rfl))
  f316 := Tryz.func528.trans (congrArg some (by kernel_rfl))
  f317 := Tryz.func111.trans (congrArg some (by kernel_rfl))
  f318 := Tryz.func113.trans (congrArg some (by kernel_rfl))
  f319 := Tryz.func114.trans (congrArg some (by kernel_rfl))
  f320 := Tryz.func115.trans (congrArg some (by kernel_rfl))
  f321 := Tryz.func526.trans (congrArg some (by kernel_rfl))
  f322 := Tryz.func527.trans (congrArg some (by kernel_rfl))
  f337 := Tryz.func184.trans (congrArg some (by kernel_rfl))
  f338 := Tryz.func185.trans (congrArg some (by kernel_rfl))
  t0 := Tryz.underlying0
  a0 := Tryz.isAgg0
  z0 := Tryz.sizeOf0
  v0 := Tryz.zeroValue0
  t2 := Tryz.underlying2
  a2 := Tryz.isAgg2
  z2 := Tryz.sizeOf2
  v2 := Tryz.zeroValue2
  t3 := Tryz.underlying3
  a3 := Tryz.isAgg3
  z3 := Tryz.sizeOf3
  v3 := Tryz.zeroValue3
  t4 := Tryz.underlying4
  a4 := Tryz.isAgg4
  z4 := Tryz.sizeOf4
  v4 := Tryz.zeroValue4
  t5 := Tryz.underlying5
  a5 := Tryz.isAgg5
  z5 := Tryz.sizeOf5
  v5 := Tryz.zeroValue5
  t9 := Tryz.underlying9
  a9 := Tryz.isAgg9
  z9 := Tryz.sizeOf9
  v9 := Tryz.zeroValue9
  t20 := Tryz.underlying20
  a20 := Tryz.isAgg20
  z20 := Tryz.sizeOf20
  v20 := Tryz.zeroValue20
  t21 := Tryz.underlying21
  a21 := Tryz.isAgg21
  z21 := Tryz.sizeOf21
  v21 := Tryz.zeroValue21
  t37 := Tryz.underlying24
  a37 := Tryz.isAgg24
  z37 := Tryz.sizeOf24
  v37 := Tryz.zeroValue24
  t46 := Tryz.underlying248
  a46 := Tryz.isAgg248
  z46 := Tryz.sizeOf248
  v46 := Tryz.zeroValue248
  t51 := Tryz.underlying124
  a51 := Tryz.isAgg124
  z51 := Tryz.sizeOf124
  v51 := Tryz.zeroValue124
  t53 := Tryz.underlying158
  a53 := Tryz.isAgg158
  z53 := Tryz.sizeOf158
  v53 := Tryz.zeroValue158
  t75 := Tryz.underlying40
  a75 := Tryz.isAgg40
  z75 := Tryz.sizeOf40
  v75 := Tryz.zeroValue40
  t85 := Tryz.underlying438
  a85 := Tryz.isAgg438
  z85 := Tryz.sizeOf438
  v85 := Tryz.zeroValue438
  t127 := Tryz.underlying65
  a127 := Tryz.isAgg65
  z127 := Tryz.sizeOf65
  v127 := Tryz.zeroValue65
  t143 := Tryz.underlying698
  a143 := Tryz.isAgg698
  z143 := Tryz.sizeOf698
  v143 := Tryz.zeroValue698
  t145 := Tryz.underlying700
  a145 := Tryz.isAgg700
  z145 := Tryz.sizeOf700
  v145 := Tryz.zeroValue700
  t167 := Tryz.underlying596
  a167 := Tryz.isAgg596
  z167 := Tryz.sizeOf596
  v167 := Tryz.zeroValue596
  t168 := Tryz.underlying599
  a168 := Tryz.isAgg599
  z168 := Tryz.sizeOf599
  v168 := Tryz.zeroValue599
  t171 := Tryz.underlying157
  a171 := Tryz.isAgg157
  z171 := Tryz.sizeOf157
  v171 := Tryz.zeroValue157
  t173 := Tryz.underlying161
  a173 := Tryz.isAgg161
  z173 := Tryz.sizeOf161
  v173 := Tryz.zeroValue161
  t175 := Tryz.underlying597
  a175 := Tryz.isAgg597
  z175 := Tryz.sizeOf597
  v175 := Tryz.zeroValue597
  t210 := Tryz.underlying656
  a210 := Tryz.isAgg656
  z210 := Tryz.sizeOf656
  v210 := Tryz.zeroValue656
  t212 := Tryz.underlying245
  a212 := Tryz.isAgg245
  z212 := Tryz.sizeOf245
  v212 := Tryz.zeroValue245
  t213 := Tryz.underlying246
  a213 := Tryz.isAgg246
  z213 := Tryz.sizeOf246
  t232 := Tryz.underlying436
  a232 := Tryz.isAgg436
  z232 := Tryz.sizeOf436
  v232 := Tryz.zeroValue436
  t233 := Tryz.underlying437
  a233 := Tryz.isAgg437
  z233 := Tryz.sizeOf437
  v233 := Tryz.zeroValue437
  g15 := by kernel_rfl
  g16 := by kernel_rfl
  g17 := by kernel_rfl
  g18 := by kernel_rfl
  g19 := by kernel_rfl
  t80 := Tryz.underlying44
  a80 := Tryz.isAgg44
  z80 := Tryz.sizeOf44
  v80 := Tryz.zeroValue44
  i0 := by kernel_rfl
  i2 := by kernel_rfl
  i3 := by kernel_rfl
  i4 := by kernel_rfl
  i5 := by kernel_rfl
  i9 := by kernel_rfl
  i20 := by kernel_rfl
  i21 := by kernel_rfl
  i37 := by kernel_rfl
  i46 := by kernel_rfl
  i51 := by kernel_rfl
  i53 := by kernel_rfl
  i75 := by kernel_rfl
  i80 := by kernel_rfl
  i85 := by kernel_rfl
  i127 := by kernel_rfl
  i143 := by kernel_rfl
  i145 := by kernel_rfl
  i167 := by kernel_rfl
  i168 := by kernel_rfl
  i171 := by kernel_rfl
  i173 := by kernel_rfl
  i175 := by kernel_rfl
  i210 := by kernel_rfl
  i212 := by kernel_rfl
  i232 := by kernel_rfl
  i233 := by kernel_rfl
  m15 := by kernel_rfl
  m16 := by kernel_rfl
  m17 := by kernel_rfl
  m18 := by kernel_rfl
  m19 := by kernel_rfl
  c0 := by kernel_rfl
  c2 := by kernel_rfl
  c3 := by kernel_rfl
  c4 := by kernel_rfl
  c5 := by kernel_rfl
  c9 := by kernel_rfl
  c20 := by kernel_rfl
  c21 := by kernel_rfl
  c37 := by kernel_rfl
  c46 := by kernel_rfl
  c51 := by kernel_rfl
  c53 := by kernel_rfl
  c75 := by kernel_rfl
  c80 := by kernel_rfl
  c85 := by kernel_rfl
  c127 := by kernel_rfl
  c143 := by kernel_rfl
  c145 := by kernel_rfl
  c167 := by kernel_rfl
  c168 := by kernel_rfl
  c171 := by kernel_rfl
  c173 := by kernel_rfl
  c175 := by kernel_rfl
  c210 := by kernel_rfl
  c212 := by kernel_rfl
  c213 := by kernel_rfl
  c232 := by kernel_rfl
  c233 := by kernel_rfl }
open Go.RowKit in
theorem Tryz.strconv_ParseInt_10_at64_ok (s : ByteArray) (hmax : s.size ≤ 9223372036854775806) (v : Int) (h : Lib.parseIntB 64 s.data.toList = .ok v) (w : World) :
    Calls Tryz.prog 272 #[.string s, .int .i64 10, .int .i64 64] w fun e w' => e = .returned (.tuple #[.int .i64 v, .nilIface]) ∧ (w' = w ∨ ∃ t, w' = Lib.bytesWorld w 5 t) := Any.strconv_ParseInt_10_at64_ok Tryz.laysC174 s hmax v h w
open Go.RowKit in
theorem Tryz.strconv_ParseInt_10_at64_range_var (s : ByteArray) (hlim : s.size ≤ 281474976710656) (h : Lib.parseIntB 64 s.data.toList = .range) (tp : TypeId) (p : Value) (w : World) (hvar : w.var? Tryz.prog "strconv.ErrRange" = some #[.iface tp p]) :
    Calls Tryz.prog 272 #[.string s, .int .i64 10, .int .i64 64] w fun e w' => ∃ N, e = .returned (.tuple #[.int .i64 (Lib.intSat 64 s.data.toList), .iface 599 (.pointer (some ⟨N, 0, none⟩))]) ∧ w.heap.size ≤ N ∧ w'.heap[N]? = some (.cells #[.string ⟨#[80, 97, 114, 115, 101, 73, 110, 116]⟩, .string s, .iface tp p] 656 (0, 0)) ∧ Below w.heap.size w w' := Any.strconv_ParseInt_10_at64_range_var Tryz.laysC174 s hlim h tp p w hvar
def Tryz.lays144_ren : Go.Shelf.Ren := ⟨fun | 144 => 270 | 143 => 261 | 219 => 349 | 217 => 186 | 225 => 119 | 224 => 118 | 267 => 441 | 266 => 266 | 314 => 523 | n => n, fun | 9 => 9 | 4 => 4 | 3 => 3 | 5 => 5 | 46 => 248 | 146 => 647 | 51 => 124 | n => n, fun | 1 => 3 | n => n⟩
theorem Tryz.lays144 : Go.Proofs.Lays.n144 Tryz.prog Tryz.lays144_ren := {
  mixed := by kernel_rfl
  f143 := Tryz.func261.trans (congrArg some (by kernel_rfl))
  f144 := Tryz.func270.trans (congrArg some (by kernel_rfl))
  f217 := Tryz.func186.trans (congrArg some (by kernel_rfl))
  f219 := Tryz.func349.trans (congrArg some (by kernel_rfl))
  f224 := Tryz.func118.trans (congrArg some (by kernel_rfl))
  f225 := Tryz.func119.trans (congrArg some (by kernel_rfl))
  f266 := Tryz.func266.trans (congrArg some (by kernel_rfl))
  f267 := Tryz.func441.trans (congrArg some (by kernel_rfl))
  f314 := Tryz.func523.trans (congrArg some (by kernel_rfl))
  t3 := Tryz.underlying3
  a3 := Tryz.isAgg3
  z3 := Tryz.sizeOf3
  v3 := Tryz.zeroValue3
  t4 := Tryz.underlying4
  a4 := Tryz.isAgg4
  z4 := Tryz.sizeOf4
  v4 := Tryz.zeroValue4
  t5 := Tryz.underlying5
  a5 := Tryz.isAgg5
  z5 := Tryz.sizeOf5
  v5 := Tryz.zeroValue5
  t9 := Tryz.underlying9
  a9 := Tryz.isAgg9
  z9 := Tryz.sizeOf9
  v9 := Tryz.zeroValue9
  t46 := Tryz.underlying248
  a46 := Tryz.isAgg248
  z46 := Tryz.sizeOf248
  v46 := Tryz.zeroValue248
  t51 := Tryz.underlying124
  a51 := Tryz.isAgg124
  z51 := Tryz.sizeOf124
  v51 := Tryz.zeroValue124
  t146 := Tryz.underlying647
  a146 := Tryz.isAgg647
  z146 := Tryz.sizeOf647
  v146 := Tryz.zeroValue647
  g1 := by kernel_rfl }
open Go.RowKit Go.Lib in
theorem Tryz.strings_Contains (s sub : ByteArray) (m : Int) (w : World) (hs : s.size < 4294967281) (hm : w.cell? ⟨3, 0, none⟩ = some (.int .i64 m)) :
    Calls Tryz.prog 270 #[.string s, .string sub] w fun e w' => e = .returned (.bool (Lib.contains s.data.toList sub.data.toList)) ∧ w' = w := Any.strings_Contains Tryz.lays144 s sub m w hs hm
def Tryz.lays189_ren : Go.Shelf.Ren := ⟨fun | 189 => 182 | 125 => 265 | 257 => 264 | 128 => 359 | 129 => 112 | 294 => 350 | 295 => 351 | 296 => 352 | 297 => 353 | 298 => 354 | 299 => 355 | 216 => 356 | 300 => 357 | 301 => 358 | 328 => 442 | 329 => 443 | 330 => 444 | 331 => 445 | 332 => 446 | 215 => 447 | 343 => 524 | n => n, fun | 28 => 113 | 3 => 3 | 46 => 248 | 0 => 0 | 51 => 124 | 53 => 158 | 4 => 4 | 183 => 510 | 182 => 509 | 131 => 242 | 5 => 5 | 9 => 9 | 218 => 590 | 222 => 564 | 228 => 649 | 229 => 225 | n => n, fun | n => n⟩
theorem Tryz.lays189 : Go.Proofs.Lays.n189 Tryz.prog Tryz.lays189_ren := {
  mixed := by kernel_rfl
  f125 := Tryz.func265.trans (congrArg some (by kernel_rfl))
  f128 := Tryz.func359.trans (congrArg some (by kernel_rfl))
  f129 := Tryz.func112.trans (congrArg some (by kernel_rfl))
  f189 := Tryz.func182.trans (congrArg some (by kernel_rfl))
  f215 := Tryz.func447.trans (congrArg some (by kernel_rfl))
  f216 := Tryz.func356.trans (congrArg some (by kernel_rfl))
  f257 := Tryz.func264.trans (congrArg some (by kernel_rfl))
  f294 := Tryz.func350.trans (congrArg some (by kernel_rfl))
  f295 := Tryz.func351.trans (congrArg some (by kernel_rfl))
  f296 := Tryz.func352.trans (congrArg some (by kernel_rfl))
  f297 := Tryz.func353.trans (congrArg some (by kernel_rfl))
  f298 := Tryz.func354.trans (congrArg some (by kernel_rfl))
  f299 := Tryz.func355.trans (congrArg some (by kernel_rfl))
  f300 := Tryz.func357.trans (congrArg some (by kernel_rfl))
  f301 := Tryz.func358.trans (congrArg some (by kernel_rfl))
  f328 := Tryz.func442.trans (congrArg some (by kernel_rfl))
  f329 := Tryz.func443.trans (congrArg some (by kernel_rfl))
  f330 := Tryz.func444.trans (congrArg some (by kernel_rfl))
  f331 := Tryz.func445.trans (congrArg some (by kernel_rfl))
  f332 := Tryz.func446.trans (congrArg some (by kernel_rfl))
  f343 := Tryz.func524.trans (congrArg some (by kernel_rfl))
  t0 := Tryz.underlying0
  a0 := Tryz.isAgg0
  z0 := Tryz.sizeOf0
  v0 := Tryz.zeroValue0
  t3 := Tryz.underlying3
  a3 := Tryz.isAgg3
  z3 := Tryz.sizeOf3
  v3 := Tryz.zeroValue3
  t4 := Tryz.underlying4
  a4 := Tryz.isAgg4
  z4 := Tryz.sizeOf4
  v4 := Tryz.zeroValue4
  t5 := Tryz.underlying5
  a5 := Tryz.isAgg5
  z5 := Tryz.sizeOf5
  v5 := Tryz.zeroValue5
  t9 := Tryz.underlying9
  a9 := Tryz.isAgg9
  z9 := Tryz.sizeOf9
  v9 := Tryz.zeroValue9
  t28 := Tryz.underlying113
  a28 := Tryz.isAgg113
  z28 := Tryz.sizeOf113
  v28 := Tryz.zeroValue113
  t46 := Tryz.underlying248
  a46 := Tryz.isAgg248
  z46 := Tryz.sizeOf248
  v46 := Tryz.zeroValue248
  t51 := Tryz.underlying124
  a51 := Tryz.isAgg124
  z51 := Tryz.sizeOf124
  v51 := Tryz.zeroValue124
  t53 := Tryz.underlying158
  a53 := Tryz.isAgg158
  z53 := Tryz.sizeOf158
  v53 := Tryz.zeroValue158
  t131 := Tryz.underlying242
  a131 := Tryz.isAgg242
  z131 := Tryz.sizeOf242
  v131 := Tryz.zeroValue242
  t182 := Tryz.underlying509
  a182 := Tryz.isAgg509
  z182 := Tryz.sizeOf509
  v182 := Tryz.zeroValue509
  t183 := Tryz.underlying510
  a183 := Tryz.isAgg510
  z183 := Tryz.sizeOf510
  v183 := Tryz.zeroValue510
  t218 := Tryz.underlying590
  a218 := Tryz.isAgg590
  z218 := Tryz.sizeOf590
  v218 := Tryz.zeroValue590
  t222 := Tryz.underlying564
  a222 := Tryz.isAgg564
  z222 := Tryz.sizeOf564
  v222 := Tryz.zeroValue564
  t228 := Tryz.underlying649
  a228 := Tryz.isAgg649
  z228 := Tryz.sizeOf649
  v228 := Tryz.zeroValue649
  t229 := Tryz.underlying225
  a229 := Tryz.isAgg225
  z229 := Tryz.sizeOf225
  v229 := Tryz.zeroValue225 }
open Go.Sort Go.RowKit in
theorem Tryz.slices_Sort_int (blk off cap : Nat) (zs : List Int) (w : World) (hH : Holds (Value.int .i64) w blk off zs.toArray) (hblk : blk < w.heap.size) (hsz : zs.length < 4611686018427387904) :
    Calls Tryz.prog 182 #[.slice (some ⟨blk, off, none⟩) zs.length cap] w fun e w' =>
      e = .returned (.tuple #[]) ∧ ∃ n os, w' = grow (putRow (Value.int .i64) (Sort.ahead w n) blk off (zs.mergeSort fun x y => decide (x ≤ y)).toArray) os := Any.slices_Sort_int Tryz.lays189 blk off cap zs w hH hblk hsz
def Tryz.lays99_ren : Go.Shelf.Ren := ⟨fun | 99 => 187 | 206 => 267 | n => n, fun | 9 => 9 | 4 => 4 | 3 => 3 | n => n, fun | n => n⟩
theorem Tryz.lays99 : Go.Proofs.Lays.n99 Tryz.prog Tryz.lays99_ren := {
  mixed := by kernel_rfl
  f99 := Tryz.func187.trans (congrArg some (by kernel_rfl))
  f206 := Tryz.func267.trans (congrArg some (by kernel_rfl))
  t3 := Tryz.underlying3
  a3 := Tryz.isAgg3
  z3 := Tryz.sizeOf3
  v3 := Tryz.zeroValue3
  t4 := Tryz.underlying4
  a4 := Tryz.isAgg4
  z4 := Tryz.sizeOf4
  v4 := Tryz.zeroValue4
  t9 := Tryz.underlying9
  a9 := Tryz.isAgg9
  z9 := Tryz.sizeOf9
  v9 := Tryz.zeroValue9 }
open Go.RowKit Go.Lib in
theorem Tryz.strings_HasPrefix (s p : ByteArray) (w : World) :
    Calls Tryz.prog 187 #[.string s, .string p] w fun e w' => e = .returned (.bool (Lib.hasPrefix s.data.toList p.data.toList)) ∧ w' = w := Any.strings_HasPrefix Tryz.lays99 s p w
def Tryz.lays197_ren : Go.Shelf.Ren := ⟨fun | 197 => 44 | 260 => 67 | n => n, fun | 9 => 9 | 21 => 21 | 3 => 3 | 4 => 4 | 5 => 5 | 105 => 134 | 119 => 250 | 0 => 0 | 46 => 248 | 139 => 253 | 138 => 252 | n => n, fun | 3 => 1 | 4 => 2 | n => n⟩
def Tryz.lays227_ren : Go.Shelf.Ren := ⟨fun | 227 => 28 | n => n, fun | 9 => 9 | 116 => 86 | 4 => 4 | 0 => 0 | 3 => 3 | 5 => 5 | n => n, fun | n => n⟩
theorem Tryz.lays227 : Go.Proofs.Lays.n227 Tryz.prog Tryz.lays227_ren := {
  mixed := by kernel_rfl
  f227 := Tryz.func28.trans (congrArg some (by kernel_rfl))
  t0 := Tryz.underlying0
  a0 := Tryz.isAgg0
  z0 := Tryz.sizeOf0
  v0 := Tryz.zeroValue0
  t3 := Tryz.underlying3
  a3 := Tryz.isAgg3
  z3 := Tryz.sizeOf3
  v3 := Tryz.zeroValue3
  t4 := Tryz.underlying4
  a4 := Tryz.isAgg4
  z4 := Tryz.sizeOf4
  v4 := Tryz.zeroValue4
  t5 := Tryz.underlying5
  a5 := Tryz.isAgg5
  z5 := Tryz.sizeOf5
  v5 := Tryz.zeroValue5
  t9 := Tryz.underlying9
  a9 := Tryz.isAgg9
  z9 := Tryz.sizeOf9
  v9 := Tryz.zeroValue9
  t116 := Tryz.underlying86
  a116 := Tryz.isAgg86
  z116 := Tryz.sizeOf86 }
open Go.RowKit Go.Lib in
theorem Tryz.strings_makeASCIISet (hv116 : ∀ w, (zeroValue 86).run Tryz.prog w = .ok (.agg (Array.replicate 256 (.bool false))) w) (chars : ByteArray) (w : World) (hs : chars.size < 4294967281) (hascii : ∀ (j : Nat) b, chars.data.toList[j]? = some b → b.toNat < 128) :
    Calls Tryz.prog 28 #[.string chars] w fun e w' => e = .returned (.tuple #[.agg (Lib.setCells chars.data.toList), .bool true]) ∧ w' = w.alloc (.cells (Lib.setCells chars.data.toList) 86) := Any.strings_makeASCIISet Tryz.lays227 hv116 (by kernel_rfl) chars w hs hascii
def Tryz.lays228_ren : Go.Shelf.Ren := ⟨fun | 228 => 43 | n => n, fun | 124 => 90 | 5 => 5 | 4 => 4 | 0 => 0 | 116 => 86 | n => n, fun | n => n⟩
theorem Tryz.lays228 : Go.Proofs.Lays.n228 Tryz.prog Tryz.lays228_ren := {
  mixed := by kernel_rfl
  f228 := Tryz.func43.trans (congrArg some (by kernel_rfl))
  t0 := Tryz.underlying0
  a0 := Tryz.isAgg0
  z0 := Tryz.sizeOf0
  v0 := Tryz.zeroValue0
  t4 := Tryz.underlying4
  a4 := Tryz.isAgg4
  z4 := Tryz.sizeOf4
  v4 := Tryz.zeroValue4
  t5 := Tryz.underlying5
  a5 := Tryz.isAgg5
  z5 := Tryz.sizeOf5
  v5 := Tryz.zeroValue5
  t116 := Tryz.underlying86
  a116 := Tryz.isAgg86
  z116 := Tryz.sizeOf86
  t124 := Tryz.underlying90
  a124 := Tryz.isAgg90
  z124 := Tryz.sizeOf90
  v124 := Tryz.zeroValue90 }
open Go.RowKit Go.Lib in
theorem Tryz.asciiSet_contains (b : Nat) (x : UInt8) (v : Bool) (w : World) (hc : w.cell? ⟨b, x.toNat, none⟩ = some (.bool v)) :
    Calls Tryz.prog 43 #[.pointer (some ⟨b, 0, none⟩), .int .u8 x.toNat] w fun e w' => e = .returned (.bool v) ∧ w' = w := Any.asciiSet_contains Tryz.lays228 b x v w hc
def Tryz.lays230_ren : Go.Shelf.Ren := ⟨fun | 230 => 200 | 197 => 44 | 118 => 275 | 165 => 260 | 166 => 10 | 168 => 276 | 270 => 277 | 167 => 273 | 169 => 12 | 260 => 67 | 240 => 19 | 241 => 348 | 242 => 370 | 276 => 33 | 277 => 440 | 278 => 465 | n => n, fun | 107 => 361 | 9 => 9 | 72 => 36 | 0 => 0 | 4 => 4 | 3 => 3 | 21 => 21 | 105 => 134 | 76 => 41 | 5 => 5 | 75 => 40 | 70 => 34 | 20 => 20 | 37 => 24 | 127 => 65 | 119 => 250 | 46 => 248 | 139 => 253 | 138 => 252 | 164 => 91 | 51 => 124 | 80 => 44 | n => n, fun | 3 => 1 | 4 => 2 | n => n⟩
theorem Tryz.lays230 : Go.Proofs.Lays.n230 Tryz.prog Tryz.lays230_ren := {
  mixed := by kernel_rfl
  f118 := Tryz.func275.trans (congrArg some (by kernel_rfl))
  f165 := Tryz.func260.trans (congrArg some (by kernel_rfl))
  f166 := Tryz.func10.trans (congrArg some (by kernel_rfl))
  f167 := Tryz.func273.trans (congrArg some (by kernel_rfl))
  f168 := Tryz.func276.trans (congrArg some (by kernel_rfl))
  f169 := Tryz.func12.trans (congrArg some (by kernel_rfl))
  f197 := Tryz.func44.trans (congrArg some (by kernel_rfl))
  f230 := Tryz.func200.trans (congrArg some (by kernel_rfl))
  f240 := Tryz.func19.trans (congrArg some (by kernel_rfl))
  f241 := Tryz.func348.trans (congrArg some (by kernel_rfl))
  f242 := Tryz.func370.trans (congrArg some (by kernel_rfl))
  f260 := Tryz.func67.trans (congrArg some (by kernel_rfl))
  f270 := Tryz.func277.trans (congrArg some (by kernel_rfl))
  f276 := Tryz.func33.trans (congrArg some (by kernel_rfl))
  f277 := Tryz.func440.trans (congrArg some (by kernel_rfl))
  f278 := Tryz.func465.trans (congrArg some (by kernel_rfl))
  t0 := Tryz.underlying0
  a0 := Tryz.isAgg0
  z0 := Tryz.sizeOf0
  v0 := Tryz.zeroValue0
  t3 := Tryz.underlying3
  a3 := Tryz.isAgg3
  z3 := Tryz.sizeOf3
  v3 := Tryz.zeroValue3
  t4 := Tryz.underlying4
  a4 := Tryz.isAgg4
  z4 := Tryz.sizeOf4
  v4 := Tryz.zeroValue4
  t5 := Tryz.underlying5
  a5 := Tryz.isAgg5
  z5 := Tryz.sizeOf5
  v5 := Tryz.zeroValue5
  t9 := Tryz.underlying9
  a9 := Tryz.isAgg9
  z9 := Tryz.sizeOf9
  v9 := Tryz.zeroValue9
  t20 := Tryz.underlying20
  a20 := Tryz.isAgg20
  z20 := Tryz.sizeOf20
  v20 := Tryz.zeroValue20
  t21 := Tryz.underlying21
  a21 := Tryz.isAgg21
  z21 := Tryz.sizeOf21
  v21 := Tryz.zeroValue21
  t37 := Tryz.underlying24
  a37 := Tryz.isAgg24
  z37 := Tryz.sizeOf24
  v37 := Tryz.zeroValue24
  t46 := Tryz.underlying248
  a46 := Tryz.isAgg248
  z46 := Tryz.sizeOf248
  v46 := Tryz.zeroValue248
  t51 := Tryz.underlying124
  a51 := Tryz.isAgg124
  z51 := Tryz.sizeOf124
  v51 := Tryz.zeroValue124
  t70 := Tryz.underlying34
  a70 := Tryz.isAgg34
  z70 := Tryz.sizeOf34
  v70 := Tryz.zeroValue34
  t72 := Tryz.underlying36
  a72 := Tryz.isAgg36
  z72 := Tryz.sizeOf36
  v72 := Tryz.zeroValue36
  t75 := Tryz.underlying40
  a75 := Tryz.isAgg40
  z75 := Tryz.sizeOf40
  v75 := Tryz.zeroValue40
  t76 := Tryz.underlying41
  a76 := Tryz.isAgg41
  z76 := Tryz.sizeOf41
  v76 := Tryz.zeroValue41
  t105 := Tryz.underlying134
  a105 := Tryz.isAgg134
  z105 := Tryz.sizeOf134
  v105 := Tryz.zeroValue134
  t107 := Tryz.underlying361
  a107 := Tryz.isAgg361
  z107 := Tryz.sizeOf361
  v107 := Tryz.zeroValue361
  t119 := Tryz.underlying250
  a119 := Tryz.isAgg250
  z119 := Tryz.sizeOf250
  t127 := Tryz.underlying65
  a127 := Tryz.isAgg65
  z127 := Tryz.sizeOf65
  v127 := Tryz.zeroValue65
  t138 := Tryz.underlying252
  a138 := Tryz.isAgg252
  z138 := Tryz.sizeOf252
  v138 := Tryz.zeroValue252
  t139 := Tryz.underlying253
  a139 := Tryz.isAgg253
  z139 := Tryz.sizeOf253
  v139 := Tryz.zeroValue253
  t164 := Tryz.underlying91
  a164 := Tryz.isAgg91
  z164 := Tryz.sizeOf91
  v164 := Tryz.zeroValue91
  g3 := by kernel_rfl
  g4 := by kernel_rfl }
theorem Tryz.Builder_Extra_230 : Builder.Extra Tryz.prog Tryz.lays230_ren := {
  sizeBuilder := by kernel_rfl
  liesBuilder := by kernel_rfl
  t5 := Tryz.underlying5
  a5 := Tryz.isAgg5
  z5 := Tryz.sizeOf5
  v5 := Tryz.zeroValue5
  infoByte := by kernel_rfl
  cellsByte := by kernel_rfl
  sizeByte := by kernel_rfl
  neB5 := by decide }
open Go.RowKit Go.Lib in
theorem Tryz.strings_Map_runes (g : Nat) (lb : Array Value) (eg : ∀ args w, (callFunc g args).run Tryz.prog w = .ok (.enter g args) w) (f : Int → Int) (s : ByteArray) (w : World) (hs : s.size < 35184372088832) (hf : MapAtRunes Tryz.prog g lb f w) (hnn : ∀ x : Nat, x ≤ 1114111 → 0 ≤ f x ∧ f x ≤ 2147483647) (hT : Lib.Utf8Tabs 1 2 w) :
    Calls Tryz.prog 200 #[.func (.func g) #[] lb, .string s] w fun e w' => e = .returned (.string ⟨(Lib.mapD f s.data.toList).toArray⟩) ∧ Below w.heap.size w w' := Any.strings_Map_runes Tryz.lays230 Tryz.Builder_Extra_230 g lb eg f s w hs hf hnn hT
open Go.RowKit Go.Sort in
theorem Tryz.slices_Sort_int_none (p : Option Addr) (cap : Nat) (w : World) :
    Calls Tryz.prog 182 #[.slice p 0 cap] w fun e w' => e = .returned (.tuple #[]) ∧ w' = w := Any.slices_Sort_int_none Tryz.lays189 p cap w
end Go.Proofs
