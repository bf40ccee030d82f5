/-
  The library's contracts that these claims lean on, laid at this translation's numbers (written by the kit's lay-shelf.mjs and lay-plain.mjs, trimmed by a program).
-/
import Derived.Shelf.Strings.Builder1
import Derived.Shelf.Strings.Builder2
import Derived.Shelf.Strings.Trim
import Derived.Shelf.Small.Utf8
import Derived.Shelf.Small.Bits
import Derived.Shelf.Small.Strs
import Derived.Shelf.Small.Wraps
import Derived.Shelf.Strings.BuilderF
import Derived.Shelf.Strings.BuilderK
import Derived.Shelf.Strings.BuilderRune
import Derived.Shelf.Utf8.AppendRune
import Derived.Shelf.Utf8.AppendRunePlain
import Derived.Shelf.Utf8.RuneCount
import Derived.Shelf.Strings.Builder2Cap
import Derived.Shelf.Strconv.Itoa0
import Derived.Shelf.Strconv.Itoa1
import Derived.Shelf.LaysM
import Derived.Shelf.Strconv.Itoa2
import Derived.Shelf.Strconv.Itoa3
import Derived.Shelf.Strconv.Itoa4
import Derived.Shelf.Strings.Search1
import Derived.Shelf.Strings.Search2
import Derived.Shelf.Strings.Search3
import Derived.Shelf.Strings.Count
import Derived.Shelf.Strings.Shaped
import Derived.Shelf.Sort.Plain
import Derived.Shelf.Strings.Split
import Derived.Shelf.Strings.Replace
import Derived.Shelf.Strings.SplitShaped
import Derived.Shelf.Unicode.Decode
import Derived.Shelf.Strings.Runes
import Derived.Shelf.Strings.RuneCount
import Derived.Shelf.Strings.AsciiSet
import Derived.Shelf.Unicode.DecodeSlow
import Derived.Shelf.Unicode.DecodeAny
import Derived.Shelf.Unicode.DecodeLast
import Derived.Shelf.Strings.MapAny
import Derived.Shelf.Strings.BuilderCap
import Derived.Shelf.Strings.MapGrows
import Derived.Shelf.Slices.Reverse
import Derived.Ground.Names2Prog
import Derived.Shelf.Slices.SearchI
import Derived.Shelf.Slices.Cells
import Derived.Shelf.Slices.In.SortNone
import Derived.Ground.SlgnProg
import Derived.Shelf.SlicesG.SearchI
import Derived.Shelf.SlicesE.Reverse
import Derived.Test.YtipokgedmfnlaaaGreatDoorProg
namespace Go.Proofs
open Go.Shelf
def Tryz.lays160_ren : Go.Shelf.Ren := ⟨fun | 160 => 59 | 232 => 104 | 231 => 103 | 227 => 105 | 234 => 107 | 233 => 106 | 236 => 109 | 235 => 108 | 228 => 163 | 271 => 165 | 151 => 164 | 197 => 95 | 120 => 216 | 152 => 215 | 260 => 159 | 137 => 247 | 119 => 248 | 224 => 249 | 225 => 250 | 217 => 267 | 266 => 286 | n => n, fun | 9 => 9 | 4 => 4 | 3 => 3 | 5 => 5 | 117 => 194 | 116 => 193 | 0 => 0 | 124 => 197 | 21 => 21 | 105 => 179 | 46 => 100 | 119 => 312 | 139 => 315 | 138 => 314 | n => n, fun | 3 => 0 | 4 => 1 | n => n⟩
theorem Tryz.lays160 : Go.Proofs.Lays.n160 Tryz.prog Tryz.lays160_ren := {
  mixed := by kernel_rfl
  f119 := Tryz.func248.trans (congrArg some (by kernel_rfl))
  f120 := Tryz.func216.trans (congrArg some (by kernel_rfl))
  f137 := Tryz.func247.trans (congrArg some (by kernel_rfl))
  f151 := Tryz.func164.trans (congrArg some (by kernel_rfl))
  f152 := Tryz.func215.trans (congrArg some (by kernel_rfl))
  f160 := Tryz.func59.trans (congrArg some (by kernel_rfl))
  f197 := Tryz.func95.trans (congrArg some (by kernel_rfl))
  f217 := Tryz.func267.trans (congrArg some (by kernel_rfl))
  f224 := Tryz.func249.trans (congrArg some (by kernel_rfl))
  f225 := Tryz.func250.trans (congrArg some (by kernel_rfl))
  f227 := Tryz.func105.trans (congrArg some (by kernel_rfl))
  f228 := Tryz.func163.trans (congrArg some (by kernel_rfl))
  f231 := Tryz.func103.trans (congrArg some (by kernel_rfl))
  f232 := Tryz.func104.trans (congrArg some (by kernel_rfl))
  f233 := Tryz.func106.trans (congrArg some (by kernel_rfl))
  f234 := Tryz.func107.trans (congrArg some (by kernel_rfl))
  f235 := Tryz.func108.trans (congrArg some (by kernel_rfl))
  f236 := Tryz.func109.trans (congrArg some (by kernel_rfl))
  f260 := Tryz.func159.trans (congrArg some (by kernel_rfl))
  f266 := Tryz.func286.trans (congrArg some (by kernel_rfl))
  f271 := Tryz.func165.trans (congrArg some (by kernel_rfl))
  t0 := Tryz.underlying0
  a0 := Tryz.isAgg0
  z0 := Tryz.sizeOf0
  v0 := Tryz.zeroValue0
  t3 := Tryz.underlying3
  a3 := Tryz.isAgg3
  z3 := Tryz.sizeOf3
  v3 := Tryz.zeroValue3
  t4 := Tryz.underlying4
  a4 := Tryz.isAgg4
  z4 := Tryz.sizeOf4
  v4 := Tryz.zeroValue4
  t5 := Tryz.underlying5
  a5 := Tryz.isAgg5
  z5 := Tryz.sizeOf5
  v5 := Tryz.zeroValue5
  t9 := Tryz.underlying9
  a9 := Tryz.isAgg9
  z9 := Tryz.sizeOf9
  v9 := Tryz.zeroValue9
  t21 := Tryz.underlying21
  a21 := Tryz.isAgg21
  z21 := Tryz.sizeOf21
  v21 := Tryz.zeroValue21
  t46 := Tryz.underlying100
  a46 := Tryz.isAgg100
  z46 := Tryz.sizeOf100
  v46 := Tryz.zeroValue100
  t105 := Tryz.underlying179
  a105 := Tryz.isAgg179
  z105 := Tryz.sizeOf179
  v105 := Tryz.zeroValue179
  t116 := Tryz.underlying193
  a116 := Tryz.isAgg193
  z116 := Tryz.sizeOf193
  t117 := Tryz.underlying194
  a117 := Tryz.isAgg194
  z117 := Tryz.sizeOf194
  v117 := Tryz.zeroValue194
  t119 := Tryz.underlying312
  a119 := Tryz.isAgg312
  z119 := Tryz.sizeOf312
  t124 := Tryz.underlying197
  a124 := Tryz.isAgg197
  z124 := Tryz.sizeOf197
  v124 := Tryz.zeroValue197
  t138 := Tryz.underlying314
  a138 := Tryz.isAgg314
  z138 := Tryz.sizeOf314
  v138 := Tryz.zeroValue314
  t139 := Tryz.underlying315
  a139 := Tryz.isAgg315
  z139 := Tryz.sizeOf315
  v139 := Tryz.zeroValue315
  g3 := by kernel_rfl
  g4 := by kernel_rfl }
open Go.RowKit in
/-- strings.Trim: "Trim returns a slice of the string s with all leading and trailing Unicode code points contained in cutset removed.": AT A cutset OF ONE ASCII BYTE. THE WORLD BEHIND IT: as it was, or (where s is not empty) with ONE DRAW MORE off the tape: the statement 'return trimLeftByte(trimRightByte(s, c), c)' draws its order of evaluation. (LAID: no walk: one application.) -/
theorem Tryz.strings_Trim_one (s : ByteArray) (c : UInt8) (hc : c.toNat < 128) (w : World) (hs : s.size ≤ 9223372036854775807) :
    Calls Tryz.prog 59 #[.string s, .string ⟨#[c]⟩] w fun e w' => e = .returned (.string ⟨(Lib.trimB s.data.toList c).toArray⟩) ∧ (w' = w ∨ w' = w.drew) := Any.strings_Trim_one Tryz.lays160 s c hc w hs
def Tryz.lays118_ren : Go.Shelf.Ren := ⟨fun | 118 => 96 | n => n, fun | 21 => 21 | 3 => 3 | 4 => 4 | n => n, fun | n => n⟩
theorem Tryz.lays118 : Go.Proofs.Lays.n118 Tryz.prog Tryz.lays118_ren := {
  mixed := by kernel_rfl
  f118 := Tryz.func96.trans (congrArg some (by kernel_rfl))
  t3 := Tryz.underlying3
  a3 := Tryz.isAgg3
  z3 := Tryz.sizeOf3
  v3 := Tryz.zeroValue3
  t4 := Tryz.underlying4
  a4 := Tryz.isAgg4
  z4 := Tryz.sizeOf4
  v4 := Tryz.zeroValue4
  t21 := Tryz.underlying21
  a21 := Tryz.isAgg21
  z21 := Tryz.sizeOf21
  v21 := Tryz.zeroValue21 }
/-- utf8.RuneLen: "RuneLen returns the number of bytes in the UTF-8 encoding of the rune. It returns -1 if the rune is not a valid value to encode in UTF-8.": IT RETURNS 'Lib.runeLen r'; the world is as it was. (LAID: no walk: one application.) -/
theorem Tryz.utf8_RuneLen (r : Int) (w : World) :
    Calls Tryz.prog 96 #[.int .i32 r] w fun e w' => e = .returned (.int .i64 (Lib.runeLen r)) ∧ w' = w := Any.utf8_RuneLen Tryz.lays118 r w
def Tryz.lays119_ren : Go.Shelf.Ren := ⟨fun | 119 => 248 | n => n, fun | 21 => 21 | 4 => 4 | n => n, fun | n => n⟩
theorem Tryz.lays119 : Go.Proofs.Lays.n119 Tryz.prog Tryz.lays119_ren := {
  mixed := by kernel_rfl
  f119 := Tryz.func248.trans (congrArg some (by kernel_rfl))
  t4 := Tryz.underlying4
  a4 := Tryz.isAgg4
  z4 := Tryz.sizeOf4
  v4 := Tryz.zeroValue4
  t21 := Tryz.underlying21
  a21 := Tryz.isAgg21
  z21 := Tryz.sizeOf21
  v21 := Tryz.zeroValue21 }
/-- utf8.ValidRune: "ValidRune reports whether r can be legally encoded as UTF-8. Code points that are out of range or a surrogate half are illegal.": IT RETURNS 'Lib.validRune r'; the world is as it was. (LAID: no walk: one application.) -/
theorem Tryz.utf8_ValidRune (r : Int) (w : World) :
    Calls Tryz.prog 248 #[.int .i32 r] w fun e w' => e = .returned (.bool (Lib.validRune r)) ∧ w' = w := Any.utf8_ValidRune Tryz.lays119 r w
def Tryz.lays125_ren : Go.Shelf.Ren := ⟨fun | 125 => 92 | 128 => 154 | 129 => 155 | n => n, fun | 46 => 100 | 3 => 3 | 51 => 148 | 53 => 256 | 4 => 4 | 5 => 5 | 9 => 9 | n => n, fun | n => n⟩
theorem Tryz.lays125 : Go.Proofs.Lays.n125 Tryz.prog Tryz.lays125_ren := {
  mixed := by kernel_rfl
  f125 := Tryz.func92.trans (congrArg some (by kernel_rfl))
  f128 := Tryz.func154.trans (congrArg some (by kernel_rfl))
  f129 := Tryz.func155.trans (congrArg some (by kernel_rfl))
  t3 := Tryz.underlying3
  a3 := Tryz.isAgg3
  z3 := Tryz.sizeOf3
  v3 := Tryz.zeroValue3
  t4 := Tryz.underlying4
  a4 := Tryz.isAgg4
  z4 := Tryz.sizeOf4
  v4 := Tryz.zeroValue4
  t5 := Tryz.underlying5
  a5 := Tryz.isAgg5
  z5 := Tryz.sizeOf5
  v5 := Tryz.zeroValue5
  t9 := Tryz.underlying9
  a9 := Tryz.isAgg9
  z9 := Tryz.sizeOf9
  v9 := Tryz.zeroValue9
  t46 := Tryz.underlying100
  a46 := Tryz.isAgg100
  z46 := Tryz.sizeOf100
  v46 := Tryz.zeroValue100
  t51 := Tryz.underlying148
  a51 := Tryz.isAgg148
  z51 := Tryz.sizeOf148
  v51 := Tryz.zeroValue148
  t53 := Tryz.underlying256
  a53 := Tryz.isAgg256
  z53 := Tryz.sizeOf256
  v53 := Tryz.zeroValue256 }
/-- bits.Len: "Len returns the minimum number of bits required to represent x; the result is 0 for x == 0.": IT RETURNS 'Lib.bitLen x'; the world is as it was. (A uint has 64 bits in the model.) ITS CALLEE bits.Len64 IS MET BY ITS OWN CONTRACT OFF THE SHELF (lay that first). (LAID: no walk: one application.) -/
theorem Tryz.bits_Len (x : Int) (w : World) (h0 : 0 ≤ x) (h1 : x ≤ 18446744073709551615) :
    Calls Tryz.prog 92 #[.int .u64 x] w fun e w' => e = .returned (.int .i64 (Lib.bitLen x.toNat)) ∧ w' = w := Any.bits_Len Tryz.lays125 x w h0 h1
def Tryz.lays137_ren : Go.Shelf.Ren := ⟨fun | 137 => 247 | 217 => 267 | 266 => 286 | n => n, fun | 9 => 9 | 5 => 5 | 3 => 3 | n => n, fun | n => n⟩
theorem Tryz.lays137 : Go.Proofs.Lays.n137 Tryz.prog Tryz.lays137_ren := {
  mixed := by kernel_rfl
  f137 := Tryz.func247.trans (congrArg some (by kernel_rfl))
  f217 := Tryz.func267.trans (congrArg some (by kernel_rfl))
  f266 := Tryz.func286.trans (congrArg some (by kernel_rfl))
  t3 := Tryz.underlying3
  a3 := Tryz.isAgg3
  z3 := Tryz.sizeOf3
  v3 := Tryz.zeroValue3
  t5 := Tryz.underlying5
  a5 := Tryz.isAgg5
  z5 := Tryz.sizeOf5
  v5 := Tryz.zeroValue5
  t9 := Tryz.underlying9
  a9 := Tryz.isAgg9
  z9 := Tryz.sizeOf9
  v9 := Tryz.zeroValue9 }
open Go.RowKit in
/-- strings.IndexByte: "IndexByte returns the index of the first instance of c in s, or -1 if c is not present in s.": IT RETURNS 'Lib.indexByte s c'; the world is as it was. (LAID: no walk: one application.) -/
theorem Tryz.strings_IndexByte (s : ByteArray) (c : Int) (w : World) :
    Calls Tryz.prog 247 #[.string s, .int .u8 c] w fun e w' => e = .returned (.int .i64 (Lib.indexByte s.data.toList c.toNat.toUInt8)) ∧ w' = w := Any.strings_IndexByte Tryz.lays137 s c w
def Tryz.lays195_ren : Go.Shelf.Ren := ⟨fun | 195 => 255 | n => n, fun | 9 => 9 | 3 => 3 | 0 => 0 | 4 => 4 | n => n, fun | n => n⟩
theorem Tryz.lays195 : Go.Proofs.Lays.n195 Tryz.prog Tryz.lays195_ren := {
  mixed := by kernel_rfl
  f195 := Tryz.func255.trans (congrArg some (by kernel_rfl))
  t0 := Tryz.underlying0
  a0 := Tryz.isAgg0
  z0 := Tryz.sizeOf0
  v0 := Tryz.zeroValue0
  t3 := Tryz.underlying3
  a3 := Tryz.isAgg3
  z3 := Tryz.sizeOf3
  v3 := Tryz.zeroValue3
  t4 := Tryz.underlying4
  a4 := Tryz.isAgg4
  z4 := Tryz.sizeOf4
  v4 := Tryz.zeroValue4
  t9 := Tryz.underlying9
  a9 := Tryz.isAgg9
  z9 := Tryz.sizeOf9
  v9 := Tryz.zeroValue9 }
open Go.RowKit in
/-- unicode/utf8.RuneCountInString: "RuneCountInString is like RuneCount but its input is a string." ("RuneCount returns the number of runes in p. Erroneous and short encodings are treated as single runes of width 1 byte."): EVERY STRING, valid UTF-8 or not: 'Lib.runeCount s' (plain Lean over the model's own 'Utf8.decode'; 'Lib.runeCount_le': at most len(s); 'Lib.runeCount_ascii': on ASCII: len(s)). THE ONE CONDITION: len(s) below 2^63 - 1 (the counter does not wrap): the form's reach pays it. THE WORLD BEHIND THE CALL: ONE BLOCK MORE: the model's iterator over s, at its end: all else as it was. (LAID: no walk: one application.) -/
theorem Tryz.utf8_RuneCountInString (s : ByteArray) (w : World) (hs : s.size < 9223372036854775807) :
    Calls Tryz.prog 255 #[.string s] w fun e w' => e = .returned (.int .i64 (Lib.runeCount s)) ∧ ∃ pos, w' = w.iter s pos := Any.utf8_RuneCountInString Tryz.lays195 s w hs
def Tryz.lays189_ren : Go.Shelf.Ren := ⟨fun | 189 => 241 | 125 => 92 | 257 => 266 | 128 => 154 | 129 => 155 | 294 => 277 | 295 => 278 | 296 => 279 | 297 => 280 | 298 => 281 | 299 => 282 | 216 => 283 | 300 => 284 | 301 => 285 | 328 => 291 | 329 => 203 | 330 => 204 | 331 => 292 | 332 => 293 | 215 => 114 | 343 => 302 | n => n, fun | 28 => 40 | 3 => 3 | 46 => 100 | 0 => 0 | 51 => 148 | 53 => 256 | 4 => 4 | 183 => 248 | 182 => 247 | 131 => 105 | 5 => 5 | 9 => 9 | 218 => 303 | 222 => 307 | 228 => 338 | 229 => 66 | n => n, fun | n => n⟩
theorem Tryz.lays189 : Go.Proofs.Lays.n189 Tryz.prog Tryz.lays189_ren := {
  mixed := by kernel_rfl
  f125 := Tryz.func92.trans (congrArg some (by kernel_rfl))
  f128 := Tryz.func154.trans (congrArg some (by kernel_rfl))
  f129 := Tryz.func155.trans (congrArg some (by kernel_rfl))
  f189 := Tryz.func241.trans (congrArg some (by kernel_rfl))
  f215 := Tryz.func114.trans (congrArg some (by kernel_rfl))
  f216 := Tryz.func283.trans (congrArg some (by kernel_rfl))
  f257 := Tryz.func266.trans (congrArg some (by kernel_rfl))
  f294 := Tryz.func277.trans (congrArg some (by kernel_rfl))
  f295 := Tryz.func278.trans (congrArg some (by kernel_rfl))
  f296 := Tryz.func279.trans (congrArg some (by kernel_rfl))
  f297 := Tryz.func280.trans (congrArg some (by kernel_rfl))
  f298 := Tryz.func281.trans (congrArg some (by kernel_rfl))
  f299 := Tryz.func282.trans (congrArg some (by kernel_rfl))
  f300 := Tryz.func284.trans (congrArg some (by kernel_rfl))
  f301 := Tryz.func285.trans (congrArg some (by kernel_rfl))
  f328 := Tryz.func291.trans (congrArg some (by kernel_rfl))
  f329 := Tryz.func203.trans (congrArg some (by kernel_rfl))
  f330 := Tryz.func204.trans (congrArg some (by kernel_rfl))
  f331 := Tryz.func292.trans (congrArg some (by kernel_rfl))
  f332 := Tryz.func293.trans (congrArg some (by kernel_rfl))
  f343 := Tryz.func302.trans (congrArg some (by kernel_rfl))
  t0 := Tryz.underlying0
  a0 := Tryz.isAgg0
  z0 := Tryz.sizeOf0
  v0 := Tryz.zeroValue0
  t3 := Tryz.underlying3
  a3 := Tryz.isAgg3
  z3 := Tryz.sizeOf3
  v3 := Tryz.zeroValue3
  t4 := Tryz.underlying4
  a4 := Tryz.isAgg4
  z4 := Tryz.sizeOf4
  v4 := Tryz.zeroValue4
  t5 := Tryz.underlying5
  a5 := Tryz.isAgg5
  z5 := Tryz.sizeOf5
  v5 := Tryz.zeroValue5
  t9 := Tryz.underlying9
  a9 := Tryz.isAgg9
  z9 := Tryz.sizeOf9
  v9 := Tryz.zeroValue9
  t28 := Tryz.underlying40
  a28 := Tryz.isAgg40
  z28 := Tryz.sizeOf40
  v28 := Tryz.zeroValue40
  t46 := Tryz.underlying100
  a46 := Tryz.isAgg100
  z46 := Tryz.sizeOf100
  v46 := Tryz.zeroValue100
  t51 := Tryz.underlying148
  a51 := Tryz.isAgg148
  z51 := Tryz.sizeOf148
  v51 := Tryz.zeroValue148
  t53 := Tryz.underlying256
  a53 := Tryz.isAgg256
  z53 := Tryz.sizeOf256
  v53 := Tryz.zeroValue256
  t131 := Tryz.underlying105
  a131 := Tryz.isAgg105
  z131 := Tryz.sizeOf105
  v131 := Tryz.zeroValue105
  t182 := Tryz.underlying247
  a182 := Tryz.isAgg247
  z182 := Tryz.sizeOf247
  v182 := Tryz.zeroValue247
  t183 := Tryz.underlying248
  a183 := Tryz.isAgg248
  z183 := Tryz.sizeOf248
  v183 := Tryz.zeroValue248
  t218 := Tryz.underlying303
  a218 := Tryz.isAgg303
  z218 := Tryz.sizeOf303
  v218 := Tryz.zeroValue303
  t222 := Tryz.underlying307
  a222 := Tryz.isAgg307
  z222 := Tryz.sizeOf307
  v222 := Tryz.zeroValue307
  t228 := Tryz.underlying338
  a228 := Tryz.isAgg338
  z228 := Tryz.sizeOf338
  v228 := Tryz.zeroValue338
  t229 := Tryz.underlying66
  a229 := Tryz.isAgg66
  z229 := Tryz.sizeOf66
  v229 := Tryz.zeroValue66 }
open Go.Sort Go.RowKit in
theorem Tryz.slices_Sort_int (blk off cap : Nat) (zs : List Int) (w : World) (hH : Holds (Value.int .i64) w blk off zs.toArray) (hblk : blk < w.heap.size) (hsz : zs.length < 4611686018427387904) :
    Calls Tryz.prog 241 #[.slice (some ⟨blk, off, none⟩) zs.length cap] w fun e w' =>
      e = .returned (.tuple #[]) ∧ ∃ n os, w' = grow (putRow (Value.int .i64) (Sort.ahead w n) blk off (zs.mergeSort fun x y => decide (x ≤ y)).toArray) os := Any.slices_Sort_int Tryz.lays189 blk off cap zs w hH hblk hsz
def Tryz.lays190_ren : Go.Shelf.Ren := ⟨fun | 190 => 53 | 125 => 92 | 258 => 91 | 128 => 154 | 129 => 155 | 302 => 145 | 303 => 146 | 304 => 147 | 305 => 148 | 306 => 149 | 307 => 150 | 308 => 151 | 309 => 152 | 310 => 153 | 333 => 202 | 329 => 203 | 330 => 204 | 334 => 205 | 335 => 206 | 336 => 207 | 344 => 244 | n => n, fun | 31 => 53 | 9 => 9 | 3 => 3 | 46 => 100 | 0 => 0 | 51 => 148 | 53 => 256 | 4 => 4 | 183 => 248 | 182 => 247 | 131 => 105 | 5 => 5 | 218 => 303 | 222 => 307 | 228 => 338 | 229 => 66 | n => n, fun | n => n⟩
theorem Tryz.lays190 : Go.Proofs.Lays.n190 Tryz.prog Tryz.lays190_ren := {
  mixed := by kernel_rfl
  f125 := Tryz.func92.trans (congrArg some (by kernel_rfl))
  f128 := Tryz.func154.trans (congrArg some (by kernel_rfl))
  f129 := Tryz.func155.trans (congrArg some (by kernel_rfl))
  f190 := Tryz.func53.trans (congrArg some (by kernel_rfl))
  f258 := Tryz.func91.trans (congrArg some (by kernel_rfl))
  f302 := Tryz.func145.trans (congrArg some (by kernel_rfl))
  f303 := Tryz.func146.trans (congrArg some (by kernel_rfl))
  f304 := Tryz.func147.trans (congrArg some (by kernel_rfl))
  f305 := Tryz.func148.trans (congrArg some (by kernel_rfl))
  f306 := Tryz.func149.trans (congrArg some (by kernel_rfl))
  f307 := Tryz.func150.trans (congrArg some (by kernel_rfl))
  f308 := Tryz.func151.trans (congrArg some (by kernel_rfl))
  f309 := Tryz.func152.trans (congrArg some (by kernel_rfl))
  f310 := Tryz.func153.trans (congrArg some (by kernel_rfl))
  f329 := Tryz.func203.trans (congrArg some (by kernel_rfl))
  f330 := Tryz.func204.trans (congrArg some (by kernel_rfl))
  f333 := Tryz.func202.trans (congrArg some (by kernel_rfl))
  f334 := Tryz.func205.trans (congrArg some (by kernel_rfl))
  f335 := Tryz.func206.trans (congrArg some (by kernel_rfl))
  f336 := Tryz.func207.trans (congrArg some (by kernel_rfl))
  f344 := Tryz.func244.trans (congrArg some (by kernel_rfl))
  t0 := Tryz.underlying0
  a0 := Tryz.isAgg0
  z0 := Tryz.sizeOf0
  v0 := Tryz.zeroValue0
  t3 := Tryz.underlying3
  a3 := Tryz.isAgg3
  z3 := Tryz.sizeOf3
  v3 := Tryz.zeroValue3
  t4 := Tryz.underlying4
  a4 := Tryz.isAgg4
  z4 := Tryz.sizeOf4
  v4 := Tryz.zeroValue4
  t5 := Tryz.underlying5
  a5 := Tryz.isAgg5
  z5 := Tryz.sizeOf5
  v5 := Tryz.zeroValue5
  t9 := Tryz.underlying9
  a9 := Tryz.isAgg9
  z9 := Tryz.sizeOf9
  v9 := Tryz.zeroValue9
  t31 := Tryz.underlying53
  a31 := Tryz.isAgg53
  z31 := Tryz.sizeOf53
  v31 := Tryz.zeroValue53
  t46 := Tryz.underlying100
  a46 := Tryz.isAgg100
  z46 := Tryz.sizeOf100
  v46 := Tryz.zeroValue100
  t51 := Tryz.underlying148
  a51 := Tryz.isAgg148
  z51 := Tryz.sizeOf148
  v51 := Tryz.zeroValue148
  t53 := Tryz.underlying256
  a53 := Tryz.isAgg256
  z53 := Tryz.sizeOf256
  v53 := Tryz.zeroValue256
  t131 := Tryz.underlying105
  a131 := Tryz.isAgg105
  z131 := Tryz.sizeOf105
  v131 := Tryz.zeroValue105
  t182 := Tryz.underlying247
  a182 := Tryz.isAgg247
  z182 := Tryz.sizeOf247
  v182 := Tryz.zeroValue247
  t183 := Tryz.underlying248
  a183 := Tryz.isAgg248
  z183 := Tryz.sizeOf248
  v183 := Tryz.zeroValue248
  t218 := Tryz.underlying303
  a218 := Tryz.isAgg303
  z218 := Tryz.sizeOf303
  v218 := Tryz.zeroValue303
  t222 := Tryz.underlying307
  a222 := Tryz.isAgg307
  z222 := Tryz.sizeOf307
  v222 := Tryz.zeroValue307
  t228 := Tryz.underlying338
  a228 := Tryz.isAgg338
  z228 := Tryz.sizeOf338
  v228 := Tryz.zeroValue338
  t229 := Tryz.underlying66
  a229 := Tryz.isAgg66
  z229 := Tryz.sizeOf66
  v229 := Tryz.zeroValue66 }
open Go.Sort Go.RowKit in
theorem Tryz.slices_Sort_string (blk off cap : Nat) (ss : List (List UInt8)) (w : World) (hH : Holds encStr w blk off ss.toArray) (hblk : blk < w.heap.size) (hsz : ss.length < 4611686018427387904) :
    Calls Tryz.prog 53 #[.slice (some ⟨blk, off, none⟩) ss.length cap] w fun e w' =>
      e = .returned (.tuple #[]) ∧ ∃ n os, w' = grow (putRow encStr (Sort.ahead w n) blk off (ss.mergeSort fun x y => decide (x ≤ y)).toArray) os := Any.slices_Sort_string Tryz.lays190 blk off cap ss w hH hblk hsz
def Tryz.lays155_ren : Go.Shelf.Ren := ⟨fun | 155 => 111 | 154 => 167 | 138 => 218 | 165 => 97 | 143 => 219 | 166 => 98 | 197 => 95 | 169 => 102 | 195 => 255 | 218 => 256 | 240 => 160 | 241 => 161 | 219 => 257 | 260 => 159 | 276 => 212 | 277 => 213 | 217 => 267 | 225 => 250 | 224 => 249 | 267 => 272 | 266 => 286 | 314 => 289 | n => n, fun | 9 => 9 | 3 => 3 | 4 => 4 | 72 => 178 | 0 => 0 | 76 => 185 | 105 => 179 | 21 => 21 | 5 => 5 | 70 => 176 | 20 => 20 | 37 => 123 | 75 => 184 | 127 => 258 | 164 => 316 | 46 => 100 | 119 => 312 | 139 => 315 | 138 => 314 | 146 => 368 | 51 => 148 | 80 => 190 | n => n, fun | 1 => 2 | 3 => 0 | 4 => 1 | n => n⟩
theorem Tryz.lays155 : Go.Proofs.Lays.n155 Tryz.prog Tryz.lays155_ren := {
  mixed := by kernel_rfl
  f138 := Tryz.func218.trans (congrArg some (by kernel_rfl))
  f143 := Tryz.func219.trans (congrArg some (by kernel_rfl))
  f154 := Tryz.func167.trans (congrArg some (by kernel_rfl))
  f155 := Tryz.func111.trans (congrArg some (by kernel_rfl))
  f165 := Tryz.func97.trans (congrArg some (by kernel_rfl))
  f166 := Tryz.func98.trans (congrArg some (by kernel_rfl))
  f169 := Tryz.func102.trans (congrArg some (by kernel_rfl))
  f195 := Tryz.func255.trans (congrArg some (by kernel_rfl))
  f197 := Tryz.func95.trans (congrArg some (by kernel_rfl))
  f217 := Tryz.func267.trans (congrArg some (by kernel_rfl))
  f218 := Tryz.func256.trans (congrArg some (by kernel_rfl))
  f219 := Tryz.func257.trans (congrArg some (by kernel_rfl))
  f224 := Tryz.func249.trans (congrArg some (by kernel_rfl))
  f225 := Tryz.func250.trans (congrArg some (by kernel_rfl))
  f240 := Tryz.func160.trans (congrArg some (by kernel_rfl))
  f241 := Tryz.func161.trans (congrArg some (by kernel_rfl))
  f260 := Tryz.func159.trans (congrArg some (by kernel_rfl))
  f266 := Tryz.func286.trans (congrArg some (by kernel_rfl))
  f267 := Tryz.func272.trans (congrArg some (by kernel_rfl))
  f276 := Tryz.func212.trans (congrArg some (by kernel_rfl))
  f277 := Tryz.func213.trans (congrArg some (by kernel_rfl))
  f314 := Tryz.func289.trans (congrArg some (by kernel_rfl))
  t0 := Tryz.underlying0
  a0 := Tryz.isAgg0
  z0 := Tryz.sizeOf0
  v0 := Tryz.zeroValue0
  t3 := Tryz.underlying3
  a3 := Tryz.isAgg3
  z3 := Tryz.sizeOf3
  v3 := Tryz.zeroValue3
  t4 := Tryz.underlying4
  a4 := Tryz.isAgg4
  z4 := Tryz.sizeOf4
  v4 := Tryz.zeroValue4
  t5 := Tryz.underlying5
  a5 := Tryz.isAgg5
  z5 := Tryz.sizeOf5
  v5 := Tryz.zeroValue5
  t9 := Tryz.underlying9
  a9 := Tryz.isAgg9
  z9 := Tryz.sizeOf9
  v9 := Tryz.zeroValue9
  t20 := Tryz.underlying20
  a20 := Tryz.isAgg20
  z20 := Tryz.sizeOf20
  v20 := Tryz.zeroValue20
  t21 := Tryz.underlying21
  a21 := Tryz.isAgg21
  z21 := Tryz.sizeOf21
  v21 := Tryz.zeroValue21
  t37 := Tryz.underlying123
  a37 := Tryz.isAgg123
  z37 := Tryz.sizeOf123
  v37 := Tryz.zeroValue123
  t46 := Tryz.underlying100
  a46 := Tryz.isAgg100
  z46 := Tryz.sizeOf100
  v46 := Tryz.zeroValue100
  t51 := Tryz.underlying148
  a51 := Tryz.isAgg148
  z51 := Tryz.sizeOf148
  v51 := Tryz.zeroValue148
  t70 := Tryz.underlying176
  a70 := Tryz.isAgg176
  z70 := Tryz.sizeOf176
  v70 := Tryz.zeroValue176
  t72 := Tryz.underlying178
  a72 := Tryz.isAgg178
  z72 := Tryz.sizeOf178
  v72 := Tryz.zeroValue178
  t75 := Tryz.underlying184
  a75 := Tryz.isAgg184
  z75 := Tryz.sizeOf184
  v75 := Tryz.zeroValue184
  t76 := Tryz.underlying185
  a76 := Tryz.isAgg185
  z76 := Tryz.sizeOf185
  v76 := Tryz.zeroValue185
  t105 := Tryz.underlying179
  a105 := Tryz.isAgg179
  z105 := Tryz.sizeOf179
  v105 := Tryz.zeroValue179
  t119 := Tryz.underlying312
  a119 := Tryz.isAgg312
  z119 := Tryz.sizeOf312
  t127 := Tryz.underlying258
  a127 := Tryz.isAgg258
  z127 := Tryz.sizeOf258
  v127 := Tryz.zeroValue258
  t138 := Tryz.underlying314
  a138 := Tryz.isAgg314
  z138 := Tryz.sizeOf314
  v138 := Tryz.zeroValue314
  t139 := Tryz.underlying315
  a139 := Tryz.isAgg315
  z139 := Tryz.sizeOf315
  v139 := Tryz.zeroValue315
  t146 := Tryz.underlying368
  a146 := Tryz.isAgg368
  z146 := Tryz.sizeOf368
  v146 := Tryz.zeroValue368
  t164 := Tryz.underlying316
  a164 := Tryz.isAgg316
  z164 := Tryz.sizeOf316
  v164 := Tryz.zeroValue316
  g1 := by kernel_rfl
  g3 := by kernel_rfl
  g4 := by kernel_rfl }
theorem Tryz.Builder_Extra_155 : Builder.Extra Tryz.prog Tryz.lays155_ren := {
  sizeBuilder := by kernel_rfl
  liesBuilder := by kernel_rfl
  t5 := Tryz.underlying5
  a5 := Tryz.isAgg5
  z5 := Tryz.sizeOf5
  v5 := Tryz.zeroValue5
  infoByte := by kernel_rfl
  cellsByte := by kernel_rfl
  sizeByte := by kernel_rfl
  neB5 := by decide }
open Go.RowKit Go.Lib in
/-- strings.ReplaceAll: "ReplaceAll returns a copy of the string s with all non-overlapping instances of old replaced by new.": AT AN old THAT IS NOT EMPTY: 'Lib.replaceAll s old new'. (LAID: no walk: one application.) -/
theorem Tryz.strings_ReplaceAll (s old new : ByteArray) (m : Int) (w : World) (hs : s.size < 4294967281) (hm : w.cell? ⟨2, 0, none⟩ = some (.int .i64 m)) (h1 : 1 ≤ old.size) (hlen : s.size + Lib.countB s old * new.size ≤ 140737488355328) :
    Calls Tryz.prog 111 #[.string s, .string old, .string new] w fun e w' =>
      e = .returned (.string ⟨(Lib.replaceAll s.data.toList old.data.toList new.data.toList).toArray⟩) ∧ Below w.heap.size w w' := Any.strings_ReplaceAll Tryz.lays155 Tryz.Builder_Extra_155 s old new m w hs hm h1 hlen
def Tryz.lays197_ren : Go.Shelf.Ren := ⟨fun | 197 => 95 | 260 => 159 | n => n, fun | 9 => 9 | 21 => 21 | 3 => 3 | 4 => 4 | 5 => 5 | 105 => 179 | 119 => 312 | 0 => 0 | 46 => 100 | 139 => 315 | 138 => 314 | n => n, fun | 3 => 0 | 4 => 1 | n => n⟩
theorem Tryz.lays197 : Go.Proofs.Lays.n197 Tryz.prog Tryz.lays197_ren := {
  mixed := by kernel_rfl
  f197 := Tryz.func95.trans (congrArg some (by kernel_rfl))
  f260 := Tryz.func159.trans (congrArg some (by kernel_rfl))
  t0 := Tryz.underlying0
  a0 := Tryz.isAgg0
  z0 := Tryz.sizeOf0
  v0 := Tryz.zeroValue0
  t3 := Tryz.underlying3
  a3 := Tryz.isAgg3
  z3 := Tryz.sizeOf3
  v3 := Tryz.zeroValue3
  t4 := Tryz.underlying4
  a4 := Tryz.isAgg4
  z4 := Tryz.sizeOf4
  v4 := Tryz.zeroValue4
  t5 := Tryz.underlying5
  a5 := Tryz.isAgg5
  z5 := Tryz.sizeOf5
  v5 := Tryz.zeroValue5
  t9 := Tryz.underlying9
  a9 := Tryz.isAgg9
  z9 := Tryz.sizeOf9
  v9 := Tryz.zeroValue9
  t21 := Tryz.underlying21
  a21 := Tryz.isAgg21
  z21 := Tryz.sizeOf21
  v21 := Tryz.zeroValue21
  t46 := Tryz.underlying100
  a46 := Tryz.isAgg100
  z46 := Tryz.sizeOf100
  v46 := Tryz.zeroValue100
  t105 := Tryz.underlying179
  a105 := Tryz.isAgg179
  z105 := Tryz.sizeOf179
  v105 := Tryz.zeroValue179
  t119 := Tryz.underlying312
  a119 := Tryz.isAgg312
  z119 := Tryz.sizeOf312
  t138 := Tryz.underlying314
  a138 := Tryz.isAgg314
  z138 := Tryz.sizeOf314
  v138 := Tryz.zeroValue314
  t139 := Tryz.underlying315
  a139 := Tryz.isAgg315
  z139 := Tryz.sizeOf315
  v139 := Tryz.zeroValue315
  g3 := by kernel_rfl
  g4 := by kernel_rfl }
def Tryz.lays151_ren : Go.Shelf.Ren := ⟨fun | 151 => 164 | 152 => 215 | 137 => 247 | 119 => 248 | 224 => 249 | 225 => 250 | 217 => 267 | 266 => 286 | n => n, fun | 9 => 9 | 21 => 21 | 4 => 4 | 3 => 3 | 5 => 5 | 0 => 0 | 46 => 100 | n => n, fun | n => n⟩
theorem Tryz.lays151 : Go.Proofs.Lays.n151 Tryz.prog Tryz.lays151_ren := {
  mixed := by kernel_rfl
  f119 := Tryz.func248.trans (congrArg some (by kernel_rfl))
  f137 := Tryz.func247.trans (congrArg some (by kernel_rfl))
  f151 := Tryz.func164.trans (congrArg some (by kernel_rfl))
  f152 := Tryz.func215.trans (congrArg some (by kernel_rfl))
  f217 := Tryz.func267.trans (congrArg some (by kernel_rfl))
  f224 := Tryz.func249.trans (congrArg some (by kernel_rfl))
  f225 := Tryz.func250.trans (congrArg some (by kernel_rfl))
  f266 := Tryz.func286.trans (congrArg some (by kernel_rfl))
  t0 := Tryz.underlying0
  a0 := Tryz.isAgg0
  z0 := Tryz.sizeOf0
  v0 := Tryz.zeroValue0
  t3 := Tryz.underlying3
  a3 := Tryz.isAgg3
  z3 := Tryz.sizeOf3
  v3 := Tryz.zeroValue3
  t4 := Tryz.underlying4
  a4 := Tryz.isAgg4
  z4 := Tryz.sizeOf4
  v4 := Tryz.zeroValue4
  t5 := Tryz.underlying5
  a5 := Tryz.isAgg5
  z5 := Tryz.sizeOf5
  v5 := Tryz.zeroValue5
  t9 := Tryz.underlying9
  a9 := Tryz.isAgg9
  z9 := Tryz.sizeOf9
  v9 := Tryz.zeroValue9
  t21 := Tryz.underlying21
  a21 := Tryz.isAgg21
  z21 := Tryz.sizeOf21
  v21 := Tryz.zeroValue21
  t46 := Tryz.underlying100
  a46 := Tryz.isAgg100
  z46 := Tryz.sizeOf100
  v46 := Tryz.zeroValue100 }
open Go.RowKit Go.Lib in
theorem Tryz.strings_ContainsRune_ascii (s : ByteArray) (r : Int) (w : World) (h0 : 0 ≤ r) (h1 : r < 128) :
    Calls Tryz.prog 164 #[.string s, .int .i32 r] w fun e w' => e = .returned (.bool (decide (0 ≤ Lib.indexByte s.data.toList r.toNat.toUInt8))) ∧ w' = w := Any.strings_ContainsRune_ascii Tryz.lays151 s r w h0 h1
def Tryz.lays227_ren : Go.Shelf.Ren := ⟨fun | 227 => 105 | n => n, fun | 9 => 9 | 116 => 193 | 4 => 4 | 0 => 0 | 3 => 3 | 5 => 5 | n => n, fun | n => n⟩
theorem Tryz.lays227 : Go.Proofs.Lays.n227 Tryz.prog Tryz.lays227_ren := {
  mixed := by kernel_rfl
  f227 := Tryz.func105.trans (congrArg some (by kernel_rfl))
  t0 := Tryz.underlying0
  a0 := Tryz.isAgg0
  z0 := Tryz.sizeOf0
  v0 := Tryz.zeroValue0
  t3 := Tryz.underlying3
  a3 := Tryz.isAgg3
  z3 := Tryz.sizeOf3
  v3 := Tryz.zeroValue3
  t4 := Tryz.underlying4
  a4 := Tryz.isAgg4
  z4 := Tryz.sizeOf4
  v4 := Tryz.zeroValue4
  t5 := Tryz.underlying5
  a5 := Tryz.isAgg5
  z5 := Tryz.sizeOf5
  v5 := Tryz.zeroValue5
  t9 := Tryz.underlying9
  a9 := Tryz.isAgg9
  z9 := Tryz.sizeOf9
  v9 := Tryz.zeroValue9
  t116 := Tryz.underlying193
  a116 := Tryz.isAgg193
  z116 := Tryz.sizeOf193 }
open Go.RowKit Go.Lib in
theorem Tryz.strings_makeASCIISet (hv116 : ∀ w, (zeroValue 193).run Tryz.prog w = .ok (.agg (Array.replicate 256 (.bool false))) w) (chars : ByteArray) (w : World) (hs : chars.size < 4294967281) (hascii : ∀ (j : Nat) b, chars.data.toList[j]? = some b → b.toNat < 128) :
    Calls Tryz.prog 105 #[.string chars] w fun e w' => e = .returned (.tuple #[.agg (Lib.setCells chars.data.toList), .bool true]) ∧ w' = w.alloc (.cells (Lib.setCells chars.data.toList) 193) := Any.strings_makeASCIISet Tryz.lays227 hv116 (by kernel_rfl) chars w hs hascii
def Tryz.lays228_ren : Go.Shelf.Ren := ⟨fun | 228 => 163 | n => n, fun | 124 => 197 | 5 => 5 | 4 => 4 | 0 => 0 | 116 => 193 | n => n, fun | n => n⟩
theorem Tryz.lays228 : Go.Proofs.Lays.n228 Tryz.prog Tryz.lays228_ren := {
  mixed := by kernel_rfl
  f228 := Tryz.func163.trans (congrArg some (by kernel_rfl))
  t0 := Tryz.underlying0
  a0 := Tryz.isAgg0
  z0 := Tryz.sizeOf0
  v0 := Tryz.zeroValue0
  t4 := Tryz.underlying4
  a4 := Tryz.isAgg4
  z4 := Tryz.sizeOf4
  v4 := Tryz.zeroValue4
  t5 := Tryz.underlying5
  a5 := Tryz.isAgg5
  z5 := Tryz.sizeOf5
  v5 := Tryz.zeroValue5
  t116 := Tryz.underlying193
  a116 := Tryz.isAgg193
  z116 := Tryz.sizeOf193
  t124 := Tryz.underlying197
  a124 := Tryz.isAgg197
  z124 := Tryz.sizeOf197
  v124 := Tryz.zeroValue197 }
open Go.RowKit Go.Lib in
/-- '(as *asciiSet) contains(c)': 'as[c]': the set lies at block b, whole. (LAID: no walk: one application.) -/
theorem Tryz.asciiSet_contains (b : Nat) (x : UInt8) (v : Bool) (w : World) (hc : w.cell? ⟨b, x.toNat, none⟩ = some (.bool v)) :
    Calls Tryz.prog 163 #[.pointer (some ⟨b, 0, none⟩), .int .u8 x.toNat] w fun e w' => e = .returned (.bool v) ∧ w' = w := Any.asciiSet_contains Tryz.lays228 b x v w hc
open Go.RowKit Go.Lib in
/-- **unicode/utf8.DecodeRuneInString AT EVERY STRING.** (LAID: no walk: one application.) -/
theorem Tryz.utf8_DecodeRuneInString (s : ByteArray) (w : World) (hT : Lib.Utf8Tabs 0 1 w) :
    Calls Tryz.prog 95 #[.string s] w fun e w' => e = .returned (.tuple #[.int .i32 (Lib.decodeGo s).1, .int .i64 (Lib.decodeGo s).2]) ∧ Below w.heap.size w w' := Any.utf8_DecodeRuneInString Tryz.lays197 s w hT
def Tryz.lays230_ren : Go.Shelf.Ren := ⟨fun | 230 => 57 | 197 => 95 | 118 => 96 | 165 => 97 | 166 => 98 | 168 => 99 | 270 => 100 | 167 => 101 | 169 => 102 | 260 => 159 | 240 => 160 | 241 => 161 | 242 => 162 | 276 => 212 | 277 => 213 | 278 => 214 | n => n, fun | 107 => 121 | 9 => 9 | 72 => 178 | 0 => 0 | 4 => 4 | 3 => 3 | 21 => 21 | 105 => 179 | 76 => 185 | 5 => 5 | 75 => 184 | 70 => 176 | 20 => 20 | 37 => 123 | 127 => 258 | 119 => 312 | 46 => 100 | 139 => 315 | 138 => 314 | 164 => 316 | 51 => 148 | 80 => 190 | n => n, fun | 3 => 0 | 4 => 1 | n => n⟩
theorem Tryz.lays230 : Go.Proofs.Lays.n230 Tryz.prog Tryz.lays230_ren := {
  mixed := by kernel_rfl
  f118 := Tryz.func96.trans (congrArg some (by kernel_rfl))
  f165 := Tryz.func97.trans (congrArg some (by kernel_rfl))
  f166 := Tryz.func98.trans (congrArg some (by kernel_rfl))
  f167 := Tryz.func101.trans (congrArg some (by kernel_rfl))
  f168 := Tryz.func99.trans (congrArg some (by kernel_rfl))
  f169 := Tryz.func102.trans (congrArg some (by kernel_rfl))
  f197 := Tryz.func95.trans (congrArg some (by kernel_rfl))
  f230 := Tryz.func57.trans (congrArg some (by kernel_rfl))
  f240 := Tryz.func160.trans (congrArg some (by kernel_rfl))
  f241 := Tryz.func161.trans (congrArg some (by kernel_rfl))
  f242 := Tryz.func162.trans (congrArg some (by kernel_rfl))
  f260 := Tryz.func159.trans (congrArg some (by kernel_rfl))
  f270 := Tryz.func100.trans (congrArg some (by kernel_rfl))
  f276 := Tryz.func212.trans (congrArg some (by kernel_rfl))
  f277 := Tryz.func213.trans (congrArg some (by kernel_rfl))
  f278 := Tryz.func214.trans (congrArg some (by kernel_rfl))
  t0 := Tryz.underlying0
  a0 := Tryz.isAgg0
  z0 := Tryz.sizeOf0
  v0 := Tryz.zeroValue0
  t3 := Tryz.underlying3
  a3 := Tryz.isAgg3
  z3 := Tryz.sizeOf3
  v3 := Tryz.zeroValue3
  t4 := Tryz.underlying4
  a4 := Tryz.isAgg4
  z4 := Tryz.sizeOf4
  v4 := Tryz.zeroValue4
  t5 := Tryz.underlying5
  a5 := Tryz.isAgg5
  z5 := Tryz.sizeOf5
  v5 := Tryz.zeroValue5
  t9 := Tryz.underlying9
  a9 := Tryz.isAgg9
  z9 := Tryz.sizeOf9
  v9 := Tryz.zeroValue9
  t20 := Tryz.underlying20
  a20 := Tryz.isAgg20
  z20 := Tryz.sizeOf20
  v20 := Tryz.zeroValue20
  t21 := Tryz.underlying21
  a21 := Tryz.isAgg21
  z21 := Tryz.sizeOf21
  v21 := Tryz.zeroValue21
  t37 := Tryz.underlying123
  a37 := Tryz.isAgg123
  z37 := Tryz.sizeOf123
  v37 := Tryz.zeroValue123
  t46 := Tryz.underlying100
  a46 := Tryz.isAgg100
  z46 := Tryz.sizeOf100
  v46 := Tryz.zeroValue100
  t51 := Tryz.underlying148
  a51 := Tryz.isAgg148
  z51 := Tryz.sizeOf148
  v51 := Tryz.zeroValue148
  t70 := Tryz.underlying176
  a70 := Tryz.isAgg176
  z70 := Tryz.sizeOf176
  v70 := Tryz.zeroValue176
  t72 := Tryz.underlying178
  a72 := Tryz.isAgg178
  z72 := Tryz.sizeOf178
  v72 := Tryz.zeroValue178
  t75 := Tryz.underlying184
  a75 := Tryz.isAgg184
  z75 := Tryz.sizeOf184
  v75 := Tryz.zeroValue184
  t76 := Tryz.underlying185
  a76 := Tryz.isAgg185
  z76 := Tryz.sizeOf185
  v76 := Tryz.zeroValue185
  t105 := Tryz.underlying179
  a105 := Tryz.isAgg179
  z105 := Tryz.sizeOf179
  v105 := Tryz.zeroValue179
  t107 := Tryz.underlying121
  a107 := Tryz.isAgg121
  z107 := Tryz.sizeOf121
  v107 := Tryz.zeroValue121
  t119 := Tryz.underlying312
  a119 := Tryz.isAgg312
  z119 := Tryz.sizeOf312
  t127 := Tryz.underlying258
  a127 := Tryz.isAgg258
  z127 := Tryz.sizeOf258
  v127 := Tryz.zeroValue258
  t138 := Tryz.underlying314
  a138 := Tryz.isAgg314
  z138 := Tryz.sizeOf314
  v138 := Tryz.zeroValue314
  t139 := Tryz.underlying315
  a139 := Tryz.isAgg315
  z139 := Tryz.sizeOf315
  v139 := Tryz.zeroValue315
  t164 := Tryz.underlying316
  a164 := Tryz.isAgg316
  z164 := Tryz.sizeOf316
  v164 := Tryz.zeroValue316
  g3 := by kernel_rfl
  g4 := by kernel_rfl }
theorem Tryz.Builder_Extra_230 : Builder.Extra Tryz.prog Tryz.lays230_ren := {
  sizeBuilder := by kernel_rfl
  liesBuilder := by kernel_rfl
  t5 := Tryz.underlying5
  a5 := Tryz.isAgg5
  z5 := Tryz.sizeOf5
  v5 := Tryz.zeroValue5
  infoByte := by kernel_rfl
  cellsByte := by kernel_rfl
  sizeByte := by kernel_rfl
  neB5 := by decide }
open Go.RowKit Go.Lib in
theorem Tryz.strings_Map_runes (g : Nat) (lb : Array Value) (eg : ∀ args w, (callFunc g args).run Tryz.prog w = .ok (.enter g args) w) (f : Int → Int) (s : ByteArray) (w : World) (hs : s.size < 35184372088832) (hf : MapAtRunes Tryz.prog g lb f w) (hnn : ∀ x : Nat, x ≤ 1114111 → 0 ≤ f x ∧ f x ≤ 2147483647) (hT : Lib.Utf8Tabs 0 1 w) :
    Calls Tryz.prog 57 #[.func (.func g) #[] lb, .string s] w fun e w' => e = .returned (.string ⟨(Lib.mapD f s.data.toList).toArray⟩) ∧ Below w.heap.size w w' := Any.strings_Map_runes Tryz.lays230 Tryz.Builder_Extra_230 g lb eg f s w hs hf hnn hT
open Go.RowKit Go.Lib in
/-- **strings.Map(mapping, s) AT EVERY STRING, AT WHATEVER FUNCTION VALUE: IT MAY DROP RUNES (a negative result); IT MAY GROW THE HEAP.** (LAID: no walk: one application.) -/
theorem Tryz.strings_Map_grows (g : Nat) (lb : Array Value) (eg : ∀ args w, (callFunc g args).run Tryz.prog w = .ok (.enter g args) w) (f : Int → Int) (s : ByteArray) (w : World) (hs : s.size < 35184372088832) (hf : MapGrows Tryz.prog g lb f w) (hnn : ∀ x : Nat, x ≤ 1114111 → -2147483648 ≤ f x ∧ f x ≤ 2147483647) (hT : Lib.Utf8Tabs 0 1 w) :
    Calls Tryz.prog 57 #[.func (.func g) #[] lb, .string s] w fun e w' => e = .returned (.string ⟨(Lib.mapD f s.data.toList).toArray⟩) ∧ Below w.heap.size w w' := Any.strings_Map_grows Tryz.lays230 Tryz.Builder_Extra_230 g lb eg f s w hs hf hnn hT
def Tryz.lays112_ren : Go.Shelf.Ren := ⟨fun | 112 => 246 | n => n, fun | 28 => 40 | 3 => 3 | 4 => 4 | 0 => 0 | n => n, fun | n => n⟩
theorem Tryz.lays112 : Go.Proofs.Lays.n112 Tryz.prog Tryz.lays112_ren := {
  mixed := by kernel_rfl
  f112 := Tryz.func246.trans (congrArg some (by kernel_rfl))
  t0 := Tryz.underlying0
  a0 := Tryz.isAgg0
  z0 := Tryz.sizeOf0
  v0 := Tryz.zeroValue0
  t3 := Tryz.underlying3
  a3 := Tryz.isAgg3
  z3 := Tryz.sizeOf3
  v3 := Tryz.zeroValue3
  t4 := Tryz.underlying4
  a4 := Tryz.isAgg4
  z4 := Tryz.sizeOf4
  v4 := Tryz.zeroValue4
  t28 := Tryz.underlying40
  a28 := Tryz.isAgg40
  z28 := Tryz.sizeOf40
  v28 := Tryz.zeroValue40 }
open Go.RowKit Go.Lib Go.Sort in
/-- slices.Reverse at []int: "Reverse reverses the elements of the slice in place.": THE SLICE's CELLS HOLD 'zs.reverse' BEHIND THE CALL; all else is as it was, but for the count of draws (the exchange 's[i], s[j] = s[j], s[i]' draws its order, once a round). IN THE WORDS OF slices.Sort's CONTRACT: 'Holds': the cells hold zs and none is frozen; 'putRow': the world with those cells holding another array. A slice of length 0 that is not nil is among them ('zs = []'); nil: '.._nil'. (LAID: no walk: one application.) -/
theorem Tryz.slices_Reverse_int (blk off cap : Nat) (zs : List Int) (w : World) (hH : Holds (Value.int .i64) w blk off zs.toArray) (hsz : zs.length ≤ 9223372036854775807) :
    Calls Tryz.prog 246 #[.slice (some ⟨blk, off, none⟩) zs.length cap] w fun e w' => e = .returned (.tuple #[]) ∧ ∃ n, w' = putRow (Value.int .i64) (Sort.ahead w n) blk off zs.reverse.toArray := Any.slices_Reverse_int Tryz.lays112 blk off cap zs w hH hsz
open Go.RowKit Go.Lib Go.Sort in
/-- The same at a slice of length 0, a nil one too: nothing is read, nothing written, nothing drawn. (LAID: no walk: one application.) -/
theorem Tryz.slices_Reverse_int_empty (a : Option Addr) (cap : Nat) (w : World) :
    Calls Tryz.prog 246 #[.slice a 0 cap] w fun e w' => e = .returned (.tuple #[]) ∧ w' = w := Any.slices_Reverse_int_empty Tryz.lays112 a cap w
open Go.RowKit Go.Sort in
/-- .. and plain. (LAID: no walk: one application.) -/
theorem Tryz.slices_Sort_string_none (p : Option Addr) (cap : Nat) (w : World) :
    Calls Tryz.prog 53 #[.slice p 0 cap] w fun e w' => e = .returned (.tuple #[]) ∧ w' = w := Any.slices_Sort_string_none Tryz.lays190 p cap w
open Go.RowKit Go.Sort in
/-- .. and plain. (LAID: no walk: one application.) -/
theorem Tryz.slices_Sort_int_none (p : Option Addr) (cap : Nat) (w : World) :
    Calls Tryz.prog 241 #[.slice p 0 cap] w fun e w' => e = .returned (.tuple #[]) ∧ w' = w := Any.slices_Sort_int_none Tryz.lays189 p cap w
end Go.Proofs
