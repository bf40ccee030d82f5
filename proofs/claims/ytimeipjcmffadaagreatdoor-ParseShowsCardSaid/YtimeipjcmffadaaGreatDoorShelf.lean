import Derived.Shelf.Strings.Builder1
import Derived.Shelf.Strings.Builder2
import Derived.Shelf.Strings.OnBuilder
import Derived.Shelf.Strings.Trim
import Derived.Shelf.Small.Utf8
import Derived.Shelf.Small.Bits
import Derived.Shelf.Small.Strs
import Derived.Shelf.Small.Wraps
import Derived.Shelf.Strings.BuilderF
import Derived.Shelf.Strings.BuilderK
import Derived.Shelf.Strings.BuilderRune
import Derived.Shelf.Utf8.AppendRune
import Derived.Shelf.Utf8.AppendRunePlain
import Derived.Shelf.Utf8.RuneCount
import Derived.Shelf.Strings.Builder2Cap
import Derived.Shelf.Strconv.Itoa0
import Derived.Shelf.Strconv.Itoa1
import Derived.Shelf.LaysM
import Derived.Shelf.Strconv.Itoa2
import Derived.Shelf.Strconv.Itoa3
import Derived.Shelf.Strconv.Itoa4
import Derived.Shelf.Strconv.ParseIntEmpty
import Derived.Shelf.Strconv.Clone
import Derived.Shelf.Strconv.SyntaxError
import Derived.Shelf.LaysC
import Derived.Shelf.Strconv.ToError
import Derived.Shelf.Strconv.Lower
import Derived.Shelf.Strconv.ParseUint10
import Derived.Shelf.Strconv.ParseUint10Empty
import Derived.Shelf.Strconv.ParseUint10Any
import Derived.Shelf.Strconv.ParseInt10
import Derived.Shelf.Strconv.RangeError
import Derived.Shelf.Strconv.ToErrorRange
import Derived.Shelf.Strconv.ParseUintEmpty
import Derived.Shelf.Strconv.ParseUint10b64
import Derived.Shelf.Strconv.ParseUint10b32
import Derived.Shelf.Strconv.ParseUint10b16
import Derived.Shelf.Strconv.ParseUint10b8
import Derived.Shelf.Strconv.ParseUint10At
import Derived.Shelf.Strconv.ParseInt10At64
import Derived.Shelf.Strconv.ParseInt10At32
import Derived.Shelf.Strconv.ParseInt10At16
import Derived.Shelf.Strconv.ParseInt10At8
import Derived.Shelf.Strconv.ParseInt10All
import Derived.Shelf.Strconv.ParseIntPublic10
import Derived.Shelf.Strconv.ErrVarParseInt
import Derived.Shelf.Strings.Search1
import Derived.Shelf.Strings.Search2
import Derived.Shelf.Strings.Search3
import Derived.Shelf.Strings.Count
import Derived.Shelf.Strings.Shaped
import Derived.Shelf.Sort.Plain
import Derived.Shelf.Strings.Prefix
import Derived.Shelf.Strings.Split
import Derived.Shelf.Strings.Replace
import Derived.Shelf.Strings.SplitShaped
import Derived.Shelf.Unicode.Latin
import Derived.Shelf.Unicode.Decode
import Derived.Shelf.Strings.Runes
import Derived.Shelf.Strings.RuneCount
import Derived.Shelf.Strings.AsciiSet
import Derived.Shelf.Bits.Mul64
import Derived.Shelf.Unicode.DecodeSlow
import Derived.Shelf.Unicode.DecodeAny
import Derived.Shelf.Unicode.DecodeLast
import Derived.Shelf.Unicode.CaseLookup
import Derived.Shelf.Unicode.CaseConvert
import Derived.Shelf.Unicode.CaseTo
import Derived.Shelf.Unicode.CaseLaid
import Derived.Shelf.Strings.MapAny
import Derived.Shelf.Strings.CaseAny
import Derived.Shelf.Strings.BuilderCap
import Derived.Shelf.Strings.MapGrows
import Derived.Shelf.Slices.Reverse
import Derived.Ground.Names2Prog
import Derived.Shelf.Slices.SearchI
import Derived.Shelf.Slices.Cells
import Derived.Shelf.Slices.In.SortNone
import Derived.Ground.SlgnProg
import Derived.Shelf.SlicesG.SearchI
import Derived.Shelf.SlicesE.Reverse
import Derived.Test.YtimeipjcmffadaaGreatDoorProg
namespace Go.Proofs
open Go.Shelf
def Tryz.lays169_ren:Go.Shelf.Ren:=⟨fun|169=>57|n=>n,fun|70=>111|9=>9|0=>0|72=>114|37=>112|127=>160|3=>3|5=>5|n=>n,fun|n=>n⟩
theorem Tryz.lays169:Go.Proofs.Lays.n169 Tryz.prog Tryz.lays169_ren:={
  mixed:=by kernel_rfl
  f169:=Tryz.func57.trans (congrArg some (by kernel_rfl))
  t0:=Tryz.underlying0
  a0:=Tryz.isAgg0
  z0:=Tryz.sizeOf0
  v0:=Tryz.zeroValue0
  t3:=Tryz.underlying3
  a3:=Tryz.isAgg3
  z3:=Tryz.sizeOf3
  v3:=Tryz.zeroValue3
  t9:=Tryz.underlying9
  a9:=Tryz.isAgg9
  z9:=Tryz.sizeOf9
  v9:=Tryz.zeroValue9
  t37:=Tryz.underlying112
  a37:=Tryz.isAgg112
  z37:=Tryz.sizeOf112
  v37:=Tryz.zeroValue112
  t70:=Tryz.underlying111
  a70:=Tryz.isAgg111
  z70:=Tryz.sizeOf111
  v70:=Tryz.zeroValue111
  t72:=Tryz.underlying114
  a72:=Tryz.isAgg114
  z72:=Tryz.sizeOf114
  v72:=Tryz.zeroValue114
  t127:=Tryz.underlying160
  a127:=Tryz.isAgg160
  z127:=Tryz.sizeOf160
  v127:=Tryz.zeroValue160 }
theorem Tryz.Builder_Extra_169:Builder.Extra Tryz.prog Tryz.lays169_ren:={
  sizeBuilder:=by kernel_rfl
  liesBuilder:=by kernel_rfl
  t5:=Tryz.underlying5
  a5:=Tryz.isAgg5
  z5:=Tryz.sizeOf5
  v5:=Tryz.zeroValue5
  infoByte:=by kernel_rfl
  cellsByte:=by kernel_rfl
  sizeByte:=by kernel_rfl
  neB5:=by decide }
open Go.RowKit in
theorem Tryz.Builder_String_any (B b:Nat) (l:List UInt8) (w:World) (h:Lib.IsBuilder 114 5 B b (Lib.byteCells l) w) (hBw:B<=w.heap.size) :
    Calls Tryz.prog 57 #[.pointer (some ⟨b,0,none⟩)] w fun e w'=>e= .returned (.string ⟨l.toArray⟩)/\Below B w w':=Any.Builder_String_any Tryz.lays169 Tryz.Builder_Extra_169 B b l w h hBw
def Tryz.lays158_ren:Go.Shelf.Ren:=⟨fun|158=>227|165=>55|166=>56|167=>231|169=>57|230=>268|203=>269|240=>103|241=>104|197=>285|118=>301|168=>302|270=>303|262=>304|276=>168|277=>169|260=>326|242=>336|313=>337|278=>360|274=>361|275=>362|n=>n,fun|9=>9|4=>4|3=>3|5=>5|72=>114|0=>0|76=>117|75=>116|107=>302|70=>111|20=>20|37=>112|127=>160|21=>21|105=>316|164=>224|162=>360|203=>358|119=>349|46=>308|139=>352|138=>351|51=>135|160=>374|208=>392|206=>390|80=>119|n=>n,fun|13=>4|3=>1|4=>2|n=>n⟩
theorem Tryz.lays158:Go.Proofs.Lays.n158 Tryz.prog Tryz.lays158_ren:={
  mixed:=by kernel_rfl
  f118:=Tryz.func301.trans (congrArg some (by kernel_rfl))
  f158:=Tryz.func227.trans (congrArg some (by kernel_rfl))
  f165:=Tryz.func55.trans (congrArg some (by kernel_rfl))
  f166:=Tryz.func56.trans (congrArg some (by kernel_rfl))
  f167:=Tryz.func231.trans (congrArg some (by kernel_rfl))
  f168:=Tryz.func302.trans (congrArg some (by kernel_rfl))
  f169:=Tryz.func57.trans (congrArg some (by kernel_rfl))
  f197:=Tryz.func285.trans (congrArg some (by kernel_rfl))
  f203:=Tryz.func269.trans (congrArg some (by kernel_rfl))
  f230:=Tryz.func268.trans (congrArg some (by kernel_rfl))
  f240:=Tryz.func103.trans (congrArg some (by kernel_rfl))
  f241:=Tryz.func104.trans (congrArg some (by kernel_rfl))
  f242:=Tryz.func336.trans (congrArg some (by kernel_rfl))
  f260:=Tryz.func326.trans (congrArg some (by kernel_rfl))
  f262:=Tryz.func304.trans (congrArg some (by kernel_rfl))
  f270:=Tryz.func303.trans (congrArg some (by kernel_rfl))
  f274:=Tryz.func361.trans (congrArg some (by kernel_rfl))
  f275:=Tryz.func362.trans (congrArg some (by kernel_rfl))
  f276:=Tryz.func168.trans (congrArg some (by kernel_rfl))
  f277:=Tryz.func169.trans (congrArg some (by kernel_rfl))
  f278:=Tryz.func360.trans (congrArg some (by kernel_rfl))
  f313:=Tryz.func337.trans (congrArg some (by kernel_rfl))
  t0:=Tryz.underlying0
  a0:=Tryz.isAgg0
  z0:=Tryz.sizeOf0
  v0:=Tryz.zeroValue0
  t3:=Tryz.underlying3
  a3:=Tryz.isAgg3
  z3:=Tryz.sizeOf3
  v3:=Tryz.zeroValue3
  t4:=Tryz.underlying4
  a4:=Tryz.isAgg4
  z4:=Tryz.sizeOf4
  v4:=Tryz.zeroValue4
  t5:=Tryz.underlying5
  a5:=Tryz.isAgg5
  z5:=Tryz.sizeOf5
  v5:=Tryz.zeroValue5
  t9:=Tryz.underlying9
  a9:=Tryz.isAgg9
  z9:=Tryz.sizeOf9
  v9:=Tryz.zeroValue9
  t20:=Tryz.underlying20
  a20:=Tryz.isAgg20
  z20:=Tryz.sizeOf20
  v20:=Tryz.zeroValue20
  t21:=Tryz.underlying21
  a21:=Tryz.isAgg21
  z21:=Tryz.sizeOf21
  v21:=Tryz.zeroValue21
  t37:=Tryz.underlying112
  a37:=Tryz.isAgg112
  z37:=Tryz.sizeOf112
  v37:=Tryz.zeroValue112
  t46:=Tryz.underlying308
  a46:=Tryz.isAgg308
  z46:=Tryz.sizeOf308
  v46:=Tryz.zeroValue308
  t51:=Tryz.underlying135
  a51:=Tryz.isAgg135
  z51:=Tryz.sizeOf135
  v51:=Tryz.zeroValue135
  t70:=Tryz.underlying111
  a70:=Tryz.isAgg111
  z70:=Tryz.sizeOf111
  v70:=Tryz.zeroValue111
  t72:=Tryz.underlying114
  a72:=Tryz.isAgg114
  z72:=Tryz.sizeOf114
  v72:=Tryz.zeroValue114
  t75:=Tryz.underlying116
  a75:=Tryz.isAgg116
  z75:=Tryz.sizeOf116
  v75:=Tryz.zeroValue116
  t76:=Tryz.underlying117
  a76:=Tryz.isAgg117
  z76:=Tryz.sizeOf117
  v76:=Tryz.zeroValue117
  t105:=Tryz.underlying316
  a105:=Tryz.isAgg316
  z105:=Tryz.sizeOf316
  v105:=Tryz.zeroValue316
  t107:=Tryz.underlying302
  a107:=Tryz.isAgg302
  z107:=Tryz.sizeOf302
  v107:=Tryz.zeroValue302
  t119:=Tryz.underlying349
  a119:=Tryz.isAgg349
  z119:=Tryz.sizeOf349
  t127:=Tryz.underlying160
  a127:=Tryz.isAgg160
  z127:=Tryz.sizeOf160
  v127:=Tryz.zeroValue160
  t138:=Tryz.underlying351
  a138:=Tryz.isAgg351
  z138:=Tryz.sizeOf351
  v138:=Tryz.zeroValue351
  t139:=Tryz.underlying352
  a139:=Tryz.isAgg352
  z139:=Tryz.sizeOf352
  v139:=Tryz.zeroValue352
  t160:=Tryz.underlying374
  a160:=Tryz.isAgg374
  z160:=Tryz.sizeOf374
  v160:=Tryz.zeroValue374
  t162:=Tryz.underlying360
  a162:=Tryz.isAgg360
  z162:=Tryz.sizeOf360
  v162:=Tryz.zeroValue360
  t164:=Tryz.underlying224
  a164:=Tryz.isAgg224
  z164:=Tryz.sizeOf224
  v164:=Tryz.zeroValue224
  t203:=Tryz.underlying358
  a203:=Tryz.isAgg358
  z203:=Tryz.sizeOf358
  v203:=Tryz.zeroValue358
  t206:=Tryz.underlying390
  a206:=Tryz.isAgg390
  z206:=Tryz.sizeOf390
  v206:=Tryz.zeroValue390
  t208:=Tryz.underlying392
  a208:=Tryz.isAgg392
  z208:=Tryz.sizeOf392
  v208:=Tryz.zeroValue392
  g3:=by kernel_rfl
  g4:=by kernel_rfl
  g13:=by kernel_rfl }
theorem Tryz.Builder_Extra_158:Builder.Extra Tryz.prog Tryz.lays158_ren:={
  sizeBuilder:=by kernel_rfl
  liesBuilder:=by kernel_rfl
  t5:=Tryz.underlying5
  a5:=Tryz.isAgg5
  z5:=Tryz.sizeOf5
  v5:=Tryz.zeroValue5
  infoByte:=by kernel_rfl
  cellsByte:=by kernel_rfl
  sizeByte:=by kernel_rfl
  neB5:=by decide }
open Go.RowKit in
theorem Tryz.strings_ToUpper_ascii (s:ByteArray) (w:World) (hs:s.size<=140737488355328) (hascii:∀ (j:Nat) (b:UInt8),s.data.toList[j]?=some b->b.toNat<128) :
    Calls Tryz.prog 227 #[.string s] w fun e w'=>e= .returned (.string ⟨(Lib.toUpperA s.data.toList).toArray⟩)/\Below w.heap.size w w':=Any.strings_ToUpper_ascii Tryz.lays158 Tryz.Builder_Extra_158 s w hs hascii
def Tryz.lays159_ren:Go.Shelf.Ren:=⟨fun|159=>229|165=>55|166=>56|167=>231|169=>57|230=>268|204=>271|240=>103|241=>104|197=>285|118=>301|168=>302|270=>303|262=>304|276=>168|277=>169|260=>326|242=>336|313=>337|278=>360|274=>361|275=>362|n=>n,fun|9=>9|4=>4|3=>3|5=>5|72=>114|0=>0|76=>117|75=>116|107=>302|70=>111|20=>20|37=>112|127=>160|21=>21|105=>316|164=>224|162=>360|203=>358|119=>349|46=>308|139=>352|138=>351|51=>135|160=>374|208=>392|206=>390|80=>119|n=>n,fun|13=>4|3=>1|4=>2|n=>n⟩
theorem Tryz.lays159:Go.Proofs.Lays.n159 Tryz.prog Tryz.lays159_ren:={
  mixed:=by kernel_rfl
  f118:=Tryz.func301.trans (congrArg some (by kernel_rfl))
  f159:=Tryz.func229.trans (congrArg some (by kernel_rfl))
  f165:=Tryz.func55.trans (congrArg some (by kernel_rfl))
  f166:=Tryz.func56.trans (congrArg some (by kernel_rfl))
  f167:=Tryz.func231.trans (congrArg some (by kernel_rfl))
  f168:=Tryz.func302.trans (congrArg some (by kernel_rfl))
  f169:=Tryz.func57.trans (congrArg some (by kernel_rfl))
  f197:=Tryz.func285.trans (congrArg some (by kernel_rfl))
  f204:=Tryz.func271.trans (congrArg some (by kernel_rfl))
  f230:=Tryz.func268.trans (congrArg some (by kernel_rfl))
  f240:=Tryz.func103.trans (congrArg some (by kernel_rfl))
  f241:=Tryz.func104.trans (congrArg some (by kernel_rfl))
  f242:=Tryz.func336.trans (congrArg some (by kernel_rfl))
  f260:=Tryz.func326.trans (congrArg some (by kernel_rfl))
  f262:=Tryz.func304.trans (congrArg some (by kernel_rfl))
  f270:=Tryz.func303.trans (congrArg some (by kernel_rfl))
  f274:=Tryz.func361.trans (congrArg some (by kernel_rfl))
  f275:=Tryz.func362.trans (congrArg some (by kernel_rfl))
  f276:=Tryz.func168.trans (congrArg some (by kernel_rfl))
  f277:=Tryz.func169.trans (congrArg some (by kernel_rfl))
  f278:=Tryz.func360.trans (congrArg some (by kernel_rfl))
  f313:=Tryz.func337.trans (congrArg some (by kernel_rfl))
  t0:=Tryz.underlying0
  a0:=Tryz.isAgg0
  z0:=Tryz.sizeOf0
  v0:=Tryz.zeroValue0
  t3:=Tryz.underlying3
  a3:=Tryz.isAgg3
  z3:=Tryz.sizeOf3
  v3:=Tryz.zeroValue3
  t4:=Tryz.underlying4
  a4:=Tryz.isAgg4
  z4:=Tryz.sizeOf4
  v4:=Tryz.zeroValue4
  t5:=Tryz.underlying5
  a5:=Tryz.isAgg5
  z5:=Tryz.sizeOf5
  v5:=Tryz.zeroValue5
  t9:=Tryz.underlying9
  a9:=Tryz.isAgg9
  z9:=Tryz.sizeOf9
  v9:=Tryz.zeroValue9
  t20:=Tryz.underlying20
  a20:=Tryz.isAgg20
  z20:=Tryz.sizeOf20
  v20:=Tryz.zeroValue20
  t21:=Tryz.underlying21
  a21:=Tryz.isAgg21
  z21:=Tryz.sizeOf21
  v21:=Tryz.zeroValue21
  t37:=Tryz.underlying112
  a37:=Tryz.isAgg112
  z37:=Tryz.sizeOf112
  v37:=Tryz.zeroValue112
  t46:=Tryz.underlying308
  a46:=Tryz.isAgg308
  z46:=Tryz.sizeOf308
  v46:=Tryz.zeroValue308
  t51:=Tryz.underlying135
  a51:=Tryz.isAgg135
  z51:=Tryz.sizeOf135
  v51:=Tryz.zeroValue135
  t70:=Tryz.underlying111
  a70:=Tryz.isAgg111
  z70:=Tryz.sizeOf111
  v70:=Tryz.zeroValue111
  t72:=Tryz.underlying114
  a72:=Tryz.isAgg114
  z72:=Tryz.sizeOf114
  v72:=Tryz.zeroValue114
  t75:=Tryz.underlying116
  a75:=Tryz.isAgg116
  z75:=Tryz.sizeOf116
  v75:=Tryz.zeroValue116
  t76:=Tryz.underlying117
  a76:=Tryz.isAgg117
  z76:=Tryz.sizeOf117
  v76:=Tryz.zeroValue117
  t105:=Tryz.underlying316
  a105:=Tryz.isAgg316
  z105:=Tryz.sizeOf316
  v105:=Tryz.zeroValue316
  t107:=Tryz.underlying302
  a107:=Tryz.isAgg302
  z107:=Tryz.sizeOf302
  v107:=Tryz.zeroValue302
  t119:=Tryz.underlying349
  a119:=Tryz.isAgg349
  z119:=Tryz.sizeOf349
  t127:=Tryz.underlying160
  a127:=Tryz.isAgg160
  z127:=Tryz.sizeOf160
  v127:=Tryz.zeroValue160
  t138:=Tryz.underlying351
  a138:=Tryz.isAgg351
  z138:=Tryz.sizeOf351
  v138:=Tryz.zeroValue351
  t139:=Tryz.underlying352
  a139:=Tryz.isAgg352
  z139:=Tryz.sizeOf352
  v139:=Tryz.zeroValue352
  t160:=Tryz.underlying374
  a160:=Tryz.isAgg374
  z160:=Tryz.sizeOf374
  v160:=Tryz.zeroValue374
  t162:=Tryz.underlying360
  a162:=Tryz.isAgg360
  z162:=Tryz.sizeOf360
  v162:=Tryz.zeroValue360
  t164:=Tryz.underlying224
  a164:=Tryz.isAgg224
  z164:=Tryz.sizeOf224
  v164:=Tryz.zeroValue224
  t203:=Tryz.underlying358
  a203:=Tryz.isAgg358
  z203:=Tryz.sizeOf358
  v203:=Tryz.zeroValue358
  t206:=Tryz.underlying390
  a206:=Tryz.isAgg390
  z206:=Tryz.sizeOf390
  v206:=Tryz.zeroValue390
  t208:=Tryz.underlying392
  a208:=Tryz.isAgg392
  z208:=Tryz.sizeOf392
  v208:=Tryz.zeroValue392
  g3:=by kernel_rfl
  g4:=by kernel_rfl
  g13:=by kernel_rfl }
theorem Tryz.Builder_Extra_159:Builder.Extra Tryz.prog Tryz.lays159_ren:={
  sizeBuilder:=by kernel_rfl
  liesBuilder:=by kernel_rfl
  t5:=Tryz.underlying5
  a5:=Tryz.isAgg5
  z5:=Tryz.sizeOf5
  v5:=Tryz.zeroValue5
  infoByte:=by kernel_rfl
  cellsByte:=by kernel_rfl
  sizeByte:=by kernel_rfl
  neB5:=by decide }
open Go.RowKit in
theorem Tryz.strings_ToLower_ascii (s:ByteArray) (w:World) (hs:s.size<=140737488355328) (hascii:∀ (j:Nat) (b:UInt8),s.data.toList[j]?=some b->b.toNat<128) :
    Calls Tryz.prog 229 #[.string s] w fun e w'=>e= .returned (.string ⟨(Lib.toLowerA s.data.toList).toArray⟩)/\Below w.heap.size w w':=Any.strings_ToLower_ascii Tryz.lays159 Tryz.Builder_Extra_159 s w hs hascii
def Tryz.lays156_ren:Go.Shelf.Ren:=⟨fun|156=>27|165=>55|166=>56|169=>57|240=>103|241=>104|276=>168|277=>169|n=>n,fun|31=>65|9=>9|3=>3|4=>4|0=>0|20=>20|72=>114|76=>117|70=>111|37=>112|75=>116|127=>160|164=>224|5=>5|80=>119|n=>n,fun|n=>n⟩
theorem Tryz.lays156:Go.Proofs.Lays.n156 Tryz.prog Tryz.lays156_ren:={
  mixed:=by kernel_rfl
  f156:=Tryz.func27.trans (congrArg some (by kernel_rfl))
  f165:=Tryz.func55.trans (congrArg some (by kernel_rfl))
  f166:=Tryz.func56.trans (congrArg some (by kernel_rfl))
  f169:=Tryz.func57.trans (congrArg some (by kernel_rfl))
  f240:=Tryz.func103.trans (congrArg some (by kernel_rfl))
  f241:=Tryz.func104.trans (congrArg some (by kernel_rfl))
  f276:=Tryz.func168.trans (congrArg some (by kernel_rfl))
  f277:=Tryz.func169.trans (congrArg some (by kernel_rfl))
  t0:=Tryz.underlying0
  a0:=Tryz.isAgg0
  z0:=Tryz.sizeOf0
  v0:=Tryz.zeroValue0
  t3:=Tryz.underlying3
  a3:=Tryz.isAgg3
  z3:=Tryz.sizeOf3
  v3:=Tryz.zeroValue3
  t4:=Tryz.underlying4
  a4:=Tryz.isAgg4
  z4:=Tryz.sizeOf4
  v4:=Tryz.zeroValue4
  t9:=Tryz.underlying9
  a9:=Tryz.isAgg9
  z9:=Tryz.sizeOf9
  v9:=Tryz.zeroValue9
  t20:=Tryz.underlying20
  a20:=Tryz.isAgg20
  z20:=Tryz.sizeOf20
  v20:=Tryz.zeroValue20
  t31:=Tryz.underlying65
  a31:=Tryz.isAgg65
  z31:=Tryz.sizeOf65
  v31:=Tryz.zeroValue65
  t37:=Tryz.underlying112
  a37:=Tryz.isAgg112
  z37:=Tryz.sizeOf112
  v37:=Tryz.zeroValue112
  t70:=Tryz.underlying111
  a70:=Tryz.isAgg111
  z70:=Tryz.sizeOf111
  v70:=Tryz.zeroValue111
  t72:=Tryz.underlying114
  a72:=Tryz.isAgg114
  z72:=Tryz.sizeOf114
  v72:=Tryz.zeroValue114
  t75:=Tryz.underlying116
  a75:=Tryz.isAgg116
  z75:=Tryz.sizeOf116
  v75:=Tryz.zeroValue116
  t76:=Tryz.underlying117
  a76:=Tryz.isAgg117
  z76:=Tryz.sizeOf117
  v76:=Tryz.zeroValue117
  t127:=Tryz.underlying160
  a127:=Tryz.isAgg160
  z127:=Tryz.sizeOf160
  v127:=Tryz.zeroValue160
  t164:=Tryz.underlying224
  a164:=Tryz.isAgg224
  z164:=Tryz.sizeOf224
  v164:=Tryz.zeroValue224 }
theorem Tryz.Builder_Extra_156:Builder.Extra Tryz.prog Tryz.lays156_ren:={
  sizeBuilder:=by kernel_rfl
  liesBuilder:=by kernel_rfl
  t5:=Tryz.underlying5
  a5:=Tryz.isAgg5
  z5:=Tryz.sizeOf5
  v5:=Tryz.zeroValue5
  infoByte:=by kernel_rfl
  cellsByte:=by kernel_rfl
  sizeByte:=by kernel_rfl
  neB5:=by decide }
open Go.RowKit in
theorem Tryz.strings_Join (bk o c:Nat) (xs:List ByteArray) (sep:ByteArray) (w:World) (hcells:∀ (j:Nat) x,xs[j]?=some x->w.cell? ⟨bk,o+j,none⟩=some (.string x)) (hbk:bk<w.heap.size) (hN:xs.length<=140737488355328) (hcap:xs.length<=c) (hlen:(Lib.join (xs.map (·.data.toList)) sep.data.toList).length<=140737488355328) :
    Calls Tryz.prog 27 #[.slice (some ⟨bk,o,none⟩) xs.length c,.string sep] w fun e w'=>e= .returned (.string ⟨(Lib.join (xs.map (·.data.toList)) sep.data.toList).toArray⟩)/\Below w.heap.size w w':=Any.strings_Join Tryz.lays156 Tryz.Builder_Extra_156 bk o c xs sep w hcells hbk hN hcap hlen
def Tryz.lays137_ren:Go.Shelf.Ren:=⟨fun|137=>170|217=>224|266=>267|n=>n,fun|9=>9|5=>5|3=>3|n=>n,fun|n=>n⟩
theorem Tryz.lays137:Go.Proofs.Lays.n137 Tryz.prog Tryz.lays137_ren:={
  mixed:=by kernel_rfl
  f137:=Tryz.func170.trans (congrArg some (by kernel_rfl))
  f217:=Tryz.func224.trans (congrArg some (by kernel_rfl))
  f266:=Tryz.func267.trans (congrArg some (by kernel_rfl))
  t3:=Tryz.underlying3
  a3:=Tryz.isAgg3
  z3:=Tryz.sizeOf3
  v3:=Tryz.zeroValue3
  t5:=Tryz.underlying5
  a5:=Tryz.isAgg5
  z5:=Tryz.sizeOf5
  v5:=Tryz.zeroValue5
  t9:=Tryz.underlying9
  a9:=Tryz.isAgg9
  z9:=Tryz.sizeOf9
  v9:=Tryz.zeroValue9 }
open Go.RowKit in
theorem Tryz.strings_IndexByte (s:ByteArray) (c:Int) (w:World) :
    Calls Tryz.prog 170 #[.string s,.int .u8 c] w fun e w'=>e= .returned (.int .i64 (Lib.indexByte s.data.toList c.toNat.toUInt8))/\w'=w:=Any.strings_IndexByte Tryz.lays137 s c w
def Tryz.laysM173_ren:Go.Shelf.Ren:=⟨fun|173=>223|246=>266|283=>297|284=>298|285=>299|286=>300|129=>321|317=>332|318=>333|319=>334|320=>335|337=>358|338=>359|n=>n,fun|2=>2|3=>3|9=>9|4=>4|171=>326|0=>0|53=>282|37=>112|5=>5|173=>329|212=>355|51=>135|20=>20|213=>356|46=>308|232=>387|233=>388|n=>n,fun|17=>3|18=>7|19=>8|n=>n⟩
theorem Tryz.laysM173:Go.Proofs.LaysM.n173 Tryz.prog Tryz.laysM173_ren:={
  mixed:=by kernel_rfl
  f129:=Tryz.func321.trans (congrArg some (by kernel_rfl))
  f173:=Tryz.func223.trans (congrArg some (by kernel_rfl))
  f246:=Tryz.func266.trans (congrArg some (by kernel_rfl))
  f283:=Tryz.func297.trans (congrArg some (by kernel_rfl))
  f284:=Tryz.func298.trans (congrArg some (by kernel_rfl))
  f285:=Tryz.func299.trans (congrArg some (by kernel_rfl))
  f286:=Tryz.func300.trans (congrArg some (by kernel_rfl))
  f317:=Tryz.func332.trans (congrArg some (by kernel_rfl))
  f318:=Tryz.func333.trans (congrArg some (by kernel_rfl))
  f319:=Tryz.func334.trans (congrArg some (by kernel_rfl))
  f320:=Tryz.func335.trans (congrArg some (by kernel_rfl))
  f337:=Tryz.func358.trans (congrArg some (by kernel_rfl))
  f338:=Tryz.func359.trans (congrArg some (by kernel_rfl))
  t0:=Tryz.underlying0
  a0:=Tryz.isAgg0
  z0:=Tryz.sizeOf0
  v0:=Tryz.zeroValue0
  t2:=Tryz.underlying2
  a2:=Tryz.isAgg2
  z2:=Tryz.sizeOf2
  v2:=Tryz.zeroValue2
  t3:=Tryz.underlying3
  a3:=Tryz.isAgg3
  z3:=Tryz.sizeOf3
  v3:=Tryz.zeroValue3
  t4:=Tryz.underlying4
  a4:=Tryz.isAgg4
  z4:=Tryz.sizeOf4
  v4:=Tryz.zeroValue4
  t5:=Tryz.underlying5
  a5:=Tryz.isAgg5
  z5:=Tryz.sizeOf5
  v5:=Tryz.zeroValue5
  t9:=Tryz.underlying9
  a9:=Tryz.isAgg9
  z9:=Tryz.sizeOf9
  v9:=Tryz.zeroValue9
  t20:=Tryz.underlying20
  a20:=Tryz.isAgg20
  z20:=Tryz.sizeOf20
  v20:=Tryz.zeroValue20
  t37:=Tryz.underlying112
  a37:=Tryz.isAgg112
  z37:=Tryz.sizeOf112
  v37:=Tryz.zeroValue112
  t46:=Tryz.underlying308
  a46:=Tryz.isAgg308
  z46:=Tryz.sizeOf308
  v46:=Tryz.zeroValue308
  t51:=Tryz.underlying135
  a51:=Tryz.isAgg135
  z51:=Tryz.sizeOf135
  v51:=Tryz.zeroValue135
  t53:=Tryz.underlying282
  a53:=Tryz.isAgg282
  z53:=Tryz.sizeOf282
  v53:=Tryz.zeroValue282
  t171:=Tryz.underlying326
  a171:=Tryz.isAgg326
  z171:=Tryz.sizeOf326
  v171:=Tryz.zeroValue326
  t173:=Tryz.underlying329
  a173:=Tryz.isAgg329
  z173:=Tryz.sizeOf329
  v173:=Tryz.zeroValue329
  t212:=Tryz.underlying355
  a212:=Tryz.isAgg355
  z212:=Tryz.sizeOf355
  v212:=Tryz.zeroValue355
  t213:=Tryz.underlying356
  a213:=Tryz.isAgg356
  z213:=Tryz.sizeOf356
  t232:=Tryz.underlying387
  a232:=Tryz.isAgg387
  z232:=Tryz.sizeOf387
  v232:=Tryz.zeroValue387
  t233:=Tryz.underlying388
  a233:=Tryz.isAgg388
  z233:=Tryz.sizeOf388
  v233:=Tryz.zeroValue388
  g17:=by kernel_rfl
  g18:=by kernel_rfl
  g19:=by kernel_rfl
  i0:=by kernel_rfl
  i2:=by kernel_rfl
  i3:=by kernel_rfl
  i4:=by kernel_rfl
  i5:=by kernel_rfl
  i9:=by kernel_rfl
  i20:=by kernel_rfl
  i37:=by kernel_rfl
  i46:=by kernel_rfl
  i51:=by kernel_rfl
  i53:=by kernel_rfl
  i171:=by kernel_rfl
  i173:=by kernel_rfl
  i212:=by kernel_rfl
  i232:=by kernel_rfl
  i233:=by kernel_rfl
  m17:=by kernel_rfl
  m18:=by kernel_rfl
  m19:=by kernel_rfl }
open Go.RowKit Go.Sort Go.Lib in
theorem Tryz.strconv_FormatInt_10 (n:Int) (h0: -9223372036854775808<=n) (h1:n<=9223372036854775807) (w:World) (htab:Lib.TabIs Tryz.prog w "internal/strconv.uint64pow10" .u64 Lib.pow10Tab) :
    Calls Tryz.prog 223 #[.int .i64 n,.int .i64 10] w fun e w'=>e= .returned (.string ⟨(Lib.itoa n).toArray⟩)/\∃ k os,w'=grow (w.drewN k) os:=Any.strconv_FormatInt_10 Tryz.laysM173 n h0 h1 w htab
def Tryz.laysC174_ren:Go.Shelf.Ren:=⟨fun|174=>230|247=>272|245=>273|287=>306|279=>307|280=>308|281=>309|282=>310|321=>341|322=>342|316=>343|171=>345|205=>344|243=>364|246=>266|283=>297|284=>298|285=>299|286=>300|129=>321|317=>332|318=>333|319=>334|320=>335|337=>358|338=>359|n=>n,fun|9=>9|3=>3|2=>2|75=>116|85=>279|4=>4|167=>334|5=>5|53=>282|175=>335|46=>308|168=>337|37=>112|0=>0|210=>363|21=>21|127=>160|145=>381|143=>379|171=>326|173=>329|212=>355|51=>135|20=>20|213=>356|232=>387|233=>388|80=>119|n=>n,fun|15=>5|16=>6|17=>3|18=>7|19=>8|n=>n⟩
theorem Tryz.laysC174:Go.Proofs.LaysC.n174 Tryz.prog Tryz.laysC174_ren:={
  mixed:=by kernel_rfl
  f129:=Tryz.func321.trans (congrArg some (by kernel_rfl))
  f171:=Tryz.func345.trans (congrArg some (by kernel_rfl))
  f174:=Tryz.func230.trans (congrArg some (by kernel_rfl))
  f205:=Tryz.func344.trans (congrArg some (by kernel_rfl))
  f243:=Tryz.func364.trans (congrArg some (by kernel_rfl))
  f245:=Tryz.func273.trans (congrArg some (by kernel_rfl))
  f246:=Tryz.func266.trans (congrArg some (by kernel_rfl))
  f247:=Tryz.func272.trans (congrArg some (by kernel_rfl))
  f279:=Tryz.func307.trans (congrArg some (by kernel_rfl))
  f280:=Tryz.func308.trans (congrArg some (by kernel_rfl))
  f281:=Tryz.func309.trans (congrArg some (by kernel_rfl))
  f282:=Tryz.func310.trans (congrArg some (by kernel_rfl))
  f283:=Tryz.func297.trans (congrArg some (by kernel_rfl))
  f284:=Tryz.func298.trans (congrArg some (by kernel_rfl))
  f285:=Tryz.func299.trans (congrArg some (by kernel_rfl))
  f286:=Tryz.func300.trans (congrArg some (by kernel_rfl))
  f287:=Tryz.func306.trans (congrArg some (by kernel_rfl))
  f316:=Tryz.func343.trans (congrArg some (by kernel_rfl))
  f317:=Tryz.func332.trans (congrArg some (by kernel_rfl))
  f318:=Tryz.func333.trans (congrArg some (by kernel_rfl))
  f319:=Tryz.func334.trans (congrArg some (by kernel_rfl))
  f320:=Tryz.func335.trans (congrArg some (by kernel_rfl))
  f321:=Tryz.func341.trans (congrArg some (by kernel_rfl))
  f322:=Tryz.func342.trans (congrArg some (by kernel_rfl))
  f337:=Tryz.func358.trans (congrArg some (by kernel_rfl))
  f338:=Tryz.func359.trans (congrArg some (by kernel_rfl))
  t0:=Tryz.underlying0
  a0:=Tryz.isAgg0
  z0:=Tryz.sizeOf0
  v0:=Tryz.zeroValue0
  t2:=Tryz.underlying2
  a2:=Tryz.isAgg2
  z2:=Tryz.sizeOf2
  v2:=Tryz.zeroValue2
  t3:=Tryz.underlying3
  a3:=Tryz.isAgg3
  z3:=Tryz.sizeOf3
  v3:=Tryz.zeroValue3
  t4:=Tryz.underlying4
  a4:=Tryz.isAgg4
  z4:=Tryz.sizeOf4
  v4:=Tryz.zeroValue4
  t5:=Tryz.underlying5
  a5:=Tryz.isAgg5
  z5:=Tryz.sizeOf5
  v5:=Tryz.zeroValue5
  t9:=Tryz.underlying9
  a9:=Tryz.isAgg9
  z9:=Tryz.sizeOf9
  v9:=Tryz.zeroValue9
  t20:=Tryz.underlying20
  a20:=Tryz.isAgg20
  z20:=Tryz.sizeOf20
  v20:=Tryz.zeroValue20
  t21:=Tryz.underlying21
  a21:=Tryz.isAgg21
  z21:=Tryz.sizeOf21
  v21:=Tryz.zeroValue21
  t37:=Tryz.underlying112
  a37:=Tryz.isAgg112
  z37:=Tryz.sizeOf112
  v37:=Tryz.zeroValue112
  t46:=Tryz.underlying308
  a46:=Tryz.isAgg308
  z46:=Tryz.sizeOf308
  v46:=Tryz.zeroValue308
  t51:=Tryz.underlying135
  a51:=Tryz.isAgg135
  z51:=Tryz.sizeOf135
  v51:=Tryz.zeroValue135
  t53:=Tryz.underlying282
  a53:=Tryz.isAgg282
  z53:=Tryz.sizeOf282
  v53:=Tryz.zeroValue282
  t75:=Tryz.underlying116
  a75:=Tryz.isAgg116
  z75:=Tryz.sizeOf116
  v75:=Tryz.zeroValue116
  t85:=Tryz.underlying279
  a85:=Tryz.isAgg279
  z85:=Tryz.sizeOf279
  v85:=Tryz.zeroValue279
  t127:=Tryz.underlying160
  a127:=Tryz.isAgg160
  z127:=Tryz.sizeOf160
  v127:=Tryz.zeroValue160
  t143:=Tryz.underlying379
  a143:=Tryz.isAgg379
  z143:=Tryz.sizeOf379
  v143:=Tryz.zeroValue379
  t145:=Tryz.underlying381
  a145:=Tryz.isAgg381
  z145:=Tryz.sizeOf381
  v145:=Tryz.zeroValue381
  t167:=Tryz.underlying334
  a167:=Tryz.isAgg334
  z167:=Tryz.sizeOf334
  v167:=Tryz.zeroValue334
  t168:=Tryz.underlying337
  a168:=Tryz.isAgg337
  z168:=Tryz.sizeOf337
  v168:=Tryz.zeroValue337
  t171:=Tryz.underlying326
  a171:=Tryz.isAgg326
  z171:=Tryz.sizeOf326
  v171:=Tryz.zeroValue326
  t173:=Tryz.underlying329
  a173:=Tryz.isAgg329
  z173:=Tryz.sizeOf329
  v173:=Tryz.zeroValue329
  t175:=Tryz.underlying335
  a175:=Tryz.isAgg335
  z175:=Tryz.sizeOf335
  v175:=Tryz.zeroValue335
  t210:=Tryz.underlying363
  a210:=Tryz.isAgg363
  z210:=Tryz.sizeOf363
  v210:=Tryz.zeroValue363
  t212:=Tryz.underlying355
  a212:=Tryz.isAgg355
  z212:=Tryz.sizeOf355
  v212:=Tryz.zeroValue355
  t213:=Tryz.underlying356
  a213:=Tryz.isAgg356
  z213:=Tryz.sizeOf356
  t232:=Tryz.underlying387
  a232:=Tryz.isAgg387
  z232:=Tryz.sizeOf387
  v232:=Tryz.zeroValue387
  t233:=Tryz.underlying388
  a233:=Tryz.isAgg388
  z233:=Tryz.sizeOf388
  v233:=Tryz.zeroValue388
  g15:=by kernel_rfl
  g16:=by kernel_rfl
  g17:=by kernel_rfl
  g18:=by kernel_rfl
  g19:=by kernel_rfl
  t80:=Tryz.underlying119
  a80:=Tryz.isAgg119
  z80:=Tryz.sizeOf119
  v80:=Tryz.zeroValue119
  i0:=by kernel_rfl
  i2:=by kernel_rfl
  i3:=by kernel_rfl
  i4:=by kernel_rfl
  i5:=by kernel_rfl
  i9:=by kernel_rfl
  i20:=by kernel_rfl
  i21:=by kernel_rfl
  i37:=by kernel_rfl
  i46:=by kernel_rfl
  i51:=by kernel_rfl
  i53:=by kernel_rfl
  i75:=by kernel_rfl
  i80:=by kernel_rfl
  i85:=by kernel_rfl
  i127:=by kernel_rfl
  i143:=by kernel_rfl
  i145:=by kernel_rfl
  i167:=by kernel_rfl
  i168:=by kernel_rfl
  i171:=by kernel_rfl
  i173:=by kernel_rfl
  i175:=by kernel_rfl
  i210:=by kernel_rfl
  i212:=by kernel_rfl
  i232:=by kernel_rfl
  i233:=by kernel_rfl
  m15:=by kernel_rfl
  m16:=by kernel_rfl
  m17:=by kernel_rfl
  m18:=by kernel_rfl
  m19:=by kernel_rfl
  c0:=by kernel_rfl
  c2:=by kernel_rfl
  c3:=by kernel_rfl
  c4:=by kernel_rfl
  c5:=by kernel_rfl
  c9:=by kernel_rfl
  c20:=by kernel_rfl
  c21:=by kernel_rfl
  c37:=by kernel_rfl
  c46:=by kernel_rfl
  c51:=by kernel_rfl
  c53:=by kernel_rfl
  c75:=by kernel_rfl
  c80:=by kernel_rfl
  c85:=by kernel_rfl
  c127:=by kernel_rfl
  c143:=by kernel_rfl
  c145:=by kernel_rfl
  c167:=by kernel_rfl
  c168:=by kernel_rfl
  c171:=by kernel_rfl
  c173:=by kernel_rfl
  c175:=by kernel_rfl
  c210:=by kernel_rfl
  c212:=by kernel_rfl
  c213:=by kernel_rfl
  c232:=by kernel_rfl
  c233:=by kernel_rfl }
open Go.RowKit in
theorem Tryz.strconv_ParseInt_10_at64_ok (s:ByteArray) (hmax:s.size<=9223372036854775806) (v:Int) (h:Lib.parseIntB 64 s.data.toList= .ok v) (w:World) :
    Calls Tryz.prog 230 #[.string s,.int .i64 10,.int .i64 64] w fun e w'=>e= .returned (.tuple #[.int .i64 v,.nilIface])/\(w'=w ∨ ∃ t,w'=Lib.bytesWorld w 5 t):=Any.strconv_ParseInt_10_at64_ok Tryz.laysC174 s hmax v h w
open Go.RowKit in
theorem Tryz.strconv_ParseInt_10_at64_range_var (s:ByteArray) (hlim:s.size<=281474976710656) (h:Lib.parseIntB 64 s.data.toList= .range) (tp:TypeId) (p:Value) (w:World) (hvar:w.var? Tryz.prog "strconv.ErrRange" = some #[.iface tp p]) :
    Calls Tryz.prog 230 #[.string s,.int .i64 10,.int .i64 64] w fun e w'=>∃ N,e= .returned (.tuple #[.int .i64 (Lib.intSat 64 s.data.toList),.iface 337 (.pointer (some ⟨N,0,none⟩))])/\w.heap.size<=N/\w'.heap[N]?=some (.cells #[.string ⟨#[80,97,114,115,101,73,110,116]⟩,.string s,.iface tp p] 363 (0,0))/\Below w.heap.size w w':=Any.strconv_ParseInt_10_at64_range_var Tryz.laysC174 s hlim h tp p w hvar
def Tryz.lays144_ren:Go.Shelf.Ren:=⟨fun|144=>228|143=>270|219=>305|217=>224|225=>338|224=>339|267=>340|266=>267|314=>363|n=>n,fun|9=>9|4=>4|3=>3|5=>5|46=>308|146=>377|51=>135|n=>n,fun|1=>0|n=>n⟩
theorem Tryz.lays144:Go.Proofs.Lays.n144 Tryz.prog Tryz.lays144_ren:={
  mixed:=by kernel_rfl
  f143:=Tryz.func270.trans (congrArg some (by kernel_rfl))
  f144:=Tryz.func228.trans (congrArg some (by kernel_rfl))
  f217:=Tryz.func224.trans (congrArg some (by kernel_rfl))
  f219:=Tryz.func305.trans (congrArg some (by kernel_rfl))
  f224:=Tryz.func339.trans (congrArg some (by kernel_rfl))
  f225:=Tryz.func338.trans (congrArg some (by kernel_rfl))
  f266:=Tryz.func267.trans (congrArg some (by kernel_rfl))
  f267:=Tryz.func340.trans (congrArg some (by kernel_rfl))
  f314:=Tryz.func363.trans (congrArg some (by kernel_rfl))
  t3:=Tryz.underlying3
  a3:=Tryz.isAgg3
  z3:=Tryz.sizeOf3
  v3:=Tryz.zeroValue3
  t4:=Tryz.underlying4
  a4:=Tryz.isAgg4
  z4:=Tryz.sizeOf4
  v4:=Tryz.zeroValue4
  t5:=Tryz.underlying5
  a5:=Tryz.isAgg5
  z5:=Tryz.sizeOf5
  v5:=Tryz.zeroValue5
  t9:=Tryz.underlying9
  a9:=Tryz.isAgg9
  z9:=Tryz.sizeOf9
  v9:=Tryz.zeroValue9
  t46:=Tryz.underlying308
  a46:=Tryz.isAgg308
  z46:=Tryz.sizeOf308
  v46:=Tryz.zeroValue308
  t51:=Tryz.underlying135
  a51:=Tryz.isAgg135
  z51:=Tryz.sizeOf135
  v51:=Tryz.zeroValue135
  t146:=Tryz.underlying377
  a146:=Tryz.isAgg377
  z146:=Tryz.sizeOf377
  v146:=Tryz.zeroValue377
  g1:=by kernel_rfl }
open Go.RowKit Go.Lib in
theorem Tryz.strings_Contains (s sub:ByteArray) (m:Int) (w:World) (hs:s.size<4294967281) (hm:w.cell? ⟨0,0,none⟩=some (.int .i64 m)) :
    Calls Tryz.prog 228 #[.string s,.string sub] w fun e w'=>e= .returned (.bool (Lib.contains s.data.toList sub.data.toList))/\w'=w:=Any.strings_Contains Tryz.lays144 s sub m w hs hm
def Tryz.lays99_ren:Go.Shelf.Ren:=⟨fun|99=>171|206=>225|n=>n,fun|9=>9|4=>4|3=>3|n=>n,fun|n=>n⟩
theorem Tryz.lays99:Go.Proofs.Lays.n99 Tryz.prog Tryz.lays99_ren:={
  mixed:=by kernel_rfl
  f99:=Tryz.func171.trans (congrArg some (by kernel_rfl))
  f206:=Tryz.func225.trans (congrArg some (by kernel_rfl))
  t3:=Tryz.underlying3
  a3:=Tryz.isAgg3
  z3:=Tryz.sizeOf3
  v3:=Tryz.zeroValue3
  t4:=Tryz.underlying4
  a4:=Tryz.isAgg4
  z4:=Tryz.sizeOf4
  v4:=Tryz.zeroValue4
  t9:=Tryz.underlying9
  a9:=Tryz.isAgg9
  z9:=Tryz.sizeOf9
  v9:=Tryz.zeroValue9 }
open Go.RowKit Go.Lib in
theorem Tryz.strings_HasPrefix (s p:ByteArray) (w:World) :
    Calls Tryz.prog 171 #[.string s,.string p] w fun e w'=>e= .returned (.bool (Lib.hasPrefix s.data.toList p.data.toList))/\w'=w:=Any.strings_HasPrefix Tryz.lays99 s p w
def Tryz.lays155_ren:Go.Shelf.Ren:=⟨fun|155=>222|154=>265|138=>296|165=>55|143=>270|166=>56|197=>285|169=>57|195=>263|218=>331|240=>103|241=>104|219=>305|260=>326|276=>168|277=>169|217=>224|225=>338|224=>339|267=>340|266=>267|314=>363|n=>n,fun|9=>9|3=>3|4=>4|72=>114|0=>0|76=>117|105=>316|21=>21|5=>5|70=>111|20=>20|37=>112|75=>116|127=>160|164=>224|46=>308|119=>349|139=>352|138=>351|146=>377|51=>135|80=>119|n=>n,fun|1=>0|3=>1|4=>2|n=>n⟩
theorem Tryz.lays155:Go.Proofs.Lays.n155 Tryz.prog Tryz.lays155_ren:={
  mixed:=by kernel_rfl
  f138:=Tryz.func296.trans (congrArg some (by kernel_rfl))
  f143:=Tryz.func270.trans (congrArg some (by kernel_rfl))
  f154:=Tryz.func265.trans (congrArg some (by kernel_rfl))
  f155:=Tryz.func222.trans (congrArg some (by kernel_rfl))
  f165:=Tryz.func55.trans (congrArg some (by kernel_rfl))
  f166:=Tryz.func56.trans (congrArg some (by kernel_rfl))
  f169:=Tryz.func57.trans (congrArg some (by kernel_rfl))
  f195:=Tryz.func263.trans (congrArg some (by kernel_rfl))
  f197:=Tryz.func285.trans (congrArg some (by kernel_rfl))
  f217:=Tryz.func224.trans (congrArg some (by kernel_rfl))
  f218:=Tryz.func331.trans (congrArg some (by kernel_rfl))
  f219:=Tryz.func305.trans (congrArg some (by kernel_rfl))
  f224:=Tryz.func339.trans (congrArg some (by kernel_rfl))
  f225:=Tryz.func338.trans (congrArg some (by kernel_rfl))
  f240:=Tryz.func103.trans (congrArg some (by kernel_rfl))
  f241:=Tryz.func104.trans (congrArg some (by kernel_rfl))
  f260:=Tryz.func326.trans (congrArg some (by kernel_rfl))
  f266:=Tryz.func267.trans (congrArg some (by kernel_rfl))
  f267:=Tryz.func340.trans (congrArg some (by kernel_rfl))
  f276:=Tryz.func168.trans (congrArg some (by kernel_rfl))
  f277:=Tryz.func169.trans (congrArg some (by kernel_rfl))
  f314:=Tryz.func363.trans (congrArg some (by kernel_rfl))
  t0:=Tryz.underlying0
  a0:=Tryz.isAgg0
  z0:=Tryz.sizeOf0
  v0:=Tryz.zeroValue0
  t3:=Tryz.underlying3
  a3:=Tryz.isAgg3
  z3:=Tryz.sizeOf3
  v3:=Tryz.zeroValue3
  t4:=Tryz.underlying4
  a4:=Tryz.isAgg4
  z4:=Tryz.sizeOf4
  v4:=Tryz.zeroValue4
  t5:=Tryz.underlying5
  a5:=Tryz.isAgg5
  z5:=Tryz.sizeOf5
  v5:=Tryz.zeroValue5
  t9:=Tryz.underlying9
  a9:=Tryz.isAgg9
  z9:=Tryz.sizeOf9
  v9:=Tryz.zeroValue9
  t20:=Tryz.underlying20
  a20:=Tryz.isAgg20
  z20:=Tryz.sizeOf20
  v20:=Tryz.zeroValue20
  t21:=Tryz.underlying21
  a21:=Tryz.isAgg21
  z21:=Tryz.sizeOf21
  v21:=Tryz.zeroValue21
  t37:=Tryz.underlying112
  a37:=Tryz.isAgg112
  z37:=Tryz.sizeOf112
  v37:=Tryz.zeroValue112
  t46:=Tryz.underlying308
  a46:=Tryz.isAgg308
  z46:=Tryz.sizeOf308
  v46:=Tryz.zeroValue308
  t51:=Tryz.underlying135
  a51:=Tryz.isAgg135
  z51:=Tryz.sizeOf135
  v51:=Tryz.zeroValue135
  t70:=Tryz.underlying111
  a70:=Tryz.isAgg111
  z70:=Tryz.sizeOf111
  v70:=Tryz.zeroValue111
  t72:=Tryz.underlying114
  a72:=Tryz.isAgg114
  z72:=Tryz.sizeOf114
  v72:=Tryz.zeroValue114
  t75:=Tryz.underlying116
  a75:=Tryz.isAgg116
  z75:=Tryz.sizeOf116
  v75:=Tryz.zeroValue116
  t76:=Tryz.underlying117
  a76:=Tryz.isAgg117
  z76:=Tryz.sizeOf117
  v76:=Tryz.zeroValue117
  t105:=Tryz.underlying316
  a105:=Tryz.isAgg316
  z105:=Tryz.sizeOf316
  v105:=Tryz.zeroValue316
  t119:=Tryz.underlying349
  a119:=Tryz.isAgg349
  z119:=Tryz.sizeOf349
  t127:=Tryz.underlying160
  a127:=Tryz.isAgg160
  z127:=Tryz.sizeOf160
  v127:=Tryz.zeroValue160
  t138:=Tryz.underlying351
  a138:=Tryz.isAgg351
  z138:=Tryz.sizeOf351
  v138:=Tryz.zeroValue351
  t139:=Tryz.underlying352
  a139:=Tryz.isAgg352
  z139:=Tryz.sizeOf352
  v139:=Tryz.zeroValue352
  t146:=Tryz.underlying377
  a146:=Tryz.isAgg377
  z146:=Tryz.sizeOf377
  v146:=Tryz.zeroValue377
  t164:=Tryz.underlying224
  a164:=Tryz.isAgg224
  z164:=Tryz.sizeOf224
  v164:=Tryz.zeroValue224
  g1:=by kernel_rfl
  g3:=by kernel_rfl
  g4:=by kernel_rfl }
theorem Tryz.Builder_Extra_155:Builder.Extra Tryz.prog Tryz.lays155_ren:={
  sizeBuilder:=by kernel_rfl
  liesBuilder:=by kernel_rfl
  t5:=Tryz.underlying5
  a5:=Tryz.isAgg5
  z5:=Tryz.sizeOf5
  v5:=Tryz.zeroValue5
  infoByte:=by kernel_rfl
  cellsByte:=by kernel_rfl
  sizeByte:=by kernel_rfl
  neB5:=by decide }
open Go.RowKit Go.Lib in
theorem Tryz.strings_ReplaceAll (s old new:ByteArray) (m:Int) (w:World) (hs:s.size<4294967281) (hm:w.cell? ⟨0,0,none⟩=some (.int .i64 m)) (h1:1<=old.size) (hlen:s.size+Lib.countB s old * new.size<=140737488355328) :
    Calls Tryz.prog 222 #[.string s,.string old,.string new] w fun e w' =>
      e= .returned (.string ⟨(Lib.replaceAll s.data.toList old.data.toList new.data.toList).toArray⟩)/\Below w.heap.size w w':=Any.strings_ReplaceAll Tryz.lays155 Tryz.Builder_Extra_155 s old new m w hs hm h1 hlen
def Tryz.lays197_ren:Go.Shelf.Ren:=⟨fun|197=>285|260=>326|n=>n,fun|9=>9|21=>21|3=>3|4=>4|5=>5|105=>316|119=>349|0=>0|46=>308|139=>352|138=>351|n=>n,fun|3=>1|4=>2|n=>n⟩
end Go.Proofs
