/-
  DERIVED:THE SHELF's CONTRACTS AT THIS DUMP,IN PLAIN WORDS (tools/lay-plain.mjs out of 'YtebhipeeogoagaaGreatDoorShelf.lean',which tools/lay-shelf.mjs wrote):THE SAME DECLARATIONS UNDER THE SAME NAMES:'import','namespace','open','def','theorem' AND NOTHING ELSE:no command of the shelf's:FOR A HAND-IN. Each laying:the table of numbers ('.._ren') and one theorem,a field a fact of the dump's own or the kernel's comparison;each contract:ONE APPLICATION.
-/
import Derived.Shelf.Strings.Builder1
import Derived.Shelf.Strings.Builder2
import Derived.Shelf.Strings.OnBuilder
import Derived.Shelf.Strings.SlTrimAscii
import Derived.Shelf.Small.Utf8
import Derived.Shelf.Small.Bits
import Derived.Shelf.Small.Strs
import Derived.Shelf.Small.Wraps
import Derived.Shelf.Strings.BuilderF
import Derived.Shelf.Strings.BuilderK
import Derived.Shelf.Strings.BuilderRune
import Derived.Shelf.Utf8.AppendRune
import Derived.Shelf.Utf8.AppendRunePlain
import Derived.Shelf.Utf8.RuneCount
import Derived.Shelf.Strings.Builder2Cap
import Derived.Shelf.Strconv.Itoa0
import Derived.Shelf.Strings.Search1
import Derived.Shelf.Strings.Search2
import Derived.Shelf.Strings.Search3
import Derived.Shelf.Strings.Count
import Derived.Shelf.LaysM
import Derived.Shelf.Strings.Shaped
import Derived.Shelf.Strings.Prefix
import Derived.Shelf.Strings.Split
import Derived.Shelf.Strings.Replace
import Derived.Shelf.Strings.Fold
import Derived.Shelf.Strings.SplitShaped
import Derived.Shelf.Unicode.Latin
import Derived.Shelf.Unicode.Decode
import Derived.Shelf.Strings.Runes
import Derived.Shelf.Strings.RuneCount
import Derived.Shelf.Strings.AsciiSet
import Derived.Shelf.Strings.Explode
import Derived.Shelf.Unicode.DecodeSlow
import Derived.Shelf.Unicode.DecodeAny
import Derived.Shelf.Unicode.DecodeLast
import Derived.Shelf.Unicode.CaseLookup
import Derived.Shelf.Unicode.CaseConvert
import Derived.Shelf.Unicode.CaseTo
import Derived.Shelf.Unicode.CaseLaid
import Derived.Shelf.Strings.MapAny
import Derived.Shelf.Strings.CaseAny
import Derived.Shelf.Strings.BuilderCap
import Derived.Shelf.Slices.Turned
import Derived.Shelf.Slices.Equal
import Derived.Ground.Names2Prog
import Derived.Shelf.Slices.Clone
import Derived.Shelf.Bytes.SlIndexSmall
import Derived.Shelf.Bytes.SlIndexAt
import Derived.Shelf.Slices.Empties2
import Derived.Shelf.Bytes.SlSearch0
import Derived.Shelf.Bytes.SlSearch1
import Derived.Ground.SlbCloneProg
import Derived.Shelf.Bytes.SlClone
import Derived.Ground.SlgnProg
import Derived.Shelf.SlicesE.Equal
import Derived.Shelf.SlicesE.Clone
import Derived.Shelf.Bytes.SlSmallAll
import Derived.Shelf.Bytes.SlEqualAll
import Derived.Shelf.Bytes.Small
import Derived.Shelf.Bytes.IndexByte
import Derived.Test.YtebhipeeogoagaaGreatDoorProg
namespace Go.Proofs
open Go.Shelf
def Tryz.lays159_ren:Go.Shelf.Ren:=⟨fun | 159=>41 | 165=>73 | 166=>74 | 167=>75 | 169=>63 | 230=>76 | 204=>77 | 240=>116 | 241=>117 | 197=>118 | 118=>119 | 168=>120 | 270=>121 | 262=>122 | 276=>160 | 277=>161 | 260=>162 | 242=>163 | 313=>164 | 278=>201 | 274=>202 | 275=>203 | n=>n,fun | 9=>9 | 4=>4 | 3=>3 | 5=>5 | 72=>128 | 0=>0 | 76=>140 | 75=>30 | 107=>144 | 70=>126 | 20=>20 | 37=>44 | 127=>179 | 21=>21 | 105=>171 | 164=>100 | 162=>228 | 203=>226 | 119=>185 | 46=>154 | 139=>188 | 138=>187 | 51=>210 | 160=>254 | 208=>274 | 206=>272 | 80=>132 | n=>n,fun | 13=>4 | 3=>1 | 4=>2 | n=>n⟩
theorem Tryz.lays159:Go.Proofs.Lays.n159 Tryz.prog Tryz.lays159_ren:={
  mixed:=by kernel_rfl
  f118:=Tryz.func119.trans (congrArg some (by kernel_rfl))
  f159:=Tryz.func41.trans (congrArg some (by kernel_rfl))
  f165:=Tryz.func73.trans (congrArg some (by kernel_rfl))
  f166:=Tryz.func74.trans (congrArg some (by kernel_rfl))
  f167:=Tryz.func75.trans (congrArg some (by kernel_rfl))
  f168:=Tryz.func120.trans (congrArg some (by kernel_rfl))
  f169:=Tryz.func63.trans (congrArg some (by kernel_rfl))
  f197:=Tryz.func118.trans (congrArg some (by kernel_rfl))
  f204:=Tryz.func77.trans (congrArg some (by kernel_rfl))
  f230:=Tryz.func76.trans (congrArg some (by kernel_rfl))
  f240:=Tryz.func116.trans (congrArg some (by kernel_rfl))
  f241:=Tryz.func117.trans (congrArg some (by kernel_rfl))
  f242:=Tryz.func163.trans (congrArg some (by kernel_rfl))
  f260:=Tryz.func162.trans (congrArg some (by kernel_rfl))
  f262:=Tryz.func122.trans (congrArg some (by kernel_rfl))
  f270:=Tryz.func121.trans (congrArg some (by kernel_rfl))
  f274:=Tryz.func202.trans (congrArg some (by kernel_rfl))
  f275:=Tryz.func203.trans (congrArg some (by kernel_rfl))
  f276:=Tryz.func160.trans (congrArg some (by kernel_rfl))
  f277:=Tryz.func161.trans (congrArg some (by kernel_rfl))
  f278:=Tryz.func201.trans (congrArg some (by kernel_rfl))
  f313:=Tryz.func164.trans (congrArg some (by kernel_rfl))
  t0:=Tryz.underlying0
  a0:=Tryz.isAgg0
  z0:=Tryz.sizeOf0
  v0:=Tryz.zeroValue0
  t3:=Tryz.underlying3
  a3:=Tryz.isAgg3
  z3:=Tryz.sizeOf3
  v3:=Tryz.zeroValue3
  t4:=Tryz.underlying4
  a4:=Tryz.isAgg4
  z4:=Tryz.sizeOf4
  v4:=Tryz.zeroValue4
  t5:=Tryz.underlying5
  a5:=Tryz.isAgg5
  z5:=Tryz.sizeOf5
  v5:=Tryz.zeroValue5
  t9:=Tryz.underlying9
  a9:=Tryz.isAgg9
  z9:=Tryz.sizeOf9
  v9:=Tryz.zeroValue9
  t20:=Tryz.underlying20
  a20:=Tryz.isAgg20
  z20:=Tryz.sizeOf20
  v20:=Tryz.zeroValue20
  t21:=Tryz.underlying21
  a21:=Tryz.isAgg21
  z21:=Tryz.sizeOf21
  v21:=Tryz.zeroValue21
  t37:=Tryz.underlying44
  a37:=Tryz.isAgg44
  z37:=Tryz.sizeOf44
  v37:=Tryz.zeroValue44
  t46:=Tryz.underlying154
  a46:=Tryz.isAgg154
  z46:=Tryz.sizeOf154
  v46:=Tryz.zeroValue154
  t51:=Tryz.underlying210
  a51:=Tryz.isAgg210
  z51:=Tryz.sizeOf210
  v51:=Tryz.zeroValue210
  t70:=Tryz.underlying126
  a70:=Tryz.isAgg126
  z70:=Tryz.sizeOf126
  v70:=Tryz.zeroValue126
  t72:=Tryz.underlying128
  a72:=Tryz.isAgg128
  z72:=Tryz.sizeOf128
  v72:=Tryz.zeroValue128
  t75:=Tryz.underlying30
  a75:=Tryz.isAgg30
  z75:=Tryz.sizeOf30
  v75:=Tryz.zeroValue30
  t76:=Tryz.underlying140
  a76:=Tryz.isAgg140
  z76:=Tryz.sizeOf140
  v76:=Tryz.zeroValue140
  t105:=Tryz.underlying171
  a105:=Tryz.isAgg171
  z105:=Tryz.sizeOf171
  v105:=Tryz.zeroValue171
  t107:=Tryz.underlying144
  a107:=Tryz.isAgg144
  z107:=Tryz.sizeOf144
  v107:=Tryz.zeroValue144
  t119:=Tryz.underlying185
  a119:=Tryz.isAgg185
  z119:=Tryz.sizeOf185
  t127:=Tryz.underlying179
  a127:=Tryz.isAgg179
  z127:=Tryz.sizeOf179
  v127:=Tryz.zeroValue179
  t138:=Tryz.underlying187
  a138:=Tryz.isAgg187
  z138:=Tryz.sizeOf187
  v138:=Tryz.zeroValue187
  t139:=Tryz.underlying188
  a139:=Tryz.isAgg188
  z139:=Tryz.sizeOf188
  v139:=Tryz.zeroValue188
  t160:=Tryz.underlying254
  a160:=Tryz.isAgg254
  z160:=Tryz.sizeOf254
  v160:=Tryz.zeroValue254
  t162:=Tryz.underlying228
  a162:=Tryz.isAgg228
  z162:=Tryz.sizeOf228
  v162:=Tryz.zeroValue228
  t164:=Tryz.underlying100
  a164:=Tryz.isAgg100
  z164:=Tryz.sizeOf100
  v164:=Tryz.zeroValue100
  t203:=Tryz.underlying226
  a203:=Tryz.isAgg226
  z203:=Tryz.sizeOf226
  v203:=Tryz.zeroValue226
  t206:=Tryz.underlying272
  a206:=Tryz.isAgg272
  z206:=Tryz.sizeOf272
  v206:=Tryz.zeroValue272
  t208:=Tryz.underlying274
  a208:=Tryz.isAgg274
  z208:=Tryz.sizeOf274
  v208:=Tryz.zeroValue274
  g3:=by kernel_rfl
  g4:=by kernel_rfl
  g13:=by kernel_rfl}
theorem Tryz.Builder_Extra_159:Builder.Extra Tryz.prog Tryz.lays159_ren:={
  sizeBuilder:=by kernel_rfl
  liesBuilder:=by kernel_rfl
  t5:=Tryz.underlying5
  a5:=Tryz.isAgg5
  z5:=Tryz.sizeOf5
  v5:=Tryz.zeroValue5
  infoByte:=by kernel_rfl
  cellsByte:=by kernel_rfl
  sizeByte:=by kernel_rfl
  neB5:=by decide}
def Tryz.lays106_ren:Go.Shelf.Ren:=⟨fun | 106=>81 | 213=>124 | 265=>167 | n=>n,fun | 9=>9 | 3=>3 | n=>n,fun | n=>n⟩
theorem Tryz.lays106:Go.Proofs.Lays.n106 Tryz.prog Tryz.lays106_ren:={
  mixed:=by kernel_rfl
  f106:=Tryz.func81.trans (congrArg some (by kernel_rfl))
  f213:=Tryz.func124.trans (congrArg some (by kernel_rfl))
  f265:=Tryz.func167.trans (congrArg some (by kernel_rfl))
  t3:=Tryz.underlying3
  a3:=Tryz.isAgg3
  z3:=Tryz.sizeOf3
  v3:=Tryz.zeroValue3
  t9:=Tryz.underlying9
  a9:=Tryz.isAgg9
  z9:=Tryz.sizeOf9
  v9:=Tryz.zeroValue9}
open Go.RowKit in
theorem Tryz.strings_Compare (a b:ByteArray) (w:World):
    Calls Tryz.prog 81 #[.string a,.string b] w fun e w'=>e= .returned (.int .i64 (Lib.compareBytes a.data.toList b.data.toList))∧w'=w:=Any.strings_Compare Tryz.lays106 a b w
def Tryz.lays137_ren:Go.Shelf.Ren:=⟨fun | 137=>70 | 217=>114 | 266=>156 | n=>n,fun | 9=>9 | 5=>5 | 3=>3 | n=>n,fun | n=>n⟩
theorem Tryz.lays137:Go.Proofs.Lays.n137 Tryz.prog Tryz.lays137_ren:={
  mixed:=by kernel_rfl
  f137:=Tryz.func70.trans (congrArg some (by kernel_rfl))
  f217:=Tryz.func114.trans (congrArg some (by kernel_rfl))
  f266:=Tryz.func156.trans (congrArg some (by kernel_rfl))
  t3:=Tryz.underlying3
  a3:=Tryz.isAgg3
  z3:=Tryz.sizeOf3
  v3:=Tryz.zeroValue3
  t5:=Tryz.underlying5
  a5:=Tryz.isAgg5
  z5:=Tryz.sizeOf5
  v5:=Tryz.zeroValue5
  t9:=Tryz.underlying9
  a9:=Tryz.isAgg9
  z9:=Tryz.sizeOf9
  v9:=Tryz.zeroValue9}
open Go.RowKit in
theorem Tryz.strings_IndexByte (s:ByteArray) (c:Int) (w:World):
    Calls Tryz.prog 70 #[.string s,.int .u8 c] w fun e w'=>e= .returned (.int .i64 (Lib.indexByte s.data.toList c.toNat.toUInt8))∧w'=w:=Any.strings_IndexByte Tryz.lays137 s c w
def Tryz.lays103_ren:Go.Shelf.Ren:=⟨fun | 103=>208 | 210=>227 | 206=>199 | n=>n,fun | 9=>9 | 4=>4 | 24=>238 | 3=>3 | n=>n,fun | n=>n⟩
theorem Tryz.lays103:Go.Proofs.Lays.n103 Tryz.prog Tryz.lays103_ren:={
  mixed:=by kernel_rfl
  f103:=Tryz.func208.trans (congrArg some (by kernel_rfl))
  f206:=Tryz.func199.trans (congrArg some (by kernel_rfl))
  f210:=Tryz.func227.trans (congrArg some (by kernel_rfl))
  t3:=Tryz.underlying3
  a3:=Tryz.isAgg3
  z3:=Tryz.sizeOf3
  v3:=Tryz.zeroValue3
  t4:=Tryz.underlying4
  a4:=Tryz.isAgg4
  z4:=Tryz.sizeOf4
  v4:=Tryz.zeroValue4
  t9:=Tryz.underlying9
  a9:=Tryz.isAgg9
  z9:=Tryz.sizeOf9
  v9:=Tryz.zeroValue9
  t24:=Tryz.underlying238
  a24:=Tryz.isAgg238
  z24:=Tryz.sizeOf238
  v24:=Tryz.zeroValue238}
open Go.RowKit in
theorem Tryz.strings_CutPrefix (s p:ByteArray) (w:World):
    Calls Tryz.prog 208 #[.string s,.string p] w fun e w'=>e= .returned (.tuple #[.string ⟨(Lib.trimPrefix s.data.toList p.data.toList).toArray⟩,.bool (Lib.hasPrefix s.data.toList p.data.toList)])∧w'=w:=Any.strings_CutPrefix Tryz.lays103 s p w
def Tryz.laysM144_ren:Go.Shelf.Ren:=⟨fun | 144=>38 | 143=>71 | 219=>115 | 217=>114 | 225=>157 | 224=>158 | 267=>159 | 266=>156 | 314=>200 | n=>n,fun | 9=>9 | 4=>4 | 3=>3 | 5=>5 | 46=>154 | 146=>252 | 51=>210 | n=>n,fun | 1=>3 | n=>n⟩
theorem Tryz.laysM144:Go.Proofs.LaysM.n144 Tryz.prog Tryz.laysM144_ren:={
  mixed:=by kernel_rfl
  f143:=Tryz.func71.trans (congrArg some (by kernel_rfl))
  f144:=Tryz.func38.trans (congrArg some (by kernel_rfl))
  f217:=Tryz.func114.trans (congrArg some (by kernel_rfl))
  f219:=Tryz.func115.trans (congrArg some (by kernel_rfl))
  f224:=Tryz.func158.trans (congrArg some (by kernel_rfl))
  f225:=Tryz.func157.trans (congrArg some (by kernel_rfl))
  f266:=Tryz.func156.trans (congrArg some (by kernel_rfl))
  f267:=Tryz.func159.trans (congrArg some (by kernel_rfl))
  f314:=Tryz.func200.trans (congrArg some (by kernel_rfl))
  t3:=Tryz.underlying3
  a3:=Tryz.isAgg3
  z3:=Tryz.sizeOf3
  v3:=Tryz.zeroValue3
  t4:=Tryz.underlying4
  a4:=Tryz.isAgg4
  z4:=Tryz.sizeOf4
  v4:=Tryz.zeroValue4
  t5:=Tryz.underlying5
  a5:=Tryz.isAgg5
  z5:=Tryz.sizeOf5
  v5:=Tryz.zeroValue5
  t9:=Tryz.underlying9
  a9:=Tryz.isAgg9
  z9:=Tryz.sizeOf9
  v9:=Tryz.zeroValue9
  t46:=Tryz.underlying154
  a46:=Tryz.isAgg154
  z46:=Tryz.sizeOf154
  v46:=Tryz.zeroValue154
  t51:=Tryz.underlying210
  a51:=Tryz.isAgg210
  z51:=Tryz.sizeOf210
  v51:=Tryz.zeroValue210
  t146:=Tryz.underlying252
  a146:=Tryz.isAgg252
  z146:=Tryz.sizeOf252
  v146:=Tryz.zeroValue252
  g1:=by kernel_rfl
  i3:=by kernel_rfl
  i4:=by kernel_rfl
  i5:=by kernel_rfl
  i9:=by kernel_rfl
  i46:=by kernel_rfl
  i51:=by kernel_rfl
  i146:=by kernel_rfl
  m1:=by kernel_rfl
  s1_3:=fun w h=>Go.Proofs.cell_of_shapedOpen_int (zero:= #[.int .i64 0]) (t:=3) h (of_decide_eq_true (by kernel_rfl)) (by kernel_rfl) rfl (by kernel_rfl) (by kernel_rfl) Tryz.underlying3}
open Go.RowKit Go.Lib in
theorem Tryz.strings_Contains_shaped (s sub:ByteArray) (w:World) (h:w.ShapedOpen Tryz.prog) (hs:s.size< 4294967281):
    Calls Tryz.prog 38 #[.string s,.string sub] w fun e w'=>e= .returned (.bool (Lib.contains s.data.toList sub.data.toList))∧w'=w:=Any.strings_Contains_shaped Tryz.laysM144 s sub w h hs
def Tryz.lays100_ren:Go.Shelf.Ren:=⟨fun | 100=>39 | 207=>72 | n=>n,fun | 9=>9 | 4=>4 | 3=>3 | n=>n,fun | n=>n⟩
theorem Tryz.lays100:Go.Proofs.Lays.n100 Tryz.prog Tryz.lays100_ren:={
  mixed:=by kernel_rfl
  f100:=Tryz.func39.trans (congrArg some (by kernel_rfl))
  f207:=Tryz.func72.trans (congrArg some (by kernel_rfl))
  t3:=Tryz.underlying3
  a3:=Tryz.isAgg3
  z3:=Tryz.sizeOf3
  v3:=Tryz.zeroValue3
  t4:=Tryz.underlying4
  a4:=Tryz.isAgg4
  z4:=Tryz.sizeOf4
  v4:=Tryz.zeroValue4
  t9:=Tryz.underlying9
  a9:=Tryz.isAgg9
  z9:=Tryz.sizeOf9
  v9:=Tryz.zeroValue9}
open Go.RowKit Go.Lib in
theorem Tryz.strings_HasSuffix (s p:ByteArray) (w:World) (hs:s.size≤9223372036854775807):
    Calls Tryz.prog 39 #[.string s,.string p] w fun e w'=>e= .returned (.bool (Lib.hasSuffix s.data.toList p.data.toList))∧w'=w:=Any.strings_HasSuffix Tryz.lays100 s p w hs
def Tryz.lays101_ren:Go.Shelf.Ren:=⟨fun | 101=>107 | 208=>154 | 206=>199 | n=>n,fun | 9=>9 | 4=>4 | 3=>3 | n=>n,fun | n=>n⟩
theorem Tryz.lays101:Go.Proofs.Lays.n101 Tryz.prog Tryz.lays101_ren:={
  mixed:=by kernel_rfl
  f101:=Tryz.func107.trans (congrArg some (by kernel_rfl))
  f206:=Tryz.func199.trans (congrArg some (by kernel_rfl))
  f208:=Tryz.func154.trans (congrArg some (by kernel_rfl))
  t3:=Tryz.underlying3
  a3:=Tryz.isAgg3
  z3:=Tryz.sizeOf3
  v3:=Tryz.zeroValue3
  t4:=Tryz.underlying4
  a4:=Tryz.isAgg4
  z4:=Tryz.sizeOf4
  v4:=Tryz.zeroValue4
  t9:=Tryz.underlying9
  a9:=Tryz.isAgg9
  z9:=Tryz.sizeOf9
  v9:=Tryz.zeroValue9}
open Go.RowKit Go.Lib in
theorem Tryz.strings_TrimPrefix (s p:ByteArray) (w:World):
    Calls Tryz.prog 107 #[.string s,.string p] w fun e w'=>e= .returned (.string ⟨(Lib.trimPrefix s.data.toList p.data.toList).toArray⟩)∧w'=w:=Any.strings_TrimPrefix Tryz.lays101 s p w
def Tryz.laysM146_ren:Go.Shelf.Ren:=⟨fun | 146=>106 | 221=>153 | 268=>197 | 138=>198 | 143=>71 | 195=>222 | 197=>118 | 218=>223 | 219=>115 | 260=>162 | 217=>114 | 225=>157 | 224=>158 | 267=>159 | 266=>156 | 314=>200 | n=>n,fun | 9=>9 | 31=>36 | 3=>3 | 4=>4 | 0=>0 | 105=>171 | 21=>21 | 5=>5 | 46=>154 | 119=>185 | 139=>188 | 138=>187 | 146=>252 | 51=>210 | n=>n,fun | 1=>3 | 3=>1 | 4=>2 | n=>n⟩
theorem Tryz.laysM146:Go.Proofs.LaysM.n146 Tryz.prog Tryz.laysM146_ren:={
  mixed:=by kernel_rfl
  f138:=Tryz.func198.trans (congrArg some (by kernel_rfl))
  f143:=Tryz.func71.trans (congrArg some (by kernel_rfl))
  f146:=Tryz.func106.trans (congrArg some (by kernel_rfl))
  f195:=Tryz.func222.trans (congrArg some (by kernel_rfl))
  f197:=Tryz.func118.trans (congrArg some (by kernel_rfl))
  f217:=Tryz.func114.trans (congrArg some (by kernel_rfl))
  f218:=Tryz.func223.trans (congrArg some (by kernel_rfl))
  f219:=Tryz.func115.trans (congrArg some (by kernel_rfl))
  f221:=Tryz.func153.trans (congrArg some (by kernel_rfl))
  f224:=Tryz.func158.trans (congrArg some (by kernel_rfl))
  f225:=Tryz.func157.trans (congrArg some (by kernel_rfl))
  f260:=Tryz.func162.trans (congrArg some (by kernel_rfl))
  f266:=Tryz.func156.trans (congrArg some (by kernel_rfl))
  f267:=Tryz.func159.trans (congrArg some (by kernel_rfl))
  f268:=Tryz.func197.trans (congrArg some (by kernel_rfl))
  f314:=Tryz.func200.trans (congrArg some (by kernel_rfl))
  t0:=Tryz.underlying0
  a0:=Tryz.isAgg0
  z0:=Tryz.sizeOf0
  v0:=Tryz.zeroValue0
  t3:=Tryz.underlying3
  a3:=Tryz.isAgg3
  z3:=Tryz.sizeOf3
  v3:=Tryz.zeroValue3
  t4:=Tryz.underlying4
  a4:=Tryz.isAgg4
  z4:=Tryz.sizeOf4
  v4:=Tryz.zeroValue4
  t5:=Tryz.underlying5
  a5:=Tryz.isAgg5
  z5:=Tryz.sizeOf5
  v5:=Tryz.zeroValue5
  t9:=Tryz.underlying9
  a9:=Tryz.isAgg9
  z9:=Tryz.sizeOf9
  v9:=Tryz.zeroValue9
  t21:=Tryz.underlying21
  a21:=Tryz.isAgg21
  z21:=Tryz.sizeOf21
  v21:=Tryz.zeroValue21
  t31:=Tryz.underlying36
  a31:=Tryz.isAgg36
  z31:=Tryz.sizeOf36
  v31:=Tryz.zeroValue36
  t46:=Tryz.underlying154
  a46:=Tryz.isAgg154
  z46:=Tryz.sizeOf154
  v46:=Tryz.zeroValue154
  t51:=Tryz.underlying210
  a51:=Tryz.isAgg210
  z51:=Tryz.sizeOf210
  v51:=Tryz.zeroValue210
  t105:=Tryz.underlying171
  a105:=Tryz.isAgg171
  z105:=Tryz.sizeOf171
  v105:=Tryz.zeroValue171
  t119:=Tryz.underlying185
  a119:=Tryz.isAgg185
  z119:=Tryz.sizeOf185
  t138:=Tryz.underlying187
  a138:=Tryz.isAgg187
  z138:=Tryz.sizeOf187
  v138:=Tryz.zeroValue187
  t139:=Tryz.underlying188
  a139:=Tryz.isAgg188
  z139:=Tryz.sizeOf188
  v139:=Tryz.zeroValue188
  t146:=Tryz.underlying252
  a146:=Tryz.isAgg252
  z146:=Tryz.sizeOf252
  v146:=Tryz.zeroValue252
  g1:=by kernel_rfl
  g3:=by kernel_rfl
  g4:=by kernel_rfl
  i0:=by kernel_rfl
  i3:=by kernel_rfl
  i4:=by kernel_rfl
  i5:=by kernel_rfl
  i9:=by kernel_rfl
  i21:=by kernel_rfl
  i31:=by kernel_rfl
  i46:=by kernel_rfl
  i51:=by kernel_rfl
  i105:=by kernel_rfl
  i138:=by kernel_rfl
  i139:=by kernel_rfl
  i146:=by kernel_rfl
  m1:=by kernel_rfl
  s1_3:=fun w h=>Go.Proofs.cell_of_shapedOpen_int (zero:= #[.int .i64 0]) (t:=3) h (of_decide_eq_true (by kernel_rfl)) (by kernel_rfl) rfl (by kernel_rfl) (by kernel_rfl) Tryz.underlying3
  m3:=by kernel_rfl
  m4:=by kernel_rfl}
open Go.RowKit Go.Lib in
theorem Tryz.strings_Split_shaped (s sep:ByteArray) (w:World) (h:w.ShapedOpen Tryz.prog) (hs:s.size< 4294967281) (h1:1≤sep.size):
    Calls Tryz.prog 106 #[.string s,.string sep] w fun e w'=>
      e= .returned (.slice (some ⟨w.heap.size,0,none⟩) (Lib.countB s sep+1) (Lib.countB s sep+1))∧w'=w.alloc (.cells ((Lib.splitB sep 0 (Lib.countB s sep) s).map Value.string).toArray 9):=Any.strings_Split_shaped Tryz.laysM146 s sep w h hs h1
open Go.RowKit Go.Lib in
theorem Tryz.strings_ToLower_any (s:ByteArray) (w:World) (hs:s.size< 35184372088832) (hV:CaseVar 4 caseA w) (hT:Lib.Utf8Tabs 1 2 w):
    Calls Tryz.prog 41 #[.string s] w fun e w'=>e= .returned (.string ⟨(Lib.toLowerD s.data.toList).toArray⟩)∧Below w.heap.size w w':=Any.strings_ToLower_any Tryz.lays159 Tryz.Builder_Extra_159 s w hs hV hT
def Tryz.lays110_ren:Go.Shelf.Ren:=⟨fun | 110=>105 | 109=>152 | n=>n,fun | 31=>36 | 9=>9 | 4=>4 | 3=>3 | 0=>0 | n=>n,fun | n=>n⟩
theorem Tryz.lays110:Go.Proofs.Lays.n110 Tryz.prog Tryz.lays110_ren:={
  mixed:=by kernel_rfl
  f109:=Tryz.func152.trans (congrArg some (by kernel_rfl))
  f110:=Tryz.func105.trans (congrArg some (by kernel_rfl))
  t0:=Tryz.underlying0
  a0:=Tryz.isAgg0
  z0:=Tryz.sizeOf0
  v0:=Tryz.zeroValue0
  t3:=Tryz.underlying3
  a3:=Tryz.isAgg3
  z3:=Tryz.sizeOf3
  v3:=Tryz.zeroValue3
  t4:=Tryz.underlying4
  a4:=Tryz.isAgg4
  z4:=Tryz.sizeOf4
  v4:=Tryz.zeroValue4
  t9:=Tryz.underlying9
  a9:=Tryz.isAgg9
  z9:=Tryz.sizeOf9
  v9:=Tryz.zeroValue9
  t31:=Tryz.underlying36
  a31:=Tryz.isAgg36
  z31:=Tryz.sizeOf36
  v31:=Tryz.zeroValue36}
open Go.Lib in
theorem Tryz.slices_Contains_string (b off n c:Nat) (zs:List ByteArray) (x:ByteArray) (w:World) (hz:n≤zs.length) (hbig:n≤9223372036854775807) (hc:∀j,j< zs.length→w.cell? ⟨b,off+j,none⟩=some (.string (zs.getD j ByteArray.empty))):
    Calls Tryz.prog 105 #[.slice (some ⟨b,off,none⟩) n c,.string x] w fun e w'=>e= .returned (.bool (Lib.containsS (zs.take n) x))∧w'=w:=Any.slices_Contains_string Tryz.lays110 b off n c zs x w hz hbig hc
open Go.Lib in
theorem Tryz.slices_Contains_string_empty (a:Option Addr) (c:Nat) (x:ByteArray) (w:World):
    Calls Tryz.prog 105 #[.slice a 0 c,.string x] w fun e w'=>e= .returned (.bool false)∧w'=w:=Any.slices_Contains_string_empty Tryz.lays110 a c x w
end Go.Proofs
