/-
  DERIVED:THE SHELF's CONTRACTS AT THIS DUMP,IN PLAIN WORDS (tools/lay-plain.mjs out of 'YtcfibjiikhnfhaaGreatDoorShelf.lean',which tools/lay-shelf.mjs wrote):THE SAME DECLARATIONS UNDER THE SAME NAMES:'import','namespace','open','def','theorem' AND NOTHING ELSE:no command of the shelf's:FOR A HAND-IN. Each laying:the table of numbers ('.._ren') and one theorem,a field a fact of the dump's own or the kernel's comparison;each contract:ONE APPLICATION.
-/
import Derived.Shelf.Strings.Builder1
import Derived.Shelf.Strings.Builder2
import Derived.Shelf.Strings.OnBuilder
import Derived.Shelf.Strings.SlTrimAscii
import Derived.Shelf.Small.Utf8
import Derived.Shelf.Small.Bits
import Derived.Shelf.Small.Strs
import Derived.Shelf.Small.Wraps
import Derived.Shelf.Strings.BuilderF
import Derived.Shelf.Strings.BuilderK
import Derived.Shelf.Strings.BuilderRune
import Derived.Shelf.Utf8.AppendRune
import Derived.Shelf.Utf8.AppendRunePlain
import Derived.Shelf.Utf8.RuneCount
import Derived.Shelf.Strings.Builder2Cap
import Derived.Shelf.Strconv.Itoa0
import Derived.Shelf.Strings.Search1
import Derived.Shelf.Strings.Search2
import Derived.Shelf.Strings.Search3
import Derived.Shelf.Strings.Count
import Derived.Shelf.LaysM
import Derived.Shelf.Strings.Shaped
import Derived.Shelf.Strings.Prefix
import Derived.Shelf.Strings.Split
import Derived.Shelf.Strings.Replace
import Derived.Shelf.Strings.Fold
import Derived.Shelf.Strings.SplitShaped
import Derived.Shelf.Unicode.Latin
import Derived.Shelf.Unicode.Decode
import Derived.Shelf.Strings.Runes
import Derived.Shelf.Strings.RuneCount
import Derived.Shelf.Strings.AsciiSet
import Derived.Shelf.Strings.Explode
import Derived.Shelf.Unicode.DecodeSlow
import Derived.Shelf.Unicode.DecodeAny
import Derived.Shelf.Unicode.DecodeLast
import Derived.Shelf.Unicode.CaseLookup
import Derived.Shelf.Unicode.CaseConvert
import Derived.Shelf.Unicode.CaseTo
import Derived.Shelf.Unicode.CaseLaid
import Derived.Shelf.Strings.MapAny
import Derived.Shelf.Strings.CaseAny
import Derived.Shelf.Strings.BuilderCap
import Derived.Shelf.Slices.Turned
import Derived.Shelf.Slices.Equal
import Derived.Ground.Names2Prog
import Derived.Shelf.Slices.Clone
import Derived.Shelf.Bytes.SlIndexSmall
import Derived.Shelf.Bytes.SlIndexAt
import Derived.Shelf.Slices.Empties2
import Derived.Shelf.Bytes.SlSearch0
import Derived.Shelf.Bytes.SlSearch1
import Derived.Shelf.Bytes.SlSearch2
import Derived.Shelf.Bytes.SlIndexWhole
import Derived.Ground.SlbCloneProg
import Derived.Shelf.Bytes.SlClone
import Derived.Ground.SlgnProg
import Derived.Shelf.SlicesE.Equal
import Derived.Shelf.SlicesE.Clone
import Derived.Shelf.Bytes.SlSmallAll
import Derived.Shelf.Bytes.SlEqualAll
import Derived.Shelf.Bytes.Small
import Derived.Shelf.Bytes.IndexByte
import Derived.Test.YtcfibjiikhnfhaaGreatDoorProg
namespace Go.Proofs
open Go.Shelf
def Tryz.lays159_ren:Go.Shelf.Ren:=⟨fun | 159=>44 | 165=>80 | 166=>81 | 167=>82 | 169=>70 | 230=>83 | 204=>84 | 240=>123 | 241=>124 | 197=>125 | 118=>126 | 168=>127 | 270=>128 | 262=>129 | 276=>167 | 277=>168 | 260=>169 | 242=>170 | 313=>171 | 278=>208 | 274=>209 | 275=>210 | n=>n,fun | 9=>9 | 4=>4 | 3=>3 | 5=>5 | 72=>131 | 0=>0 | 76=>143 | 75=>30 | 107=>147 | 70=>129 | 20=>20 | 37=>43 | 127=>183 | 21=>21 | 105=>175 | 164=>101 | 162=>232 | 203=>230 | 119=>189 | 46=>158 | 139=>192 | 138=>191 | 51=>214 | 160=>258 | 208=>278 | 206=>276 | 80=>135 | n=>n,fun | 13=>4 | 3=>1 | 4=>2 | n=>n⟩
theorem Tryz.lays159:Go.Proofs.Lays.n159 Tryz.prog Tryz.lays159_ren:={
  mixed:=by kernel_rfl
  f118:=Tryz.func126.trans (congrArg some (by kernel_rfl))
  f159:=Tryz.func44.trans (congrArg some (by kernel_rfl))
  f165:=Tryz.func80.trans (congrArg some (by kernel_rfl))
  f166:=Tryz.func81.trans (congrArg some (by kernel_rfl))
  f167:=Tryz.func82.trans (congrArg some (by kernel_rfl))
  f168:=Tryz.func127.trans (congrArg some (by kernel_rfl))
  f169:=Tryz.func70.trans (congrArg some (by kernel_rfl))
  f197:=Tryz.func125.trans (congrArg some (by kernel_rfl))
  f204:=Tryz.func84.trans (congrArg some (by kernel_rfl))
  f230:=Tryz.func83.trans (congrArg some (by kernel_rfl))
  f240:=Tryz.func123.trans (congrArg some (by kernel_rfl))
  f241:=Tryz.func124.trans (congrArg some (by kernel_rfl))
  f242:=Tryz.func170.trans (congrArg some (by kernel_rfl))
  f260:=Tryz.func169.trans (congrArg some (by kernel_rfl))
  f262:=Tryz.func129.trans (congrArg some (by kernel_rfl))
  f270:=Tryz.func128.trans (congrArg some (by kernel_rfl))
  f274:=Tryz.func209.trans (congrArg some (by kernel_rfl))
  f275:=Tryz.func210.trans (congrArg some (by kernel_rfl))
  f276:=Tryz.func167.trans (congrArg some (by kernel_rfl))
  f277:=Tryz.func168.trans (congrArg some (by kernel_rfl))
  f278:=Tryz.func208.trans (congrArg some (by kernel_rfl))
  f313:=Tryz.func171.trans (congrArg some (by kernel_rfl))
  t0:=Tryz.underlying0
  a0:=Tryz.isAgg0
  z0:=Tryz.sizeOf0
  v0:=Tryz.zeroValue0
  t3:=Tryz.underlying3
  a3:=Tryz.isAgg3
  z3:=Tryz.sizeOf3
  v3:=Tryz.zeroValue3
  t4:=Tryz.underlying4
  a4:=Tryz.isAgg4
  z4:=Tryz.sizeOf4
  v4:=Tryz.zeroValue4
  t5:=Tryz.underlying5
  a5:=Tryz.isAgg5
  z5:=Tryz.sizeOf5
  v5:=Tryz.zeroValue5
  t9:=Tryz.underlying9
  a9:=Tryz.isAgg9
  z9:=Tryz.sizeOf9
  v9:=Tryz.zeroValue9
  t20:=Tryz.underlying20
  a20:=Tryz.isAgg20
  z20:=Tryz.sizeOf20
  v20:=Tryz.zeroValue20
  t21:=Tryz.underlying21
  a21:=Tryz.isAgg21
  z21:=Tryz.sizeOf21
  v21:=Tryz.zeroValue21
  t37:=Tryz.underlying43
  a37:=Tryz.isAgg43
  z37:=Tryz.sizeOf43
  v37:=Tryz.zeroValue43
  t46:=Tryz.underlying158
  a46:=Tryz.isAgg158
  z46:=Tryz.sizeOf158
  v46:=Tryz.zeroValue158
  t51:=Tryz.underlying214
  a51:=Tryz.isAgg214
  z51:=Tryz.sizeOf214
  v51:=Tryz.zeroValue214
  t70:=Tryz.underlying129
  a70:=Tryz.isAgg129
  z70:=Tryz.sizeOf129
  v70:=Tryz.zeroValue129
  t72:=Tryz.underlying131
  a72:=Tryz.isAgg131
  z72:=Tryz.sizeOf131
  v72:=Tryz.zeroValue131
  t75:=Tryz.underlying30
  a75:=Tryz.isAgg30
  z75:=Tryz.sizeOf30
  v75:=Tryz.zeroValue30
  t76:=Tryz.underlying143
  a76:=Tryz.isAgg143
  z76:=Tryz.sizeOf143
  v76:=Tryz.zeroValue143
  t105:=Tryz.underlying175
  a105:=Tryz.isAgg175
  z105:=Tryz.sizeOf175
  v105:=Tryz.zeroValue175
  t107:=Tryz.underlying147
  a107:=Tryz.isAgg147
  z107:=Tryz.sizeOf147
  v107:=Tryz.zeroValue147
  t119:=Tryz.underlying189
  a119:=Tryz.isAgg189
  z119:=Tryz.sizeOf189
  t127:=Tryz.underlying183
  a127:=Tryz.isAgg183
  z127:=Tryz.sizeOf183
  v127:=Tryz.zeroValue183
  t138:=Tryz.underlying191
  a138:=Tryz.isAgg191
  z138:=Tryz.sizeOf191
  v138:=Tryz.zeroValue191
  t139:=Tryz.underlying192
  a139:=Tryz.isAgg192
  z139:=Tryz.sizeOf192
  v139:=Tryz.zeroValue192
  t160:=Tryz.underlying258
  a160:=Tryz.isAgg258
  z160:=Tryz.sizeOf258
  v160:=Tryz.zeroValue258
  t162:=Tryz.underlying232
  a162:=Tryz.isAgg232
  z162:=Tryz.sizeOf232
  v162:=Tryz.zeroValue232
  t164:=Tryz.underlying101
  a164:=Tryz.isAgg101
  z164:=Tryz.sizeOf101
  v164:=Tryz.zeroValue101
  t203:=Tryz.underlying230
  a203:=Tryz.isAgg230
  z203:=Tryz.sizeOf230
  v203:=Tryz.zeroValue230
  t206:=Tryz.underlying276
  a206:=Tryz.isAgg276
  z206:=Tryz.sizeOf276
  v206:=Tryz.zeroValue276
  t208:=Tryz.underlying278
  a208:=Tryz.isAgg278
  z208:=Tryz.sizeOf278
  v208:=Tryz.zeroValue278
  g3:=by kernel_rfl
  g4:=by kernel_rfl
  g13:=by kernel_rfl}
theorem Tryz.Builder_Extra_159:Builder.Extra Tryz.prog Tryz.lays159_ren:={
  sizeBuilder:=by kernel_rfl
  liesBuilder:=by kernel_rfl
  t5:=Tryz.underlying5
  a5:=Tryz.isAgg5
  z5:=Tryz.sizeOf5
  v5:=Tryz.zeroValue5
  infoByte:=by kernel_rfl
  cellsByte:=by kernel_rfl
  sizeByte:=by kernel_rfl
  neB5:=by decide}
def Tryz.lays106_ren:Go.Shelf.Ren:=⟨fun | 106=>88 | 213=>131 | 265=>174 | n=>n,fun | 9=>9 | 3=>3 | n=>n,fun | n=>n⟩
theorem Tryz.lays106:Go.Proofs.Lays.n106 Tryz.prog Tryz.lays106_ren:={
  mixed:=by kernel_rfl
  f106:=Tryz.func88.trans (congrArg some (by kernel_rfl))
  f213:=Tryz.func131.trans (congrArg some (by kernel_rfl))
  f265:=Tryz.func174.trans (congrArg some (by kernel_rfl))
  t3:=Tryz.underlying3
  a3:=Tryz.isAgg3
  z3:=Tryz.sizeOf3
  v3:=Tryz.zeroValue3
  t9:=Tryz.underlying9
  a9:=Tryz.isAgg9
  z9:=Tryz.sizeOf9
  v9:=Tryz.zeroValue9}
open Go.RowKit in
theorem Tryz.strings_Compare (a b:ByteArray) (w:World):
    Calls Tryz.prog 88 #[.string a,.string b] w fun e w'=>e= .returned (.int .i64 (Lib.compareBytes a.data.toList b.data.toList))∧w'=w:=Any.strings_Compare Tryz.lays106 a b w
def Tryz.lays137_ren:Go.Shelf.Ren:=⟨fun | 137=>77 | 217=>121 | 266=>163 | n=>n,fun | 9=>9 | 5=>5 | 3=>3 | n=>n,fun | n=>n⟩
theorem Tryz.lays137:Go.Proofs.Lays.n137 Tryz.prog Tryz.lays137_ren:={
  mixed:=by kernel_rfl
  f137:=Tryz.func77.trans (congrArg some (by kernel_rfl))
  f217:=Tryz.func121.trans (congrArg some (by kernel_rfl))
  f266:=Tryz.func163.trans (congrArg some (by kernel_rfl))
  t3:=Tryz.underlying3
  a3:=Tryz.isAgg3
  z3:=Tryz.sizeOf3
  v3:=Tryz.zeroValue3
  t5:=Tryz.underlying5
  a5:=Tryz.isAgg5
  z5:=Tryz.sizeOf5
  v5:=Tryz.zeroValue5
  t9:=Tryz.underlying9
  a9:=Tryz.isAgg9
  z9:=Tryz.sizeOf9
  v9:=Tryz.zeroValue9}
open Go.RowKit in
theorem Tryz.strings_IndexByte (s:ByteArray) (c:Int) (w:World):
    Calls Tryz.prog 77 #[.string s,.int .u8 c] w fun e w'=>e= .returned (.int .i64 (Lib.indexByte s.data.toList c.toNat.toUInt8))∧w'=w:=Any.strings_IndexByte Tryz.lays137 s c w
def Tryz.lays103_ren:Go.Shelf.Ren:=⟨fun | 103=>215 | 210=>234 | 206=>206 | n=>n,fun | 9=>9 | 4=>4 | 24=>242 | 3=>3 | n=>n,fun | n=>n⟩
theorem Tryz.lays103:Go.Proofs.Lays.n103 Tryz.prog Tryz.lays103_ren:={
  mixed:=by kernel_rfl
  f103:=Tryz.func215.trans (congrArg some (by kernel_rfl))
  f206:=Tryz.func206.trans (congrArg some (by kernel_rfl))
  f210:=Tryz.func234.trans (congrArg some (by kernel_rfl))
  t3:=Tryz.underlying3
  a3:=Tryz.isAgg3
  z3:=Tryz.sizeOf3
  v3:=Tryz.zeroValue3
  t4:=Tryz.underlying4
  a4:=Tryz.isAgg4
  z4:=Tryz.sizeOf4
  v4:=Tryz.zeroValue4
  t9:=Tryz.underlying9
  a9:=Tryz.isAgg9
  z9:=Tryz.sizeOf9
  v9:=Tryz.zeroValue9
  t24:=Tryz.underlying242
  a24:=Tryz.isAgg242
  z24:=Tryz.sizeOf242
  v24:=Tryz.zeroValue242}
open Go.RowKit in
theorem Tryz.strings_CutPrefix (s p:ByteArray) (w:World):
    Calls Tryz.prog 215 #[.string s,.string p] w fun e w'=>e= .returned (.tuple #[.string ⟨(Lib.trimPrefix s.data.toList p.data.toList).toArray⟩,.bool (Lib.hasPrefix s.data.toList p.data.toList)])∧w'=w:=Any.strings_CutPrefix Tryz.lays103 s p w
def Tryz.laysM144_ren:Go.Shelf.Ren:=⟨fun | 144=>41 | 143=>78 | 219=>122 | 217=>121 | 225=>164 | 224=>165 | 267=>166 | 266=>163 | 314=>207 | n=>n,fun | 9=>9 | 4=>4 | 3=>3 | 5=>5 | 46=>158 | 146=>256 | 51=>214 | n=>n,fun | 1=>3 | n=>n⟩
theorem Tryz.laysM144:Go.Proofs.LaysM.n144 Tryz.prog Tryz.laysM144_ren:={
  mixed:=by kernel_rfl
  f143:=Tryz.func78.trans (congrArg some (by kernel_rfl))
  f144:=Tryz.func41.trans (congrArg some (by kernel_rfl))
  f217:=Tryz.func121.trans (congrArg some (by kernel_rfl))
  f219:=Tryz.func122.trans (congrArg some (by kernel_rfl))
  f224:=Tryz.func165.trans (congrArg some (by kernel_rfl))
  f225:=Tryz.func164.trans (congrArg some (by kernel_rfl))
  f266:=Tryz.func163.trans (congrArg some (by kernel_rfl))
  f267:=Tryz.func166.trans (congrArg some (by kernel_rfl))
  f314:=Tryz.func207.trans (congrArg some (by kernel_rfl))
  t3:=Tryz.underlying3
  a3:=Tryz.isAgg3
  z3:=Tryz.sizeOf3
  v3:=Tryz.zeroValue3
  t4:=Tryz.underlying4
  a4:=Tryz.isAgg4
  z4:=Tryz.sizeOf4
  v4:=Tryz.zeroValue4
  t5:=Tryz.underlying5
  a5:=Tryz.isAgg5
  z5:=Tryz.sizeOf5
  v5:=Tryz.zeroValue5
  t9:=Tryz.underlying9
  a9:=Tryz.isAgg9
  z9:=Tryz.sizeOf9
  v9:=Tryz.zeroValue9
  t46:=Tryz.underlying158
  a46:=Tryz.isAgg158
  z46:=Tryz.sizeOf158
  v46:=Tryz.zeroValue158
  t51:=Tryz.underlying214
  a51:=Tryz.isAgg214
  z51:=Tryz.sizeOf214
  v51:=Tryz.zeroValue214
  t146:=Tryz.underlying256
  a146:=Tryz.isAgg256
  z146:=Tryz.sizeOf256
  v146:=Tryz.zeroValue256
  g1:=by kernel_rfl
  i3:=by kernel_rfl
  i4:=by kernel_rfl
  i5:=by kernel_rfl
  i9:=by kernel_rfl
  i46:=by kernel_rfl
  i51:=by kernel_rfl
  i146:=by kernel_rfl
  m1:=by kernel_rfl
  s1_3:=fun w h=>Go.Proofs.cell_of_shapedOpen_int (zero:= #[.int .i64 0]) (t:=3) h (of_decide_eq_true (by kernel_rfl)) (by kernel_rfl) rfl (by kernel_rfl) (by kernel_rfl) Tryz.underlying3}
open Go.RowKit Go.Lib in
theorem Tryz.strings_Contains_shaped (s sub:ByteArray) (w:World) (h:w.ShapedOpen Tryz.prog) (hs:s.size< 4294967281):
    Calls Tryz.prog 41 #[.string s,.string sub] w fun e w'=>e= .returned (.bool (Lib.contains s.data.toList sub.data.toList))∧w'=w:=Any.strings_Contains_shaped Tryz.laysM144 s sub w h hs
def Tryz.lays100_ren:Go.Shelf.Ren:=⟨fun | 100=>42 | 207=>79 | n=>n,fun | 9=>9 | 4=>4 | 3=>3 | n=>n,fun | n=>n⟩
theorem Tryz.lays100:Go.Proofs.Lays.n100 Tryz.prog Tryz.lays100_ren:={
  mixed:=by kernel_rfl
  f100:=Tryz.func42.trans (congrArg some (by kernel_rfl))
  f207:=Tryz.func79.trans (congrArg some (by kernel_rfl))
  t3:=Tryz.underlying3
  a3:=Tryz.isAgg3
  z3:=Tryz.sizeOf3
  v3:=Tryz.zeroValue3
  t4:=Tryz.underlying4
  a4:=Tryz.isAgg4
  z4:=Tryz.sizeOf4
  v4:=Tryz.zeroValue4
  t9:=Tryz.underlying9
  a9:=Tryz.isAgg9
  z9:=Tryz.sizeOf9
  v9:=Tryz.zeroValue9}
open Go.RowKit Go.Lib in
theorem Tryz.strings_HasSuffix (s p:ByteArray) (w:World) (hs:s.size≤9223372036854775807):
    Calls Tryz.prog 42 #[.string s,.string p] w fun e w'=>e= .returned (.bool (Lib.hasSuffix s.data.toList p.data.toList))∧w'=w:=Any.strings_HasSuffix Tryz.lays100 s p w hs
def Tryz.lays101_ren:Go.Shelf.Ren:=⟨fun | 101=>114 | 208=>161 | 206=>206 | n=>n,fun | 9=>9 | 4=>4 | 3=>3 | n=>n,fun | n=>n⟩
theorem Tryz.lays101:Go.Proofs.Lays.n101 Tryz.prog Tryz.lays101_ren:={
  mixed:=by kernel_rfl
  f101:=Tryz.func114.trans (congrArg some (by kernel_rfl))
  f206:=Tryz.func206.trans (congrArg some (by kernel_rfl))
  f208:=Tryz.func161.trans (congrArg some (by kernel_rfl))
  t3:=Tryz.underlying3
  a3:=Tryz.isAgg3
  z3:=Tryz.sizeOf3
  v3:=Tryz.zeroValue3
  t4:=Tryz.underlying4
  a4:=Tryz.isAgg4
  z4:=Tryz.sizeOf4
  v4:=Tryz.zeroValue4
  t9:=Tryz.underlying9
  a9:=Tryz.isAgg9
  z9:=Tryz.sizeOf9
  v9:=Tryz.zeroValue9}
open Go.RowKit Go.Lib in
theorem Tryz.strings_TrimPrefix (s p:ByteArray) (w:World):
    Calls Tryz.prog 114 #[.string s,.string p] w fun e w'=>e= .returned (.string ⟨(Lib.trimPrefix s.data.toList p.data.toList).toArray⟩)∧w'=w:=Any.strings_TrimPrefix Tryz.lays101 s p w
def Tryz.laysM146_ren:Go.Shelf.Ren:=⟨fun | 146=>113 | 221=>160 | 268=>204 | 138=>205 | 143=>78 | 195=>229 | 197=>125 | 218=>230 | 219=>122 | 260=>169 | 217=>121 | 225=>164 | 224=>165 | 267=>166 | 266=>163 | 314=>207 | n=>n,fun | 9=>9 | 31=>51 | 3=>3 | 4=>4 | 0=>0 | 105=>175 | 21=>21 | 5=>5 | 46=>158 | 119=>189 | 139=>192 | 138=>191 | 146=>256 | 51=>214 | n=>n,fun | 1=>3 | 3=>1 | 4=>2 | n=>n⟩
theorem Tryz.laysM146:Go.Proofs.LaysM.n146 Tryz.prog Tryz.laysM146_ren:={
  mixed:=by kernel_rfl
  f138:=Tryz.func205.trans (congrArg some (by kernel_rfl))
  f143:=Tryz.func78.trans (congrArg some (by kernel_rfl))
  f146:=Tryz.func113.trans (congrArg some (by kernel_rfl))
  f195:=Tryz.func229.trans (congrArg some (by kernel_rfl))
  f197:=Tryz.func125.trans (congrArg some (by kernel_rfl))
  f217:=Tryz.func121.trans (congrArg some (by kernel_rfl))
  f218:=Tryz.func230.trans (congrArg some (by kernel_rfl))
  f219:=Tryz.func122.trans (congrArg some (by kernel_rfl))
  f221:=Tryz.func160.trans (congrArg some (by kernel_rfl))
  f224:=Tryz.func165.trans (congrArg some (by kernel_rfl))
  f225:=Tryz.func164.trans (congrArg some (by kernel_rfl))
  f260:=Tryz.func169.trans (congrArg some (by kernel_rfl))
  f266:=Tryz.func163.trans (congrArg some (by kernel_rfl))
  f267:=Tryz.func166.trans (congrArg some (by kernel_rfl))
  f268:=Tryz.func204.trans (congrArg some (by kernel_rfl))
  f314:=Tryz.func207.trans (congrArg some (by kernel_rfl))
  t0:=Tryz.underlying0
  a0:=Tryz.isAgg0
  z0:=Tryz.sizeOf0
  v0:=Tryz.zeroValue0
  t3:=Tryz.underlying3
  a3:=Tryz.isAgg3
  z3:=Tryz.sizeOf3
  v3:=Tryz.zeroValue3
  t4:=Tryz.underlying4
  a4:=Tryz.isAgg4
  z4:=Tryz.sizeOf4
  v4:=Tryz.zeroValue4
  t5:=Tryz.underlying5
  a5:=Tryz.isAgg5
  z5:=Tryz.sizeOf5
  v5:=Tryz.zeroValue5
  t9:=Tryz.underlying9
  a9:=Tryz.isAgg9
  z9:=Tryz.sizeOf9
  v9:=Tryz.zeroValue9
  t21:=Tryz.underlying21
  a21:=Tryz.isAgg21
  z21:=Tryz.sizeOf21
  v21:=Tryz.zeroValue21
  t31:=Tryz.underlying51
  a31:=Tryz.isAgg51
  z31:=Tryz.sizeOf51
  v31:=Tryz.zeroValue51
  t46:=Tryz.underlying158
  a46:=Tryz.isAgg158
  z46:=Tryz.sizeOf158
  v46:=Tryz.zeroValue158
  t51:=Tryz.underlying214
  a51:=Tryz.isAgg214
  z51:=Tryz.sizeOf214
  v51:=Tryz.zeroValue214
  t105:=Tryz.underlying175
  a105:=Tryz.isAgg175
  z105:=Tryz.sizeOf175
  v105:=Tryz.zeroValue175
  t119:=Tryz.underlying189
  a119:=Tryz.isAgg189
  z119:=Tryz.sizeOf189
  t138:=Tryz.underlying191
  a138:=Tryz.isAgg191
  z138:=Tryz.sizeOf191
  v138:=Tryz.zeroValue191
  t139:=Tryz.underlying192
  a139:=Tryz.isAgg192
  z139:=Tryz.sizeOf192
  v139:=Tryz.zeroValue192
  t146:=Tryz.underlying256
  a146:=Tryz.isAgg256
  z146:=Tryz.sizeOf256
  v146:=Tryz.zeroValue256
  g1:=by kernel_rfl
  g3:=by kernel_rfl
  g4:=by kernel_rfl
  i0:=by kernel_rfl
  i3:=by kernel_rfl
  i4:=by kernel_rfl
  i5:=by kernel_rfl
  i9:=by kernel_rfl
  i21:=by kernel_rfl
  i31:=by kernel_rfl
  i46:=by kernel_rfl
  i51:=by kernel_rfl
  i105:=by kernel_rfl
  i138:=by kernel_rfl
  i139:=by kernel_rfl
  i146:=by kernel_rfl
  m1:=by kernel_rfl
  s1_3:=fun w h=>Go.Proofs.cell_of_shapedOpen_int (zero:= #[.int .i64 0]) (t:=3) h (of_decide_eq_true (by kernel_rfl)) (by kernel_rfl) rfl (by kernel_rfl) (by kernel_rfl) Tryz.underlying3
  m3:=by kernel_rfl
  m4:=by kernel_rfl}
open Go.RowKit Go.Lib in
theorem Tryz.strings_Split_shaped (s sep:ByteArray) (w:World) (h:w.ShapedOpen Tryz.prog) (hs:s.size< 4294967281) (h1:1≤sep.size):
    Calls Tryz.prog 113 #[.string s,.string sep] w fun e w'=>
      e= .returned (.slice (some ⟨w.heap.size,0,none⟩) (Lib.countB s sep+1) (Lib.countB s sep+1))∧w'=w.alloc (.cells ((Lib.splitB sep 0 (Lib.countB s sep) s).map Value.string).toArray 9):=Any.strings_Split_shaped Tryz.laysM146 s sep w h hs h1
open Go.RowKit Go.Lib in
theorem Tryz.strings_ToLower_any (s:ByteArray) (w:World) (hs:s.size< 35184372088832) (hV:CaseVar 4 caseA w) (hT:Lib.Utf8Tabs 1 2 w):
    Calls Tryz.prog 44 #[.string s] w fun e w'=>e= .returned (.string ⟨(Lib.toLowerD s.data.toList).toArray⟩)∧Below w.heap.size w w':=Any.strings_ToLower_any Tryz.lays159 Tryz.Builder_Extra_159 s w hs hV hT
def Tryz.lays110_ren:Go.Shelf.Ren:=⟨fun | 110=>112 | 109=>159 | n=>n,fun | 31=>51 | 9=>9 | 4=>4 | 3=>3 | 0=>0 | n=>n,fun | n=>n⟩
theorem Tryz.lays110:Go.Proofs.Lays.n110 Tryz.prog Tryz.lays110_ren:={
  mixed:=by kernel_rfl
  f109:=Tryz.func159.trans (congrArg some (by kernel_rfl))
  f110:=Tryz.func112.trans (congrArg some (by kernel_rfl))
  t0:=Tryz.underlying0
  a0:=Tryz.isAgg0
  z0:=Tryz.sizeOf0
  v0:=Tryz.zeroValue0
  t3:=Tryz.underlying3
  a3:=Tryz.isAgg3
  z3:=Tryz.sizeOf3
  v3:=Tryz.zeroValue3
  t4:=Tryz.underlying4
  a4:=Tryz.isAgg4
  z4:=Tryz.sizeOf4
  v4:=Tryz.zeroValue4
  t9:=Tryz.underlying9
  a9:=Tryz.isAgg9
  z9:=Tryz.sizeOf9
  v9:=Tryz.zeroValue9
  t31:=Tryz.underlying51
  a31:=Tryz.isAgg51
  z31:=Tryz.sizeOf51
  v31:=Tryz.zeroValue51}
open Go.Lib in
theorem Tryz.slices_Contains_string (b off n c:Nat) (zs:List ByteArray) (x:ByteArray) (w:World) (hz:n≤zs.length) (hbig:n≤9223372036854775807) (hc:∀j,j< zs.length→w.cell? ⟨b,off+j,none⟩=some (.string (zs.getD j ByteArray.empty))):
    Calls Tryz.prog 112 #[.slice (some ⟨b,off,none⟩) n c,.string x] w fun e w'=>e= .returned (.bool (Lib.containsS (zs.take n) x))∧w'=w:=Any.slices_Contains_string Tryz.lays110 b off n c zs x w hz hbig hc
open Go.Lib in
theorem Tryz.slices_Contains_string_empty (a:Option Addr) (c:Nat) (x:ByteArray) (w:World):
    Calls Tryz.prog 112 #[.slice a 0 c,.string x] w fun e w'=>e= .returned (.bool false)∧w'=w:=Any.slices_Contains_string_empty Tryz.lays110 a c x w
end Go.Proofs
