/-
  DERIVED:THE SHELF's CONTRACTS AT THIS DUMP,IN PLAIN WORDS (tools/lay-plain.mjs out of 'YtcfibjiikhnfhaaGreatDoorShelf3.lean',which tools/lay-shelf.mjs wrote):THE SAME DECLARATIONS UNDER THE SAME NAMES:'import','namespace','open','def','theorem' AND NOTHING ELSE:no command of the shelf's:FOR A HAND-IN. Each laying:the table of numbers ('.._ren') and one theorem,a field a fact of the dump's own or the kernel's comparison;each contract:ONE APPLICATION.
-/
import Derived.Shelf.Strings.Builder1
import Derived.Shelf.Strings.Builder2
import Derived.Shelf.Strings.OnBuilder
import Derived.Shelf.Strings.SlTrimAscii
import Derived.Shelf.Small.Utf8
import Derived.Shelf.Small.Bits
import Derived.Shelf.Small.Strs
import Derived.Shelf.Small.Wraps
import Derived.Shelf.Strings.BuilderF
import Derived.Shelf.Strings.BuilderK
import Derived.Shelf.Strings.BuilderRune
import Derived.Shelf.Utf8.AppendRune
import Derived.Shelf.Utf8.AppendRunePlain
import Derived.Shelf.Utf8.RuneCount
import Derived.Shelf.Strings.Builder2Cap
import Derived.Shelf.Strconv.Itoa0
import Derived.Shelf.Strings.Search1
import Derived.Shelf.Strings.Search2
import Derived.Shelf.Strings.Search3
import Derived.Shelf.Strings.Count
import Derived.Shelf.LaysM
import Derived.Shelf.Strings.Shaped
import Derived.Shelf.Strings.Prefix
import Derived.Shelf.Strings.Split
import Derived.Shelf.Strings.Replace
import Derived.Shelf.Strings.Fold
import Derived.Shelf.Strings.SplitShaped
import Derived.Shelf.Unicode.Latin
import Derived.Shelf.Unicode.Decode
import Derived.Shelf.Strings.Runes
import Derived.Shelf.Strings.RuneCount
import Derived.Shelf.Strings.AsciiSet
import Derived.Shelf.Strings.Explode
import Derived.Shelf.Unicode.DecodeSlow
import Derived.Shelf.Unicode.DecodeAny
import Derived.Shelf.Unicode.DecodeLast
import Derived.Shelf.Unicode.CaseLookup
import Derived.Shelf.Unicode.CaseConvert
import Derived.Shelf.Unicode.CaseTo
import Derived.Shelf.Unicode.CaseLaid
import Derived.Shelf.Strings.MapAny
import Derived.Shelf.Strings.CaseAny
import Derived.Shelf.Strings.BuilderCap
import Derived.Shelf.Slices.Turned
import Derived.Shelf.Slices.Equal
import Derived.Ground.Names2Prog
import Derived.Shelf.Slices.Clone
import Derived.Shelf.Bytes.SlIndexSmall
import Derived.Shelf.Bytes.SlIndexAt
import Derived.Shelf.Slices.Empties2
import Derived.Shelf.Bytes.SlSearch0
import Derived.Shelf.Bytes.SlSearch1
import Derived.Shelf.Bytes.SlSearch2
import Derived.Shelf.Bytes.SlIndexWhole
import Derived.Ground.SlbCloneProg
import Derived.Shelf.Bytes.SlClone
import Derived.Ground.SlgnProg
import Derived.Shelf.SlicesE.Equal
import Derived.Shelf.SlicesE.Clone
import Derived.Shelf.Bytes.SlSmallAll
import Derived.Shelf.Bytes.SlEqualAll
import Derived.Shelf.Bytes.Small
import Derived.Shelf.Bytes.IndexByte
import Derived.Test.YtcfibjiikhnfhaaGreatDoorProg
namespace Go.Proofs
open Go.Shelf
def Tryz.lays119_ren:Go.Shelf.Ren:=⟨fun | 119=>237 | n=>n,fun | 21=>21 | 4=>4 | n=>n,fun | n=>n⟩
theorem Tryz.lays119:Go.Proofs.Lays.n119 Tryz.prog Tryz.lays119_ren:={
  mixed:=by kernel_rfl
  f119:=Tryz.func237.trans (congrArg some (by kernel_rfl))
  t4:=Tryz.underlying4
  a4:=Tryz.isAgg4
  z4:=Tryz.sizeOf4
  v4:=Tryz.zeroValue4
  t21:=Tryz.underlying21
  a21:=Tryz.isAgg21
  z21:=Tryz.sizeOf21
  v21:=Tryz.zeroValue21}
theorem Tryz.utf8_ValidRune (r:Int) (w:World):
    Calls Tryz.prog 237 #[.int .i32 r] w fun e w'=>e= .returned (.bool (Lib.validRune r))∧w'=w:=Any.utf8_ValidRune Tryz.lays119 r w
def Tryz.lays242_ren:Go.Shelf.Ren:=⟨fun | 242=>170 | 278=>208 | n=>n,fun | 37=>43 | 21=>21 | 51=>214 | 4=>4 | 5=>5 | 46=>158 | n=>n,fun | n=>n⟩
theorem Tryz.lays242:Go.Proofs.Lays.n242 Tryz.prog Tryz.lays242_ren:={
  mixed:=by kernel_rfl
  f242:=Tryz.func170.trans (congrArg some (by kernel_rfl))
  f278:=Tryz.func208.trans (congrArg some (by kernel_rfl))
  t4:=Tryz.underlying4
  a4:=Tryz.isAgg4
  z4:=Tryz.sizeOf4
  v4:=Tryz.zeroValue4
  t5:=Tryz.underlying5
  a5:=Tryz.isAgg5
  z5:=Tryz.sizeOf5
  v5:=Tryz.zeroValue5
  t21:=Tryz.underlying21
  a21:=Tryz.isAgg21
  z21:=Tryz.sizeOf21
  v21:=Tryz.zeroValue21
  t37:=Tryz.underlying43
  a37:=Tryz.isAgg43
  z37:=Tryz.sizeOf43
  v37:=Tryz.zeroValue43
  t46:=Tryz.underlying158
  a46:=Tryz.isAgg158
  z46:=Tryz.sizeOf158
  v46:=Tryz.zeroValue158
  t51:=Tryz.underlying214
  a51:=Tryz.isAgg214
  z51:=Tryz.sizeOf214
  v51:=Tryz.zeroValue214}
open Go.RowKit in
theorem Tryz.utf8_AppendRune_plain (B:Nat) (v:Value) (n:Nat) (xs:List Value) (r:Int) (hr0: -2147483648≤r) (hr1:r≤2147483647) (w:World) (hown:w.ownsRow B 5 1 v n xs) (hlen:n+4≤140737488355328) (hBw:B≤w.heap.size):
    Calls Tryz.prog 170 #[v,.int .i32 r] w fun e w'=>∃v',e= .returned v'∧w'.ownsRow B 5 1 v' (n+(Lib.runeCells r).length) (xs++Lib.runeCells r)∧∃o,(w.alloc o).grownBy w' v.ownBlock:=Any.utf8_AppendRune_plain Tryz.lays242 (by kernel_rfl) B v n xs r hr0 hr1 w hown hlen hBw
def Tryz.lays154_ren:Go.Shelf.Ren:=⟨fun | 154=>238 | 138=>205 | 165=>80 | 143=>78 | 166=>81 | 197=>125 | 169=>70 | 195=>229 | 218=>230 | 240=>123 | 241=>124 | 219=>122 | 260=>169 | 276=>167 | 277=>168 | 217=>121 | 225=>164 | 224=>165 | 267=>166 | 266=>163 | 314=>207 | n=>n,fun | 9=>9 | 3=>3 | 4=>4 | 72=>131 | 0=>0 | 76=>143 | 105=>175 | 21=>21 | 5=>5 | 70=>129 | 20=>20 | 37=>43 | 75=>30 | 127=>183 | 164=>101 | 46=>158 | 119=>189 | 139=>192 | 138=>191 | 146=>256 | 51=>214 | 80=>135 | n=>n,fun | 1=>3 | 3=>1 | 4=>2 | n=>n⟩
theorem Tryz.lays154:Go.Proofs.Lays.n154 Tryz.prog Tryz.lays154_ren:={
  mixed:=by kernel_rfl
  f138:=Tryz.func205.trans (congrArg some (by kernel_rfl))
  f143:=Tryz.func78.trans (congrArg some (by kernel_rfl))
  f154:=Tryz.func238.trans (congrArg some (by kernel_rfl))
  f165:=Tryz.func80.trans (congrArg some (by kernel_rfl))
  f166:=Tryz.func81.trans (congrArg some (by kernel_rfl))
  f169:=Tryz.func70.trans (congrArg some (by kernel_rfl))
  f195:=Tryz.func229.trans (congrArg some (by kernel_rfl))
  f197:=Tryz.func125.trans (congrArg some (by kernel_rfl))
  f217:=Tryz.func121.trans (congrArg some (by kernel_rfl))
  f218:=Tryz.func230.trans (congrArg some (by kernel_rfl))
  f219:=Tryz.func122.trans (congrArg some (by kernel_rfl))
  f224:=Tryz.func165.trans (congrArg some (by kernel_rfl))
  f225:=Tryz.func164.trans (congrArg some (by kernel_rfl))
  f240:=Tryz.func123.trans (congrArg some (by kernel_rfl))
  f241:=Tryz.func124.trans (congrArg some (by kernel_rfl))
  f260:=Tryz.func169.trans (congrArg some (by kernel_rfl))
  f266:=Tryz.func163.trans (congrArg some (by kernel_rfl))
  f267:=Tryz.func166.trans (congrArg some (by kernel_rfl))
  f276:=Tryz.func167.trans (congrArg some (by kernel_rfl))
  f277:=Tryz.func168.trans (congrArg some (by kernel_rfl))
  f314:=Tryz.func207.trans (congrArg some (by kernel_rfl))
  t0:=Tryz.underlying0
  a0:=Tryz.isAgg0
  z0:=Tryz.sizeOf0
  v0:=Tryz.zeroValue0
  t3:=Tryz.underlying3
  a3:=Tryz.isAgg3
  z3:=Tryz.sizeOf3
  v3:=Tryz.zeroValue3
  t4:=Tryz.underlying4
  a4:=Tryz.isAgg4
  z4:=Tryz.sizeOf4
  v4:=Tryz.zeroValue4
  t5:=Tryz.underlying5
  a5:=Tryz.isAgg5
  z5:=Tryz.sizeOf5
  v5:=Tryz.zeroValue5
  t9:=Tryz.underlying9
  a9:=Tryz.isAgg9
  z9:=Tryz.sizeOf9
  v9:=Tryz.zeroValue9
  t20:=Tryz.underlying20
  a20:=Tryz.isAgg20
  z20:=Tryz.sizeOf20
  v20:=Tryz.zeroValue20
  t21:=Tryz.underlying21
  a21:=Tryz.isAgg21
  z21:=Tryz.sizeOf21
  v21:=Tryz.zeroValue21
  t37:=Tryz.underlying43
  a37:=Tryz.isAgg43
  z37:=Tryz.sizeOf43
  v37:=Tryz.zeroValue43
  t46:=Tryz.underlying158
  a46:=Tryz.isAgg158
  z46:=Tryz.sizeOf158
  v46:=Tryz.zeroValue158
  t51:=Tryz.underlying214
  a51:=Tryz.isAgg214
  z51:=Tryz.sizeOf214
  v51:=Tryz.zeroValue214
  t70:=Tryz.underlying129
  a70:=Tryz.isAgg129
  z70:=Tryz.sizeOf129
  v70:=Tryz.zeroValue129
  t72:=Tryz.underlying131
  a72:=Tryz.isAgg131
  z72:=Tryz.sizeOf131
  v72:=Tryz.zeroValue131
  t75:=Tryz.underlying30
  a75:=Tryz.isAgg30
  z75:=Tryz.sizeOf30
  v75:=Tryz.zeroValue30
  t76:=Tryz.underlying143
  a76:=Tryz.isAgg143
  z76:=Tryz.sizeOf143
  v76:=Tryz.zeroValue143
  t105:=Tryz.underlying175
  a105:=Tryz.isAgg175
  z105:=Tryz.sizeOf175
  v105:=Tryz.zeroValue175
  t119:=Tryz.underlying189
  a119:=Tryz.isAgg189
  z119:=Tryz.sizeOf189
  t127:=Tryz.underlying183
  a127:=Tryz.isAgg183
  z127:=Tryz.sizeOf183
  v127:=Tryz.zeroValue183
  t138:=Tryz.underlying191
  a138:=Tryz.isAgg191
  z138:=Tryz.sizeOf191
  v138:=Tryz.zeroValue191
  t139:=Tryz.underlying192
  a139:=Tryz.isAgg192
  z139:=Tryz.sizeOf192
  v139:=Tryz.zeroValue192
  t146:=Tryz.underlying256
  a146:=Tryz.isAgg256
  z146:=Tryz.sizeOf256
  v146:=Tryz.zeroValue256
  t164:=Tryz.underlying101
  a164:=Tryz.isAgg101
  z164:=Tryz.sizeOf101
  v164:=Tryz.zeroValue101
  g1:=by kernel_rfl
  g3:=by kernel_rfl
  g4:=by kernel_rfl}
open Go.RowKit Go.Lib in
theorem Tryz.strings_Replace_absent (s old new:ByteArray) (n:Int) (m:Int) (w:World) (hs:s.size< 4294967281) (hm:w.cell? ⟨3,0,none⟩=some (.int .i64 m)) (h1:1≤old.size) (hne:old≠new) (hn0:n≠0) (hc0:Lib.countB s old=0):
    Calls Tryz.prog 238 #[.string s,.string old,.string new,.int .i64 n] w fun e w'=>e= .returned (.string s)∧w'=w:=Any.strings_Replace_absent Tryz.lays154 s old new n m w hs hm h1 hne hn0 hc0
def Tryz.lays197_ren:Go.Shelf.Ren:=⟨fun | 197=>125 | 260=>169 | n=>n,fun | 9=>9 | 21=>21 | 3=>3 | 4=>4 | 5=>5 | 105=>175 | 119=>189 | 0=>0 | 46=>158 | 139=>192 | 138=>191 | n=>n,fun | 3=>1 | 4=>2 | n=>n⟩
theorem Tryz.lays197:Go.Proofs.Lays.n197 Tryz.prog Tryz.lays197_ren:={
  mixed:=by kernel_rfl
  f197:=Tryz.func125.trans (congrArg some (by kernel_rfl))
  f260:=Tryz.func169.trans (congrArg some (by kernel_rfl))
  t0:=Tryz.underlying0
  a0:=Tryz.isAgg0
  z0:=Tryz.sizeOf0
  v0:=Tryz.zeroValue0
  t3:=Tryz.underlying3
  a3:=Tryz.isAgg3
  z3:=Tryz.sizeOf3
  v3:=Tryz.zeroValue3
  t4:=Tryz.underlying4
  a4:=Tryz.isAgg4
  z4:=Tryz.sizeOf4
  v4:=Tryz.zeroValue4
  t5:=Tryz.underlying5
  a5:=Tryz.isAgg5
  z5:=Tryz.sizeOf5
  v5:=Tryz.zeroValue5
  t9:=Tryz.underlying9
  a9:=Tryz.isAgg9
  z9:=Tryz.sizeOf9
  v9:=Tryz.zeroValue9
  t21:=Tryz.underlying21
  a21:=Tryz.isAgg21
  z21:=Tryz.sizeOf21
  v21:=Tryz.zeroValue21
  t46:=Tryz.underlying158
  a46:=Tryz.isAgg158
  z46:=Tryz.sizeOf158
  v46:=Tryz.zeroValue158
  t105:=Tryz.underlying175
  a105:=Tryz.isAgg175
  z105:=Tryz.sizeOf175
  v105:=Tryz.zeroValue175
  t119:=Tryz.underlying189
  a119:=Tryz.isAgg189
  z119:=Tryz.sizeOf189
  t138:=Tryz.underlying191
  a138:=Tryz.isAgg191
  z138:=Tryz.sizeOf191
  v138:=Tryz.zeroValue191
  t139:=Tryz.underlying192
  a139:=Tryz.isAgg192
  z139:=Tryz.sizeOf192
  v139:=Tryz.zeroValue192
  g3:=by kernel_rfl
  g4:=by kernel_rfl}
open Go.RowKit Go.Lib in
theorem Tryz.utf8_DecodeRuneInString (s:ByteArray) (w:World) (hT:Lib.Utf8Tabs 1 2 w):
    Calls Tryz.prog 125 #[.string s] w fun e w'=>e= .returned (.tuple #[.int .i32 (Lib.decodeGo s).1,.int .i64 (Lib.decodeGo s).2])∧Below w.heap.size w w':=Any.utf8_DecodeRuneInString Tryz.lays197 s w hT
def Tryz.lays185_ren:Go.Shelf.Ren:=⟨fun | 185=>193 | 187=>220 | 115=>219 | 253=>221 | 224=>165 | 254=>222 | 255=>235 | 291=>236 | n=>n,fun | 37=>43 | 3=>3 | 4=>4 | 0=>0 | 5=>5 | 46=>158 | 9=>9 | 146=>256 | 51=>214 | n=>n,fun | 1=>3 | n=>n⟩
theorem Tryz.lays185:Go.Proofs.Lays.n185 Tryz.prog Tryz.lays185_ren:={
  mixed:=by kernel_rfl
  f115:=Tryz.func219.trans (congrArg some (by kernel_rfl))
  f185:=Tryz.func193.trans (congrArg some (by kernel_rfl))
  f187:=Tryz.func220.trans (congrArg some (by kernel_rfl))
  f224:=Tryz.func165.trans (congrArg some (by kernel_rfl))
  f253:=Tryz.func221.trans (congrArg some (by kernel_rfl))
  f254:=Tryz.func222.trans (congrArg some (by kernel_rfl))
  f255:=Tryz.func235.trans (congrArg some (by kernel_rfl))
  f291:=Tryz.func236.trans (congrArg some (by kernel_rfl))
  t0:=Tryz.underlying0
  a0:=Tryz.isAgg0
  z0:=Tryz.sizeOf0
  v0:=Tryz.zeroValue0
  t3:=Tryz.underlying3
  a3:=Tryz.isAgg3
  z3:=Tryz.sizeOf3
  v3:=Tryz.zeroValue3
  t4:=Tryz.underlying4
  a4:=Tryz.isAgg4
  z4:=Tryz.sizeOf4
  v4:=Tryz.zeroValue4
  t5:=Tryz.underlying5
  a5:=Tryz.isAgg5
  z5:=Tryz.sizeOf5
  v5:=Tryz.zeroValue5
  t9:=Tryz.underlying9
  a9:=Tryz.isAgg9
  z9:=Tryz.sizeOf9
  v9:=Tryz.zeroValue9
  t37:=Tryz.underlying43
  a37:=Tryz.isAgg43
  z37:=Tryz.sizeOf43
  v37:=Tryz.zeroValue43
  t46:=Tryz.underlying158
  a46:=Tryz.isAgg158
  z46:=Tryz.sizeOf158
  v46:=Tryz.zeroValue158
  t51:=Tryz.underlying214
  a51:=Tryz.isAgg214
  z51:=Tryz.sizeOf214
  v51:=Tryz.zeroValue214
  t146:=Tryz.underlying256
  a146:=Tryz.isAgg256
  z146:=Tryz.sizeOf256
  v146:=Tryz.zeroValue256
  g1:=by kernel_rfl}
def Tryz.lays187_ren:Go.Shelf.Ren:=⟨fun | 187=>220 | 255=>235 | n=>n,fun | 37=>43 | 5=>5 | 3=>3 | n=>n,fun | n=>n⟩
theorem Tryz.lays187:Go.Proofs.Lays.n187 Tryz.prog Tryz.lays187_ren:={
  mixed:=by kernel_rfl
  f187:=Tryz.func220.trans (congrArg some (by kernel_rfl))
  f255:=Tryz.func235.trans (congrArg some (by kernel_rfl))
  t3:=Tryz.underlying3
  a3:=Tryz.isAgg3
  z3:=Tryz.sizeOf3
  v3:=Tryz.zeroValue3
  t5:=Tryz.underlying5
  a5:=Tryz.isAgg5
  z5:=Tryz.sizeOf5
  v5:=Tryz.zeroValue5
  t37:=Tryz.underlying43
  a37:=Tryz.isAgg43
  z37:=Tryz.sizeOf43
  v37:=Tryz.zeroValue43}
open Go.RowKit Go.Lib in
theorem Tryz.bytes_IndexByte_at (a:Addr) (n c:Nat) (xs:List Int) (cv:Int) (w:World) (hx:xs.length=n) (hc:∀i,i< n→w.cell? (a.add i)=some (.int .u8 (xs.getD i 0))):
    Calls Tryz.prog 220 #[.slice (some a) n c,.int .u8 cv] w fun e w'=>e= .returned (.int .i64 (Lib.indexByte (Lib.bytesOf xs) cv.toNat.toUInt8))∧w'=w:=Any.bytes_IndexByte_at Tryz.lays187 a n c xs cv w hx hc
open Go.Proofs Go.RowKit Go.Lib in
theorem Tryz.bytes_Index_at (a1 a2:Addr) (n c1 k c2:Nat) (xs ys:List Int) (m:Int) (w:World) (hx:xs.length=n) (hy:ys.length=k) (hr1:∀x∈xs,0≤x∧x< 256) (hr2:∀y∈ys,0≤y∧y< 256) (hc1:∀i,i< n→w.cell? (a1.add i)=some (.int .u8 (xs.getD i 0))) (hc2:∀i,i< k→w.cell? (a2.add i)=some (.int .u8 (ys.getD i 0))) (hcap:n≤c1) (hs:n< 4294967281) (hk:k≤9223372036854775807) (hm:w.cell? ⟨3,0,none⟩=some (.int .i64 m)):
    Calls Tryz.prog 193 #[.slice (some a1) n c1,.slice (some a2) k c2] w fun e w'=>e= .returned (.int .i64 (Lib.index (Lib.bytesOf xs) (Lib.bytesOf ys)))∧∃q,w'=w.drewN q:=Any.bytes_Index_at Tryz.lays185 a1 a2 n c1 k c2 xs ys m w hx hy hr1 hr2 hc1 hc2 hcap hs hk hm
end Go.Proofs
