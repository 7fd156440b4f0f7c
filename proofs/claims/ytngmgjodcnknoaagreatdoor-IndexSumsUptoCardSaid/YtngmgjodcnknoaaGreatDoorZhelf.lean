/-
  DERIVED:THE SHELF's CONTRACTS AT THIS DUMP,IN PLAIN WORDS (tools/lay-plain.mjs out of 'YtngmgjodcnknoaaGreatDoorShelf.lean',which tools/lay-shelf.mjs wrote):THE SAME DECLARATIONS UNDER THE SAME NAMES:'import','namespace','open','def','theorem' AND NOTHING ELSE:no command of the shelf's:FOR A HAND-IN. Each laying:the table of numbers ('.._ren') and one theorem,a field a fact of the dump's own or the kernel's comparison;each contract:ONE APPLICATION.
-/
import Derived.Shelf.Strings.Builder1
import Derived.Shelf.Strings.Builder2
import Derived.Shelf.Strings.OnBuilder
import Derived.Shelf.Small.Bits
import Derived.Shelf.Small.Strs
import Derived.Shelf.Strings.BuilderF
import Derived.Shelf.Strings.BuilderK
import Derived.Shelf.Strings.Builder2Cap
import Derived.Shelf.Strconv.Itoa0
import Derived.Shelf.Strconv.Itoa1
import Derived.Shelf.LaysM
import Derived.Shelf.Strconv.Itoa2
import Derived.Shelf.Strconv.Itoa3
import Derived.Shelf.Strings.Search1
import Derived.Shelf.Strings.Search2
import Derived.Shelf.Strings.Search3
import Derived.Shelf.Strings.Shaped
import Derived.Shelf.Sort.Plain
import Derived.Shelf.Strings.BuilderCap
import Derived.Shelf.Slices.In.SortNone
import Derived.Test.YtngmgjodcnknoaaGreatDoorProg
namespace Go.Proofs
open Go.Shelf
def Tryz.lays156_ren:Go.Shelf.Ren:=⟨fun | 156=>42 | 165=>70 | 166=>71 | 169=>72 | 240=>103 | 241=>104 | 276=>142 | 277=>143 | n=>n,fun | 31=>27 | 9=>9 | 3=>3 | 4=>4 | 0=>0 | 20=>20 | 72=>141 | 76=>142 | 70=>138 | 37=>139 | 75=>77 | 127=>179 | 164=>210 | 5=>5 | 80=>144 | n=>n,fun | n=>n⟩
theorem Tryz.lays156:Go.Proofs.Lays.n156 Tryz.prog Tryz.lays156_ren:={
  mixed:=by kernel_rfl
  f156:=Tryz.func42.trans (congrArg some (by kernel_rfl))
  f165:=Tryz.func70.trans (congrArg some (by kernel_rfl))
  f166:=Tryz.func71.trans (congrArg some (by kernel_rfl))
  f169:=Tryz.func72.trans (congrArg some (by kernel_rfl))
  f240:=Tryz.func103.trans (congrArg some (by kernel_rfl))
  f241:=Tryz.func104.trans (congrArg some (by kernel_rfl))
  f276:=Tryz.func142.trans (congrArg some (by kernel_rfl))
  f277:=Tryz.func143.trans (congrArg some (by kernel_rfl))
  t0:=Tryz.underlying0
  a0:=Tryz.isAgg0
  z0:=Tryz.sizeOf0
  v0:=Tryz.zeroValue0
  t3:=Tryz.underlying3
  a3:=Tryz.isAgg3
  z3:=Tryz.sizeOf3
  v3:=Tryz.zeroValue3
  t4:=Tryz.underlying4
  a4:=Tryz.isAgg4
  z4:=Tryz.sizeOf4
  v4:=Tryz.zeroValue4
  t9:=Tryz.underlying9
  a9:=Tryz.isAgg9
  z9:=Tryz.sizeOf9
  v9:=Tryz.zeroValue9
  t20:=Tryz.underlying20
  a20:=Tryz.isAgg20
  z20:=Tryz.sizeOf20
  v20:=Tryz.zeroValue20
  t31:=Tryz.underlying27
  a31:=Tryz.isAgg27
  z31:=Tryz.sizeOf27
  v31:=Tryz.zeroValue27
  t37:=Tryz.underlying139
  a37:=Tryz.isAgg139
  z37:=Tryz.sizeOf139
  v37:=Tryz.zeroValue139
  t70:=Tryz.underlying138
  a70:=Tryz.isAgg138
  z70:=Tryz.sizeOf138
  v70:=Tryz.zeroValue138
  t72:=Tryz.underlying141
  a72:=Tryz.isAgg141
  z72:=Tryz.sizeOf141
  v72:=Tryz.zeroValue141
  t75:=Tryz.underlying77
  a75:=Tryz.isAgg77
  z75:=Tryz.sizeOf77
  v75:=Tryz.zeroValue77
  t76:=Tryz.underlying142
  a76:=Tryz.isAgg142
  z76:=Tryz.sizeOf142
  v76:=Tryz.zeroValue142
  t127:=Tryz.underlying179
  a127:=Tryz.isAgg179
  z127:=Tryz.sizeOf179
  v127:=Tryz.zeroValue179
  t164:=Tryz.underlying210
  a164:=Tryz.isAgg210
  z164:=Tryz.sizeOf210
  v164:=Tryz.zeroValue210}
theorem Tryz.Builder_Extra_156:Builder.Extra Tryz.prog Tryz.lays156_ren:={
  sizeBuilder:=by kernel_rfl
  liesBuilder:=by kernel_rfl
  t5:=Tryz.underlying5
  a5:=Tryz.isAgg5
  z5:=Tryz.sizeOf5
  v5:=Tryz.zeroValue5
  infoByte:=by kernel_rfl
  cellsByte:=by kernel_rfl
  sizeByte:=by kernel_rfl
  neB5:=by decide}
open Go.RowKit in
theorem Tryz.strings_Join_none (a:Option Addr) (c:Nat) (sep:ByteArray) (w:World):
    Calls Tryz.prog 42 #[.slice a 0 c,.string sep] w fun e w'=>e= .returned (.string ⟨#[]⟩)∧w'=w:=Any.strings_Join_none Tryz.lays156 Tryz.Builder_Extra_156 a c sep w
open Go.RowKit in
theorem Tryz.strings_Join (bk o c:Nat) (xs:List ByteArray) (sep:ByteArray) (w:World) (hcells:∀(j:Nat) x,xs[j]? =some x→w.cell? ⟨bk,o+j,none⟩=some (.string x)) (hbk:bk< w.heap.size) (hN:xs.length≤140737488355328) (hcap:xs.length≤c) (hlen:(Lib.join (xs.map (·.data.toList)) sep.data.toList).length≤140737488355328):
    Calls Tryz.prog 42 #[.slice (some ⟨bk,o,none⟩) xs.length c,.string sep] w fun e w'=>e= .returned (.string ⟨(Lib.join (xs.map (·.data.toList)) sep.data.toList).toArray⟩)∧Below w.heap.size w w':=Any.strings_Join Tryz.lays156 Tryz.Builder_Extra_156 bk o c xs sep w hcells hbk hN hcap hlen
def Tryz.lays137_ren:Go.Shelf.Ren:=⟨fun | 137=>152 | 217=>130 | 266=>164 | n=>n,fun | 9=>9 | 5=>5 | 3=>3 | n=>n,fun | n=>n⟩
theorem Tryz.lays137:Go.Proofs.Lays.n137 Tryz.prog Tryz.lays137_ren:={
  mixed:=by kernel_rfl
  f137:=Tryz.func152.trans (congrArg some (by kernel_rfl))
  f217:=Tryz.func130.trans (congrArg some (by kernel_rfl))
  f266:=Tryz.func164.trans (congrArg some (by kernel_rfl))
  t3:=Tryz.underlying3
  a3:=Tryz.isAgg3
  z3:=Tryz.sizeOf3
  v3:=Tryz.zeroValue3
  t5:=Tryz.underlying5
  a5:=Tryz.isAgg5
  z5:=Tryz.sizeOf5
  v5:=Tryz.zeroValue5
  t9:=Tryz.underlying9
  a9:=Tryz.isAgg9
  z9:=Tryz.sizeOf9
  v9:=Tryz.zeroValue9}
open Go.RowKit in
theorem Tryz.strings_IndexByte (s:ByteArray) (c:Int) (w:World):
    Calls Tryz.prog 152 #[.string s,.int .u8 c] w fun e w'=>e= .returned (.int .i64 (Lib.indexByte s.data.toList c.toNat.toUInt8))∧w'=w:=Any.strings_IndexByte Tryz.lays137 s c w
def Tryz.lays171_ren:Go.Shelf.Ren:=⟨fun | 171=>41 | 243=>69 | 246=>102 | 283=>138 | 284=>139 | 285=>140 | 286=>141 | 129=>163 | 317=>175 | 318=>176 | 319=>177 | 320=>178 | 337=>192 | 338=>193 | n=>n,fun | 3=>3 | 9=>9 | 2=>2 | 4=>4 | 171=>204 | 0=>0 | 53=>205 | 37=>139 | 5=>5 | 173=>208 | 212=>242 | 51=>232 | 20=>20 | 213=>243 | 46=>196 | 232=>259 | 233=>260 | n=>n,fun | 17=>1 | 18=>2 | 19=>3 | n=>n⟩
theorem Tryz.lays171:Go.Proofs.Lays.n171 Tryz.prog Tryz.lays171_ren:={
  mixed:=by kernel_rfl
  f129:=Tryz.func163.trans (congrArg some (by kernel_rfl))
  f171:=Tryz.func41.trans (congrArg some (by kernel_rfl))
  f243:=Tryz.func69.trans (congrArg some (by kernel_rfl))
  f246:=Tryz.func102.trans (congrArg some (by kernel_rfl))
  f283:=Tryz.func138.trans (congrArg some (by kernel_rfl))
  f284:=Tryz.func139.trans (congrArg some (by kernel_rfl))
  f285:=Tryz.func140.trans (congrArg some (by kernel_rfl))
  f286:=Tryz.func141.trans (congrArg some (by kernel_rfl))
  f317:=Tryz.func175.trans (congrArg some (by kernel_rfl))
  f318:=Tryz.func176.trans (congrArg some (by kernel_rfl))
  f319:=Tryz.func177.trans (congrArg some (by kernel_rfl))
  f320:=Tryz.func178.trans (congrArg some (by kernel_rfl))
  f337:=Tryz.func192.trans (congrArg some (by kernel_rfl))
  f338:=Tryz.func193.trans (congrArg some (by kernel_rfl))
  t0:=Tryz.underlying0
  a0:=Tryz.isAgg0
  z0:=Tryz.sizeOf0
  v0:=Tryz.zeroValue0
  t2:=Tryz.underlying2
  a2:=Tryz.isAgg2
  z2:=Tryz.sizeOf2
  v2:=Tryz.zeroValue2
  t3:=Tryz.underlying3
  a3:=Tryz.isAgg3
  z3:=Tryz.sizeOf3
  v3:=Tryz.zeroValue3
  t4:=Tryz.underlying4
  a4:=Tryz.isAgg4
  z4:=Tryz.sizeOf4
  v4:=Tryz.zeroValue4
  t5:=Tryz.underlying5
  a5:=Tryz.isAgg5
  z5:=Tryz.sizeOf5
  v5:=Tryz.zeroValue5
  t9:=Tryz.underlying9
  a9:=Tryz.isAgg9
  z9:=Tryz.sizeOf9
  v9:=Tryz.zeroValue9
  t20:=Tryz.underlying20
  a20:=Tryz.isAgg20
  z20:=Tryz.sizeOf20
  v20:=Tryz.zeroValue20
  t37:=Tryz.underlying139
  a37:=Tryz.isAgg139
  z37:=Tryz.sizeOf139
  v37:=Tryz.zeroValue139
  t46:=Tryz.underlying196
  a46:=Tryz.isAgg196
  z46:=Tryz.sizeOf196
  v46:=Tryz.zeroValue196
  t51:=Tryz.underlying232
  a51:=Tryz.isAgg232
  z51:=Tryz.sizeOf232
  v51:=Tryz.zeroValue232
  t53:=Tryz.underlying205
  a53:=Tryz.isAgg205
  z53:=Tryz.sizeOf205
  v53:=Tryz.zeroValue205
  t171:=Tryz.underlying204
  a171:=Tryz.isAgg204
  z171:=Tryz.sizeOf204
  v171:=Tryz.zeroValue204
  t173:=Tryz.underlying208
  a173:=Tryz.isAgg208
  z173:=Tryz.sizeOf208
  v173:=Tryz.zeroValue208
  t212:=Tryz.underlying242
  a212:=Tryz.isAgg242
  z212:=Tryz.sizeOf242
  v212:=Tryz.zeroValue242
  t213:=Tryz.underlying243
  a213:=Tryz.isAgg243
  z213:=Tryz.sizeOf243
  t232:=Tryz.underlying259
  a232:=Tryz.isAgg259
  z232:=Tryz.sizeOf259
  v232:=Tryz.zeroValue259
  t233:=Tryz.underlying260
  a233:=Tryz.isAgg260
  z233:=Tryz.sizeOf260
  v233:=Tryz.zeroValue260
  g17:=by kernel_rfl
  g18:=by kernel_rfl
  g19:=by kernel_rfl}
open Go.RowKit Go.Sort Go.Lib in
theorem Tryz.strconv_Itoa_small (i:Nat) (hi:i< 100) (w:World):
    Calls Tryz.prog 41 #[.int .i64 i] w fun e w'=>e= .returned (.string ⟨(Lib.decDigits i).toArray⟩)∧w'=w:=Any.strconv_Itoa_small Tryz.lays171 i hi w
def Tryz.lays144_ren:Go.Shelf.Ren:=⟨fun | 144=>32 | 143=>57 | 219=>91 | 217=>130 | 225=>131 | 224=>132 | 267=>133 | 266=>164 | 314=>165 | n=>n,fun | 9=>9 | 4=>4 | 3=>3 | 5=>5 | 46=>196 | 146=>233 | 51=>232 | n=>n,fun | 1=>0 | n=>n⟩
theorem Tryz.lays144:Go.Proofs.Lays.n144 Tryz.prog Tryz.lays144_ren:={
  mixed:=by kernel_rfl
  f143:=Tryz.func57.trans (congrArg some (by kernel_rfl))
  f144:=Tryz.func32.trans (congrArg some (by kernel_rfl))
  f217:=Tryz.func130.trans (congrArg some (by kernel_rfl))
  f219:=Tryz.func91.trans (congrArg some (by kernel_rfl))
  f224:=Tryz.func132.trans (congrArg some (by kernel_rfl))
  f225:=Tryz.func131.trans (congrArg some (by kernel_rfl))
  f266:=Tryz.func164.trans (congrArg some (by kernel_rfl))
  f267:=Tryz.func133.trans (congrArg some (by kernel_rfl))
  f314:=Tryz.func165.trans (congrArg some (by kernel_rfl))
  t3:=Tryz.underlying3
  a3:=Tryz.isAgg3
  z3:=Tryz.sizeOf3
  v3:=Tryz.zeroValue3
  t4:=Tryz.underlying4
  a4:=Tryz.isAgg4
  z4:=Tryz.sizeOf4
  v4:=Tryz.zeroValue4
  t5:=Tryz.underlying5
  a5:=Tryz.isAgg5
  z5:=Tryz.sizeOf5
  v5:=Tryz.zeroValue5
  t9:=Tryz.underlying9
  a9:=Tryz.isAgg9
  z9:=Tryz.sizeOf9
  v9:=Tryz.zeroValue9
  t46:=Tryz.underlying196
  a46:=Tryz.isAgg196
  z46:=Tryz.sizeOf196
  v46:=Tryz.zeroValue196
  t51:=Tryz.underlying232
  a51:=Tryz.isAgg232
  z51:=Tryz.sizeOf232
  v51:=Tryz.zeroValue232
  t146:=Tryz.underlying233
  a146:=Tryz.isAgg233
  z146:=Tryz.sizeOf233
  v146:=Tryz.zeroValue233
  g1:=by kernel_rfl}
open Go.RowKit Go.Lib in
theorem Tryz.strings_Contains (s sub:ByteArray) (m:Int) (w:World) (hs:s.size< 4294967281) (hm:w.cell? ⟨0,0,none⟩=some (.int .i64 m)):
    Calls Tryz.prog 32 #[.string s,.string sub] w fun e w'=>e= .returned (.bool (Lib.contains s.data.toList sub.data.toList))∧w'=w:=Any.strings_Contains Tryz.lays144 s sub m w hs hm
def Tryz.laysM144_ren:Go.Shelf.Ren:=⟨fun | 144=>32 | 143=>57 | 219=>91 | 217=>130 | 225=>131 | 224=>132 | 267=>133 | 266=>164 | 314=>165 | n=>n,fun | 9=>9 | 4=>4 | 3=>3 | 5=>5 | 46=>196 | 146=>233 | 51=>232 | n=>n,fun | 1=>0 | n=>n⟩
theorem Tryz.laysM144:Go.Proofs.LaysM.n144 Tryz.prog Tryz.laysM144_ren:={
  mixed:=by kernel_rfl
  f143:=Tryz.func57.trans (congrArg some (by kernel_rfl))
  f144:=Tryz.func32.trans (congrArg some (by kernel_rfl))
  f217:=Tryz.func130.trans (congrArg some (by kernel_rfl))
  f219:=Tryz.func91.trans (congrArg some (by kernel_rfl))
  f224:=Tryz.func132.trans (congrArg some (by kernel_rfl))
  f225:=Tryz.func131.trans (congrArg some (by kernel_rfl))
  f266:=Tryz.func164.trans (congrArg some (by kernel_rfl))
  f267:=Tryz.func133.trans (congrArg some (by kernel_rfl))
  f314:=Tryz.func165.trans (congrArg some (by kernel_rfl))
  t3:=Tryz.underlying3
  a3:=Tryz.isAgg3
  z3:=Tryz.sizeOf3
  v3:=Tryz.zeroValue3
  t4:=Tryz.underlying4
  a4:=Tryz.isAgg4
  z4:=Tryz.sizeOf4
  v4:=Tryz.zeroValue4
  t5:=Tryz.underlying5
  a5:=Tryz.isAgg5
  z5:=Tryz.sizeOf5
  v5:=Tryz.zeroValue5
  t9:=Tryz.underlying9
  a9:=Tryz.isAgg9
  z9:=Tryz.sizeOf9
  v9:=Tryz.zeroValue9
  t46:=Tryz.underlying196
  a46:=Tryz.isAgg196
  z46:=Tryz.sizeOf196
  v46:=Tryz.zeroValue196
  t51:=Tryz.underlying232
  a51:=Tryz.isAgg232
  z51:=Tryz.sizeOf232
  v51:=Tryz.zeroValue232
  t146:=Tryz.underlying233
  a146:=Tryz.isAgg233
  z146:=Tryz.sizeOf233
  v146:=Tryz.zeroValue233
  g1:=by kernel_rfl
  i3:=by kernel_rfl
  i4:=by kernel_rfl
  i5:=by kernel_rfl
  i9:=by kernel_rfl
  i46:=by kernel_rfl
  i51:=by kernel_rfl
  i146:=by kernel_rfl
  m1:=by kernel_rfl
  s1_3:=fun w h=>Go.Proofs.cell_of_shapedOpen_int (zero:= #[.int .i64 0]) (t:=3) h (of_decide_eq_true (by kernel_rfl)) (by kernel_rfl) rfl (by kernel_rfl) (by kernel_rfl) Tryz.underlying3}
open Go.RowKit Go.Lib in
theorem Tryz.strings_Contains_shaped (s sub:ByteArray) (w:World) (h:w.ShapedOpen Tryz.prog) (hs:s.size< 4294967281):
    Calls Tryz.prog 32 #[.string s,.string sub] w fun e w'=>e= .returned (.bool (Lib.contains s.data.toList sub.data.toList))∧w'=w:=Any.strings_Contains_shaped Tryz.laysM144 s sub w h hs
end Go.Proofs
