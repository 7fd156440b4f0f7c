/-
  DERIVED: THE SHELF's CONTRACTS AT THIS DUMP, IN PLAIN WORDS (tools/lay-plain.mjs out of 'TryzShelf.lean', which tools/lay-shelf.mjs wrote): THE SAME DECLARATIONS UNDER THE SAME NAMES: 'import', 'namespace', 'open', 'def', 'theorem' AND NOTHING ELSE: no command of the shelf's: FOR A HAND-IN. Each laying: the table of numbers ('.._ren') and one theorem, a field a fact of the dump's own or the kernel's comparison; each contract: ONE APPLICATION.
-/
import Derived.Shelf.Strings.Builder1
import Derived.Shelf.Strings.Builder2
import Derived.Shelf.Strings.OnBuilder
import Derived.Shelf.Strings.SlTrimAscii
import Derived.Shelf.Small.Utf8
import Derived.Shelf.Small.Strs
import Derived.Shelf.Small.Wraps
import Derived.Shelf.Strings.BuilderF
import Derived.Shelf.Strconv.Itoa0
import Derived.Shelf.Strconv.Itoa1
import Derived.Shelf.LaysM
import Derived.Shelf.Strconv.Itoa2
import Derived.Shelf.Strconv.Itoa3
import Derived.Ground.MpProg
import Derived.Shelf.Pu.ParseUintPublic10
import Derived.Shelf.Strings.Search1
import Derived.Shelf.Strings.Search2
import Derived.Shelf.Strings.Search3
import Derived.Shelf.Strings.Cut
import Derived.Shelf.Strings.Shaped
import Derived.Shelf.Strings.Prefix
import Derived.Shelf.Unicode.Decode
import Derived.Shelf.Strings.Runes
import Derived.Shelf.Strings.AsciiSet
import Derived.Shelf.Unicode.DecodeSlow
import Derived.Shelf.Unicode.DecodeAny
import Derived.Shelf.Unicode.DecodeLast
import Derived.Shelf.Strings.FieldsFuncAny
import Derived.Shelf.Strings.FieldsFuncGrows
import Derived.Shelf.Slices.Turned
import Derived.Shelf.Slices.Reverse
import Derived.Shelf.Slices.Cells
import Derived.Test.YtcdehcclkhmbiaaGreatDoorProg
namespace Go.Proofs
open Go.Shelf
def Tryz.lays169_ren : Go.Shelf.Ren := ⟨fun | 169 => 81 | n => n, fun | 70 => 94 | 9 => 9 | 0 => 0 | 72 => 96 | 37 => 73 | 127 => 117 | 3 => 3 | 5 => 5 | n => n, fun | n => n⟩
theorem Tryz.lays169 : Go.Proofs.Lays.n169 Tryz.prog Tryz.lays169_ren := {
  mixed := by kernel_rfl
  f169 := Tryz.func81.trans (congrArg some (by kernel_rfl))
  t0 := Tryz.underlying0
  a0 := Tryz.isAgg0
  z0 := Tryz.sizeOf0
  v0 := Tryz.zeroValue0
  t3 := Tryz.underlying3
  a3 := Tryz.isAgg3
  z3 := Tryz.sizeOf3
  v3 := Tryz.zeroValue3
  t9 := Tryz.underlying9
  a9 := Tryz.isAgg9
  z9 := Tryz.sizeOf9
  v9 := Tryz.zeroValue9
  t37 := Tryz.underlying73
  a37 := Tryz.isAgg73
  z37 := Tryz.sizeOf73
  v37 := Tryz.zeroValue73
  t70 := Tryz.underlying94
  a70 := Tryz.isAgg94
  z70 := Tryz.sizeOf94
  v70 := Tryz.zeroValue94
  t72 := Tryz.underlying96
  a72 := Tryz.isAgg96
  z72 := Tryz.sizeOf96
  v72 := Tryz.zeroValue96
  t127 := Tryz.underlying117
  a127 := Tryz.isAgg117
  z127 := Tryz.sizeOf117
  v127 := Tryz.zeroValue117 }
theorem Tryz.Builder_Extra_169 : Builder.Extra Tryz.prog Tryz.lays169_ren := {
  sizeBuilder := by kernel_rfl
  liesBuilder := by kernel_rfl
  t5 := Tryz.underlying5
  a5 := Tryz.isAgg5
  z5 := Tryz.sizeOf5
  v5 := Tryz.zeroValue5
  infoByte := by kernel_rfl
  cellsByte := by kernel_rfl
  sizeByte := by kernel_rfl
  neB5 := by decide }
open Go.RowKit in
/-- (*strings.Builder).String: "String returns the accumulated string.": WHATEVER THE BUILDER HOLDS. (LAID: no walk: one application.) -/
theorem Tryz.Builder_String_any (B b : Nat) (l : List UInt8) (w : World) (h : Lib.IsBuilder 96 5 B b (Lib.byteCells l) w) (hBw : B ≤ w.heap.size) :
    Calls Tryz.prog 81 #[.pointer (some ⟨b, 0, none⟩)] w fun e w' => e = .returned (.string ⟨l.toArray⟩) ∧ Below B w w' := Any.Builder_String_any Tryz.lays169 Tryz.Builder_Extra_169 B b l w h hBw
def Tryz.lays156_ren : Go.Shelf.Ren := ⟨fun | 156 => 41 | 165 => 79 | 166 => 80 | 169 => 81 | 240 => 100 | 241 => 101 | 276 => 123 | 277 => 124 | n => n, fun | 31 => 37 | 9 => 9 | 3 => 3 | 4 => 4 | 0 => 0 | 20 => 20 | 72 => 96 | 76 => 100 | 70 => 94 | 37 => 73 | 75 => 99 | 127 => 117 | 164 => 140 | 5 => 5 | 80 => 64 | n => n, fun | n => n⟩
theorem Tryz.lays156 : Go.Proofs.Lays.n156 Tryz.prog Tryz.lays156_ren := {
  mixed := by kernel_rfl
  f156 := Tryz.func41.trans (congrArg some (by kernel_rfl))
  f165 := Tryz.func79.trans (congrArg some (by kernel_rfl))
  f166 := Tryz.func80.trans (congrArg some (by kernel_rfl))
  f169 := Tryz.func81.trans (congrArg some (by kernel_rfl))
  f240 := Tryz.func100.trans (congrArg some (by kernel_rfl))
  f241 := Tryz.func101.trans (congrArg some (by kernel_rfl))
  f276 := Tryz.func123.trans (congrArg some (by kernel_rfl))
  f277 := Tryz.func124.trans (congrArg some (by kernel_rfl))
  t0 := Tryz.underlying0
  a0 := Tryz.isAgg0
  z0 := Tryz.sizeOf0
  v0 := Tryz.zeroValue0
  t3 := Tryz.underlying3
  a3 := Tryz.isAgg3
  z3 := Tryz.sizeOf3
  v3 := Tryz.zeroValue3
  t4 := Tryz.underlying4
  a4 := Tryz.isAgg4
  z4 := Tryz.sizeOf4
  v4 := Tryz.zeroValue4
  t9 := Tryz.underlying9
  a9 := Tryz.isAgg9
  z9 := Tryz.sizeOf9
  v9 := Tryz.zeroValue9
  t20 := Tryz.underlying20
  a20 := Tryz.isAgg20
  z20 := Tryz.sizeOf20
  v20 := Tryz.zeroValue20
  t31 := Tryz.underlying37
  a31 := Tryz.isAgg37
  z31 := Tryz.sizeOf37
  v31 := Tryz.zeroValue37
  t37 := Tryz.underlying73
  a37 := Tryz.isAgg73
  z37 := Tryz.sizeOf73
  v37 := Tryz.zeroValue73
  t70 := Tryz.underlying94
  a70 := Tryz.isAgg94
  z70 := Tryz.sizeOf94
  v70 := Tryz.zeroValue94
  t72 := Tryz.underlying96
  a72 := Tryz.isAgg96
  z72 := Tryz.sizeOf96
  v72 := Tryz.zeroValue96
  t75 := Tryz.underlying99
  a75 := Tryz.isAgg99
  z75 := Tryz.sizeOf99
  v75 := Tryz.zeroValue99
  t76 := Tryz.underlying100
  a76 := Tryz.isAgg100
  z76 := Tryz.sizeOf100
  v76 := Tryz.zeroValue100
  t127 := Tryz.underlying117
  a127 := Tryz.isAgg117
  z127 := Tryz.sizeOf117
  v127 := Tryz.zeroValue117
  t164 := Tryz.underlying140
  a164 := Tryz.isAgg140
  z164 := Tryz.sizeOf140
  v164 := Tryz.zeroValue140 }
theorem Tryz.Builder_Extra_156 : Builder.Extra Tryz.prog Tryz.lays156_ren := {
  sizeBuilder := by kernel_rfl
  liesBuilder := by kernel_rfl
  t5 := Tryz.underlying5
  a5 := Tryz.isAgg5
  z5 := Tryz.sizeOf5
  v5 := Tryz.zeroValue5
  infoByte := by kernel_rfl
  cellsByte := by kernel_rfl
  sizeByte := by kernel_rfl
  neB5 := by decide }
open Go.RowKit in
/-- No element: the empty string; the world is as it was. (Whatever the slice's address and capacity: a nil slice too.) (LAID: no walk: one application.) -/
theorem Tryz.strings_Join_none (a : Option Addr) (c : Nat) (sep : ByteArray) (w : World) :
    Calls Tryz.prog 41 #[.slice a 0 c, .string sep] w fun e w' => e = .returned (.string ⟨#[]⟩) ∧ w' = w := Any.strings_Join_none Tryz.lays156 Tryz.Builder_Extra_156 a c sep w
open Go.RowKit in
/-- strings.Join: "Join concatenates the elements of its first argument to create a single string. The separator string sep is placed between elements in the resulting string.": HOWEVER MANY ELEMENTS. Below the heap's end the world is as it was. (LAID: no walk: one application.) -/
theorem Tryz.strings_Join (bk o c : Nat) (xs : List ByteArray) (sep : ByteArray) (w : World) (hcells : ∀ (j : Nat) x, xs[j]? = some x → w.cell? ⟨bk, o + j, none⟩ = some (.string x)) (hbk : bk < w.heap.size) (hN : xs.length ≤ 140737488355328) (hcap : xs.length ≤ c) (hlen : (Lib.join (xs.map (·.data.toList)) sep.data.toList).length ≤ 140737488355328) :
    Calls Tryz.prog 41 #[.slice (some ⟨bk, o, none⟩) xs.length c, .string sep] w fun e w' => e = .returned (.string ⟨(Lib.join (xs.map (·.data.toList)) sep.data.toList).toArray⟩) ∧ Below w.heap.size w w' := Any.strings_Join Tryz.lays156 Tryz.Builder_Extra_156 bk o c xs sep w hcells hbk hN hcap hlen
def Tryz.lays161_ren : Go.Shelf.Ren := ⟨fun | 161 => 97 | 231 => 117 | 227 => 118 | 233 => 119 | 235 => 120 | 228 => 135 | 197 => 67 | 151 => 136 | 260 => 92 | 152 => 150 | 137 => 160 | 119 => 161 | 224 => 133 | 225 => 132 | 217 => 131 | 266 => 148 | n => n, fun | 9 => 9 | 4 => 4 | 3 => 3 | 5 => 5 | 117 => 135 | 116 => 134 | 0 => 0 | 124 => 138 | 105 => 79 | 21 => 21 | 119 => 127 | 46 => 128 | 139 => 131 | 138 => 130 | n => n, fun | 3 => 0 | 4 => 1 | n => n⟩
theorem Tryz.lays161 : Go.Proofs.Lays.n161 Tryz.prog Tryz.lays161_ren := {
  mixed := by kernel_rfl
  f119 := Tryz.func161.trans (congrArg some (by kernel_rfl))
  f137 := Tryz.func160.trans (congrArg some (by kernel_rfl))
  f151 := Tryz.func136.trans (congrArg some (by kernel_rfl))
  f152 := Tryz.func150.trans (congrArg some (by kernel_rfl))
  f161 := Tryz.func97.trans (congrArg some (by kernel_rfl))
  f197 := Tryz.func67.trans (congrArg some (by kernel_rfl))
  f217 := Tryz.func131.trans (congrArg some (by kernel_rfl))
  f224 := Tryz.func133.trans (congrArg some (by kernel_rfl))
  f225 := Tryz.func132.trans (congrArg some (by kernel_rfl))
  f227 := Tryz.func118.trans (congrArg some (by kernel_rfl))
  f228 := Tryz.func135.trans (congrArg some (by kernel_rfl))
  f231 := Tryz.func117.trans (congrArg some (by kernel_rfl))
  f233 := Tryz.func119.trans (congrArg some (by kernel_rfl))
  f235 := Tryz.func120.trans (congrArg some (by kernel_rfl))
  f260 := Tryz.func92.trans (congrArg some (by kernel_rfl))
  f266 := Tryz.func148.trans (congrArg some (by kernel_rfl))
  t0 := Tryz.underlying0
  a0 := Tryz.isAgg0
  z0 := Tryz.sizeOf0
  v0 := Tryz.zeroValue0
  t3 := Tryz.underlying3
  a3 := Tryz.isAgg3
  z3 := Tryz.sizeOf3
  v3 := Tryz.zeroValue3
  t4 := Tryz.underlying4
  a4 := Tryz.isAgg4
  z4 := Tryz.sizeOf4
  v4 := Tryz.zeroValue4
  t5 := Tryz.underlying5
  a5 := Tryz.isAgg5
  z5 := Tryz.sizeOf5
  v5 := Tryz.zeroValue5
  t9 := Tryz.underlying9
  a9 := Tryz.isAgg9
  z9 := Tryz.sizeOf9
  v9 := Tryz.zeroValue9
  t21 := Tryz.underlying21
  a21 := Tryz.isAgg21
  z21 := Tryz.sizeOf21
  v21 := Tryz.zeroValue21
  t46 := Tryz.underlying128
  a46 := Tryz.isAgg128
  z46 := Tryz.sizeOf128
  v46 := Tryz.zeroValue128
  t105 := Tryz.underlying79
  a105 := Tryz.isAgg79
  z105 := Tryz.sizeOf79
  v105 := Tryz.zeroValue79
  t116 := Tryz.underlying134
  a116 := Tryz.isAgg134
  z116 := Tryz.sizeOf134
  t117 := Tryz.underlying135
  a117 := Tryz.isAgg135
  z117 := Tryz.sizeOf135
  v117 := Tryz.zeroValue135
  t119 := Tryz.underlying127
  a119 := Tryz.isAgg127
  z119 := Tryz.sizeOf127
  t124 := Tryz.underlying138
  a124 := Tryz.isAgg138
  z124 := Tryz.sizeOf138
  v124 := Tryz.zeroValue138
  t138 := Tryz.underlying130
  a138 := Tryz.isAgg130
  z138 := Tryz.sizeOf130
  v138 := Tryz.zeroValue130
  t139 := Tryz.underlying131
  a139 := Tryz.isAgg131
  z139 := Tryz.sizeOf131
  v139 := Tryz.zeroValue131
  g3 := by kernel_rfl
  g4 := by kernel_rfl }
def Tryz.lays162_ren : Go.Shelf.Ren := ⟨fun | 162 => 104 | 232 => 126 | 227 => 118 | 234 => 127 | 236 => 128 | 228 => 135 | 271 => 147 | 151 => 136 | 120 => 159 | 197 => 67 | 152 => 150 | 260 => 92 | 137 => 160 | 119 => 161 | 224 => 133 | 225 => 132 | 217 => 131 | 266 => 148 | n => n, fun | 9 => 9 | 4 => 4 | 3 => 3 | 5 => 5 | 117 => 135 | 116 => 134 | 0 => 0 | 124 => 138 | 21 => 21 | 105 => 79 | 46 => 128 | 119 => 127 | 139 => 131 | 138 => 130 | n => n, fun | 3 => 0 | 4 => 1 | n => n⟩
theorem Tryz.lays162 : Go.Proofs.Lays.n162 Tryz.prog Tryz.lays162_ren := {
  mixed := by kernel_rfl
  f119 := Tryz.func161.trans (congrArg some (by kernel_rfl))
  f120 := Tryz.func159.trans (congrArg some (by kernel_rfl))
  f137 := Tryz.func160.trans (congrArg some (by kernel_rfl))
  f151 := Tryz.func136.trans (congrArg some (by kernel_rfl))
  f152 := Tryz.func150.trans (congrArg some (by kernel_rfl))
  f162 := Tryz.func104.trans (congrArg some (by kernel_rfl))
  f197 := Tryz.func67.trans (congrArg some (by kernel_rfl))
  f217 := Tryz.func131.trans (congrArg some (by kernel_rfl))
  f224 := Tryz.func133.trans (congrArg some (by kernel_rfl))
  f225 := Tryz.func132.trans (congrArg some (by kernel_rfl))
  f227 := Tryz.func118.trans (congrArg some (by kernel_rfl))
  f228 := Tryz.func135.trans (congrArg some (by kernel_rfl))
  f232 := Tryz.func126.trans (congrArg some (by kernel_rfl))
  f234 := Tryz.func127.trans (congrArg some (by kernel_rfl))
  f236 := Tryz.func128.trans (congrArg some (by kernel_rfl))
  f260 := Tryz.func92.trans (congrArg some (by kernel_rfl))
  f266 := Tryz.func148.trans (congrArg some (by kernel_rfl))
  f271 := Tryz.func147.trans (congrArg some (by kernel_rfl))
  t0 := Tryz.underlying0
  a0 := Tryz.isAgg0
  z0 := Tryz.sizeOf0
  v0 := Tryz.zeroValue0
  t3 := Tryz.underlying3
  a3 := Tryz.isAgg3
  z3 := Tryz.sizeOf3
  v3 := Tryz.zeroValue3
  t4 := Tryz.underlying4
  a4 := Tryz.isAgg4
  z4 := Tryz.sizeOf4
  v4 := Tryz.zeroValue4
  t5 := Tryz.underlying5
  a5 := Tryz.isAgg5
  z5 := Tryz.sizeOf5
  v5 := Tryz.zeroValue5
  t9 := Tryz.underlying9
  a9 := Tryz.isAgg9
  z9 := Tryz.sizeOf9
  v9 := Tryz.zeroValue9
  t21 := Tryz.underlying21
  a21 := Tryz.isAgg21
  z21 := Tryz.sizeOf21
  v21 := Tryz.zeroValue21
  t46 := Tryz.underlying128
  a46 := Tryz.isAgg128
  z46 := Tryz.sizeOf128
  v46 := Tryz.zeroValue128
  t105 := Tryz.underlying79
  a105 := Tryz.isAgg79
  z105 := Tryz.sizeOf79
  v105 := Tryz.zeroValue79
  t116 := Tryz.underlying134
  a116 := Tryz.isAgg134
  z116 := Tryz.sizeOf134
  t117 := Tryz.underlying135
  a117 := Tryz.isAgg135
  z117 := Tryz.sizeOf135
  v117 := Tryz.zeroValue135
  t119 := Tryz.underlying127
  a119 := Tryz.isAgg127
  z119 := Tryz.sizeOf127
  t124 := Tryz.underlying138
  a124 := Tryz.isAgg138
  z124 := Tryz.sizeOf138
  v124 := Tryz.zeroValue138
  t138 := Tryz.underlying130
  a138 := Tryz.isAgg130
  z138 := Tryz.sizeOf130
  v138 := Tryz.zeroValue130
  t139 := Tryz.underlying131
  a139 := Tryz.isAgg131
  z139 := Tryz.sizeOf131
  v139 := Tryz.zeroValue131
  g3 := by kernel_rfl
  g4 := by kernel_rfl }
def Tryz.lays160_ren : Go.Shelf.Ren := ⟨fun | 160 => 115 | 232 => 126 | 231 => 117 | 227 => 118 | 234 => 127 | 233 => 119 | 236 => 128 | 235 => 120 | 228 => 135 | 271 => 147 | 151 => 136 | 197 => 67 | 120 => 159 | 152 => 150 | 260 => 92 | 137 => 160 | 119 => 161 | 224 => 133 | 225 => 132 | 217 => 131 | 266 => 148 | n => n, fun | 9 => 9 | 4 => 4 | 3 => 3 | 5 => 5 | 117 => 135 | 116 => 134 | 0 => 0 | 124 => 138 | 21 => 21 | 105 => 79 | 46 => 128 | 119 => 127 | 139 => 131 | 138 => 130 | n => n, fun | 3 => 0 | 4 => 1 | n => n⟩
theorem Tryz.lays160 : Go.Proofs.Lays.n160 Tryz.prog Tryz.lays160_ren := {
  mixed := by kernel_rfl
  f119 := Tryz.func161.trans (congrArg some (by kernel_rfl))
  f120 := Tryz.func159.trans (congrArg some (by kernel_rfl))
  f137 := Tryz.func160.trans (congrArg some (by kernel_rfl))
  f151 := Tryz.func136.trans (congrArg some (by kernel_rfl))
  f152 := Tryz.func150.trans (congrArg some (by kernel_rfl))
  f160 := Tryz.func115.trans (congrArg some (by kernel_rfl))
  f197 := Tryz.func67.trans (congrArg some (by kernel_rfl))
  f217 := Tryz.func131.trans (congrArg some (by kernel_rfl))
  f224 := Tryz.func133.trans (congrArg some (by kernel_rfl))
  f225 := Tryz.func132.trans (congrArg some (by kernel_rfl))
  f227 := Tryz.func118.trans (congrArg some (by kernel_rfl))
  f228 := Tryz.func135.trans (congrArg some (by kernel_rfl))
  f231 := Tryz.func117.trans (congrArg some (by kernel_rfl))
  f232 := Tryz.func126.trans (congrArg some (by kernel_rfl))
  f233 := Tryz.func119.trans (congrArg some (by kernel_rfl))
  f234 := Tryz.func127.trans (congrArg some (by kernel_rfl))
  f235 := Tryz.func120.trans (congrArg some (by kernel_rfl))
  f236 := Tryz.func128.trans (congrArg some (by kernel_rfl))
  f260 := Tryz.func92.trans (congrArg some (by kernel_rfl))
  f266 := Tryz.func148.trans (congrArg some (by kernel_rfl))
  f271 := Tryz.func147.trans (congrArg some (by kernel_rfl))
  t0 := Tryz.underlying0
  a0 := Tryz.isAgg0
  z0 := Tryz.sizeOf0
  v0 := Tryz.zeroValue0
  t3 := Tryz.underlying3
  a3 := Tryz.isAgg3
  z3 := Tryz.sizeOf3
  v3 := Tryz.zeroValue3
  t4 := Tryz.underlying4
  a4 := Tryz.isAgg4
  z4 := Tryz.sizeOf4
  v4 := Tryz.zeroValue4
  t5 := Tryz.underlying5
  a5 := Tryz.isAgg5
  z5 := Tryz.sizeOf5
  v5 := Tryz.zeroValue5
  t9 := Tryz.underlying9
  a9 := Tryz.isAgg9
  z9 := Tryz.sizeOf9
  v9 := Tryz.zeroValue9
  t21 := Tryz.underlying21
  a21 := Tryz.isAgg21
  z21 := Tryz.sizeOf21
  v21 := Tryz.zeroValue21
  t46 := Tryz.underlying128
  a46 := Tryz.isAgg128
  z46 := Tryz.sizeOf128
  v46 := Tryz.zeroValue128
  t105 := Tryz.underlying79
  a105 := Tryz.isAgg79
  z105 := Tryz.sizeOf79
  v105 := Tryz.zeroValue79
  t116 := Tryz.underlying134
  a116 := Tryz.isAgg134
  z116 := Tryz.sizeOf134
  t117 := Tryz.underlying135
  a117 := Tryz.isAgg135
  z117 := Tryz.sizeOf135
  v117 := Tryz.zeroValue135
  t119 := Tryz.underlying127
  a119 := Tryz.isAgg127
  z119 := Tryz.sizeOf127
  t124 := Tryz.underlying138
  a124 := Tryz.isAgg138
  z124 := Tryz.sizeOf138
  v124 := Tryz.zeroValue138
  t138 := Tryz.underlying130
  a138 := Tryz.isAgg130
  z138 := Tryz.sizeOf130
  v138 := Tryz.zeroValue130
  t139 := Tryz.underlying131
  a139 := Tryz.isAgg131
  z139 := Tryz.sizeOf131
  v139 := Tryz.zeroValue131
  g3 := by kernel_rfl
  g4 := by kernel_rfl }
def Tryz.lays103_ren : Go.Shelf.Ren := ⟨fun | 103 => 95 | 210 => 116 | 206 => 90 | n => n, fun | 9 => 9 | 4 => 4 | 24 => 111 | 3 => 3 | n => n, fun | n => n⟩
theorem Tryz.lays103 : Go.Proofs.Lays.n103 Tryz.prog Tryz.lays103_ren := {
  mixed := by kernel_rfl
  f103 := Tryz.func95.trans (congrArg some (by kernel_rfl))
  f206 := Tryz.func90.trans (congrArg some (by kernel_rfl))
  f210 := Tryz.func116.trans (congrArg some (by kernel_rfl))
  t3 := Tryz.underlying3
  a3 := Tryz.isAgg3
  z3 := Tryz.sizeOf3
  v3 := Tryz.zeroValue3
  t4 := Tryz.underlying4
  a4 := Tryz.isAgg4
  z4 := Tryz.sizeOf4
  v4 := Tryz.zeroValue4
  t9 := Tryz.underlying9
  a9 := Tryz.isAgg9
  z9 := Tryz.sizeOf9
  v9 := Tryz.zeroValue9
  t24 := Tryz.underlying111
  a24 := Tryz.isAgg111
  z24 := Tryz.sizeOf111
  v24 := Tryz.zeroValue111 }
open Go.RowKit in
/-- strings.CutPrefix: "CutPrefix returns s without the provided leading prefix string and reports whether it found the prefix. If s doesn't start with prefix, CutPrefix returns s, false. If prefix is the empty string, CutPrefix returns s, true.": IT RETURNS '(Lib.trimPrefix s p, Lib.hasPrefix s p)'; the world is as it was. (LAID: no walk: one application.) -/
theorem Tryz.strings_CutPrefix (s p : ByteArray) (w : World) :
    Calls Tryz.prog 95 #[.string s, .string p] w fun e w' => e = .returned (.tuple #[.string ⟨(Lib.trimPrefix s.data.toList p.data.toList).toArray⟩, .bool (Lib.hasPrefix s.data.toList p.data.toList)]) ∧ w' = w := Any.strings_CutPrefix Tryz.lays103 s p w
def Tryz.lays121_ren : Go.Shelf.Ren := ⟨fun | 121 => 93 | 214 => 114 | n => n, fun | 4 => 4 | 9 => 9 | n => n, fun | n => n⟩
theorem Tryz.lays121 : Go.Proofs.Lays.n121 Tryz.prog Tryz.lays121_ren := {
  mixed := by kernel_rfl
  f121 := Tryz.func93.trans (congrArg some (by kernel_rfl))
  f214 := Tryz.func114.trans (congrArg some (by kernel_rfl))
  t4 := Tryz.underlying4
  a4 := Tryz.isAgg4
  z4 := Tryz.sizeOf4
  v4 := Tryz.zeroValue4
  t9 := Tryz.underlying9
  a9 := Tryz.isAgg9
  z9 := Tryz.sizeOf9
  v9 := Tryz.zeroValue9 }
open Go.RowKit in
/-- strconv.FormatBool: "FormatBool returns "true" or "false" according to the value of b.": IT RETURNS 'Lib.formatBool b'; the world is as it was. (LAID: no walk: one application.) -/
theorem Tryz.strconv_FormatBool (b : Bool) (w : World) :
    Calls Tryz.prog 93 #[.bool b] w fun e w' => e = .returned (.string ⟨(Lib.formatBool b).toArray⟩) ∧ w' = w := Any.strconv_FormatBool Tryz.lays121 b w
def Tryz.lays283_ren : Go.Shelf.Ren := ⟨fun | 283 => 143 | n => n, fun | 3 => 3 | 9 => 9 | 4 => 4 | n => n, fun | n => n⟩
theorem Tryz.lays283 : Go.Proofs.Lays.n283 Tryz.prog Tryz.lays283_ren := {
  mixed := by kernel_rfl
  f283 := Tryz.func143.trans (congrArg some (by kernel_rfl))
  t3 := Tryz.underlying3
  a3 := Tryz.isAgg3
  z3 := Tryz.sizeOf3
  v3 := Tryz.zeroValue3
  t4 := Tryz.underlying4
  a4 := Tryz.isAgg4
  z4 := Tryz.sizeOf4
  v4 := Tryz.zeroValue4
  t9 := Tryz.underlying9
  a9 := Tryz.isAgg9
  z9 := Tryz.sizeOf9
  v9 := Tryz.zeroValue9 }
open Go.Lib in
/-- internal/strconv.small: "small returns the string for an i with 0 <= i < nSmalls.": i's decimal numeral. The world is as it was. (LAID: no walk: one application.) -/
theorem Tryz.internal_strconv_small (i : Nat) (h : i < 100) (w : World) :
    Calls Tryz.prog 143 #[.int .i64 i] w fun e w' => e = .returned (.string ⟨(Lib.decDigits i).toArray⟩) ∧ w' = w := Any.internal_strconv_small Tryz.lays283 i h w
def Tryz.laysM284_ren : Go.Shelf.Ren := ⟨fun | 284 => 144 | 129 => 155 | 317 => 154 | 318 => 156 | n => n, fun | 53 => 88 | 3 => 3 | 212 => 166 | 0 => 0 | 4 => 4 | 46 => 128 | 5 => 5 | 9 => 9 | n => n, fun | 17 => 5 | n => n⟩
theorem Tryz.laysM284 : Go.Proofs.LaysM.n284 Tryz.prog Tryz.laysM284_ren := {
  mixed := by kernel_rfl
  f129 := Tryz.func155.trans (congrArg some (by kernel_rfl))
  f284 := Tryz.func144.trans (congrArg some (by kernel_rfl))
  f317 := Tryz.func154.trans (congrArg some (by kernel_rfl))
  f318 := Tryz.func156.trans (congrArg some (by kernel_rfl))
  t0 := Tryz.underlying0
  a0 := Tryz.isAgg0
  z0 := Tryz.sizeOf0
  v0 := Tryz.zeroValue0
  t3 := Tryz.underlying3
  a3 := Tryz.isAgg3
  z3 := Tryz.sizeOf3
  v3 := Tryz.zeroValue3
  t4 := Tryz.underlying4
  a4 := Tryz.isAgg4
  z4 := Tryz.sizeOf4
  v4 := Tryz.zeroValue4
  t5 := Tryz.underlying5
  a5 := Tryz.isAgg5
  z5 := Tryz.sizeOf5
  v5 := Tryz.zeroValue5
  t9 := Tryz.underlying9
  a9 := Tryz.isAgg9
  z9 := Tryz.sizeOf9
  v9 := Tryz.zeroValue9
  t46 := Tryz.underlying128
  a46 := Tryz.isAgg128
  z46 := Tryz.sizeOf128
  v46 := Tryz.zeroValue128
  t53 := Tryz.underlying88
  a53 := Tryz.isAgg88
  z53 := Tryz.sizeOf88
  v53 := Tryz.zeroValue88
  t212 := Tryz.underlying166
  a212 := Tryz.isAgg166
  z212 := Tryz.sizeOf166
  v212 := Tryz.zeroValue166
  g17 := by kernel_rfl
  i0 := by kernel_rfl
  i3 := by kernel_rfl
  i4 := by kernel_rfl
  i5 := by kernel_rfl
  i9 := by kernel_rfl
  i46 := by kernel_rfl
  i53 := by kernel_rfl
  i212 := by kernel_rfl
  m17 := by kernel_rfl }
open Go.Lib in
/-- internal/strconv.numDigits, at a d that is not 0: THE NUMBER OF d's DECIMAL DIGITS. The world is as it was. (LAID: no walk: one application.) -/
theorem Tryz.internal_strconv_numDigits (u : Nat) (h1 : 1 ≤ u) (h2 : u < 18446744073709551616) (w : World) (htab : Lib.TabIs Tryz.prog w "internal/strconv.uint64pow10" .u64 Lib.pow10Tab) :
    Calls Tryz.prog 144 #[.int .u64 u] w fun e w' => e = .returned (.int .i64 (Lib.nDigits u)) ∧ w' = w := Any.internal_strconv_numDigits Tryz.laysM284 u h1 h2 w htab
def Tryz.lays285_ren : Go.Shelf.Ren := ⟨fun | 285 => 145 | n => n, fun | 37 => 73 | 53 => 88 | 3 => 3 | 4 => 4 | 51 => 158 | 9 => 9 | 5 => 5 | 0 => 0 | n => n, fun | n => n⟩
theorem Tryz.lays285 : Go.Proofs.Lays.n285 Tryz.prog Tryz.lays285_ren := {
  mixed := by kernel_rfl
  f285 := Tryz.func145.trans (congrArg some (by kernel_rfl))
  t0 := Tryz.underlying0
  a0 := Tryz.isAgg0
  z0 := Tryz.sizeOf0
  v0 := Tryz.zeroValue0
  t3 := Tryz.underlying3
  a3 := Tryz.isAgg3
  z3 := Tryz.sizeOf3
  v3 := Tryz.zeroValue3
  t4 := Tryz.underlying4
  a4 := Tryz.isAgg4
  z4 := Tryz.sizeOf4
  v4 := Tryz.zeroValue4
  t5 := Tryz.underlying5
  a5 := Tryz.isAgg5
  z5 := Tryz.sizeOf5
  v5 := Tryz.zeroValue5
  t9 := Tryz.underlying9
  a9 := Tryz.isAgg9
  z9 := Tryz.sizeOf9
  v9 := Tryz.zeroValue9
  t37 := Tryz.underlying73
  a37 := Tryz.isAgg73
  z37 := Tryz.sizeOf73
  v37 := Tryz.zeroValue73
  t51 := Tryz.underlying158
  a51 := Tryz.isAgg158
  z51 := Tryz.sizeOf158
  v51 := Tryz.zeroValue158
  t53 := Tryz.underlying88
  a53 := Tryz.isAgg88
  z53 := Tryz.sizeOf88
  v53 := Tryz.zeroValue88 }
open Go.RowKit Go.Sort Go.Lib in
/-- internal/strconv.formatBase10: "formatBase10 formats the decimal representation of u into a. The caller is responsible for ensuring that a is big enough to hold u. If a is too big, leading zeros will be filled in as needed.": THE ROW HOLDS u's DIGITS ('FmtInv .. 0 ..': every place t holds 'dg u (len - 1 - t)'); all else is as it was but for the count of draws. (LAID: no walk: one application.) -/
theorem Tryz.internal_strconv_formatBase10 (blk off cap : Nat) (u : Nat) (d : Array UInt8) (w : World) (hH : Holds (fun (b : UInt8) => Value.int .u8 (b.toNat : Int)) w blk off d) (hu : u < 10 ^ d.size) (hu64 : u < 18446744073709551616) (hsz : d.size < 4611686018427387904) :
    Calls Tryz.prog 145 #[.slice (some ⟨blk, off, none⟩) d.size cap, .int .u64 u] w fun e w' =>
      e = .returned (.tuple #[]) ∧ ∃ (n v' : Nat) (dk : Array UInt8), w' = (putRow (fun (b : UInt8) => Value.int .u8 (b.toNat : Int)) w blk off dk).drewN n ∧ FmtInv d.size u 0 v' dk := Any.internal_strconv_formatBase10 Tryz.lays285 blk off cap u d w hH hu hu64 hsz
def Tryz.laysPu14_ren : Go.Shelf.Ren := ⟨fun | 14 => 98 | 16 => 121 | 17 => 122 | 19 => 137 | 20 => 138 | 21 => 139 | 22 => 140 | 23 => 141 | 24 => 142 | 25 => 151 | 27 => 153 | 26 => 152 | 28 => 162 | 29 => 165 | 30 => 143 | 31 => 144 | 32 => 145 | 33 => 146 | 35 => 155 | 34 => 154 | 36 => 156 | 37 => 157 | 38 => 158 | 39 => 163 | 40 => 164 | n => n, fun | 9 => 9 | 3 => 3 | 22 => 88 | 24 => 99 | 25 => 114 | 4 => 4 | 34 => 148 | 5 => 5 | 36 => 128 | 37 => 73 | 0 => 0 | 39 => 150 | 21 => 21 | 44 => 163 | 47 => 117 | 50 => 172 | 48 => 170 | 2 => 2 | 52 => 153 | 55 => 156 | 59 => 166 | 60 => 158 | 20 => 20 | 61 => 167 | 65 => 175 | 66 => 176 | 67 => 64 | n => n, fun | 0 => 3 | 1 => 4 | 2 => 5 | 3 => 6 | 4 => 7 | n => n⟩
theorem Tryz.laysPu14 : Go.Proofs.LaysPu.n14 Tryz.prog Tryz.laysPu14_ren := {
  mixed := by kernel_rfl
  f14 := Tryz.func98.trans (congrArg some (by kernel_rfl))
  f16 := Tryz.func121.trans (congrArg some (by kernel_rfl))
  f17 := Tryz.func122.trans (congrArg some (by kernel_rfl))
  f19 := Tryz.func137.trans (congrArg some (by kernel_rfl))
  f20 := Tryz.func138.trans (congrArg some (by kernel_rfl))
  f21 := Tryz.func139.trans (congrArg some (by kernel_rfl))
  f22 := Tryz.func140.trans (congrArg some (by kernel_rfl))
  f23 := Tryz.func141.trans (congrArg some (by kernel_rfl))
  f24 := Tryz.func142.trans (congrArg some (by kernel_rfl))
  f25 := Tryz.func151.trans (congrArg some (by kernel_rfl))
  f26 := Tryz.func152.trans (congrArg some (by kernel_rfl))
  f27 := Tryz.func153.trans (congrArg some (by kernel_rfl))
  f28 := Tryz.func162.trans (congrArg some (by kernel_rfl))
  f29 := Tryz.func165.trans (congrArg some (by kernel_rfl))
  f30 := Tryz.func143.trans (congrArg some (by kernel_rfl))
  f31 := Tryz.func144.trans (congrArg some (by kernel_rfl))
  f32 := Tryz.func145.trans (congrArg some (by kernel_rfl))
  f33 := Tryz.func146.trans (congrArg some (by kernel_rfl))
  f34 := Tryz.func154.trans (congrArg some (by kernel_rfl))
  f35 := Tryz.func155.trans (congrArg some (by kernel_rfl))
  f36 := Tryz.func156.trans (congrArg some (by kernel_rfl))
  f37 := Tryz.func157.trans (congrArg some (by kernel_rfl))
  f38 := Tryz.func158.trans (congrArg some (by kernel_rfl))
  f39 := Tryz.func163.trans (congrArg some (by kernel_rfl))
  f40 := Tryz.func164.trans (congrArg some (by kernel_rfl))
  t0 := Tryz.underlying0
  a0 := Tryz.isAgg0
  z0 := Tryz.sizeOf0
  v0 := Tryz.zeroValue0
  i0 := by kernel_rfl
  t2 := Tryz.underlying2
  a2 := Tryz.isAgg2
  z2 := Tryz.sizeOf2
  v2 := Tryz.zeroValue2
  i2 := by kernel_rfl
  t3 := Tryz.underlying3
  a3 := Tryz.isAgg3
  z3 := Tryz.sizeOf3
  v3 := Tryz.zeroValue3
  i3 := by kernel_rfl
  t4 := Tryz.underlying4
  a4 := Tryz.isAgg4
  z4 := Tryz.sizeOf4
  v4 := Tryz.zeroValue4
  i4 := by kernel_rfl
  t5 := Tryz.underlying5
  a5 := Tryz.isAgg5
  z5 := Tryz.sizeOf5
  v5 := Tryz.zeroValue5
  i5 := by kernel_rfl
  t9 := Tryz.underlying9
  a9 := Tryz.isAgg9
  z9 := Tryz.sizeOf9
  v9 := Tryz.zeroValue9
  i9 := by kernel_rfl
  t20 := Tryz.underlying20
  a20 := Tryz.isAgg20
  z20 := Tryz.sizeOf20
  v20 := Tryz.zeroValue20
  i20 := by kernel_rfl
  t21 := Tryz.underlying21
  a21 := Tryz.isAgg21
  z21 := Tryz.sizeOf21
  v21 := Tryz.zeroValue21
  i21 := by kernel_rfl
  t22 := Tryz.underlying88
  a22 := Tryz.isAgg88
  z22 := Tryz.sizeOf88
  v22 := Tryz.zeroValue88
  i22 := by kernel_rfl
  t24 := Tryz.underlying99
  a24 := Tryz.isAgg99
  z24 := Tryz.sizeOf99
  v24 := Tryz.zeroValue99
  i24 := by kernel_rfl
  t25 := Tryz.underlying114
  a25 := Tryz.isAgg114
  z25 := Tryz.sizeOf114
  v25 := Tryz.zeroValue114
  i25 := by kernel_rfl
  t34 := Tryz.underlying148
  a34 := Tryz.isAgg148
  z34 := Tryz.sizeOf148
  v34 := Tryz.zeroValue148
  i34 := by kernel_rfl
  c34 := by kernel_rfl
  t36 := Tryz.underlying128
  a36 := Tryz.isAgg128
  z36 := Tryz.sizeOf128
  v36 := Tryz.zeroValue128
  i36 := by kernel_rfl
  t37 := Tryz.underlying73
  a37 := Tryz.isAgg73
  z37 := Tryz.sizeOf73
  v37 := Tryz.zeroValue73
  i37 := by kernel_rfl
  t39 := Tryz.underlying150
  a39 := Tryz.isAgg150
  z39 := Tryz.sizeOf150
  v39 := Tryz.zeroValue150
  i39 := by kernel_rfl
  t44 := Tryz.underlying163
  a44 := Tryz.isAgg163
  z44 := Tryz.sizeOf163
  v44 := Tryz.zeroValue163
  i44 := by kernel_rfl
  t47 := Tryz.underlying117
  a47 := Tryz.isAgg117
  z47 := Tryz.sizeOf117
  v47 := Tryz.zeroValue117
  i47 := by kernel_rfl
  t48 := Tryz.underlying170
  a48 := Tryz.isAgg170
  z48 := Tryz.sizeOf170
  v48 := Tryz.zeroValue170
  i48 := by kernel_rfl
  t50 := Tryz.underlying172
  a50 := Tryz.isAgg172
  z50 := Tryz.sizeOf172
  v50 := Tryz.zeroValue172
  i50 := by kernel_rfl
  t52 := Tryz.underlying153
  a52 := Tryz.isAgg153
  z52 := Tryz.sizeOf153
  v52 := Tryz.zeroValue153
  i52 := by kernel_rfl
  t55 := Tryz.underlying156
  a55 := Tryz.isAgg156
  z55 := Tryz.sizeOf156
  v55 := Tryz.zeroValue156
  i55 := by kernel_rfl
  t59 := Tryz.underlying166
  a59 := Tryz.isAgg166
  z59 := Tryz.sizeOf166
  v59 := Tryz.zeroValue166
  i59 := by kernel_rfl
  t60 := Tryz.underlying158
  a60 := Tryz.isAgg158
  z60 := Tryz.sizeOf158
  v60 := Tryz.zeroValue158
  i60 := by kernel_rfl
  t61 := Tryz.underlying167
  a61 := Tryz.isAgg167
  z61 := Tryz.sizeOf167
  t65 := Tryz.underlying175
  a65 := Tryz.isAgg175
  z65 := Tryz.sizeOf175
  v65 := Tryz.zeroValue175
  i65 := by kernel_rfl
  t66 := Tryz.underlying176
  a66 := Tryz.isAgg176
  z66 := Tryz.sizeOf176
  v66 := Tryz.zeroValue176
  i66 := by kernel_rfl
  t67 := Tryz.underlying64
  a67 := Tryz.isAgg64
  z67 := Tryz.sizeOf64
  v67 := Tryz.zeroValue64
  i67 := by kernel_rfl
  g0 := by kernel_rfl
  m0 := by kernel_rfl
  g1 := by kernel_rfl
  m1 := by kernel_rfl
  g2 := by kernel_rfl
  m2 := by kernel_rfl
  g3 := by kernel_rfl
  m3 := by kernel_rfl
  g4 := by kernel_rfl
  m4 := by kernel_rfl }
open Go.RowKit in
/-- strconv.ParseUint(s, 10, 64), AT EVERY STRING THAT SPELLS A uint64 ('Lib.parseUintB 64 s.data.toList = .ok u'): u, AND NO ERROR. (LAID: no walk: one application.) -/
theorem Tryz.strconv_ParseUint_10_at64_ok (s : ByteArray) (hmax : s.size ≤ 9223372036854775806) (u : Nat) (h : Lib.parseUintB 64 s.data.toList = .ok u) (w : World) :
    Calls Tryz.prog 98 #[.string s, .int .i64 10, .int .i64 64] w fun e w' => e = .returned (.tuple #[.int .u64 u, .nilIface]) ∧ (w' = w ∨ w' = Lib.bytesWorld w 5 s) := Any.strconv_ParseUint_10_at64_ok Tryz.laysPu14 s hmax u h w
def Tryz.lays144_ren : Go.Shelf.Ren := ⟨fun | 144 => 63 | 143 => 91 | 219 => 113 | 217 => 131 | 225 => 132 | 224 => 133 | 267 => 134 | 266 => 148 | 314 => 149 | n => n, fun | 9 => 9 | 4 => 4 | 3 => 3 | 5 => 5 | 46 => 128 | 146 => 159 | 51 => 158 | n => n, fun | 1 => 2 | n => n⟩
theorem Tryz.lays144 : Go.Proofs.Lays.n144 Tryz.prog Tryz.lays144_ren := {
  mixed := by kernel_rfl
  f143 := Tryz.func91.trans (congrArg some (by kernel_rfl))
  f144 := Tryz.func63.trans (congrArg some (by kernel_rfl))
  f217 := Tryz.func131.trans (congrArg some (by kernel_rfl))
  f219 := Tryz.func113.trans (congrArg some (by kernel_rfl))
  f224 := Tryz.func133.trans (congrArg some (by kernel_rfl))
  f225 := Tryz.func132.trans (congrArg some (by kernel_rfl))
  f266 := Tryz.func148.trans (congrArg some (by kernel_rfl))
  f267 := Tryz.func134.trans (congrArg some (by kernel_rfl))
  f314 := Tryz.func149.trans (congrArg some (by kernel_rfl))
  t3 := Tryz.underlying3
  a3 := Tryz.isAgg3
  z3 := Tryz.sizeOf3
  v3 := Tryz.zeroValue3
  t4 := Tryz.underlying4
  a4 := Tryz.isAgg4
  z4 := Tryz.sizeOf4
  v4 := Tryz.zeroValue4
  t5 := Tryz.underlying5
  a5 := Tryz.isAgg5
  z5 := Tryz.sizeOf5
  v5 := Tryz.zeroValue5
  t9 := Tryz.underlying9
  a9 := Tryz.isAgg9
  z9 := Tryz.sizeOf9
  v9 := Tryz.zeroValue9
  t46 := Tryz.underlying128
  a46 := Tryz.isAgg128
  z46 := Tryz.sizeOf128
  v46 := Tryz.zeroValue128
  t51 := Tryz.underlying158
  a51 := Tryz.isAgg158
  z51 := Tryz.sizeOf158
  v51 := Tryz.zeroValue158
  t146 := Tryz.underlying159
  a146 := Tryz.isAgg159
  z146 := Tryz.sizeOf159
  v146 := Tryz.zeroValue159
  g1 := by kernel_rfl }
open Go.RowKit Go.Lib in
/-- strings.Contains: "Contains reports whether substr is within s.": IT RETURNS 'Lib.contains s substr'; the world is as it was. (LAID: no walk: one application.) -/
theorem Tryz.strings_Contains (s sub : ByteArray) (m : Int) (w : World) (hs : s.size < 4294967281) (hm : w.cell? ⟨2, 0, none⟩ = some (.int .i64 m)) :
    Calls Tryz.prog 63 #[.string s, .string sub] w fun e w' => e = .returned (.bool (Lib.contains s.data.toList sub.data.toList)) ∧ w' = w := Any.strings_Contains Tryz.lays144 s sub m w hs hm
def Tryz.lays145_ren : Go.Shelf.Ren := ⟨fun | 145 => 82 | 220 => 102 | 219 => 113 | 217 => 131 | 225 => 132 | 224 => 133 | 267 => 134 | 266 => 148 | 314 => 149 | n => n, fun | 9 => 9 | 4 => 4 | 59 => 102 | 3 => 3 | 5 => 5 | 46 => 128 | 146 => 159 | 51 => 158 | n => n, fun | 1 => 2 | n => n⟩
theorem Tryz.lays145 : Go.Proofs.Lays.n145 Tryz.prog Tryz.lays145_ren := {
  mixed := by kernel_rfl
  f145 := Tryz.func82.trans (congrArg some (by kernel_rfl))
  f217 := Tryz.func131.trans (congrArg some (by kernel_rfl))
  f219 := Tryz.func113.trans (congrArg some (by kernel_rfl))
  f220 := Tryz.func102.trans (congrArg some (by kernel_rfl))
  f224 := Tryz.func133.trans (congrArg some (by kernel_rfl))
  f225 := Tryz.func132.trans (congrArg some (by kernel_rfl))
  f266 := Tryz.func148.trans (congrArg some (by kernel_rfl))
  f267 := Tryz.func134.trans (congrArg some (by kernel_rfl))
  f314 := Tryz.func149.trans (congrArg some (by kernel_rfl))
  t3 := Tryz.underlying3
  a3 := Tryz.isAgg3
  z3 := Tryz.sizeOf3
  v3 := Tryz.zeroValue3
  t4 := Tryz.underlying4
  a4 := Tryz.isAgg4
  z4 := Tryz.sizeOf4
  v4 := Tryz.zeroValue4
  t5 := Tryz.underlying5
  a5 := Tryz.isAgg5
  z5 := Tryz.sizeOf5
  v5 := Tryz.zeroValue5
  t9 := Tryz.underlying9
  a9 := Tryz.isAgg9
  z9 := Tryz.sizeOf9
  v9 := Tryz.zeroValue9
  t46 := Tryz.underlying128
  a46 := Tryz.isAgg128
  z46 := Tryz.sizeOf128
  v46 := Tryz.zeroValue128
  t51 := Tryz.underlying158
  a51 := Tryz.isAgg158
  z51 := Tryz.sizeOf158
  v51 := Tryz.zeroValue158
  t59 := Tryz.underlying102
  a59 := Tryz.isAgg102
  z59 := Tryz.sizeOf102
  v59 := Tryz.zeroValue102
  t146 := Tryz.underlying159
  a146 := Tryz.isAgg159
  z146 := Tryz.sizeOf159
  v146 := Tryz.zeroValue159
  g1 := by kernel_rfl }
open Go.RowKit Go.Lib in
/-- strings.Cut: "Cut slices s around the first instance of sep, returning the text before and after sep. The found result reports whether sep appears in s. If sep does not appear in s, cut returns s, "", false.": IT RETURNS 'Lib.cut s sep'; the world is as it was but for the count of draws. (LAID: no walk: one application.) -/
theorem Tryz.strings_Cut (s sep : ByteArray) (m : Int) (w : World) (hs : s.size < 4294967281) (hm : w.cell? ⟨2, 0, none⟩ = some (.int .i64 m)) :
    Calls Tryz.prog 82 #[.string s, .string sep] w fun e w' => e = .returned (.tuple #[.string ⟨(Lib.cut s.data.toList sep.data.toList).1.toArray⟩, .string ⟨(Lib.cut s.data.toList sep.data.toList).2.1.toArray⟩, .bool (Lib.cut s.data.toList sep.data.toList).2.2]) ∧ ∃ n, w' = w.drewN n := Any.strings_Cut Tryz.lays145 s sep m w hs hm
def Tryz.lays99_ren : Go.Shelf.Ren := ⟨fun | 99 => 61 | 206 => 90 | n => n, fun | 9 => 9 | 4 => 4 | 3 => 3 | n => n, fun | n => n⟩
theorem Tryz.lays99 : Go.Proofs.Lays.n99 Tryz.prog Tryz.lays99_ren := {
  mixed := by kernel_rfl
  f99 := Tryz.func61.trans (congrArg some (by kernel_rfl))
  f206 := Tryz.func90.trans (congrArg some (by kernel_rfl))
  t3 := Tryz.underlying3
  a3 := Tryz.isAgg3
  z3 := Tryz.sizeOf3
  v3 := Tryz.zeroValue3
  t4 := Tryz.underlying4
  a4 := Tryz.isAgg4
  z4 := Tryz.sizeOf4
  v4 := Tryz.zeroValue4
  t9 := Tryz.underlying9
  a9 := Tryz.isAgg9
  z9 := Tryz.sizeOf9
  v9 := Tryz.zeroValue9 }
open Go.RowKit Go.Lib in
/-- strings.HasPrefix: "HasPrefix reports whether the string s begins with prefix.": IT RETURNS 'Lib.hasPrefix s prefix'; the world is as it was. (LAID: no walk: one application.) -/
theorem Tryz.strings_HasPrefix (s p : ByteArray) (w : World) :
    Calls Tryz.prog 61 #[.string s, .string p] w fun e w' => e = .returned (.bool (Lib.hasPrefix s.data.toList p.data.toList)) ∧ w' = w := Any.strings_HasPrefix Tryz.lays99 s p w
def Tryz.lays197_ren : Go.Shelf.Ren := ⟨fun | 197 => 67 | 260 => 92 | n => n, fun | 9 => 9 | 21 => 21 | 3 => 3 | 4 => 4 | 5 => 5 | 105 => 79 | 119 => 127 | 0 => 0 | 46 => 128 | 139 => 131 | 138 => 130 | n => n, fun | 3 => 0 | 4 => 1 | n => n⟩
theorem Tryz.lays197 : Go.Proofs.Lays.n197 Tryz.prog Tryz.lays197_ren := {
  mixed := by kernel_rfl
  f197 := Tryz.func67.trans (congrArg some (by kernel_rfl))
  f260 := Tryz.func92.trans (congrArg some (by kernel_rfl))
  t0 := Tryz.underlying0
  a0 := Tryz.isAgg0
  z0 := Tryz.sizeOf0
  v0 := Tryz.zeroValue0
  t3 := Tryz.underlying3
  a3 := Tryz.isAgg3
  z3 := Tryz.sizeOf3
  v3 := Tryz.zeroValue3
  t4 := Tryz.underlying4
  a4 := Tryz.isAgg4
  z4 := Tryz.sizeOf4
  v4 := Tryz.zeroValue4
  t5 := Tryz.underlying5
  a5 := Tryz.isAgg5
  z5 := Tryz.sizeOf5
  v5 := Tryz.zeroValue5
  t9 := Tryz.underlying9
  a9 := Tryz.isAgg9
  z9 := Tryz.sizeOf9
  v9 := Tryz.zeroValue9
  t21 := Tryz.underlying21
  a21 := Tryz.isAgg21
  z21 := Tryz.sizeOf21
  v21 := Tryz.zeroValue21
  t46 := Tryz.underlying128
  a46 := Tryz.isAgg128
  z46 := Tryz.sizeOf128
  v46 := Tryz.zeroValue128
  t105 := Tryz.underlying79
  a105 := Tryz.isAgg79
  z105 := Tryz.sizeOf79
  v105 := Tryz.zeroValue79
  t119 := Tryz.underlying127
  a119 := Tryz.isAgg127
  z119 := Tryz.sizeOf127
  t138 := Tryz.underlying130
  a138 := Tryz.isAgg130
  z138 := Tryz.sizeOf130
  v138 := Tryz.zeroValue130
  t139 := Tryz.underlying131
  a139 := Tryz.isAgg131
  z139 := Tryz.sizeOf131
  v139 := Tryz.zeroValue131
  g3 := by kernel_rfl
  g4 := by kernel_rfl }
open Go.RowKit Go.Lib in
/-- **unicode/utf8.DecodeRuneInString AT EVERY STRING.** (LAID: no walk: one application.) -/
theorem Tryz.utf8_DecodeRuneInString (s : ByteArray) (w : World) (hT : Lib.Utf8Tabs 0 1 w) :
    Calls Tryz.prog 67 #[.string s] w fun e w' => e = .returned (.tuple #[.int .i32 (Lib.decodeGo s).1, .int .i64 (Lib.decodeGo s).2]) ∧ Below w.heap.size w w' := Any.utf8_DecodeRuneInString Tryz.lays197 s w hT
def Tryz.lays229_ren : Go.Shelf.Ren := ⟨fun | 229 => 84 | n => n, fun | 9 => 9 | 40 => 105 | 31 => 37 | 152 => 118 | 3 => 3 | 0 => 0 | 4 => 4 | 21 => 21 | 154 => 120 | n => n, fun | n => n⟩
theorem Tryz.lays229 : Go.Proofs.Lays.n229 Tryz.prog Tryz.lays229_ren := {
  mixed := by kernel_rfl
  f229 := Tryz.func84.trans (congrArg some (by kernel_rfl))
  t0 := Tryz.underlying0
  a0 := Tryz.isAgg0
  z0 := Tryz.sizeOf0
  v0 := Tryz.zeroValue0
  t3 := Tryz.underlying3
  a3 := Tryz.isAgg3
  z3 := Tryz.sizeOf3
  v3 := Tryz.zeroValue3
  t4 := Tryz.underlying4
  a4 := Tryz.isAgg4
  z4 := Tryz.sizeOf4
  v4 := Tryz.zeroValue4
  t9 := Tryz.underlying9
  a9 := Tryz.isAgg9
  z9 := Tryz.sizeOf9
  v9 := Tryz.zeroValue9
  t21 := Tryz.underlying21
  a21 := Tryz.isAgg21
  z21 := Tryz.sizeOf21
  v21 := Tryz.zeroValue21
  t31 := Tryz.underlying37
  a31 := Tryz.isAgg37
  z31 := Tryz.sizeOf37
  v31 := Tryz.zeroValue37
  t40 := Tryz.underlying105
  a40 := Tryz.isAgg105
  z40 := Tryz.sizeOf105
  v40 := Tryz.zeroValue105
  t152 := Tryz.underlying118
  a152 := Tryz.isAgg118
  z152 := Tryz.sizeOf118
  v152 := Tryz.zeroValue118
  t154 := Tryz.underlying120
  a154 := Tryz.isAgg120
  z154 := Tryz.sizeOf120
  v154 := Tryz.zeroValue120 }
open Go.RowKit Go.Lib in
theorem Tryz.strings_FieldsFunc_runes (g : Nat) (lb : Array Value) (eg : ∀ args w, (callFunc g args).run Tryz.prog w = .ok (.enter g args) w) (p : Nat → Bool) (s : ByteArray) (w : World) (hs : s.size ≤ 4294967296) (hp : PredAtRunes Tryz.prog g lb p w) :
    Calls Tryz.prog 84 #[.string s, .func (.func g) #[] lb] w fun e w' => ∃ A, e = .returned (.slice (some ⟨A, 0, none⟩) (Lib.goFieldsP p s).length (Lib.goFieldsP p s).length) ∧ w.heap.size ≤ A ∧
      w'.ownsRow w.heap.size 9 1 (.slice (some ⟨A, 0, none⟩) (Lib.goFieldsP p s).length (Lib.goFieldsP p s).length) (Lib.goFieldsP p s).length ((Lib.goFieldsP p s).map Value.string) ∧ Below w.heap.size w w' := Any.strings_FieldsFunc_runes Tryz.lays229 g lb eg p s w hs hp (by kernel_rfl) (by kernel_rfl)
open Go.RowKit Go.Lib in
/-- .. over a hand of the authors' house's premise as it stands. (LAID: no walk: one application.) -/
theorem Tryz.strings_FieldsFunc (g : Nat) (lb : Array Value) (eg : ∀ args w, (callFunc g args).run Tryz.prog w = .ok (.enter g args) w) (p : Nat → Bool) (s : ByteArray) (w : World) (hs : s.size ≤ 4294967296) (hp : PredAt Tryz.prog g lb encR p w) :
    Calls Tryz.prog 84 #[.string s, .func (.func g) #[] lb] w fun e w' => ∃ A, e = .returned (.slice (some ⟨A, 0, none⟩) (Lib.goFieldsP p s).length (Lib.goFieldsP p s).length) ∧ w.heap.size ≤ A ∧
      w'.ownsRow w.heap.size 9 1 (.slice (some ⟨A, 0, none⟩) (Lib.goFieldsP p s).length (Lib.goFieldsP p s).length) (Lib.goFieldsP p s).length ((Lib.goFieldsP p s).map Value.string) ∧ Below w.heap.size w w' := Any.strings_FieldsFunc Tryz.lays229 g lb eg p s w hs hp (by kernel_rfl) (by kernel_rfl)
open Go.RowKit Go.Lib in
theorem Tryz.strings_FieldsFunc_grows (g : Nat) (lb : Array Value) (eg : ∀ args w, (callFunc g args).run Tryz.prog w = .ok (.enter g args) w) (p : Nat → Bool) (s : ByteArray) (w : World) (hs : s.size ≤ 4294967296) (hp : PredGrows Tryz.prog g lb p w) :
    Calls Tryz.prog 84 #[.string s, .func (.func g) #[] lb] w fun e w' => ∃ A, e = .returned (.slice (some ⟨A, 0, none⟩) (Lib.goFieldsP p s).length (Lib.goFieldsP p s).length) ∧ w.heap.size ≤ A ∧
      w'.ownsRow w.heap.size 9 1 (.slice (some ⟨A, 0, none⟩) (Lib.goFieldsP p s).length (Lib.goFieldsP p s).length) (Lib.goFieldsP p s).length ((Lib.goFieldsP p s).map Value.string) ∧ Below w.heap.size w w' := Any.strings_FieldsFunc_grows Tryz.lays229 g lb eg p s w hs hp (by kernel_rfl) (by kernel_rfl)
def Tryz.lays109_ren : Go.Shelf.Ren := ⟨fun | 109 => 86 | n => n, fun | 31 => 37 | 9 => 9 | 3 => 3 | 0 => 0 | 4 => 4 | n => n, fun | n => n⟩
theorem Tryz.lays109 : Go.Proofs.Lays.n109 Tryz.prog Tryz.lays109_ren := {
  mixed := by kernel_rfl
  f109 := Tryz.func86.trans (congrArg some (by kernel_rfl))
  t0 := Tryz.underlying0
  a0 := Tryz.isAgg0
  z0 := Tryz.sizeOf0
  v0 := Tryz.zeroValue0
  t3 := Tryz.underlying3
  a3 := Tryz.isAgg3
  z3 := Tryz.sizeOf3
  v3 := Tryz.zeroValue3
  t4 := Tryz.underlying4
  a4 := Tryz.isAgg4
  z4 := Tryz.sizeOf4
  v4 := Tryz.zeroValue4
  t9 := Tryz.underlying9
  a9 := Tryz.isAgg9
  z9 := Tryz.sizeOf9
  v9 := Tryz.zeroValue9
  t31 := Tryz.underlying37
  a31 := Tryz.isAgg37
  z31 := Tryz.sizeOf37
  v31 := Tryz.zeroValue37 }
open Go.Lib in
/-- slices.Index at []string: "Index returns the index of the first occurrence of v in s, or -1 if not present.": IT RETURNS 'Lib.idxOfS (the elements) v'; the world is as it was. 'zs': what the cells behind the slice's address hold (its spare capacity too, if you have it); 'zs.take n': its elements. (LAID: no walk: one application.) -/
theorem Tryz.slices_Index_string (b off n c : Nat) (zs : List ByteArray) (x : ByteArray) (w : World) (hz : n ≤ zs.length) (hbig : n ≤ 9223372036854775807) (hc : ∀ j, j < zs.length → w.cell? ⟨b, off + j, none⟩ = some (.string (zs.getD j ByteArray.empty))) :
    Calls Tryz.prog 86 #[.slice (some ⟨b, off, none⟩) n c, .string x] w fun e w' => e = .returned (.int .i64 (Lib.idxOfS (zs.take n) x)) ∧ w' = w := Any.slices_Index_string Tryz.lays109 b off n c zs x w hz hbig hc
open Go.Lib in
/-- The same at a slice of length 0, a nil one too: no cell is known, none is asked for. (LAID: no walk: one application.) -/
theorem Tryz.slices_Index_string_empty (a : Option Addr) (c : Nat) (x : ByteArray) (w : World) :
    Calls Tryz.prog 86 #[.slice a 0 c, .string x] w fun e w' => e = .returned (.int .i64 (Lib.idxOfS [] x)) ∧ w' = w := Any.slices_Index_string_empty Tryz.lays109 a c x w
end Go.Proofs
