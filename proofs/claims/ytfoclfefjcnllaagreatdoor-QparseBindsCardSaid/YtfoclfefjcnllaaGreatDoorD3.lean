/-
  DERIVED: THE SHELF's CONTRACTS AT THIS DUMP, IN PLAIN WORDS (tools/lay-plain.mjs out of 'YtfoclfefjcnllaaGreatDoorShelf.lean', which tools/lay-shelf.mjs wrote): THE SAME DECLARATIONS UNDER THE SAME NAMES: 'import', 'namespace', 'open', 'def', 'theorem' AND NOTHING ELSE: no command of the shelf's: FOR A HAND-IN. Each laying: the table of numbers ('.._ren') and one theorem, a field a fact of the dump's own or the kernel's comparison; each contract: ONE APPLICATION.
-/
import Derived.Shelf.Strings.Builder1
import Derived.Shelf.Strings.Builder2
import Derived.Shelf.Strings.OnBuilder
import Derived.Shelf.Strings.SlTrimAscii
import Derived.Shelf.Small.Utf8
import Derived.Shelf.Small.Strs
import Derived.Shelf.Small.Wraps
import Derived.Shelf.Strings.BuilderF
import Derived.Shelf.Strings.BuilderK
import Derived.Shelf.Strconv.Itoa0
import Derived.Shelf.Strconv.Itoa1
import Derived.Shelf.LaysM
import Derived.Shelf.Strconv.Itoa2
import Derived.Shelf.Strconv.Itoa3
import Derived.Ground.MpProg
import Derived.Shelf.Pu.ParseUintPublic10
import Derived.Shelf.Strings.Search1
import Derived.Shelf.Strings.Search2
import Derived.Shelf.Strings.Search3
import Derived.Shelf.Strings.Cut
import Derived.Shelf.Strings.Shaped
import Derived.Shelf.Strings.Prefix
import Derived.Shelf.Strings.Fields
import Derived.Shelf.Unicode.Latin
import Derived.Shelf.Strings.Runes
import Derived.Shelf.Strings.AsciiSet
import Derived.Shelf.Unicode.DecodeSlow
import Derived.Shelf.Unicode.DecodeAny
import Derived.Shelf.Unicode.Is16White
import Derived.Shelf.Unicode.IsSpaceAny
import Derived.Shelf.Unicode.Is16Any
import Derived.Shelf.Unicode.Is32Any
import Derived.Shelf.Unicode.ExclAny
import Derived.Shelf.Slices.Turned
import Derived.Test.YtfoclfefjcnllaaGreatDoorProg
import Derived.Test.YtfoclfefjcnllaaGreatDoorD2
import Derived.Lib.TrimU
namespace Go.Proofs
open Go.Shelf
def Tryz.lays156_ren : Go.Shelf.Ren := ⟨fun | 156 => 20 | 165 => 40 | 166 => 41 | 169 => 42 | 240 => 58 | 241 => 59 | 276 => 82 | 277 => 83 | n => n, fun | 31 => 23 | 9 => 9 | 3 => 3 | 4 => 4 | 0 => 0 | 20 => 20 | 72 => 100 | 76 => 102 | 70 => 98 | 37 => 70 | 75 => 31 | 127 => 136 | 164 => 80 | 5 => 5 | 80 => 104 | n => n, fun | n => n⟩
theorem Tryz.lays156 : Go.Proofs.Lays.n156 Tryz.prog Tryz.lays156_ren := {
  mixed := by kernel_rfl
  f156 := Tryz.func20.trans (congrArg some (by kernel_rfl))
  f165 := Tryz.func40.trans (congrArg some (by kernel_rfl))
  f166 := Tryz.func41.trans (congrArg some (by kernel_rfl))
  f169 := Tryz.func42.trans (congrArg some (by kernel_rfl))
  f240 := Tryz.func58.trans (congrArg some (by kernel_rfl))
  f241 := Tryz.func59.trans (congrArg some (by kernel_rfl))
  f276 := Tryz.func82.trans (congrArg some (by kernel_rfl))
  f277 := Tryz.func83.trans (congrArg some (by kernel_rfl))
  t0 := Tryz.underlying0
  a0 := Tryz.isAgg0
  z0 := Tryz.sizeOf0
  v0 := Tryz.zeroValue0
  t3 := Tryz.underlying3
  a3 := Tryz.isAgg3
  z3 := Tryz.sizeOf3
  v3 := Tryz.zeroValue3
  t4 := Tryz.underlying4
  a4 := Tryz.isAgg4
  z4 := Tryz.sizeOf4
  v4 := Tryz.zeroValue4
  t9 := Tryz.underlying9
  a9 := Tryz.isAgg9
  z9 := Tryz.sizeOf9
  v9 := Tryz.zeroValue9
  t20 := Tryz.underlying20
  a20 := Tryz.isAgg20
  z20 := Tryz.sizeOf20
  v20 := Tryz.zeroValue20
  t31 := Tryz.underlying23
  a31 := Tryz.isAgg23
  z31 := Tryz.sizeOf23
  v31 := Tryz.zeroValue23
  t37 := Tryz.underlying70
  a37 := Tryz.isAgg70
  z37 := Tryz.sizeOf70
  v37 := Tryz.zeroValue70
  t70 := Tryz.underlying98
  a70 := Tryz.isAgg98
  z70 := Tryz.sizeOf98
  v70 := Tryz.zeroValue98
  t72 := Tryz.underlying100
  a72 := Tryz.isAgg100
  z72 := Tryz.sizeOf100
  v72 := Tryz.zeroValue100
  t75 := Tryz.underlying31
  a75 := Tryz.isAgg31
  z75 := Tryz.sizeOf31
  v75 := Tryz.zeroValue31
  t76 := Tryz.underlying102
  a76 := Tryz.isAgg102
  z76 := Tryz.sizeOf102
  v76 := Tryz.zeroValue102
  t127 := Tryz.underlying136
  a127 := Tryz.isAgg136
  z127 := Tryz.sizeOf136
  v127 := Tryz.zeroValue136
  t164 := Tryz.underlying80
  a164 := Tryz.isAgg80
  z164 := Tryz.sizeOf80
  v164 := Tryz.zeroValue80 }
theorem Tryz.Builder_Extra_156 : Builder.Extra Tryz.prog Tryz.lays156_ren := {
  sizeBuilder := by kernel_rfl
  liesBuilder := by kernel_rfl
  t5 := Tryz.underlying5
  a5 := Tryz.isAgg5
  z5 := Tryz.sizeOf5
  v5 := Tryz.zeroValue5
  infoByte := by kernel_rfl
  cellsByte := by kernel_rfl
  sizeByte := by kernel_rfl
  neB5 := by decide }
open Go.RowKit in
/-- No element: the empty string; the world is as it was. (Whatever the slice's address and capacity: a nil slice too.) (LAID: no walk: one application.) -/
theorem Tryz.strings_Join_none (a : Option Addr) (c : Nat) (sep : ByteArray) (w : World) :
    Calls Tryz.prog 20 #[.slice a 0 c, .string sep] w fun e w' => e = .returned (.string ⟨#[]⟩) ∧ w' = w := Any.strings_Join_none Tryz.lays156 Tryz.Builder_Extra_156 a c sep w
open Go.RowKit in
/-- strings.Join: "Join concatenates the elements of its first argument to create a single string. The separator string sep is placed between elements in the resulting string.": HOWEVER MANY ELEMENTS. Below the heap's end the world is as it was. (LAID: no walk: one application.) -/
theorem Tryz.strings_Join (bk o c : Nat) (xs : List ByteArray) (sep : ByteArray) (w : World) (hcells : ∀ (j : Nat) x, xs[j]? = some x → w.cell? ⟨bk, o + j, none⟩ = some (.string x)) (hbk : bk < w.heap.size) (hN : xs.length ≤ 140737488355328) (hcap : xs.length ≤ c) (hlen : (Lib.join (xs.map (·.data.toList)) sep.data.toList).length ≤ 140737488355328) :
    Calls Tryz.prog 20 #[.slice (some ⟨bk, o, none⟩) xs.length c, .string sep] w fun e w' => e = .returned (.string ⟨(Lib.join (xs.map (·.data.toList)) sep.data.toList).toArray⟩) ∧ Below w.heap.size w w' := Any.strings_Join Tryz.lays156 Tryz.Builder_Extra_156 bk o c xs sep w hcells hbk hN hcap hlen
def Tryz.lays161_ren : Go.Shelf.Ren := ⟨fun | 161 => 89 | 231 => 110 | 227 => 54 | 233 => 111 | 235 => 112 | 228 => 78 | 197 => 101 | 151 => 80 | 260 => 122 | 152 => 102 | 137 => 85 | 119 => 123 | 224 => 105 | 225 => 104 | 217 => 103 | 266 => 124 | n => n, fun | 9 => 9 | 4 => 4 | 3 => 3 | 5 => 5 | 117 => 131 | 116 => 130 | 0 => 0 | 124 => 134 | 105 => 106 | 21 => 21 | 119 => 171 | 46 => 168 | 139 => 174 | 138 => 173 | n => n, fun | 3 => 3 | 4 => 4 | n => n⟩
theorem Tryz.lays161 : Go.Proofs.Lays.n161 Tryz.prog Tryz.lays161_ren := {
  mixed := by kernel_rfl
  f119 := Tryz.func123.trans (congrArg some (by kernel_rfl))
  f137 := Tryz.func85.trans (congrArg some (by kernel_rfl))
  f151 := Tryz.func80.trans (congrArg some (by kernel_rfl))
  f152 := Tryz.func102.trans (congrArg some (by kernel_rfl))
  f161 := Tryz.func89.trans (congrArg some (by kernel_rfl))
  f197 := Tryz.func101.trans (congrArg some (by kernel_rfl))
  f217 := Tryz.func103.trans (congrArg some (by kernel_rfl))
  f224 := Tryz.func105.trans (congrArg some (by kernel_rfl))
  f225 := Tryz.func104.trans (congrArg some (by kernel_rfl))
  f227 := Tryz.func54.trans (congrArg some (by kernel_rfl))
  f228 := Tryz.func78.trans (congrArg some (by kernel_rfl))
  f231 := Tryz.func110.trans (congrArg some (by kernel_rfl))
  f233 := Tryz.func111.trans (congrArg some (by kernel_rfl))
  f235 := Tryz.func112.trans (congrArg some (by kernel_rfl))
  f260 := Tryz.func122.trans (congrArg some (by kernel_rfl))
  f266 := Tryz.func124.trans (congrArg some (by kernel_rfl))
  t0 := Tryz.underlying0
  a0 := Tryz.isAgg0
  z0 := Tryz.sizeOf0
  v0 := Tryz.zeroValue0
  t3 := Tryz.underlying3
  a3 := Tryz.isAgg3
  z3 := Tryz.sizeOf3
  v3 := Tryz.zeroValue3
  t4 := Tryz.underlying4
  a4 := Tryz.isAgg4
  z4 := Tryz.sizeOf4
  v4 := Tryz.zeroValue4
  t5 := Tryz.underlying5
  a5 := Tryz.isAgg5
  z5 := Tryz.sizeOf5
  v5 := Tryz.zeroValue5
  t9 := Tryz.underlying9
  a9 := Tryz.isAgg9
  z9 := Tryz.sizeOf9
  v9 := Tryz.zeroValue9
  t21 := Tryz.underlying21
  a21 := Tryz.isAgg21
  z21 := Tryz.sizeOf21
  v21 := Tryz.zeroValue21
  t46 := Tryz.underlying168
  a46 := Tryz.isAgg168
  z46 := Tryz.sizeOf168
  v46 := Tryz.zeroValue168
  t105 := Tryz.underlying106
  a105 := Tryz.isAgg106
  z105 := Tryz.sizeOf106
  v105 := Tryz.zeroValue106
  t116 := Tryz.underlying130
  a116 := Tryz.isAgg130
  z116 := Tryz.sizeOf130
  t117 := Tryz.underlying131
  a117 := Tryz.isAgg131
  z117 := Tryz.sizeOf131
  v117 := Tryz.zeroValue131
  t119 := Tryz.underlying171
  a119 := Tryz.isAgg171
  z119 := Tryz.sizeOf171
  t124 := Tryz.underlying134
  a124 := Tryz.isAgg134
  z124 := Tryz.sizeOf134
  v124 := Tryz.zeroValue134
  t138 := Tryz.underlying173
  a138 := Tryz.isAgg173
  z138 := Tryz.sizeOf173
  v138 := Tryz.zeroValue173
  t139 := Tryz.underlying174
  a139 := Tryz.isAgg174
  z139 := Tryz.sizeOf174
  v139 := Tryz.zeroValue174
  g3 := by kernel_rfl
  g4 := by kernel_rfl }
open Go.RowKit in
/-- strings.TrimLeft: "TrimLeft returns a slice of the string s with all leading Unicode code points contained in cutset removed.": AT A cutset OF ONE ASCII BYTE. The world is as it was. (LAID: no walk: one application.) -/
theorem Tryz.strings_TrimLeft_one (s : ByteArray) (c : UInt8) (hc : c.toNat < 128) (w : World) :
    Calls Tryz.prog 89 #[.string s, .string ⟨#[c]⟩] w fun e w' => e = .returned (.string ⟨(Lib.trimLeftB s.data.toList c).toArray⟩) ∧ w' = w := Any.strings_TrimLeft_one Tryz.lays161 s c hc w
def Tryz.lays162_ren : Go.Shelf.Ren := ⟨fun | 162 => 38 | 232 => 53 | 227 => 54 | 234 => 55 | 236 => 56 | 228 => 78 | 271 => 79 | 151 => 80 | 120 => 100 | 197 => 101 | 152 => 102 | 260 => 122 | 137 => 85 | 119 => 123 | 224 => 105 | 225 => 104 | 217 => 103 | 266 => 124 | n => n, fun | 9 => 9 | 4 => 4 | 3 => 3 | 5 => 5 | 117 => 131 | 116 => 130 | 0 => 0 | 124 => 134 | 21 => 21 | 105 => 106 | 46 => 168 | 119 => 171 | 139 => 174 | 138 => 173 | n => n, fun | 3 => 3 | 4 => 4 | n => n⟩
theorem Tryz.lays162 : Go.Proofs.Lays.n162 Tryz.prog Tryz.lays162_ren := {
  mixed := by kernel_rfl
  f119 := Tryz.func123.trans (congrArg some (by kernel_rfl))
  f120 := Tryz.func100.trans (congrArg some (by kernel_rfl))
  f137 := Tryz.func85.trans (congrArg some (by kernel_rfl))
  f151 := Tryz.func80.trans (congrArg some (by kernel_rfl))
  f152 := Tryz.func102.trans (congrArg some (by kernel_rfl))
  f162 := Tryz.func38.trans (congrArg some (by kernel_rfl))
  f197 := Tryz.func101.trans (congrArg some (by kernel_rfl))
  f217 := Tryz.func103.trans (congrArg some (by kernel_rfl))
  f224 := Tryz.func105.trans (congrArg some (by kernel_rfl))
  f225 := Tryz.func104.trans (congrArg some (by kernel_rfl))
  f227 := Tryz.func54.trans (congrArg some (by kernel_rfl))
  f228 := Tryz.func78.trans (congrArg some (by kernel_rfl))
  f232 := Tryz.func53.trans (congrArg some (by kernel_rfl))
  f234 := Tryz.func55.trans (congrArg some (by kernel_rfl))
  f236 := Tryz.func56.trans (congrArg some (by kernel_rfl))
  f260 := Tryz.func122.trans (congrArg some (by kernel_rfl))
  f266 := Tryz.func124.trans (congrArg some (by kernel_rfl))
  f271 := Tryz.func79.trans (congrArg some (by kernel_rfl))
  t0 := Tryz.underlying0
  a0 := Tryz.isAgg0
  z0 := Tryz.sizeOf0
  v0 := Tryz.zeroValue0
  t3 := Tryz.underlying3
  a3 := Tryz.isAgg3
  z3 := Tryz.sizeOf3
  v3 := Tryz.zeroValue3
  t4 := Tryz.underlying4
  a4 := Tryz.isAgg4
  z4 := Tryz.sizeOf4
  v4 := Tryz.zeroValue4
  t5 := Tryz.underlying5
  a5 := Tryz.isAgg5
  z5 := Tryz.sizeOf5
  v5 := Tryz.zeroValue5
  t9 := Tryz.underlying9
  a9 := Tryz.isAgg9
  z9 := Tryz.sizeOf9
  v9 := Tryz.zeroValue9
  t21 := Tryz.underlying21
  a21 := Tryz.isAgg21
  z21 := Tryz.sizeOf21
  v21 := Tryz.zeroValue21
  t46 := Tryz.underlying168
  a46 := Tryz.isAgg168
  z46 := Tryz.sizeOf168
  v46 := Tryz.zeroValue168
  t105 := Tryz.underlying106
  a105 := Tryz.isAgg106
  z105 := Tryz.sizeOf106
  v105 := Tryz.zeroValue106
  t116 := Tryz.underlying130
  a116 := Tryz.isAgg130
  z116 := Tryz.sizeOf130
  t117 := Tryz.underlying131
  a117 := Tryz.isAgg131
  z117 := Tryz.sizeOf131
  v117 := Tryz.zeroValue131
  t119 := Tryz.underlying171
  a119 := Tryz.isAgg171
  z119 := Tryz.sizeOf171
  t124 := Tryz.underlying134
  a124 := Tryz.isAgg134
  z124 := Tryz.sizeOf134
  v124 := Tryz.zeroValue134
  t138 := Tryz.underlying173
  a138 := Tryz.isAgg173
  z138 := Tryz.sizeOf173
  v138 := Tryz.zeroValue173
  t139 := Tryz.underlying174
  a139 := Tryz.isAgg174
  z139 := Tryz.sizeOf174
  v139 := Tryz.zeroValue174
  g3 := by kernel_rfl
  g4 := by kernel_rfl }
open Go.RowKit in
/-- strings.TrimRight: "TrimRight returns a slice of the string s, with all trailing Unicode code points contained in cutset removed.": AT A cutset OF ONE ASCII BYTE. The world is as it was. (LAID: no walk: one application.) -/
theorem Tryz.strings_TrimRight_one (s : ByteArray) (c : UInt8) (hc : c.toNat < 128) (w : World) (hs : s.size ≤ 9223372036854775807) :
    Calls Tryz.prog 38 #[.string s, .string ⟨#[c]⟩] w fun e w' => e = .returned (.string ⟨(Lib.trimRightB s.data.toList c).toArray⟩) ∧ w' = w := Any.strings_TrimRight_one Tryz.lays162 s c hc w hs
def Tryz.lays160_ren : Go.Shelf.Ren := ⟨fun | 160 => 144 | 232 => 53 | 231 => 110 | 227 => 54 | 234 => 55 | 233 => 111 | 236 => 56 | 235 => 112 | 228 => 78 | 271 => 79 | 151 => 80 | 197 => 101 | 120 => 100 | 152 => 102 | 260 => 122 | 137 => 85 | 119 => 123 | 224 => 105 | 225 => 104 | 217 => 103 | 266 => 124 | n => n, fun | 9 => 9 | 4 => 4 | 3 => 3 | 5 => 5 | 117 => 131 | 116 => 130 | 0 => 0 | 124 => 134 | 21 => 21 | 105 => 106 | 46 => 168 | 119 => 171 | 139 => 174 | 138 => 173 | n => n, fun | 3 => 3 | 4 => 4 | n => n⟩
theorem Tryz.lays160 : Go.Proofs.Lays.n160 Tryz.prog Tryz.lays160_ren := {
  mixed := by kernel_rfl
  f119 := Tryz.func123.trans (congrArg some (by kernel_rfl))
  f120 := Tryz.func100.trans (congrArg some (by kernel_rfl))
  f137 := Tryz.func85.trans (congrArg some (by kernel_rfl))
  f151 := Tryz.func80.trans (congrArg some (by kernel_rfl))
  f152 := Tryz.func102.trans (congrArg some (by kernel_rfl))
  f160 := Tryz.func144.trans (congrArg some (by kernel_rfl))
  f197 := Tryz.func101.trans (congrArg some (by kernel_rfl))
  f217 := Tryz.func103.trans (congrArg some (by kernel_rfl))
  f224 := Tryz.func105.trans (congrArg some (by kernel_rfl))
  f225 := Tryz.func104.trans (congrArg some (by kernel_rfl))
  f227 := Tryz.func54.trans (congrArg some (by kernel_rfl))
  f228 := Tryz.func78.trans (congrArg some (by kernel_rfl))
  f231 := Tryz.func110.trans (congrArg some (by kernel_rfl))
  f232 := Tryz.func53.trans (congrArg some (by kernel_rfl))
  f233 := Tryz.func111.trans (congrArg some (by kernel_rfl))
  f234 := Tryz.func55.trans (congrArg some (by kernel_rfl))
  f235 := Tryz.func112.trans (congrArg some (by kernel_rfl))
  f236 := Tryz.func56.trans (congrArg some (by kernel_rfl))
  f260 := Tryz.func122.trans (congrArg some (by kernel_rfl))
  f266 := Tryz.func124.trans (congrArg some (by kernel_rfl))
  f271 := Tryz.func79.trans (congrArg some (by kernel_rfl))
  t0 := Tryz.underlying0
  a0 := Tryz.isAgg0
  z0 := Tryz.sizeOf0
  v0 := Tryz.zeroValue0
  t3 := Tryz.underlying3
  a3 := Tryz.isAgg3
  z3 := Tryz.sizeOf3
  v3 := Tryz.zeroValue3
  t4 := Tryz.underlying4
  a4 := Tryz.isAgg4
  z4 := Tryz.sizeOf4
  v4 := Tryz.zeroValue4
  t5 := Tryz.underlying5
  a5 := Tryz.isAgg5
  z5 := Tryz.sizeOf5
  v5 := Tryz.zeroValue5
  t9 := Tryz.underlying9
  a9 := Tryz.isAgg9
  z9 := Tryz.sizeOf9
  v9 := Tryz.zeroValue9
  t21 := Tryz.underlying21
  a21 := Tryz.isAgg21
  z21 := Tryz.sizeOf21
  v21 := Tryz.zeroValue21
  t46 := Tryz.underlying168
  a46 := Tryz.isAgg168
  z46 := Tryz.sizeOf168
  v46 := Tryz.zeroValue168
  t105 := Tryz.underlying106
  a105 := Tryz.isAgg106
  z105 := Tryz.sizeOf106
  v105 := Tryz.zeroValue106
  t116 := Tryz.underlying130
  a116 := Tryz.isAgg130
  z116 := Tryz.sizeOf130
  t117 := Tryz.underlying131
  a117 := Tryz.isAgg131
  z117 := Tryz.sizeOf131
  v117 := Tryz.zeroValue131
  t119 := Tryz.underlying171
  a119 := Tryz.isAgg171
  z119 := Tryz.sizeOf171
  t124 := Tryz.underlying134
  a124 := Tryz.isAgg134
  z124 := Tryz.sizeOf134
  v124 := Tryz.zeroValue134
  t138 := Tryz.underlying173
  a138 := Tryz.isAgg173
  z138 := Tryz.sizeOf173
  v138 := Tryz.zeroValue173
  t139 := Tryz.underlying174
  a139 := Tryz.isAgg174
  z139 := Tryz.sizeOf174
  v139 := Tryz.zeroValue174
  g3 := by kernel_rfl
  g4 := by kernel_rfl }
open Go.RowKit in
/-- strings.Trim: "Trim returns a slice of the string s with all leading and trailing Unicode code points contained in cutset removed.": AT A cutset OF ONE ASCII BYTE. THE WORLD BEHIND IT: as it was, or (where s is not empty) with ONE DRAW MORE off the tape: the statement 'return trimLeftByte(trimRightByte(s, c), c)' draws its order of evaluation. (LAID: no walk: one application.) -/
theorem Tryz.strings_Trim_one (s : ByteArray) (c : UInt8) (hc : c.toNat < 128) (w : World) (hs : s.size ≤ 9223372036854775807) :
    Calls Tryz.prog 144 #[.string s, .string ⟨#[c]⟩] w fun e w' => e = .returned (.string ⟨(Lib.trimB s.data.toList c).toArray⟩) ∧ (w' = w ∨ w' = w.drew) := Any.strings_Trim_one Tryz.lays160 s c hc w hs
def Tryz.lays137_ren : Go.Shelf.Ren := ⟨fun | 137 => 85 | 217 => 103 | 266 => 124 | n => n, fun | 9 => 9 | 5 => 5 | 3 => 3 | n => n, fun | n => n⟩
theorem Tryz.lays137 : Go.Proofs.Lays.n137 Tryz.prog Tryz.lays137_ren := {
  mixed := by kernel_rfl
  f137 := Tryz.func85.trans (congrArg some (by kernel_rfl))
  f217 := Tryz.func103.trans (congrArg some (by kernel_rfl))
  f266 := Tryz.func124.trans (congrArg some (by kernel_rfl))
  t3 := Tryz.underlying3
  a3 := Tryz.isAgg3
  z3 := Tryz.sizeOf3
  v3 := Tryz.zeroValue3
  t5 := Tryz.underlying5
  a5 := Tryz.isAgg5
  z5 := Tryz.sizeOf5
  v5 := Tryz.zeroValue5
  t9 := Tryz.underlying9
  a9 := Tryz.isAgg9
  z9 := Tryz.sizeOf9
  v9 := Tryz.zeroValue9 }
open Go.RowKit in
/-- strings.IndexByte: "IndexByte returns the index of the first instance of c in s, or -1 if c is not present in s.": IT RETURNS 'Lib.indexByte s c'; the world is as it was. (LAID: no walk: one application.) -/
theorem Tryz.strings_IndexByte (s : ByteArray) (c : Int) (w : World) :
    Calls Tryz.prog 85 #[.string s, .int .u8 c] w fun e w' => e = .returned (.int .i64 (Lib.indexByte s.data.toList c.toNat.toUInt8)) ∧ w' = w := Any.strings_IndexByte Tryz.lays137 s c w
def Tryz.lays103_ren : Go.Shelf.Ren := ⟨fun | 103 => 136 | 210 => 145 | 206 => 113 | n => n, fun | 9 => 9 | 4 => 4 | 24 => 195 | 3 => 3 | n => n, fun | n => n⟩
theorem Tryz.lays103 : Go.Proofs.Lays.n103 Tryz.prog Tryz.lays103_ren := {
  mixed := by kernel_rfl
  f103 := Tryz.func136.trans (congrArg some (by kernel_rfl))
  f206 := Tryz.func113.trans (congrArg some (by kernel_rfl))
  f210 := Tryz.func145.trans (congrArg some (by kernel_rfl))
  t3 := Tryz.underlying3
  a3 := Tryz.isAgg3
  z3 := Tryz.sizeOf3
  v3 := Tryz.zeroValue3
  t4 := Tryz.underlying4
  a4 := Tryz.isAgg4
  z4 := Tryz.sizeOf4
  v4 := Tryz.zeroValue4
  t9 := Tryz.underlying9
  a9 := Tryz.isAgg9
  z9 := Tryz.sizeOf9
  v9 := Tryz.zeroValue9
  t24 := Tryz.underlying195
  a24 := Tryz.isAgg195
  z24 := Tryz.sizeOf195
  v24 := Tryz.zeroValue195 }
open Go.RowKit in
/-- strings.CutPrefix: "CutPrefix returns s without the provided leading prefix string and reports whether it found the prefix. If s doesn't start with prefix, CutPrefix returns s, false. If prefix is the empty string, CutPrefix returns s, true.": IT RETURNS '(Lib.trimPrefix s p, Lib.hasPrefix s p)'; the world is as it was. (LAID: no walk: one application.) -/
theorem Tryz.strings_CutPrefix (s p : ByteArray) (w : World) :
    Calls Tryz.prog 136 #[.string s, .string p] w fun e w' => e = .returned (.tuple #[.string ⟨(Lib.trimPrefix s.data.toList p.data.toList).toArray⟩, .bool (Lib.hasPrefix s.data.toList p.data.toList)]) ∧ w' = w := Any.strings_CutPrefix Tryz.lays103 s p w
def Tryz.lays283_ren : Go.Shelf.Ren := ⟨fun | 283 => 74 | n => n, fun | 3 => 3 | 9 => 9 | 4 => 4 | n => n, fun | n => n⟩
theorem Tryz.lays283 : Go.Proofs.Lays.n283 Tryz.prog Tryz.lays283_ren := {
  mixed := by kernel_rfl
  f283 := Tryz.func74.trans (congrArg some (by kernel_rfl))
  t3 := Tryz.underlying3
  a3 := Tryz.isAgg3
  z3 := Tryz.sizeOf3
  v3 := Tryz.zeroValue3
  t4 := Tryz.underlying4
  a4 := Tryz.isAgg4
  z4 := Tryz.sizeOf4
  v4 := Tryz.zeroValue4
  t9 := Tryz.underlying9
  a9 := Tryz.isAgg9
  z9 := Tryz.sizeOf9
  v9 := Tryz.zeroValue9 }
open Go.Lib in
/-- internal/strconv.small: "small returns the string for an i with 0 <= i < nSmalls.": i's decimal numeral. The world is as it was. (LAID: no walk: one application.) -/
theorem Tryz.internal_strconv_small (i : Nat) (h : i < 100) (w : World) :
    Calls Tryz.prog 74 #[.int .i64 i] w fun e w' => e = .returned (.string ⟨(Lib.decDigits i).toArray⟩) ∧ w' = w := Any.internal_strconv_small Tryz.lays283 i h w
def Tryz.laysM284_ren : Go.Shelf.Ren := ⟨fun | 284 => 75 | 129 => 96 | 317 => 95 | 318 => 97 | n => n, fun | 53 => 93 | 3 => 3 | 212 => 164 | 0 => 0 | 4 => 4 | 46 => 168 | 5 => 5 | 9 => 9 | n => n, fun | 17 => 1 | n => n⟩
theorem Tryz.laysM284 : Go.Proofs.LaysM.n284 Tryz.prog Tryz.laysM284_ren := {
  mixed := by kernel_rfl
  f129 := Tryz.func96.trans (congrArg some (by kernel_rfl))
  f284 := Tryz.func75.trans (congrArg some (by kernel_rfl))
  f317 := Tryz.func95.trans (congrArg some (by kernel_rfl))
  f318 := Tryz.func97.trans (congrArg some (by kernel_rfl))
  t0 := Tryz.underlying0
  a0 := Tryz.isAgg0
  z0 := Tryz.sizeOf0
  v0 := Tryz.zeroValue0
  t3 := Tryz.underlying3
  a3 := Tryz.isAgg3
  z3 := Tryz.sizeOf3
  v3 := Tryz.zeroValue3
  t4 := Tryz.underlying4
  a4 := Tryz.isAgg4
  z4 := Tryz.sizeOf4
  v4 := Tryz.zeroValue4
  t5 := Tryz.underlying5
  a5 := Tryz.isAgg5
  z5 := Tryz.sizeOf5
  v5 := Tryz.zeroValue5
  t9 := Tryz.underlying9
  a9 := Tryz.isAgg9
  z9 := Tryz.sizeOf9
  v9 := Tryz.zeroValue9
  t46 := Tryz.underlying168
  a46 := Tryz.isAgg168
  z46 := Tryz.sizeOf168
  v46 := Tryz.zeroValue168
  t53 := Tryz.underlying93
  a53 := Tryz.isAgg93
  z53 := Tryz.sizeOf93
  v53 := Tryz.zeroValue93
  t212 := Tryz.underlying164
  a212 := Tryz.isAgg164
  z212 := Tryz.sizeOf164
  v212 := Tryz.zeroValue164
  g17 := by kernel_rfl
  i0 := by kernel_rfl
  i3 := by kernel_rfl
  i4 := by kernel_rfl
  i5 := by kernel_rfl
  i9 := by kernel_rfl
  i46 := by kernel_rfl
  i53 := by kernel_rfl
  i212 := by kernel_rfl
  m17 := by kernel_rfl }
open Go.Lib in
/-- internal/strconv.numDigits, at a d that is not 0: THE NUMBER OF d's DECIMAL DIGITS. The world is as it was. (LAID: no walk: one application.) -/
theorem Tryz.internal_strconv_numDigits (u : Nat) (h1 : 1 ≤ u) (h2 : u < 18446744073709551616) (w : World) (htab : Lib.TabIs Tryz.prog w "internal/strconv.uint64pow10" .u64 Lib.pow10Tab) :
    Calls Tryz.prog 75 #[.int .u64 u] w fun e w' => e = .returned (.int .i64 (Lib.nDigits u)) ∧ w' = w := Any.internal_strconv_numDigits Tryz.laysM284 u h1 h2 w htab
def Tryz.lays285_ren : Go.Shelf.Ren := ⟨fun | 285 => 76 | n => n, fun | 37 => 70 | 53 => 93 | 3 => 3 | 4 => 4 | 51 => 165 | 9 => 9 | 5 => 5 | 0 => 0 | n => n, fun | n => n⟩
theorem Tryz.lays285 : Go.Proofs.Lays.n285 Tryz.prog Tryz.lays285_ren := {
  mixed := by kernel_rfl
  f285 := Tryz.func76.trans (congrArg some (by kernel_rfl))
  t0 := Tryz.underlying0
  a0 := Tryz.isAgg0
  z0 := Tryz.sizeOf0
  v0 := Tryz.zeroValue0
  t3 := Tryz.underlying3
  a3 := Tryz.isAgg3
  z3 := Tryz.sizeOf3
  v3 := Tryz.zeroValue3
  t4 := Tryz.underlying4
  a4 := Tryz.isAgg4
  z4 := Tryz.sizeOf4
  v4 := Tryz.zeroValue4
  t5 := Tryz.underlying5
  a5 := Tryz.isAgg5
  z5 := Tryz.sizeOf5
  v5 := Tryz.zeroValue5
  t9 := Tryz.underlying9
  a9 := Tryz.isAgg9
  z9 := Tryz.sizeOf9
  v9 := Tryz.zeroValue9
  t37 := Tryz.underlying70
  a37 := Tryz.isAgg70
  z37 := Tryz.sizeOf70
  v37 := Tryz.zeroValue70
  t51 := Tryz.underlying165
  a51 := Tryz.isAgg165
  z51 := Tryz.sizeOf165
  v51 := Tryz.zeroValue165
  t53 := Tryz.underlying93
  a53 := Tryz.isAgg93
  z53 := Tryz.sizeOf93
  v53 := Tryz.zeroValue93 }
open Go.RowKit Go.Sort Go.Lib in
/-- internal/strconv.formatBase10: "formatBase10 formats the decimal representation of u into a. The caller is responsible for ensuring that a is big enough to hold u. If a is too big, leading zeros will be filled in as needed.": THE ROW HOLDS u's DIGITS ('FmtInv .. 0 ..': every place t holds 'dg u (len - 1 - t)'); all else is as it was but for the count of draws. (LAID: no walk: one application.) -/
theorem Tryz.internal_strconv_formatBase10 (blk off cap : Nat) (u : Nat) (d : Array UInt8) (w : World) (hH : Holds (fun (b : UInt8) => Value.int .u8 (b.toNat : Int)) w blk off d) (hu : u < 10 ^ d.size) (hu64 : u < 18446744073709551616) (hsz : d.size < 4611686018427387904) :
    Calls Tryz.prog 76 #[.slice (some ⟨blk, off, none⟩) d.size cap, .int .u64 u] w fun e w' =>
      e = .returned (.tuple #[]) ∧ ∃ (n v' : Nat) (dk : Array UInt8), w' = (putRow (fun (b : UInt8) => Value.int .u8 (b.toNat : Int)) w blk off dk).drewN n ∧ FmtInv d.size u 0 v' dk := Any.internal_strconv_formatBase10 Tryz.lays285 blk off cap u d w hH hu hu64 hsz
def Tryz.laysPu14_ren : Go.Shelf.Ren := ⟨fun | 14 => 140 | 16 => 147 | 17 => 148 | 19 => 151 | 20 => 152 | 21 => 153 | 22 => 154 | 23 => 155 | 24 => 156 | 25 => 158 | 27 => 160 | 26 => 159 | 28 => 163 | 29 => 164 | 30 => 74 | 31 => 75 | 32 => 76 | 33 => 77 | 35 => 96 | 34 => 95 | 36 => 97 | 37 => 98 | 38 => 99 | 39 => 120 | 40 => 121 | n => n, fun | 9 => 9 | 3 => 3 | 22 => 93 | 24 => 31 | 25 => 200 | 4 => 4 | 34 => 208 | 5 => 5 | 36 => 168 | 37 => 70 | 0 => 0 | 39 => 210 | 21 => 21 | 44 => 219 | 47 => 136 | 50 => 234 | 48 => 232 | 2 => 2 | 52 => 146 | 55 => 149 | 59 => 164 | 60 => 165 | 20 => 20 | 61 => 166 | 65 => 187 | 66 => 188 | 67 => 104 | n => n, fun | 0 => 9 | 1 => 10 | 2 => 1 | 3 => 5 | 4 => 6 | n => n⟩
theorem Tryz.laysPu14 : Go.Proofs.LaysPu.n14 Tryz.prog Tryz.laysPu14_ren := {
  mixed := by kernel_rfl
  f14 := Tryz.func140.trans (congrArg some (by kernel_rfl))
  f16 := Tryz.func147.trans (congrArg some (by kernel_rfl))
  f17 := Tryz.func148.trans (congrArg some (by kernel_rfl))
  f19 := Tryz.func151.trans (congrArg some (by kernel_rfl))
  f20 := Tryz.func152.trans (congrArg some (by kernel_rfl))
  f21 := Tryz.func153.trans (congrArg some (by kernel_rfl))
  f22 := Tryz.func154.trans (congrArg some (by kernel_rfl))
  f23 := Tryz.func155.trans (congrArg some (by kernel_rfl))
  f24 := Tryz.func156.trans (congrArg some (by kernel_rfl))
  f25 := Tryz.func158.trans (congrArg some (by kernel_rfl))
  f26 := Tryz.func159.trans (congrArg some (by kernel_rfl))
  f27 := Tryz.func160.trans (congrArg some (by kernel_rfl))
  f28 := Tryz.func163.trans (congrArg some (by kernel_rfl))
  f29 := Tryz.func164.trans (congrArg some (by kernel_rfl))
  f30 := Tryz.func74.trans (congrArg some (by kernel_rfl))
  f31 := Tryz.func75.trans (congrArg some (by kernel_rfl))
  f32 := Tryz.func76.trans (congrArg some (by kernel_rfl))
  f33 := Tryz.func77.trans (congrArg some (by kernel_rfl))
  f34 := Tryz.func95.trans (congrArg some (by kernel_rfl))
  f35 := Tryz.func96.trans (congrArg some (by kernel_rfl))
  f36 := Tryz.func97.trans (congrArg some (by kernel_rfl))
  f37 := Tryz.func98.trans (congrArg some (by kernel_rfl))
  f38 := Tryz.func99.trans (congrArg some (by kernel_rfl))
  f39 := Tryz.func120.trans (congrArg some (by kernel_rfl))
  f40 := Tryz.func121.trans (congrArg some (by kernel_rfl))
  t0 := Tryz.underlying0
  a0 := Tryz.isAgg0
  z0 := Tryz.sizeOf0
  v0 := Tryz.zeroValue0
  i0 := by kernel_rfl
  t2 := Tryz.underlying2
  a2 := Tryz.isAgg2
  z2 := Tryz.sizeOf2
  v2 := Tryz.zeroValue2
  i2 := by kernel_rfl
  t3 := Tryz.underlying3
  a3 := Tryz.isAgg3
  z3 := Tryz.sizeOf3
  v3 := Tryz.zeroValue3
  i3 := by kernel_rfl
  t4 := Tryz.underlying4
  a4 := Tryz.isAgg4
  z4 := Tryz.sizeOf4
  v4 := Tryz.zeroValue4
  i4 := by kernel_rfl
  t5 := Tryz.underlying5
  a5 := Tryz.isAgg5
  z5 := Tryz.sizeOf5
  v5 := Tryz.zeroValue5
  i5 := by kernel_rfl
  t9 := Tryz.underlying9
  a9 := Tryz.isAgg9
  z9 := Tryz.sizeOf9
  v9 := Tryz.zeroValue9
  i9 := by kernel_rfl
  t20 := Tryz.underlying20
  a20 := Tryz.isAgg20
  z20 := Tryz.sizeOf20
  v20 := Tryz.zeroValue20
  i20 := by kernel_rfl
  t21 := Tryz.underlying21
  a21 := Tryz.isAgg21
  z21 := Tryz.sizeOf21
  v21 := Tryz.zeroValue21
  i21 := by kernel_rfl
  t22 := Tryz.underlying93
  a22 := Tryz.isAgg93
  z22 := Tryz.sizeOf93
  v22 := Tryz.zeroValue93
  i22 := by kernel_rfl
  t24 := Tryz.underlying31
  a24 := Tryz.isAgg31
  z24 := Tryz.sizeOf31
  v24 := Tryz.zeroValue31
  i24 := by kernel_rfl
  t25 := Tryz.underlying200
  a25 := Tryz.isAgg200
  z25 := Tryz.sizeOf200
  v25 := Tryz.zeroValue200
  i25 := by kernel_rfl
  t34 := Tryz.underlying208
  a34 := Tryz.isAgg208
  z34 := Tryz.sizeOf208
  v34 := Tryz.zeroValue208
  i34 := by kernel_rfl
  c34 := by kernel_rfl
  t36 := Tryz.underlying168
  a36 := Tryz.isAgg168
  z36 := Tryz.sizeOf168
  v36 := Tryz.zeroValue168
  i36 := by kernel_rfl
  t37 := Tryz.underlying70
  a37 := Tryz.isAgg70
  z37 := Tryz.sizeOf70
  v37 := Tryz.zeroValue70
  i37 := by kernel_rfl
  t39 := Tryz.underlying210
  a39 := Tryz.isAgg210
  z39 := Tryz.sizeOf210
  v39 := Tryz.zeroValue210
  i39 := by kernel_rfl
  t44 := Tryz.underlying219
  a44 := Tryz.isAgg219
  z44 := Tryz.sizeOf219
  v44 := Tryz.zeroValue219
  i44 := by kernel_rfl
  t47 := Tryz.underlying136
  a47 := Tryz.isAgg136
  z47 := Tryz.sizeOf136
  v47 := Tryz.zeroValue136
  i47 := by kernel_rfl
  t48 := Tryz.underlying232
  a48 := Tryz.isAgg232
  z48 := Tryz.sizeOf232
  v48 := Tryz.zeroValue232
  i48 := by kernel_rfl
  t50 := Tryz.underlying234
  a50 := Tryz.isAgg234
  z50 := Tryz.sizeOf234
  v50 := Tryz.zeroValue234
  i50 := by kernel_rfl
  t52 := Tryz.underlying146
  a52 := Tryz.isAgg146
  z52 := Tryz.sizeOf146
  v52 := Tryz.zeroValue146
  i52 := by kernel_rfl
  t55 := Tryz.underlying149
  a55 := Tryz.isAgg149
  z55 := Tryz.sizeOf149
  v55 := Tryz.zeroValue149
  i55 := by kernel_rfl
  t59 := Tryz.underlying164
  a59 := Tryz.isAgg164
  z59 := Tryz.sizeOf164
  v59 := Tryz.zeroValue164
  i59 := by kernel_rfl
  t60 := Tryz.underlying165
  a60 := Tryz.isAgg165
  z60 := Tryz.sizeOf165
  v60 := Tryz.zeroValue165
  i60 := by kernel_rfl
  t61 := Tryz.underlying166
  a61 := Tryz.isAgg166
  z61 := Tryz.sizeOf166
  t65 := Tryz.underlying187
  a65 := Tryz.isAgg187
  z65 := Tryz.sizeOf187
  v65 := Tryz.zeroValue187
  i65 := by kernel_rfl
  t66 := Tryz.underlying188
  a66 := Tryz.isAgg188
  z66 := Tryz.sizeOf188
  v66 := Tryz.zeroValue188
  i66 := by kernel_rfl
  t67 := Tryz.underlying104
  a67 := Tryz.isAgg104
  z67 := Tryz.sizeOf104
  v67 := Tryz.zeroValue104
  i67 := by kernel_rfl
  g0 := by kernel_rfl
  m0 := by kernel_rfl
  g1 := by kernel_rfl
  m1 := by kernel_rfl
  g2 := by kernel_rfl
  m2 := by kernel_rfl
  g3 := by kernel_rfl
  m3 := by kernel_rfl
  g4 := by kernel_rfl
  m4 := by kernel_rfl }
open Go.RowKit in
/-- strconv.ParseUint(s, 10, 64), AT EVERY STRING THAT SPELLS A uint64 ('Lib.parseUintB 64 s.data.toList = .ok u'): u, AND NO ERROR. (LAID: no walk: one application.) -/
theorem Tryz.strconv_ParseUint_10_at64_ok (s : ByteArray) (hmax : s.size ≤ 9223372036854775806) (u : Nat) (h : Lib.parseUintB 64 s.data.toList = .ok u) (w : World) :
    Calls Tryz.prog 140 #[.string s, .int .i64 10, .int .i64 64] w fun e w' => e = .returned (.tuple #[.int .u64 u, .nilIface]) ∧ (w' = w ∨ w' = Lib.bytesWorld w 5 s) := Any.strconv_ParseUint_10_at64_ok Tryz.laysPu14 s hmax u h w
def Tryz.lays144_ren : Go.Shelf.Ren := ⟨fun | 144 => 39 | 143 => 57 | 219 => 81 | 217 => 103 | 225 => 104 | 224 => 105 | 267 => 106 | 266 => 124 | 314 => 125 | n => n, fun | 9 => 9 | 4 => 4 | 3 => 3 | 5 => 5 | 46 => 168 | 146 => 182 | 51 => 165 | n => n, fun | 1 => 2 | n => n⟩
theorem Tryz.lays144 : Go.Proofs.Lays.n144 Tryz.prog Tryz.lays144_ren := {
  mixed := by kernel_rfl
  f143 := Tryz.func57.trans (congrArg some (by kernel_rfl))
  f144 := Tryz.func39.trans (congrArg some (by kernel_rfl))
  f217 := Tryz.func103.trans (congrArg some (by kernel_rfl))
  f219 := Tryz.func81.trans (congrArg some (by kernel_rfl))
  f224 := Tryz.func105.trans (congrArg some (by kernel_rfl))
  f225 := Tryz.func104.trans (congrArg some (by kernel_rfl))
  f266 := Tryz.func124.trans (congrArg some (by kernel_rfl))
  f267 := Tryz.func106.trans (congrArg some (by kernel_rfl))
  f314 := Tryz.func125.trans (congrArg some (by kernel_rfl))
  t3 := Tryz.underlying3
  a3 := Tryz.isAgg3
  z3 := Tryz.sizeOf3
  v3 := Tryz.zeroValue3
  t4 := Tryz.underlying4
  a4 := Tryz.isAgg4
  z4 := Tryz.sizeOf4
  v4 := Tryz.zeroValue4
  t5 := Tryz.underlying5
  a5 := Tryz.isAgg5
  z5 := Tryz.sizeOf5
  v5 := Tryz.zeroValue5
  t9 := Tryz.underlying9
  a9 := Tryz.isAgg9
  z9 := Tryz.sizeOf9
  v9 := Tryz.zeroValue9
  t46 := Tryz.underlying168
  a46 := Tryz.isAgg168
  z46 := Tryz.sizeOf168
  v46 := Tryz.zeroValue168
  t51 := Tryz.underlying165
  a51 := Tryz.isAgg165
  z51 := Tryz.sizeOf165
  v51 := Tryz.zeroValue165
  t146 := Tryz.underlying182
  a146 := Tryz.isAgg182
  z146 := Tryz.sizeOf182
  v146 := Tryz.zeroValue182
  g1 := by kernel_rfl }
open Go.RowKit Go.Lib in
/-- strings.Contains: "Contains reports whether substr is within s.": AT A substr OF ONE BYTE c: IT RETURNS 'decide (0 ≤ Lib.indexByte s c)'; the world is as it was. (LAID: no walk: one application.) -/
theorem Tryz.strings_Contains_one (s : ByteArray) (c : UInt8) (w : World) :
    Calls Tryz.prog 39 #[.string s, .string ⟨#[c]⟩] w fun e w' => e = .returned (.bool (decide (0 ≤ Lib.indexByte s.data.toList c))) ∧ w' = w := Any.strings_Contains_one Tryz.lays144 s c w
open Go.RowKit Go.Lib in
/-- strings.Contains: "Contains reports whether substr is within s.": IT RETURNS 'Lib.contains s substr'; the world is as it was. (LAID: no walk: one application.) -/
theorem Tryz.strings_Contains (s sub : ByteArray) (m : Int) (w : World) (hs : s.size < 4294967281) (hm : w.cell? ⟨2, 0, none⟩ = some (.int .i64 m)) :
    Calls Tryz.prog 39 #[.string s, .string sub] w fun e w' => e = .returned (.bool (Lib.contains s.data.toList sub.data.toList)) ∧ w' = w := Any.strings_Contains Tryz.lays144 s sub m w hs hm
def Tryz.lays145_ren : Go.Shelf.Ren := ⟨fun | 145 => 137 | 220 => 146 | 219 => 81 | 217 => 103 | 225 => 104 | 224 => 105 | 267 => 106 | 266 => 124 | 314 => 125 | n => n, fun | 9 => 9 | 4 => 4 | 59 => 197 | 3 => 3 | 5 => 5 | 46 => 168 | 146 => 182 | 51 => 165 | n => n, fun | 1 => 2 | n => n⟩
theorem Tryz.lays145 : Go.Proofs.Lays.n145 Tryz.prog Tryz.lays145_ren := {
  mixed := by kernel_rfl
  f145 := Tryz.func137.trans (congrArg some (by kernel_rfl))
  f217 := Tryz.func103.trans (congrArg some (by kernel_rfl))
  f219 := Tryz.func81.trans (congrArg some (by kernel_rfl))
  f220 := Tryz.func146.trans (congrArg some (by kernel_rfl))
  f224 := Tryz.func105.trans (congrArg some (by kernel_rfl))
  f225 := Tryz.func104.trans (congrArg some (by kernel_rfl))
  f266 := Tryz.func124.trans (congrArg some (by kernel_rfl))
  f267 := Tryz.func106.trans (congrArg some (by kernel_rfl))
  f314 := Tryz.func125.trans (congrArg some (by kernel_rfl))
  t3 := Tryz.underlying3
  a3 := Tryz.isAgg3
  z3 := Tryz.sizeOf3
  v3 := Tryz.zeroValue3
  t4 := Tryz.underlying4
  a4 := Tryz.isAgg4
  z4 := Tryz.sizeOf4
  v4 := Tryz.zeroValue4
  t5 := Tryz.underlying5
  a5 := Tryz.isAgg5
  z5 := Tryz.sizeOf5
  v5 := Tryz.zeroValue5
  t9 := Tryz.underlying9
  a9 := Tryz.isAgg9
  z9 := Tryz.sizeOf9
  v9 := Tryz.zeroValue9
  t46 := Tryz.underlying168
  a46 := Tryz.isAgg168
  z46 := Tryz.sizeOf168
  v46 := Tryz.zeroValue168
  t51 := Tryz.underlying165
  a51 := Tryz.isAgg165
  z51 := Tryz.sizeOf165
  v51 := Tryz.zeroValue165
  t59 := Tryz.underlying197
  a59 := Tryz.isAgg197
  z59 := Tryz.sizeOf197
  v59 := Tryz.zeroValue197
  t146 := Tryz.underlying182
  a146 := Tryz.isAgg182
  z146 := Tryz.sizeOf182
  v146 := Tryz.zeroValue182
  g1 := by kernel_rfl }
open Go.RowKit Go.Lib in
/-- strings.Cut: "Cut slices s around the first instance of sep, returning the text before and after sep. The found result reports whether sep appears in s. If sep does not appear in s, cut returns s, "", false.": IT RETURNS 'Lib.cut s sep'; the world is as it was but for the count of draws. (LAID: no walk: one application.) -/
theorem Tryz.strings_Cut (s sep : ByteArray) (m : Int) (w : World) (hs : s.size < 4294967281) (hm : w.cell? ⟨2, 0, none⟩ = some (.int .i64 m)) :
    Calls Tryz.prog 137 #[.string s, .string sep] w fun e w' => e = .returned (.tuple #[.string ⟨(Lib.cut s.data.toList sep.data.toList).1.toArray⟩, .string ⟨(Lib.cut s.data.toList sep.data.toList).2.1.toArray⟩, .bool (Lib.cut s.data.toList sep.data.toList).2.2]) ∧ ∃ n, w' = w.drewN n := Any.strings_Cut Tryz.lays145 s sep m w hs hm
def Tryz.laysM144_ren : Go.Shelf.Ren := ⟨fun | 144 => 39 | 143 => 57 | 219 => 81 | 217 => 103 | 225 => 104 | 224 => 105 | 267 => 106 | 266 => 124 | 314 => 125 | n => n, fun | 9 => 9 | 4 => 4 | 3 => 3 | 5 => 5 | 46 => 168 | 146 => 182 | 51 => 165 | n => n, fun | 1 => 2 | n => n⟩
theorem Tryz.laysM144 : Go.Proofs.LaysM.n144 Tryz.prog Tryz.laysM144_ren := {
  mixed := by kernel_rfl
  f143 := Tryz.func57.trans (congrArg some (by kernel_rfl))
  f144 := Tryz.func39.trans (congrArg some (by kernel_rfl))
  f217 := Tryz.func103.trans (congrArg some (by kernel_rfl))
  f219 := Tryz.func81.trans (congrArg some (by kernel_rfl))
  f224 := Tryz.func105.trans (congrArg some (by kernel_rfl))
  f225 := Tryz.func104.trans (congrArg some (by kernel_rfl))
  f266 := Tryz.func124.trans (congrArg some (by kernel_rfl))
  f267 := Tryz.func106.trans (congrArg some (by kernel_rfl))
  f314 := Tryz.func125.trans (congrArg some (by kernel_rfl))
  t3 := Tryz.underlying3
  a3 := Tryz.isAgg3
  z3 := Tryz.sizeOf3
  v3 := Tryz.zeroValue3
  t4 := Tryz.underlying4
  a4 := Tryz.isAgg4
  z4 := Tryz.sizeOf4
  v4 := Tryz.zeroValue4
  t5 := Tryz.underlying5
  a5 := Tryz.isAgg5
  z5 := Tryz.sizeOf5
  v5 := Tryz.zeroValue5
  t9 := Tryz.underlying9
  a9 := Tryz.isAgg9
  z9 := Tryz.sizeOf9
  v9 := Tryz.zeroValue9
  t46 := Tryz.underlying168
  a46 := Tryz.isAgg168
  z46 := Tryz.sizeOf168
  v46 := Tryz.zeroValue168
  t51 := Tryz.underlying165
  a51 := Tryz.isAgg165
  z51 := Tryz.sizeOf165
  v51 := Tryz.zeroValue165
  t146 := Tryz.underlying182
  a146 := Tryz.isAgg182
  z146 := Tryz.sizeOf182
  v146 := Tryz.zeroValue182
  g1 := by kernel_rfl
  i3 := by kernel_rfl
  i4 := by kernel_rfl
  i5 := by kernel_rfl
  i9 := by kernel_rfl
  i46 := by kernel_rfl
  i51 := by kernel_rfl
  i146 := by kernel_rfl
  m1 := by kernel_rfl
  s1_3 := fun w h => Go.Proofs.cell_of_shapedOpen_int (zero := #[.int .i64 0]) (t := 3) h (of_decide_eq_true (by kernel_rfl)) (by kernel_rfl) rfl (by kernel_rfl) (by kernel_rfl) Tryz.underlying3 }
open Go.RowKit Go.Lib in
theorem Tryz.strings_Contains_shaped (s sub : ByteArray) (w : World) (h : w.ShapedOpen Tryz.prog) (hs : s.size < 4294967281) :
    Calls Tryz.prog 39 #[.string s, .string sub] w fun e w' => e = .returned (.bool (Lib.contains s.data.toList sub.data.toList)) ∧ w' = w := Any.strings_Contains_shaped Tryz.laysM144 s sub w h hs
def Tryz.lays99_ren : Go.Shelf.Ren := ⟨fun | 99 => 90 | 206 => 113 | n => n, fun | 9 => 9 | 4 => 4 | 3 => 3 | n => n, fun | n => n⟩
theorem Tryz.lays99 : Go.Proofs.Lays.n99 Tryz.prog Tryz.lays99_ren := {
  mixed := by kernel_rfl
  f99 := Tryz.func90.trans (congrArg some (by kernel_rfl))
  f206 := Tryz.func113.trans (congrArg some (by kernel_rfl))
  t3 := Tryz.underlying3
  a3 := Tryz.isAgg3
  z3 := Tryz.sizeOf3
  v3 := Tryz.zeroValue3
  t4 := Tryz.underlying4
  a4 := Tryz.isAgg4
  z4 := Tryz.sizeOf4
  v4 := Tryz.zeroValue4
  t9 := Tryz.underlying9
  a9 := Tryz.isAgg9
  z9 := Tryz.sizeOf9
  v9 := Tryz.zeroValue9 }
open Go.RowKit Go.Lib in
/-- strings.HasPrefix: "HasPrefix reports whether the string s begins with prefix.": IT RETURNS 'Lib.hasPrefix s prefix'; the world is as it was. (LAID: no walk: one application.) -/
theorem Tryz.strings_HasPrefix (s p : ByteArray) (w : World) :
    Calls Tryz.prog 90 #[.string s, .string p] w fun e w' => e = .returned (.bool (Lib.hasPrefix s.data.toList p.data.toList)) ∧ w' = w := Any.strings_HasPrefix Tryz.lays99 s p w
def Tryz.lays157_ren : Go.Shelf.Ren := ⟨fun | 157 => 143 | 229 => 149 | 199 => 150 | 261 => 157 | 311 => 161 | 312 => 162 | n => n, fun | 9 => 9 | 31 => 23 | 3 => 3 | 5 => 5 | 4 => 4 | 119 => 171 | 0 => 0 | 40 => 138 | 152 => 213 | 21 => 21 | 154 => 215 | 51 => 165 | 141 => 217 | 196 => 224 | 193 => 221 | 198 => 227 | 49 => 225 | 194 => 222 | 201 => 230 | 226 => 235 | 46 => 168 | 227 => 236 | n => n, fun | 0 => 7 | 6 => 8 | n => n⟩
theorem Tryz.lays157 : Go.Proofs.Lays.n157 Tryz.prog Tryz.lays157_ren := {
  mixed := by kernel_rfl
  f157 := Tryz.func143.trans (congrArg some (by kernel_rfl))
  f199 := Tryz.func150.trans (congrArg some (by kernel_rfl))
  f229 := Tryz.func149.trans (congrArg some (by kernel_rfl))
  f261 := Tryz.func157.trans (congrArg some (by kernel_rfl))
  f311 := Tryz.func161.trans (congrArg some (by kernel_rfl))
  f312 := Tryz.func162.trans (congrArg some (by kernel_rfl))
  t0 := Tryz.underlying0
  a0 := Tryz.isAgg0
  z0 := Tryz.sizeOf0
  v0 := Tryz.zeroValue0
  t3 := Tryz.underlying3
  a3 := Tryz.isAgg3
  z3 := Tryz.sizeOf3
  v3 := Tryz.zeroValue3
  t4 := Tryz.underlying4
  a4 := Tryz.isAgg4
  z4 := Tryz.sizeOf4
  v4 := Tryz.zeroValue4
  t5 := Tryz.underlying5
  a5 := Tryz.isAgg5
  z5 := Tryz.sizeOf5
  v5 := Tryz.zeroValue5
  t9 := Tryz.underlying9
  a9 := Tryz.isAgg9
  z9 := Tryz.sizeOf9
  v9 := Tryz.zeroValue9
  t21 := Tryz.underlying21
  a21 := Tryz.isAgg21
  z21 := Tryz.sizeOf21
  v21 := Tryz.zeroValue21
  t31 := Tryz.underlying23
  a31 := Tryz.isAgg23
  z31 := Tryz.sizeOf23
  v31 := Tryz.zeroValue23
  t40 := Tryz.underlying138
  a40 := Tryz.isAgg138
  z40 := Tryz.sizeOf138
  v40 := Tryz.zeroValue138
  t46 := Tryz.underlying168
  a46 := Tryz.isAgg168
  z46 := Tryz.sizeOf168
  v46 := Tryz.zeroValue168
  t49 := Tryz.underlying225
  a49 := Tryz.isAgg225
  z49 := Tryz.sizeOf225
  v49 := Tryz.zeroValue225
  t51 := Tryz.underlying165
  a51 := Tryz.isAgg165
  z51 := Tryz.sizeOf165
  v51 := Tryz.zeroValue165
  t119 := Tryz.underlying171
  a119 := Tryz.isAgg171
  z119 := Tryz.sizeOf171
  t141 := Tryz.underlying217
  a141 := Tryz.isAgg217
  z141 := Tryz.sizeOf217
  v141 := Tryz.zeroValue217
  t152 := Tryz.underlying213
  a152 := Tryz.isAgg213
  z152 := Tryz.sizeOf213
  v152 := Tryz.zeroValue213
  t154 := Tryz.underlying215
  a154 := Tryz.isAgg215
  z154 := Tryz.sizeOf215
  v154 := Tryz.zeroValue215
  t193 := Tryz.underlying221
  a193 := Tryz.isAgg221
  z193 := Tryz.sizeOf221
  v193 := Tryz.zeroValue221
  t194 := Tryz.underlying222
  a194 := Tryz.isAgg222
  z194 := Tryz.sizeOf222
  v194 := Tryz.zeroValue222
  t196 := Tryz.underlying224
  a196 := Tryz.isAgg224
  z196 := Tryz.sizeOf224
  v196 := Tryz.zeroValue224
  t198 := Tryz.underlying227
  a198 := Tryz.isAgg227
  z198 := Tryz.sizeOf227
  v198 := Tryz.zeroValue227
  t201 := Tryz.underlying230
  a201 := Tryz.isAgg230
  z201 := Tryz.sizeOf230
  v201 := Tryz.zeroValue230
  t226 := Tryz.underlying235
  a226 := Tryz.isAgg235
  z226 := Tryz.sizeOf235
  v226 := Tryz.zeroValue235
  t227 := Tryz.underlying236
  a227 := Tryz.isAgg236
  z227 := Tryz.sizeOf236
  v227 := Tryz.zeroValue236
  g0 := by kernel_rfl
  g6 := by kernel_rfl }
open Go.RowKit Go.Lib in
/-- strings.Fields, the table by 'Lib.TabIs' (as strings.TrimSpace's contract). 'hg': the table's number, by its name: at a dump 'by kernel_rfl'. (LAID: no walk: one application.) -/
theorem Tryz.strings_Fields (s : ByteArray) (w : World) (hs : s.size < 4294967281) (hascii : ∀ (j : Nat) b, s.data.toList[j]? = some b → b.toNat < 128) (htab : Lib.TabIs Tryz.prog w "strings.asciiSpace" .u8 Lib.asciiSpaceTab) :
    Calls Tryz.prog 143 #[.string s] w fun e w' =>
      e = .returned (.slice (some ⟨w.heap.size, 0, none⟩) (Lib.fields s.data.toList).length (Lib.fields s.data.toList).length) ∧ w' = w.alloc (.cells ((Lib.fields s.data.toList).map fun l => Value.string ⟨l.toArray⟩).toArray 9) := Any.strings_Fields Tryz.lays157 (by kernel_rfl) (by kernel_rfl) s w hs hascii htab
def Tryz.lays110_ren : Go.Shelf.Ren := ⟨fun | 110 => 73 | 109 => 94 | n => n, fun | 31 => 23 | 9 => 9 | 4 => 4 | 3 => 3 | 0 => 0 | n => n, fun | n => n⟩
theorem Tryz.lays110 : Go.Proofs.Lays.n110 Tryz.prog Tryz.lays110_ren := {
  mixed := by kernel_rfl
  f109 := Tryz.func94.trans (congrArg some (by kernel_rfl))
  f110 := Tryz.func73.trans (congrArg some (by kernel_rfl))
  t0 := Tryz.underlying0
  a0 := Tryz.isAgg0
  z0 := Tryz.sizeOf0
  v0 := Tryz.zeroValue0
  t3 := Tryz.underlying3
  a3 := Tryz.isAgg3
  z3 := Tryz.sizeOf3
  v3 := Tryz.zeroValue3
  t4 := Tryz.underlying4
  a4 := Tryz.isAgg4
  z4 := Tryz.sizeOf4
  v4 := Tryz.zeroValue4
  t9 := Tryz.underlying9
  a9 := Tryz.isAgg9
  z9 := Tryz.sizeOf9
  v9 := Tryz.zeroValue9
  t31 := Tryz.underlying23
  a31 := Tryz.isAgg23
  z31 := Tryz.sizeOf23
  v31 := Tryz.zeroValue23 }
open Go.Lib in
/-- slices.Contains at []string: "Contains reports whether v is present in s.": IT RETURNS 'Lib.containsS (the elements) v', which is true just where v is among them ('Lib.containsS_iff'); the world is as it was. ITS CALLEE slices.Index IS MET BY ITS OWN CONTRACT OFF THE SHELF (lay that first): no loop is walked here. (LAID: no walk: one application.) -/
theorem Tryz.slices_Contains_string (b off n c : Nat) (zs : List ByteArray) (x : ByteArray) (w : World) (hz : n ≤ zs.length) (hbig : n ≤ 9223372036854775807) (hc : ∀ j, j < zs.length → w.cell? ⟨b, off + j, none⟩ = some (.string (zs.getD j ByteArray.empty))) :
    Calls Tryz.prog 73 #[.slice (some ⟨b, off, none⟩) n c, .string x] w fun e w' => e = .returned (.bool (Lib.containsS (zs.take n) x)) ∧ w' = w := Any.slices_Contains_string Tryz.lays110 b off n c zs x w hz hbig hc
end Go.Proofs

/-
  The scanner's state; its small functions. Helper lemmas; no statement of the seat is proved here.
-/
namespace Go.Proofs.YtfoclfefjcnllaaGreatDoor
open Go.RowKit
set_option maxRecDepth 100000
set_option linter.unusedVariables false
set_option linter.unusedSimpArgs false

/-- A token: its kind, its place, its text. -/
structure QT where
  kind : Nat
  at' : Nat
  text : List UInt8
def tokC (t : QT) : List DV := [.v (.int .i64 t.kind), .v (.int .i64 t.at'), .v (.string (bs t.text))]
def toksD (l : List QT) : DV := .s 3 (l.flatMap tokC)
theorem z_tok (t : QT) : (tokC t).length = 3 := rfl
theorem tok_at {w : World} {p : Nat → Prop} {a : Option Addr} {len cap : Nat} {l : List QT} (h : Rep w p (.slice a len cap) (toksD l)) (i : Nat) (hi : i < l.length) :
    ∃ b off, a = some ⟨b, off, none⟩ ∧ b < w.heap.size ∧ w.cell? ⟨b, off + i * 3, none⟩ = some (.int .i64 l[i].kind) ∧ w.cell? ⟨b, off + i * 3 + 1, none⟩ = some (.int .i64 l[i].at') ∧ w.cell? ⟨b, off + i * 3 + 2, none⟩ = some (.string (bs l[i].text)) := by
  obtain ⟨b, off, ha, hb, hp, hc⟩ := elem_at z_tok h (by omega) i hi
  obtain ⟨u0, h0, r0⟩ := hc 0 _ rfl
  obtain ⟨u1, h1, r1⟩ := hc 1 _ rfl
  obtain ⟨u2, h2, r2⟩ := hc 2 _ rfl
  refine ⟨b, off, ha, hb, ?_, ?_, ?_⟩
  · rw [← r0.is]; exact h0
  · rw [← r1.is]; exact h1
  · rw [← r2.is]; exact h2
section
variable {ev : Operand → Value} {oi : Oper} {x y lo hi : Operand} {s : List UInt8} {i j : Nat}
theorem exec_sidx (ho : oi.op = .index 9 x y) (hx : ev x = .string (bs s)) (hy : ev y = .int .i64 i) (h : i < s.length) (W : World) : (execOp ev oi).run Tryz.prog W = .ok (.value (.int .u8 (s[i].toNat : Int))) W := by
  have h1 : (i : Int) < ((bs s).size : Int) := by rw [bs_size]; omega
  have h2 : i < (bs s).size := by rw [bs_size]; omega
  simp only [execOp, ho, hx, hy]
  simp [go_sem, h1, h2]
  rfl
theorem exec_scut (ho : oi.op = .slice 9 x (some lo) (some hi) none) (hx : ev x = .string (bs s)) (hl : ev lo = .int .i64 i) (hh : ev hi = .int .i64 j) (h : i ≤ j) (h2 : j ≤ s.length) (W : World) : (execOp ev oi).run Tryz.prog W = .ok (.value (.string (bs ((s.drop i).take (j - i))))) W := by
  have h1 : (j : Int) ≤ ((bs s).size : Int) := by rw [bs_size]; omega
  simp only [execOp, ho, hx, hl, hh, Option.map]
  simp [go_sem, h1, h, bs_extract]
theorem exec_stake {n : Nat} (ho : oi.op = .slice 9 x (some lo) (some hi) none) (hx : ev x = .string (bs s)) (hl : ev lo = .int .i64 i) (hh : ev hi = .int .i64 (i + n : Nat)) (h2 : i + n ≤ s.length) (W : World) : (execOp ev oi).run Tryz.prog W = .ok (.value (.string (bs ((s.drop i).take n)))) W := by
  have h := exec_scut (oi := oi) (ev := ev) (s := s) (i := i) (j := i + n) ho hx hl hh (by omega) h2 W
  rw [h, Nat.add_sub_cancel_left]
theorem exec_sfrom (ho : oi.op = .slice 9 x (some lo) none none) (hx : ev x = .string (bs s)) (hl : ev lo = .int .i64 i) (h : i ≤ s.length) (W : World) : (execOp ev oi).run Tryz.prog W = .ok (.value (.string (bs (s.drop i)))) W := by
  have h1 : (i : Int) ≤ ((bs s).size : Int) := by rw [bs_size]; omega
  have e : (s.drop i).take (s.length - i) = s.drop i := by rw [List.take_of_length_le]; rw [List.length_drop]; omega
  simp only [execOp, ho, hx, hl, Option.map]
  simp [go_sem, h1, bs_extract, bs_size, e]
  exact fun h3 => absurd h3 (by omega)
theorem exec_slen (ho : oi.op = .call { callee := .builtin .len, args := #[x], argTypes := #[9] }) (hx : ev x = .string (bs s)) (W : World) : (execOp ev oi).run Tryz.prog W = .ok (.value (.int .i64 s.length)) W := by
  simp only [execOp, ho]
  simp [go_sem, hx, bs_size]
theorem exec_u8i32 (ho : oi.op = .convert 5 21 x) (hx : ev x = .int .u8 i) (h : i < 256) (W : World) : (execOp ev oi).run Tryz.prog W = .ok (.value (.int .i32 i)) W := by
  have e : IntKind.i32.wrap (i : Int) = (i : Int) := by rw [IntKind.wrap_i32]; omega
  simp only [execOp, ho, hx]
  simp [go_sem, e]
section
variable {t u : TypeId} {k : IntKind} {B : Bool}
theorem exec_lss (ho : oi.op = .binOp .lss t x y u) (hx : ev x = .int k i) (hy : ev y = .int k j) (h : decide (i < j) = B) (W : World) : (execOp ev oi).run Tryz.prog W = .ok (.value (.bool B)) W := by
  subst h; simp only [execOp, ho, hx, hy]; simp [go_sem]
theorem exec_leq (ho : oi.op = .binOp .leq t x y u) (hx : ev x = .int k i) (hy : ev y = .int k j) (h : decide (i ≤ j) = B) (W : World) : (execOp ev oi).run Tryz.prog W = .ok (.value (.bool B)) W := by
  subst h; simp only [execOp, ho, hx, hy]; simp [go_sem]
theorem exec_gtr (ho : oi.op = .binOp .gtr t x y u) (hx : ev x = .int k i) (hy : ev y = .int k j) (h : decide (j < i) = B) (W : World) : (execOp ev oi).run Tryz.prog W = .ok (.value (.bool B)) W := by
  subst h; simp only [execOp, ho, hx, hy]; simp [go_sem]
theorem exec_geq (ho : oi.op = .binOp .geq t x y u) (hx : ev x = .int k i) (hy : ev y = .int k j) (h : decide (j ≤ i) = B) (W : World) : (execOp ev oi).run Tryz.prog W = .ok (.value (.bool B)) W := by
  subst h; simp only [execOp, ho, hx, hy]; simp [go_sem]
theorem exec_eql (ho : oi.op = .binOp .eql t x y u) (hx : ev x = .int k i) (hy : ev y = .int k j) (h : decide (i = j) = B) (W : World) : (execOp ev oi).run Tryz.prog W = .ok (.value (.bool B)) W := by
  subst h; simp only [execOp, ho, hx, hy]; simp [go_sem]; by_cases h : i = j <;> simp [h]; omega
theorem exec_seql (ho : oi.op = .binOp .eql t x y u) {s' : List UInt8} (hx : ev x = .string (bs s)) (hy : ev y = .string (bs s')) (h : (s == s') = B) (W : World) : (execOp ev oi).run Tryz.prog W = .ok (.value (.bool B)) W := by
  subst h; simp only [execOp, ho, hx, hy]; simp [go_sem, bs_eqv]
theorem exec_add (ho : oi.op = .binOp .add 3 x y u) (hx : ev x = .int .i64 i) (hy : ev y = .int .i64 j) (h : i + j ≤ 9223372036854775807) (W : World) : (execOp ev oi).run Tryz.prog W = .ok (.value (.int .i64 (i + j : Nat))) W := by
  have e : IntKind.i64.wrap ((i : Int) + (j : Int)) = (i : Int) + (j : Int) := by rw [IntKind.wrap_i64]; omega
  simp only [execOp, ho, hx, hy]; simp [go_sem, e]
theorem exec_sub (ho : oi.op = .binOp .sub 3 x y u) (hx : ev x = .int .i64 i) (hy : ev y = .int .i64 j) (h : j ≤ i) (h2 : i ≤ 9223372036854775807) (W : World) : (execOp ev oi).run Tryz.prog W = .ok (.value (.int .i64 (i - j : Nat))) W := by
  have e : IntKind.i64.wrap ((i : Int) - (j : Int)) = ((i - j : Nat) : Int) := by rw [IntKind.wrap_i64]; omega
  simp only [execOp, ho, hx, hy]; simp [go_sem, e]
end
end
/-- The scanner: its block, the first behind w0's; the text, the place, the tokens so far. -/
structure SC (w0 W : World) (s : List UInt8) (i : Nat) (out : List QT) : Prop where
  ext : Ext w0 W
  c0 : W.cell? ⟨w0.heap.size, 0, none⟩ = some (.string (bs s))
  c1 : W.cell? ⟨w0.heap.size, 1, none⟩ = some (.int .i64 i)
  row : ∃ v, W.cell? ⟨w0.heap.size, 2, none⟩ = some v ∧ Own W (fun _ => False) (w0.heap.size + 1) 111 3 v out.length (out.flatMap tokC)
  f1 : W.frozen? ⟨w0.heap.size, 1, none⟩ = false
  f2 : W.frozen? ⟨w0.heap.size, 2, none⟩ = false
  tx : ∀ t ∈ out, t.text.length ≤ 1000
section
variable {w0 W W' : World} {s : List UInt8} {i : Nat} {out : List QT}
theorem SC.lt (h : SC w0 W s i out) : w0.heap.size < W.heap.size := World.block_lt_of_cell? W _ h.c1
theorem SC.step (h : SC w0 W s i out) (hE : Ext W W') : SC w0 W' s i out := by
  have hl := h.lt
  obtain ⟨v, h1, h2⟩ := h.row
  exact ⟨h.ext.trans hE, hE.keep hl h.c0, hE.keep hl h.c1, ⟨v, hE.keep hl h1, h2.ext hE⟩, hE.free hl h.f1, hE.free hl h.f2, h.tx⟩
theorem own_set {w : World} {p : Nat → Prop} {base z n : Nat} {e : TypeId} {v : Value} {es : List DV} (h : Own w p base e z v n es) {a : Addr} (ha : a.block < base) (hw : a.block < w.heap.size) (hp : ∀ b, p b → b ≠ a.block) (u : Value) : Own (w.setCell a u) p base e z v n es := by
  obtain ⟨us, h1, h2⟩ := h
  have hb : ∀ b, b ≠ a.block → (w.setCell a u).heap[b]? = w.heap[b]? := fun b hb => Below.heap_setCell w a u b hb
  have hsz : (w.setCell a u).heap.size = w.heap.size := by simp [World.setCell]
  refine ⟨us, h1.kept (row := some a.block) ⟨rfl, rfl, rfl, by rw [hsz]; exact Nat.le_refl _, fun b hb1 hb2 => hb b (fun e => hb2 (by rw [e]))⟩ ?_, ?_⟩
  · cases ho : v.ownBlock with
    | none => exact .inl rfl
    | some k => exact .inr fun e => by have := Option.some.inj e; have := (h1.lt k ho).1; omega
  · exact (h2.kept fun b hb1 _ => hb b (hp b hb1.1)).ok fun b hb1 => ⟨hb1.1, hb1.2.1, by rw [hsz]; exact hb1.2.2⟩
theorem SC.setAt (h : SC w0 W s i out) (j : Nat) : SC w0 (W.setCell ⟨w0.heap.size, 1, none⟩ (.int .i64 j)) s j out := by
  obtain ⟨v, h1, h2⟩ := h.row
  have c0 := h.c0; have c1 := h.c1; have f1 := h.f1; have f2 := h.f2
  exact ⟨h.ext.set (p := ⟨w0.heap.size, 1, none⟩) (Nat.le_refl _) _, by simp [go_sem, c0], by simp [go_sem, c1], ⟨v, by simp [go_sem, h1], own_set h2 (a := ⟨w0.heap.size, 1, none⟩) (Nat.lt_succ_self _) h.lt (fun _ h => h.elim) _⟩, by simp [go_sem, f1], by simp [go_sem, f2], h.tx⟩
end
end Go.Proofs.YtfoclfefjcnllaaGreatDoor

/-
  Package qlex as plain functions. Helper lemmas; no statement of the seat is proved here.
-/
namespace Go.Proofs.YtfoclfefjcnllaaGreatDoor
set_option linter.unusedVariables false

-- utf
def inR (r : Nat) (l : List (Nat × Nat)) : Bool := l.any fun p => decide (p.1 ≤ r) && decide (r ≤ p.2)
def beginsR (r : Nat) : Bool := inR r [(65, 90), (95, 95), (97, 122), (192, 214), (216, 246), (248, 767), (880, 893), (895, 8191), (8204, 8205), (8304, 8591), (11264, 12271), (12289, 55295), (63744, 64975), (65008, 65533), (65536, 983039)]
def goesR (r : Nat) : Bool := beginsR r || inR r [(45, 46), (48, 57), (183, 183), (768, 879), (8255, 8256)]
def charR (r : Nat) : Bool := decide (r = 9) || decide (r = 10) || decide (r = 13) || (decide (32 ≤ r) && decide (r ≤ 1114111) && (decide (r ≤ 55295) || (decide (57344 ≤ r) && decide (r ≤ 65533)) || decide (65536 ≤ r)))
/-- The character at the head of some bytes, and how many it has; (0, 0): none. -/
def nextS (l : List UInt8) : Nat × Nat :=
  match l with
  | [] => (0, 0)
  | c :: r =>
    if c < 128 then (if charR c.toNat then (c.toNat, 1) else (0, 0))
    else if (decide ((Lib.decodeGoB (bs (c :: r))).1 = 65533) && decide ((Lib.decodeGoB (bs (c :: r))).2 < 2)) || !charR (Lib.decodeGoB (bs (c :: r))).1 then (0, 0) else Lib.decodeGoB (bs (c :: r))
def badGo : Nat → Nat → List UInt8 → Int
  | 0, _, _ => -1
  | f + 1, i, l => if l = [] then -1 else if (nextS l).2 = 0 then (i : Int) else badGo f (i + (nextS l).2) (l.drop (nextS l).2)
def badS (l : List UInt8) : Int := badGo l.length 0 l
-- qlex
def blankB (c : UInt8) : Bool := c == 9 || c == 10 || c == 13 || c == 32
def nameGo : Nat → Bool → List UInt8 → Nat
  | 0, _, _ => 0
  | f + 1, first, l => if l = [] then 0 else if (first && !beginsR (nextS l).1) || !goesR (nextS l).1 then 0 else (nextS l).2 + nameGo f false (l.drop (nextS l).2)
def nameS (l : List UInt8) : Nat := nameGo l.length true l
def digB (c : UInt8) : Bool := decide (48 ≤ c) && decide (c ≤ 57)
def digitsS (l : List UInt8) : Nat := (l.takeWhile digB).length
def skipS (l : List UInt8) : Nat := (l.takeWhile blankB).length
def hasS (l t : List UInt8) : Bool := t.isPrefixOf l
def operandS (out : List QT) : Bool :=
  match out.getLast? with
  | none => false
  | some t => if t.kind = 5 then false else if t.kind = 6 then !([[64], [58, 58], [40], [91], [44]] : List (List UInt8)).contains t.text else true
/-- A token found: its kind, its bytes, its text; or a code. -/
abbrev Tok := Except Int (Nat × Nat × List UInt8)
def numberS (l : List UInt8) : Option (Nat × Nat × List UInt8) :=
  let whole := digitsS l
  if (l.drop whole).head? = some 46 then
    let places := digitsS (l.drop (whole + 1))
    if whole + places = 0 then none else some (8, whole + (1 + places), l.take (whole + (1 + places)))
  else if whole = 0 then none else some (8, whole, l.take whole)
def quotedS (c : UInt8) (r : List UInt8) : Tok :=
  if r.contains c then .ok (7, (r.takeWhile (· != c)).length + 2, r.takeWhile (· != c)) else .error 60
def variableS (l : List UInt8) : Tok :=
  let r := l.drop 1
  let k := skipS r
  let n := nameS (r.drop k)
  if n = 0 then .error 60 else .ok (9, 1 + k + n, (r.drop k).take n)
def wordS (out : List QT) (l : List UInt8) (n : Nat) : Tok :=
  let t := l.take n
  if operandS out then
    if ([[97, 110, 100], [111, 114], [100, 105, 118], [109, 111, 100]] : List (List UInt8)).contains t then .ok (5, n, t) else .error 61
  else
    let rest := (l.drop n).dropWhile blankB
    if hasS rest [58, 58] then .ok (4, n, t)
    else if hasS rest [40] then
      if ([[99, 111, 109, 109, 101, 110, 116], [116, 101, 120, 116], [112, 114, 111, 99, 101, 115, 115, 105, 110, 103, 45, 105, 110, 115, 116, 114, 117, 99, 116, 105, 111, 110], [110, 111, 100, 101]] : List (List UInt8)).contains t then .ok (3, n, t) else .ok (2, n, t)
    else .ok (1, n, t)
def OPSq : List (List UInt8) := [[47, 47], [33, 61], [60, 61], [62, 61], [47], [124], [43], [45], [61], [60], [62]]
def MARKSq : List (List UInt8) := [[58, 58], [46, 46], [40], [41], [91], [93], [64], [44], [46]]
def signS (l : List UInt8) : Tok :=
  match OPSq.find? (hasS l) with
  | some t => .ok (5, t.length, t)
  | none => match MARKSq.find? (hasS l) with
    | some t => .ok (6, t.length, t)
    | none => .error 60
def restS (out : List QT) (l : List UInt8) : Tok := if nameS l = 0 then signS l else wordS out l (nameS l)
def tokenS (out : List QT) (l : List UInt8) : Tok :=
  match l with
  | [] => .error 60
  | c :: r =>
    if c = 34 ∨ c = 39 then quotedS c r
    else if c = 36 then variableS l
    else if c = 42 then .ok (if operandS out then 5 else 1, 1, [42])
    else if c = 46 ∨ digB c = true then
      match numberS l with
      | some t => .ok t
      | none => restS out l
    else restS out l
/-- From a place: all tokens, or a code and where. -/
def scanGo (s : List UInt8) : Nat → Nat → List QT → Except (Int × Int) (List QT)
  | 0, _, out => .ok out
  | f + 1, i, out =>
    let j := i + skipS (s.drop i)
    if s.length ≤ j then .ok out
    else match tokenS out (s.drop j) with
      | .error c => .error (c, (j : Int))
      | .ok (k, n, t) => scanGo s f (j + n) (out ++ [⟨k, j, t⟩])
def allS (s : List UInt8) : Except (Int × Int) (List QT) :=
  if 1000 < s.length then .error (8, 1000) else if 0 ≤ badS s then .error (1, badS s) else scanGo s (s.length + 1) 0 []
end Go.Proofs.YtfoclfefjcnllaaGreatDoor
