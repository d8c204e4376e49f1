/- DERIVED: THE SHELF's CONTRACTS AT THIS DUMP, IN PLAIN WORDS (tools/lay-plain.mjs out of 'TryzShelfCut.lean', which tools/lay-shelf.mjs wrote): THE SAME DECLARATIONS UNDER THE SAME NAMES: 'import', 'namespace', 'open', 'def', 'theorem' AND NOTHING ELSE: no command of the shelf's: FOR A HAND-IN. Each laying: the table of numbers ('.._ren') and one theorem, a field a fact of the dump's own or the kernel's comparison; each contract: ONE APPLICATION. DERIVED: THE SHELF's CONTRACTS AT THIS DUMP, IN PLAIN WORDS (tools/lay-plain.mjs out of 'TryzShelfCut.lean', which tools/lay-shelf.mjs wrote): THE SAME DECLARATIONS UNDER THE SAME NAMES: 'import', 'namespace', 'open', 'def', 'theorem' AND NOTHING ELSE: no command of the shelf's: FOR A HAND-IN. Each laying: the table of numbers ('.._ren') and one theorem, a field a fact of the dump's own or the kernel's comparison; each contract: ONE APPLICATION. Plain laws of the texts of rational numbers: the canonical text, and what Parse reads. No program. Plain laws: what the reader of canonical texts checks, and that it finds just the canonical texts. No program. Plain laws: numbers read and written limb by limb. No program. What the world holds of the library's variables; the library's string functions as they are used here. -/
import Derived.Test.YthjnmnepjeegiaaGreatDoorG1
import Derived.Test.YthjnmnepjeegiaaGreatDoorG2
import Derived.Test.YthjnmnepjeegiaaGreatDoorProg
import Derived.Shelf.Strings.Builder1
import Derived.Shelf.Small.Wraps
import Derived.Shelf.LaysM
import Derived.Shelf.Strconv.Itoa3
import Derived.Shelf.Strings.Search2
import Derived.Shelf.Strings.Prefix
import Derived.Shelf.Strings.Repeat
import Derived.Shelf.LaysC
import Derived.Shelf.Strconv.AtoiAll
import Derived.Shelf.Strconv.ErrVarAll
import Derived.Shelf.Strings.SlTrimAscii
import Derived.Lib.SmallJoins
import Derived.Lib.AppendIntMem
import Derived.ShutString
/- DERIVED: THE SHELF's CONTRACTS AT THIS DUMP, IN PLAIN WORDS (tools/lay-plain.mjs out of 'TryzShelfCut.lean', which tools/lay-shelf.mjs wrote): THE SAME DECLARATIONS UNDER THE SAME NAMES: 'import', 'namespace', 'open', 'def', 'theorem' AND NOTHING ELSE: no command of the shelf's: FOR A HAND-IN. Each laying: the table of numbers ('.._ren') and one theorem, a field a fact of the dump's own or the kernel's comparison; each contract: ONE APPLICATION. -/
namespace Go.Proofs
open Go.Shelf
def Tryz.lays169_ren : Go.Shelf.Ren := ⟨fun | 169 => 96 | n => n, fun | 70 => 130 | 9 => 9 | 0 => 0 | 72 => 133 | 37 => 131 | 127 => 158 | 3 => 3 | 5 => 5 | n => n, fun | n => n⟩
theorem Tryz.lays169 : Go.Proofs.Lays.n169 Tryz.prog Tryz.lays169_ren := {
  mixed := by kernel_rfl
  f169 := Tryz.func96.trans (congrArg some (by kernel_rfl))
  t0 := Tryz.underlying0
  a0 := Tryz.isAgg0
  z0 := Tryz.sizeOf0
  v0 := Tryz.zeroValue0
  t3 := Tryz.underlying3
  a3 := Tryz.isAgg3
  z3 := Tryz.sizeOf3
  v3 := Tryz.zeroValue3
  t9 := Tryz.underlying9
  a9 := Tryz.isAgg9
  z9 := Tryz.sizeOf9
  v9 := Tryz.zeroValue9
  t37 := Tryz.underlying131
  a37 := Tryz.isAgg131
  z37 := Tryz.sizeOf131
  v37 := Tryz.zeroValue131
  t70 := Tryz.underlying130
  a70 := Tryz.isAgg130
  z70 := Tryz.sizeOf130
  v70 := Tryz.zeroValue130
  t72 := Tryz.underlying133
  a72 := Tryz.isAgg133
  z72 := Tryz.sizeOf133
  v72 := Tryz.zeroValue133
  t127 := Tryz.underlying158
  a127 := Tryz.isAgg158
  z127 := Tryz.sizeOf158
  v127 := Tryz.zeroValue158 }
theorem Tryz.Builder_Extra_169 : Builder.Extra Tryz.prog Tryz.lays169_ren := {
  sizeBuilder := by kernel_rfl
  liesBuilder := by kernel_rfl
  t5 := Tryz.underlying5
  a5 := Tryz.isAgg5
  z5 := Tryz.sizeOf5
  v5 := Tryz.zeroValue5
  infoByte := by kernel_rfl
  cellsByte := by kernel_rfl
  sizeByte := by kernel_rfl
  neB5 := by decide }
open Go.RowKit in
/-- (*strings.Builder).String: "String returns the accumulated string.": WHATEVER THE BUILDER HOLDS. (LAID: no walk: one application.) -/
theorem Tryz.Builder_String_any (B b : Nat) (l : List UInt8) (w : World) (h : Lib.IsBuilder 133 5 B b (Lib.byteCells l) w) (hBw : B ≤ w.heap.size) :
    Calls Tryz.prog 96 #[.pointer (some ⟨b, 0, none⟩)] w fun e w' => e = .returned (.string ⟨l.toArray⟩) ∧ Below B w w' := Any.Builder_String_any Tryz.lays169 Tryz.Builder_Extra_169 B b l w h hBw
def Tryz.lays161_ren : Go.Shelf.Ren := ⟨fun | 161 => 46 | 231 => 81 | 227 => 82 | 233 => 83 | 235 => 84 | 228 => 104 | 197 => 105 | 151 => 106 | 260 => 126 | 152 => 127 | 137 => 141 | 119 => 142 | 224 => 119 | 225 => 118 | 217 => 117 | 266 => 137 | n => n, fun | 9 => 9 | 4 => 4 | 3 => 3 | 5 => 5 | 117 => 119 | 116 => 118 | 0 => 0 | 124 => 122 | 105 => 143 | 21 => 21 | 119 => 177 | 46 => 146 | 139 => 180 | 138 => 179 | n => n, fun | 3 => 3 | 4 => 4 | n => n⟩
theorem Tryz.lays161 : Go.Proofs.Lays.n161 Tryz.prog Tryz.lays161_ren := {
  mixed := by kernel_rfl
  f119 := Tryz.func142.trans (congrArg some (by kernel_rfl))
  f137 := Tryz.func141.trans (congrArg some (by kernel_rfl))
  f151 := Tryz.func106.trans (congrArg some (by kernel_rfl))
  f152 := Tryz.func127.trans (congrArg some (by kernel_rfl))
  f161 := Tryz.func46.trans (congrArg some (by kernel_rfl))
  f197 := Tryz.func105.trans (congrArg some (by kernel_rfl))
  f217 := Tryz.func117.trans (congrArg some (by kernel_rfl))
  f224 := Tryz.func119.trans (congrArg some (by kernel_rfl))
  f225 := Tryz.func118.trans (congrArg some (by kernel_rfl))
  f227 := Tryz.func82.trans (congrArg some (by kernel_rfl))
  f228 := Tryz.func104.trans (congrArg some (by kernel_rfl))
  f231 := Tryz.func81.trans (congrArg some (by kernel_rfl))
  f233 := Tryz.func83.trans (congrArg some (by kernel_rfl))
  f235 := Tryz.func84.trans (congrArg some (by kernel_rfl))
  f260 := Tryz.func126.trans (congrArg some (by kernel_rfl))
  f266 := Tryz.func137.trans (congrArg some (by kernel_rfl))
  t0 := Tryz.underlying0
  a0 := Tryz.isAgg0
  z0 := Tryz.sizeOf0
  v0 := Tryz.zeroValue0
  t3 := Tryz.underlying3
  a3 := Tryz.isAgg3
  z3 := Tryz.sizeOf3
  v3 := Tryz.zeroValue3
  t4 := Tryz.underlying4
  a4 := Tryz.isAgg4
  z4 := Tryz.sizeOf4
  v4 := Tryz.zeroValue4
  t5 := Tryz.underlying5
  a5 := Tryz.isAgg5
  z5 := Tryz.sizeOf5
  v5 := Tryz.zeroValue5
  t9 := Tryz.underlying9
  a9 := Tryz.isAgg9
  z9 := Tryz.sizeOf9
  v9 := Tryz.zeroValue9
  t21 := Tryz.underlying21
  a21 := Tryz.isAgg21
  z21 := Tryz.sizeOf21
  v21 := Tryz.zeroValue21
  t46 := Tryz.underlying146
  a46 := Tryz.isAgg146
  z46 := Tryz.sizeOf146
  v46 := Tryz.zeroValue146
  t105 := Tryz.underlying143
  a105 := Tryz.isAgg143
  z105 := Tryz.sizeOf143
  v105 := Tryz.zeroValue143
  t116 := Tryz.underlying118
  a116 := Tryz.isAgg118
  z116 := Tryz.sizeOf118
  t117 := Tryz.underlying119
  a117 := Tryz.isAgg119
  z117 := Tryz.sizeOf119
  v117 := Tryz.zeroValue119
  t119 := Tryz.underlying177
  a119 := Tryz.isAgg177
  z119 := Tryz.sizeOf177
  t124 := Tryz.underlying122
  a124 := Tryz.isAgg122
  z124 := Tryz.sizeOf122
  v124 := Tryz.zeroValue122
  t138 := Tryz.underlying179
  a138 := Tryz.isAgg179
  z138 := Tryz.sizeOf179
  v138 := Tryz.zeroValue179
  t139 := Tryz.underlying180
  a139 := Tryz.isAgg180
  z139 := Tryz.sizeOf180
  v139 := Tryz.zeroValue180
  g3 := by kernel_rfl
  g4 := by kernel_rfl }
def Tryz.lays160_ren : Go.Shelf.Ren := ⟨fun | 160 => 107 | 232 => 128 | 231 => 81 | 227 => 82 | 234 => 129 | 233 => 83 | 236 => 130 | 235 => 84 | 228 => 104 | 271 => 143 | 151 => 106 | 197 => 105 | 120 => 151 | 152 => 127 | 260 => 126 | 137 => 141 | 119 => 142 | 224 => 119 | 225 => 118 | 217 => 117 | 266 => 137 | n => n, fun | 9 => 9 | 4 => 4 | 3 => 3 | 5 => 5 | 117 => 119 | 116 => 118 | 0 => 0 | 124 => 122 | 21 => 21 | 105 => 143 | 46 => 146 | 119 => 177 | 139 => 180 | 138 => 179 | n => n, fun | 3 => 3 | 4 => 4 | n => n⟩
theorem Tryz.lays160 : Go.Proofs.Lays.n160 Tryz.prog Tryz.lays160_ren := {
  mixed := by kernel_rfl
  f119 := Tryz.func142.trans (congrArg some (by kernel_rfl))
  f120 := Tryz.func151.trans (congrArg some (by kernel_rfl))
  f137 := Tryz.func141.trans (congrArg some (by kernel_rfl))
  f151 := Tryz.func106.trans (congrArg some (by kernel_rfl))
  f152 := Tryz.func127.trans (congrArg some (by kernel_rfl))
  f160 := Tryz.func107.trans (congrArg some (by kernel_rfl))
  f197 := Tryz.func105.trans (congrArg some (by kernel_rfl))
  f217 := Tryz.func117.trans (congrArg some (by kernel_rfl))
  f224 := Tryz.func119.trans (congrArg some (by kernel_rfl))
  f225 := Tryz.func118.trans (congrArg some (by kernel_rfl))
  f227 := Tryz.func82.trans (congrArg some (by kernel_rfl))
  f228 := Tryz.func104.trans (congrArg some (by kernel_rfl))
  f231 := Tryz.func81.trans (congrArg some (by kernel_rfl))
  f232 := Tryz.func128.trans (congrArg some (by kernel_rfl))
  f233 := Tryz.func83.trans (congrArg some (by kernel_rfl))
  f234 := Tryz.func129.trans (congrArg some (by kernel_rfl))
  f235 := Tryz.func84.trans (congrArg some (by kernel_rfl))
  f236 := Tryz.func130.trans (congrArg some (by kernel_rfl))
  f260 := Tryz.func126.trans (congrArg some (by kernel_rfl))
  f266 := Tryz.func137.trans (congrArg some (by kernel_rfl))
  f271 := Tryz.func143.trans (congrArg some (by kernel_rfl))
  t0 := Tryz.underlying0
  a0 := Tryz.isAgg0
  z0 := Tryz.sizeOf0
  v0 := Tryz.zeroValue0
  t3 := Tryz.underlying3
  a3 := Tryz.isAgg3
  z3 := Tryz.sizeOf3
  v3 := Tryz.zeroValue3
  t4 := Tryz.underlying4
  a4 := Tryz.isAgg4
  z4 := Tryz.sizeOf4
  v4 := Tryz.zeroValue4
  t5 := Tryz.underlying5
  a5 := Tryz.isAgg5
  z5 := Tryz.sizeOf5
  v5 := Tryz.zeroValue5
  t9 := Tryz.underlying9
  a9 := Tryz.isAgg9
  z9 := Tryz.sizeOf9
  v9 := Tryz.zeroValue9
  t21 := Tryz.underlying21
  a21 := Tryz.isAgg21
  z21 := Tryz.sizeOf21
  v21 := Tryz.zeroValue21
  t46 := Tryz.underlying146
  a46 := Tryz.isAgg146
  z46 := Tryz.sizeOf146
  v46 := Tryz.zeroValue146
  t105 := Tryz.underlying143
  a105 := Tryz.isAgg143
  z105 := Tryz.sizeOf143
  v105 := Tryz.zeroValue143
  t116 := Tryz.underlying118
  a116 := Tryz.isAgg118
  z116 := Tryz.sizeOf118
  t117 := Tryz.underlying119
  a117 := Tryz.isAgg119
  z117 := Tryz.sizeOf119
  v117 := Tryz.zeroValue119
  t119 := Tryz.underlying177
  a119 := Tryz.isAgg177
  z119 := Tryz.sizeOf177
  t124 := Tryz.underlying122
  a124 := Tryz.isAgg122
  z124 := Tryz.sizeOf122
  v124 := Tryz.zeroValue122
  t138 := Tryz.underlying179
  a138 := Tryz.isAgg179
  z138 := Tryz.sizeOf179
  v138 := Tryz.zeroValue179
  t139 := Tryz.underlying180
  a139 := Tryz.isAgg180
  z139 := Tryz.sizeOf180
  v139 := Tryz.zeroValue180
  g3 := by kernel_rfl
  g4 := by kernel_rfl }
def Tryz.lays103_ren : Go.Shelf.Ren := ⟨fun | 103 => 25 | 210 => 51 | 206 => 87 | n => n, fun | 9 => 9 | 4 => 4 | 24 => 71 | 3 => 3 | n => n, fun | n => n⟩
theorem Tryz.lays103 : Go.Proofs.Lays.n103 Tryz.prog Tryz.lays103_ren := {
  mixed := by kernel_rfl
  f103 := Tryz.func25.trans (congrArg some (by kernel_rfl))
  f206 := Tryz.func87.trans (congrArg some (by kernel_rfl))
  f210 := Tryz.func51.trans (congrArg some (by kernel_rfl))
  t3 := Tryz.underlying3
  a3 := Tryz.isAgg3
  z3 := Tryz.sizeOf3
  v3 := Tryz.zeroValue3
  t4 := Tryz.underlying4
  a4 := Tryz.isAgg4
  z4 := Tryz.sizeOf4
  v4 := Tryz.zeroValue4
  t9 := Tryz.underlying9
  a9 := Tryz.isAgg9
  z9 := Tryz.sizeOf9
  v9 := Tryz.zeroValue9
  t24 := Tryz.underlying71
  a24 := Tryz.isAgg71
  z24 := Tryz.sizeOf71
  v24 := Tryz.zeroValue71 }
open Go.RowKit in
/-- strings.CutPrefix: "CutPrefix returns s without the provided leading prefix string and reports whether it found the prefix. If s doesn't start with prefix, CutPrefix returns s, false. If prefix is the empty string, CutPrefix returns s, true.": IT RETURNS '(Lib.trimPrefix s p, Lib.hasPrefix s p)'; the world is as it was. (LAID: no walk: one application.) -/
theorem Tryz.strings_CutPrefix (s p : ByteArray) (w : World) :
    Calls Tryz.prog 25 #[.string s, .string p] w fun e w' => e = .returned (.tuple #[.string ⟨(Lib.trimPrefix s.data.toList p.data.toList).toArray⟩, .bool (Lib.hasPrefix s.data.toList p.data.toList)]) ∧ w' = w := Any.strings_CutPrefix Tryz.lays103 s p w
def Tryz.laysM171_ren : Go.Shelf.Ren := ⟨fun | 171 => 95 | 243 => 122 | 246 => 140 | 283 => 147 | 284 => 148 | 285 => 149 | 286 => 150 | 129 => 153 | 317 => 152 | 318 => 154 | 319 => 155 | 320 => 156 | 337 => 157 | 338 => 158 | n => n, fun | 3 => 3 | 9 => 9 | 2 => 2 | 4 => 4 | 171 => 187 | 0 => 0 | 53 => 75 | 37 => 131 | 5 => 5 | 173 => 190 | 212 => 193 | 51 => 77 | 20 => 20 | 213 => 194 | 46 => 146 | 232 => 197 | 233 => 198 | n => n, fun | 17 => 5 | 18 => 6 | 19 => 7 | n => n⟩
theorem Tryz.laysM171 : Go.Proofs.LaysM.n171 Tryz.prog Tryz.laysM171_ren := {
  mixed := by kernel_rfl
  f129 := Tryz.func153.trans (congrArg some (by kernel_rfl))
  f171 := Tryz.func95.trans (congrArg some (by kernel_rfl))
  f243 := Tryz.func122.trans (congrArg some (by kernel_rfl))
  f246 := Tryz.func140.trans (congrArg some (by kernel_rfl))
  f283 := Tryz.func147.trans (congrArg some (by kernel_rfl))
  f284 := Tryz.func148.trans (congrArg some (by kernel_rfl))
  f285 := Tryz.func149.trans (congrArg some (by kernel_rfl))
  f286 := Tryz.func150.trans (congrArg some (by kernel_rfl))
  f317 := Tryz.func152.trans (congrArg some (by kernel_rfl))
  f318 := Tryz.func154.trans (congrArg some (by kernel_rfl))
  f319 := Tryz.func155.trans (congrArg some (by kernel_rfl))
  f320 := Tryz.func156.trans (congrArg some (by kernel_rfl))
  f337 := Tryz.func157.trans (congrArg some (by kernel_rfl))
  f338 := Tryz.func158.trans (congrArg some (by kernel_rfl))
  t0 := Tryz.underlying0
  a0 := Tryz.isAgg0
  z0 := Tryz.sizeOf0
  v0 := Tryz.zeroValue0
  t2 := Tryz.underlying2
  a2 := Tryz.isAgg2
  z2 := Tryz.sizeOf2
  v2 := Tryz.zeroValue2
  t3 := Tryz.underlying3
  a3 := Tryz.isAgg3
  z3 := Tryz.sizeOf3
  v3 := Tryz.zeroValue3
  t4 := Tryz.underlying4
  a4 := Tryz.isAgg4
  z4 := Tryz.sizeOf4
  v4 := Tryz.zeroValue4
  t5 := Tryz.underlying5
  a5 := Tryz.isAgg5
  z5 := Tryz.sizeOf5
  v5 := Tryz.zeroValue5
  t9 := Tryz.underlying9
  a9 := Tryz.isAgg9
  z9 := Tryz.sizeOf9
  v9 := Tryz.zeroValue9
  t20 := Tryz.underlying20
  a20 := Tryz.isAgg20
  z20 := Tryz.sizeOf20
  v20 := Tryz.zeroValue20
  t37 := Tryz.underlying131
  a37 := Tryz.isAgg131
  z37 := Tryz.sizeOf131
  v37 := Tryz.zeroValue131
  t46 := Tryz.underlying146
  a46 := Tryz.isAgg146
  z46 := Tryz.sizeOf146
  v46 := Tryz.zeroValue146
  t51 := Tryz.underlying77
  a51 := Tryz.isAgg77
  z51 := Tryz.sizeOf77
  v51 := Tryz.zeroValue77
  t53 := Tryz.underlying75
  a53 := Tryz.isAgg75
  z53 := Tryz.sizeOf75
  v53 := Tryz.zeroValue75
  t171 := Tryz.underlying187
  a171 := Tryz.isAgg187
  z171 := Tryz.sizeOf187
  v171 := Tryz.zeroValue187
  t173 := Tryz.underlying190
  a173 := Tryz.isAgg190
  z173 := Tryz.sizeOf190
  v173 := Tryz.zeroValue190
  t212 := Tryz.underlying193
  a212 := Tryz.isAgg193
  z212 := Tryz.sizeOf193
  v212 := Tryz.zeroValue193
  t213 := Tryz.underlying194
  a213 := Tryz.isAgg194
  z213 := Tryz.sizeOf194
  t232 := Tryz.underlying197
  a232 := Tryz.isAgg197
  z232 := Tryz.sizeOf197
  v232 := Tryz.zeroValue197
  t233 := Tryz.underlying198
  a233 := Tryz.isAgg198
  z233 := Tryz.sizeOf198
  v233 := Tryz.zeroValue198
  g17 := by kernel_rfl
  g18 := by kernel_rfl
  g19 := by kernel_rfl
  i0 := by kernel_rfl
  i2 := by kernel_rfl
  i3 := by kernel_rfl
  i4 := by kernel_rfl
  i5 := by kernel_rfl
  i9 := by kernel_rfl
  i20 := by kernel_rfl
  i37 := by kernel_rfl
  i46 := by kernel_rfl
  i51 := by kernel_rfl
  i53 := by kernel_rfl
  i171 := by kernel_rfl
  i173 := by kernel_rfl
  i212 := by kernel_rfl
  i232 := by kernel_rfl
  i233 := by kernel_rfl
  m17 := by kernel_rfl
  m18 := by kernel_rfl
  m19 := by kernel_rfl }
open Go.RowKit Go.Sort Go.Lib in
/-- strconv.Itoa: "Itoa is equivalent to FormatInt(int64(i), 10).": i's DECIMAL NUMERAL ('Lib.itoa': a '-' where i is negative, then the digits), FOR EVERY int. The world behind the call: the world before it, new blocks behind the heap (the library's 'var a [24]byte'), draws. (LAID: no walk: one application.) -/
theorem Tryz.strconv_Itoa (n : Int) (h0 : -9223372036854775808 ≤ n) (h1 : n ≤ 9223372036854775807) (w : World) (htab : Lib.TabIs Tryz.prog w "internal/strconv.uint64pow10" .u64 Lib.pow10Tab) :
    Calls Tryz.prog 95 #[.int .i64 n] w fun e w' => e = .returned (.string ⟨(Lib.itoa n).toArray⟩) ∧ ∃ k os, w' = grow (w.drewN k) os := Any.strconv_Itoa Tryz.laysM171 n h0 h1 w htab
def Tryz.lays219_ren : Go.Shelf.Ren := ⟨fun | 219 => 90 | 217 => 117 | 225 => 118 | 224 => 119 | 267 => 120 | 266 => 137 | 314 => 138 | n => n, fun | 9 => 9 | 3 => 3 | 4 => 4 | 5 => 5 | 46 => 146 | 146 => 163 | 51 => 77 | n => n, fun | 1 => 0 | n => n⟩
theorem Tryz.lays219 : Go.Proofs.Lays.n219 Tryz.prog Tryz.lays219_ren := {
  mixed := by kernel_rfl
  f217 := Tryz.func117.trans (congrArg some (by kernel_rfl))
  f219 := Tryz.func90.trans (congrArg some (by kernel_rfl))
  f224 := Tryz.func119.trans (congrArg some (by kernel_rfl))
  f225 := Tryz.func118.trans (congrArg some (by kernel_rfl))
  f266 := Tryz.func137.trans (congrArg some (by kernel_rfl))
  f267 := Tryz.func120.trans (congrArg some (by kernel_rfl))
  f314 := Tryz.func138.trans (congrArg some (by kernel_rfl))
  t3 := Tryz.underlying3
  a3 := Tryz.isAgg3
  z3 := Tryz.sizeOf3
  v3 := Tryz.zeroValue3
  t4 := Tryz.underlying4
  a4 := Tryz.isAgg4
  z4 := Tryz.sizeOf4
  v4 := Tryz.zeroValue4
  t5 := Tryz.underlying5
  a5 := Tryz.isAgg5
  z5 := Tryz.sizeOf5
  v5 := Tryz.zeroValue5
  t9 := Tryz.underlying9
  a9 := Tryz.isAgg9
  z9 := Tryz.sizeOf9
  v9 := Tryz.zeroValue9
  t46 := Tryz.underlying146
  a46 := Tryz.isAgg146
  z46 := Tryz.sizeOf146
  v46 := Tryz.zeroValue146
  t51 := Tryz.underlying77
  a51 := Tryz.isAgg77
  z51 := Tryz.sizeOf77
  v51 := Tryz.zeroValue77
  t146 := Tryz.underlying163
  a146 := Tryz.isAgg163
  z146 := Tryz.sizeOf163
  v146 := Tryz.zeroValue163
  g1 := by kernel_rfl }
open Go.RowKit Go.Lib in
/-- internal/stringslite.Index (what strings.Index calls) AT A substr OF ONE BYTE c: IT RETURNS 'Lib.indexByte s c'; the world is as it was. (LAID: no walk: one application.) -/
theorem Tryz.stringslite_Index_one (s : ByteArray) (c : UInt8) (w : World) :
    Calls Tryz.prog 90 #[.string s, .string ⟨#[c]⟩] w fun e w' => e = .returned (.int .i64 (Lib.indexByte s.data.toList c)) ∧ w' = w := Any.stringslite_Index_one Tryz.lays219 s c w
def Tryz.lays101_ren : Go.Shelf.Ren := ⟨fun | 101 => 29 | 208 => 54 | 206 => 87 | n => n, fun | 9 => 9 | 4 => 4 | 3 => 3 | n => n, fun | n => n⟩
theorem Tryz.lays101 : Go.Proofs.Lays.n101 Tryz.prog Tryz.lays101_ren := {
  mixed := by kernel_rfl
  f101 := Tryz.func29.trans (congrArg some (by kernel_rfl))
  f206 := Tryz.func87.trans (congrArg some (by kernel_rfl))
  f208 := Tryz.func54.trans (congrArg some (by kernel_rfl))
  t3 := Tryz.underlying3
  a3 := Tryz.isAgg3
  z3 := Tryz.sizeOf3
  v3 := Tryz.zeroValue3
  t4 := Tryz.underlying4
  a4 := Tryz.isAgg4
  z4 := Tryz.sizeOf4
  v4 := Tryz.zeroValue4
  t9 := Tryz.underlying9
  a9 := Tryz.isAgg9
  z9 := Tryz.sizeOf9
  v9 := Tryz.zeroValue9 }
open Go.RowKit Go.Lib in
/-- strings.TrimPrefix: "TrimPrefix returns s without the provided leading prefix string. If s doesn't start with prefix, s is returned unchanged.": IT RETURNS 'Lib.trimPrefix s prefix'; the world is as it was. (LAID: no walk: one application.) -/
theorem Tryz.strings_TrimPrefix (s p : ByteArray) (w : World) :
    Calls Tryz.prog 29 #[.string s, .string p] w fun e w' => e = .returned (.string ⟨(Lib.trimPrefix s.data.toList p.data.toList).toArray⟩) ∧ w' = w := Any.strings_TrimPrefix Tryz.lays101 s p w
def Tryz.lays105_ren : Go.Shelf.Ren := ⟨fun | 105 => 86 | 212 => 108 | 99 => 109 | 165 => 110 | 166 => 94 | 170 => 111 | 169 => 96 | 263 => 131 | 264 => 132 | 206 => 87 | 240 => 121 | 241 => 133 | 276 => 139 | 277 => 144 | n => n, fun | 9 => 9 | 3 => 3 | 4 => 4 | 20 => 20 | 0 => 0 | 46 => 146 | 109 => 147 | 5 => 5 | 72 => 133 | 76 => 99 | 51 => 77 | 146 => 163 | 53 => 75 | 148 => 165 | 70 => 130 | 37 => 131 | 75 => 98 | 127 => 158 | 164 => 174 | 80 => 47 | n => n, fun | n => n⟩
theorem Tryz.lays105 : Go.Proofs.Lays.n105 Tryz.prog Tryz.lays105_ren := {
  mixed := by kernel_rfl
  f99 := Tryz.func109.trans (congrArg some (by kernel_rfl))
  f105 := Tryz.func86.trans (congrArg some (by kernel_rfl))
  f165 := Tryz.func110.trans (congrArg some (by kernel_rfl))
  f166 := Tryz.func94.trans (congrArg some (by kernel_rfl))
  f169 := Tryz.func96.trans (congrArg some (by kernel_rfl))
  f170 := Tryz.func111.trans (congrArg some (by kernel_rfl))
  f206 := Tryz.func87.trans (congrArg some (by kernel_rfl))
  f212 := Tryz.func108.trans (congrArg some (by kernel_rfl))
  f240 := Tryz.func121.trans (congrArg some (by kernel_rfl))
  f241 := Tryz.func133.trans (congrArg some (by kernel_rfl))
  f263 := Tryz.func131.trans (congrArg some (by kernel_rfl))
  f264 := Tryz.func132.trans (congrArg some (by kernel_rfl))
  f276 := Tryz.func139.trans (congrArg some (by kernel_rfl))
  f277 := Tryz.func144.trans (congrArg some (by kernel_rfl))
  t0 := Tryz.underlying0
  a0 := Tryz.isAgg0
  z0 := Tryz.sizeOf0
  v0 := Tryz.zeroValue0
  t3 := Tryz.underlying3
  a3 := Tryz.isAgg3
  z3 := Tryz.sizeOf3
  v3 := Tryz.zeroValue3
  t4 := Tryz.underlying4
  a4 := Tryz.isAgg4
  z4 := Tryz.sizeOf4
  v4 := Tryz.zeroValue4
  t5 := Tryz.underlying5
  a5 := Tryz.isAgg5
  z5 := Tryz.sizeOf5
  v5 := Tryz.zeroValue5
  t9 := Tryz.underlying9
  a9 := Tryz.isAgg9
  z9 := Tryz.sizeOf9
  v9 := Tryz.zeroValue9
  t20 := Tryz.underlying20
  a20 := Tryz.isAgg20
  z20 := Tryz.sizeOf20
  v20 := Tryz.zeroValue20
  t37 := Tryz.underlying131
  a37 := Tryz.isAgg131
  z37 := Tryz.sizeOf131
  v37 := Tryz.zeroValue131
  t46 := Tryz.underlying146
  a46 := Tryz.isAgg146
  z46 := Tryz.sizeOf146
  v46 := Tryz.zeroValue146
  t51 := Tryz.underlying77
  a51 := Tryz.isAgg77
  z51 := Tryz.sizeOf77
  v51 := Tryz.zeroValue77
  t53 := Tryz.underlying75
  a53 := Tryz.isAgg75
  z53 := Tryz.sizeOf75
  v53 := Tryz.zeroValue75
  t70 := Tryz.underlying130
  a70 := Tryz.isAgg130
  z70 := Tryz.sizeOf130
  v70 := Tryz.zeroValue130
  t72 := Tryz.underlying133
  a72 := Tryz.isAgg133
  z72 := Tryz.sizeOf133
  v72 := Tryz.zeroValue133
  t75 := Tryz.underlying98
  a75 := Tryz.isAgg98
  z75 := Tryz.sizeOf98
  v75 := Tryz.zeroValue98
  t76 := Tryz.underlying99
  a76 := Tryz.isAgg99
  z76 := Tryz.sizeOf99
  v76 := Tryz.zeroValue99
  t109 := Tryz.underlying147
  a109 := Tryz.isAgg147
  z109 := Tryz.sizeOf147
  v109 := Tryz.zeroValue147
  t127 := Tryz.underlying158
  a127 := Tryz.isAgg158
  z127 := Tryz.sizeOf158
  v127 := Tryz.zeroValue158
  t146 := Tryz.underlying163
  a146 := Tryz.isAgg163
  z146 := Tryz.sizeOf163
  v146 := Tryz.zeroValue163
  t148 := Tryz.underlying165
  a148 := Tryz.isAgg165
  z148 := Tryz.sizeOf165
  v148 := Tryz.zeroValue165
  t164 := Tryz.underlying174
  a164 := Tryz.isAgg174
  z164 := Tryz.sizeOf174
  v164 := Tryz.zeroValue174 }
theorem Tryz.Builder_Extra_105 : Builder.Extra Tryz.prog Tryz.lays105_ren := {
  sizeBuilder := by kernel_rfl
  liesBuilder := by kernel_rfl
  t5 := Tryz.underlying5
  a5 := Tryz.isAgg5
  z5 := Tryz.sizeOf5
  v5 := Tryz.zeroValue5
  infoByte := by kernel_rfl
  cellsByte := by kernel_rfl
  sizeByte := by kernel_rfl
  neB5 := by decide }
open Go.RowKit Go.Lib in
/-- **strings.Repeat: count ≥ 0, the result within one allocation: count copies of s.** (LAID: no walk: one application.) -/
theorem Tryz.strings_Repeat (s : ByteArray) (c : Nat) (w : World) (hc : c ≤ 9223372036854775807) (hlen : s.size * c ≤ 140737488355328) :
    Calls Tryz.prog 86 #[.string s, .int .i64 c] w fun e w' => e = .returned (.string ⟨(Lib.repeatL s.data.toList c).toArray⟩) ∧ Below w.heap.size w w' := Any.strings_Repeat Tryz.lays105 Tryz.Builder_Extra_105 s c w hc hlen
end Go.Proofs

/- DERIVED: THE SHELF's CONTRACTS AT THIS DUMP, IN PLAIN WORDS (tools/lay-plain.mjs out of 'TryzShelfCut.lean', which tools/lay-shelf.mjs wrote): THE SAME DECLARATIONS UNDER THE SAME NAMES: 'import', 'namespace', 'open', 'def', 'theorem' AND NOTHING ELSE: no command of the shelf's: FOR A HAND-IN. Each laying: the table of numbers ('.._ren') and one theorem, a field a fact of the dump's own or the kernel's comparison; each contract: ONE APPLICATION. -/
namespace Go.Proofs
open Go.Shelf
def Tryz.laysC172_ren : Go.Shelf.Ren := ⟨fun | 172 => 52 | 244 => 88 | 245 => 89 | 247 => 112 | 279 => 113 | 280 => 114 | 281 => 115 | 282 => 116 | 287 => 134 | 316 => 135 | 171 => 95 | 205 => 136 | 321 => 145 | 322 => 146 | 243 => 122 | 246 => 140 | 283 => 147 | 284 => 148 | 285 => 149 | 286 => 150 | 129 => 153 | 317 => 152 | 318 => 154 | 319 => 155 | 320 => 156 | 337 => 157 | 338 => 158 | n => n, fun | 9 => 9 | 3 => 3 | 75 => 98 | 76 => 99 | 4 => 4 | 5 => 5 | 167 => 150 | 37 => 131 | 0 => 0 | 85 => 151 | 2 => 2 | 168 => 153 | 53 => 75 | 175 => 167 | 46 => 146 | 210 => 171 | 127 => 158 | 145 => 186 | 143 => 184 | 21 => 21 | 171 => 187 | 173 => 190 | 212 => 193 | 51 => 77 | 20 => 20 | 213 => 194 | 232 => 197 | 233 => 198 | 80 => 47 | n => n, fun | 15 => 1 | 16 => 2 | 17 => 5 | 18 => 6 | 19 => 7 | n => n⟩
theorem Tryz.laysC172 : Go.Proofs.LaysC.n172 Tryz.prog Tryz.laysC172_ren := {
  mixed := by kernel_rfl
  f129 := Tryz.func153.trans (congrArg some (by kernel_rfl))
  f171 := Tryz.func95.trans (congrArg some (by kernel_rfl))
  f172 := Tryz.func52.trans (congrArg some (by kernel_rfl))
  f205 := Tryz.func136.trans (congrArg some (by kernel_rfl))
  f243 := Tryz.func122.trans (congrArg some (by kernel_rfl))
  f244 := Tryz.func88.trans (congrArg some (by kernel_rfl))
  f245 := Tryz.func89.trans (congrArg some (by kernel_rfl))
  f246 := Tryz.func140.trans (congrArg some (by kernel_rfl))
  f247 := Tryz.func112.trans (congrArg some (by kernel_rfl))
  f279 := Tryz.func113.trans (congrArg some (by kernel_rfl))
  f280 := Tryz.func114.trans (congrArg some (by kernel_rfl))
  f281 := Tryz.func115.trans (congrArg some (by kernel_rfl))
  f282 := Tryz.func116.trans (congrArg some (by kernel_rfl))
  f283 := Tryz.func147.trans (congrArg some (by kernel_rfl))
  f284 := Tryz.func148.trans (congrArg some (by kernel_rfl))
  f285 := Tryz.func149.trans (congrArg some (by kernel_rfl))
  f286 := Tryz.func150.trans (congrArg some (by kernel_rfl))
  f287 := Tryz.func134.trans (congrArg some (by kernel_rfl))
  f316 := Tryz.func135.trans (congrArg some (by kernel_rfl))
  f317 := Tryz.func152.trans (congrArg some (by kernel_rfl))
  f318 := Tryz.func154.trans (congrArg some (by kernel_rfl))
  f319 := Tryz.func155.trans (congrArg some (by kernel_rfl))
  f320 := Tryz.func156.trans (congrArg some (by kernel_rfl))
  f321 := Tryz.func145.trans (congrArg some (by kernel_rfl))
  f322 := Tryz.func146.trans (congrArg some (by kernel_rfl))
  f337 := Tryz.func157.trans (congrArg some (by kernel_rfl))
  f338 := Tryz.func158.trans (congrArg some (by kernel_rfl))
  t0 := Tryz.underlying0
  a0 := Tryz.isAgg0
  z0 := Tryz.sizeOf0
  v0 := Tryz.zeroValue0
  t2 := Tryz.underlying2
  a2 := Tryz.isAgg2
  z2 := Tryz.sizeOf2
  v2 := Tryz.zeroValue2
  t3 := Tryz.underlying3
  a3 := Tryz.isAgg3
  z3 := Tryz.sizeOf3
  v3 := Tryz.zeroValue3
  t4 := Tryz.underlying4
  a4 := Tryz.isAgg4
  z4 := Tryz.sizeOf4
  v4 := Tryz.zeroValue4
  t5 := Tryz.underlying5
  a5 := Tryz.isAgg5
  z5 := Tryz.sizeOf5
  v5 := Tryz.zeroValue5
  t9 := Tryz.underlying9
  a9 := Tryz.isAgg9
  z9 := Tryz.sizeOf9
  v9 := Tryz.zeroValue9
  t20 := Tryz.underlying20
  a20 := Tryz.isAgg20
  z20 := Tryz.sizeOf20
  v20 := Tryz.zeroValue20
  t21 := Tryz.underlying21
  a21 := Tryz.isAgg21
  z21 := Tryz.sizeOf21
  v21 := Tryz.zeroValue21
  t37 := Tryz.underlying131
  a37 := Tryz.isAgg131
  z37 := Tryz.sizeOf131
  v37 := Tryz.zeroValue131
  t46 := Tryz.underlying146
  a46 := Tryz.isAgg146
  z46 := Tryz.sizeOf146
  v46 := Tryz.zeroValue146
  t51 := Tryz.underlying77
  a51 := Tryz.isAgg77
  z51 := Tryz.sizeOf77
  v51 := Tryz.zeroValue77
  t53 := Tryz.underlying75
  a53 := Tryz.isAgg75
  z53 := Tryz.sizeOf75
  v53 := Tryz.zeroValue75
  t75 := Tryz.underlying98
  a75 := Tryz.isAgg98
  z75 := Tryz.sizeOf98
  v75 := Tryz.zeroValue98
  t76 := Tryz.underlying99
  a76 := Tryz.isAgg99
  z76 := Tryz.sizeOf99
  v76 := Tryz.zeroValue99
  t85 := Tryz.underlying151
  a85 := Tryz.isAgg151
  z85 := Tryz.sizeOf151
  v85 := Tryz.zeroValue151
  t127 := Tryz.underlying158
  a127 := Tryz.isAgg158
  z127 := Tryz.sizeOf158
  v127 := Tryz.zeroValue158
  t143 := Tryz.underlying184
  a143 := Tryz.isAgg184
  z143 := Tryz.sizeOf184
  v143 := Tryz.zeroValue184
  t145 := Tryz.underlying186
  a145 := Tryz.isAgg186
  z145 := Tryz.sizeOf186
  v145 := Tryz.zeroValue186
  t167 := Tryz.underlying150
  a167 := Tryz.isAgg150
  z167 := Tryz.sizeOf150
  v167 := Tryz.zeroValue150
  t168 := Tryz.underlying153
  a168 := Tryz.isAgg153
  z168 := Tryz.sizeOf153
  v168 := Tryz.zeroValue153
  t171 := Tryz.underlying187
  a171 := Tryz.isAgg187
  z171 := Tryz.sizeOf187
  v171 := Tryz.zeroValue187
  t173 := Tryz.underlying190
  a173 := Tryz.isAgg190
  z173 := Tryz.sizeOf190
  v173 := Tryz.zeroValue190
  t175 := Tryz.underlying167
  a175 := Tryz.isAgg167
  z175 := Tryz.sizeOf167
  v175 := Tryz.zeroValue167
  t210 := Tryz.underlying171
  a210 := Tryz.isAgg171
  z210 := Tryz.sizeOf171
  v210 := Tryz.zeroValue171
  t212 := Tryz.underlying193
  a212 := Tryz.isAgg193
  z212 := Tryz.sizeOf193
  v212 := Tryz.zeroValue193
  t213 := Tryz.underlying194
  a213 := Tryz.isAgg194
  z213 := Tryz.sizeOf194
  t232 := Tryz.underlying197
  a232 := Tryz.isAgg197
  z232 := Tryz.sizeOf197
  v232 := Tryz.zeroValue197
  t233 := Tryz.underlying198
  a233 := Tryz.isAgg198
  z233 := Tryz.sizeOf198
  v233 := Tryz.zeroValue198
  g15 := by kernel_rfl
  g16 := by kernel_rfl
  g17 := by kernel_rfl
  g18 := by kernel_rfl
  g19 := by kernel_rfl
  t80 := Tryz.underlying47
  a80 := Tryz.isAgg47
  z80 := Tryz.sizeOf47
  v80 := Tryz.zeroValue47
  i0 := by kernel_rfl
  i2 := by kernel_rfl
  i3 := by kernel_rfl
  i4 := by kernel_rfl
  i5 := by kernel_rfl
  i9 := by kernel_rfl
  i20 := by kernel_rfl
  i21 := by kernel_rfl
  i37 := by kernel_rfl
  i46 := by kernel_rfl
  i51 := by kernel_rfl
  i53 := by kernel_rfl
  i75 := by kernel_rfl
  i76 := by kernel_rfl
  i80 := by kernel_rfl
  i85 := by kernel_rfl
  i127 := by kernel_rfl
  i143 := by kernel_rfl
  i145 := by kernel_rfl
  i167 := by kernel_rfl
  i168 := by kernel_rfl
  i171 := by kernel_rfl
  i173 := by kernel_rfl
  i175 := by kernel_rfl
  i210 := by kernel_rfl
  i212 := by kernel_rfl
  i232 := by kernel_rfl
  i233 := by kernel_rfl
  m15 := by kernel_rfl
  m16 := by kernel_rfl
  m17 := by kernel_rfl
  m18 := by kernel_rfl
  m19 := by kernel_rfl
  c0 := by kernel_rfl
  c2 := by kernel_rfl
  c3 := by kernel_rfl
  c4 := by kernel_rfl
  c5 := by kernel_rfl
  c9 := by kernel_rfl
  c20 := by kernel_rfl
  c21 := by kernel_rfl
  c37 := by kernel_rfl
  c46 := by kernel_rfl
  c51 := by kernel_rfl
  c53 := by kernel_rfl
  c75 := by kernel_rfl
  c76 := by kernel_rfl
  c80 := by kernel_rfl
  c85 := by kernel_rfl
  c127 := by kernel_rfl
  c143 := by kernel_rfl
  c145 := by kernel_rfl
  c167 := by kernel_rfl
  c168 := by kernel_rfl
  c171 := by kernel_rfl
  c173 := by kernel_rfl
  c175 := by kernel_rfl
  c210 := by kernel_rfl
  c212 := by kernel_rfl
  c213 := by kernel_rfl
  c232 := by kernel_rfl
  c233 := by kernel_rfl }
open Go.RowKit in
/-- strconv.Atoi, AT EVERY STRING THAT SPELLS AN int ('Lib.atoiAll .. = .ok v'; of whatever length: leading zeros count): v, AND NO ERROR. The world: as it was, or with the one new row that '[]byte(..)' lays. (LAID: no walk: one application.) -/
theorem Tryz.strconv_Atoi_ok (s : ByteArray) (hmax : s.size ≤ 9223372036854775806) (v : Int) (h : Lib.atoiAll s.data.toList = .ok v) (w : World) :
    Calls Tryz.prog 52 #[.string s] w fun e w' => e = .returned (.tuple #[.int .i64 v, .nilIface]) ∧ (w' = w ∨ ∃ t, w' = Lib.bytesWorld w 5 t) := Any.strconv_Atoi_ok Tryz.laysC172 s hmax v h w
open Go.RowKit in
theorem Tryz.strconv_Atoi_syntax_var (s : ByteArray) (hlim : s.size ≤ 281474976710656) (h : Lib.atoiAll s.data.toList = Lib.atoiAll []) (tp : TypeId) (p : Value) (w : World) (hvar : w.var? Tryz.prog "strconv.ErrSyntax" = some #[.iface tp p]) :
    Calls Tryz.prog 52 #[.string s] w fun e w' => ∃ N, e = .returned (.tuple #[.int .i64 0, .iface 153 (.pointer (some ⟨N, 0, none⟩))]) ∧ w.heap.size ≤ N ∧ w'.heap[N]? = some (.cells #[.string ⟨#[65, 116, 111, 105]⟩, .string s, .iface tp p] 171 (0, 0)) ∧ Below w.heap.size w w' := Any.strconv_Atoi_syntax_var Tryz.laysC172 s hlim h tp p w hvar
open Go.RowKit in
theorem Tryz.strconv_Atoi_range_var (s : ByteArray) (hlim : s.size ≤ 281474976710656) (h : Lib.atoiAll s.data.toList = .range) (tp : TypeId) (p : Value) (w : World) (hvar : w.var? Tryz.prog "strconv.ErrRange" = some #[.iface tp p]) :
    Calls Tryz.prog 52 #[.string s] w fun e w' => ∃ N, e = .returned (.tuple #[.int .i64 (Lib.atoiSat s.data.toList), .iface 153 (.pointer (some ⟨N, 0, none⟩))]) ∧ w.heap.size ≤ N ∧ w'.heap[N]? = some (.cells #[.string ⟨#[65, 116, 111, 105]⟩, .string s, .iface tp p] 171 (0, 0)) ∧ Below w.heap.size w w' := Any.strconv_Atoi_range_var Tryz.laysC172 s hlim h tp p w hvar
end Go.Proofs

/- Plain laws of the texts of rational numbers: the canonical text, and what Parse reads. No program. -/
namespace Go.Proofs.YthjnmnepjeegiaaGreatDoor.Num
open Go.Proofs.YthjnmnepjeegiaaGreatDoor.Str Go.Proofs.YthjnmnepjeegiaaGreatDoor.Dg Go.Proofs.YthjnmnepjeegiaaGreatDoor.Q Go.Lib

/-- The text of a rational number. -/
def txt (q : Rat) : List UInt8 := (if ngt q = true then [45] else []) ++ (decDigits (top q) ++ (if q.den = 1 then [] else 47 :: decDigits q.den))
def short (q : Rat) : Bool := decide ((decDigits (top q)).length ≤ 40) && decide ((decDigits q.den).length ≤ 40)
def put (q : Rat) : List UInt8 := if short q = true then txt q else []
def isNeg (l : List UInt8) : Bool := l.head? == some 45
def body (l : List UInt8) : List UInt8 := if isNeg l = true then l.tail else l
/-- The number of a text in any of its forms. -/
def frm (l : List UInt8) : Option Rat :=
  if (body l).takeWhile isD = [] then none else
  match (body l).dropWhile isD with
  | [] => some (mkRat (sg (isNeg l) (val ((body l).takeWhile isD))) 1)
  | c :: m =>
    if m = [] ∨ allD m = false then none
    else if c = 46 then some (mkRat (sg (isNeg l) (val ((body l).takeWhile isD ++ m))) (10 ^ m.length))
    else if c = 47 then (if val m = 0 then none else some (mkRat (sg (isNeg l) (val ((body l).takeWhile isD))) (val m)))
    else none
/-- The number of a canonical text that is not too long. -/
def num? (l : List UInt8) : Option Rat := (frm l).filter fun q => short q && txt q == l

theorem take_digits {a b : List UInt8} (ha : allD a = true) (hb : ∀ c, b.head? = some c → isD c = false) : (a ++ b).takeWhile isD = a ∧ (a ++ b).dropWhile isD = b := by
  induction a with
  | nil =>
    cases b with
    | nil => exact ⟨rfl, rfl⟩
    | cons c b => have := hb c rfl; simp [this]
  | cons x a ih =>
    have h1 : isD x = true ∧ allD a = true := by simpa [allD] using ha
    obtain ⟨i1, i2⟩ := ih h1.2
    constructor
    · rw [List.cons_append, List.takeWhile_cons, if_pos h1.1, i1]
    · rw [List.cons_append, List.dropWhile_cons, if_pos h1.1, i2]
/-- Where the digits end. -/
theorem digits_end (l : List UInt8) : ∃ a b, l = a ++ b ∧ allD a = true ∧ (∀ c, b.head? = some c → isD c = false) := by
  induction l with
  | nil => exact ⟨[], [], rfl, rfl, fun c h => by cases h⟩
  | cons x l ih =>
    by_cases hx : isD x = true
    · obtain ⟨a, b, e, h1, h2⟩ := ih
      exact ⟨x :: a, b, by rw [e]; rfl, by simpa [allD, hx] using h1, h2⟩
    · exact ⟨[], x :: l, rfl, rfl, fun c h => by cases h; simpa using hx⟩
theorem not_digit_45 : isD 45 = false := rfl
theorem not_digit_46 : isD 46 = false := rfl
theorem not_digit_47 : isD 47 = false := rfl
theorem allD_mem {l : List UInt8} (h : allD l = true) {c : UInt8} (hc : c ∈ l) : isD c = true := by unfold allD at h; exact List.all_eq_true.1 h c hc
theorem cut_unique {c : UInt8} : ∀ {a a' b b' : List UInt8}, c ∉ a → c ∉ a' → a ++ c :: b = a' ++ c :: b' → a = a' ∧ b = b' := by
  intro a
  induction a with
  | nil =>
    intro a' b b' _ h2 e
    cases a' with
    | nil => simpa using e
    | cons x a' => simp at e; exact absurd (by simp [e.1]) h2
  | cons x a ih =>
    intro a' b b' h1 h2 e
    cases a' with
    | nil => simp at e; exact absurd (by simp [e.1]) h1
    | cons y a' =>
      simp only [List.cons_append, List.cons.injEq] at e
      obtain ⟨rfl, e⟩ := e
      obtain ⟨rfl, rfl⟩ := ih (fun h => h1 (List.mem_cons_of_mem _ h)) (fun h => h2 (List.mem_cons_of_mem _ h)) e
      exact ⟨rfl, rfl⟩

/-- What the reader makes of a text without '/' and '.'. -/
theorem frm_int {l : List UInt8} (h1 : (47 : UInt8) ∉ body l) (h2 : (46 : UInt8) ∉ body l) :
    frm l = if body l ≠ [] ∧ allD (body l) = true then some (mkRat (sg (isNeg l) (val (body l))) 1) else none := by
  unfold frm
  obtain ⟨a, b, e, ha, hb⟩ := digits_end (body l)
  obtain ⟨t1, t2⟩ := take_digits ha hb
  rw [e] at h1 h2 ⊢
  rw [t1, t2]
  cases b with
  | nil =>
    rw [List.append_nil, ha]
    by_cases h0 : a = []
    · rw [if_pos h0, if_neg (by simp [h0])]
    · rw [if_neg h0, if_pos ⟨h0, rfl⟩]
  | cons c m =>
    have hc := hb c rfl
    have hn : allD (a ++ c :: m) = false := by rw [allD_append, show allD (c :: m) = (isD c && allD m) from rfl, hc]; simp
    rw [hn, if_neg (show ¬ (a ++ c :: m ≠ [] ∧ false = true) from fun h => by cases h.2)]
    have c1 : c ≠ 46 := fun e => h2 (by simp [e])
    have c2 : c ≠ 47 := fun e => h1 (by simp [e])
    simp only [c1, c2, if_false]
    split
    · rfl
    · split <;> rfl
theorem not_all_tail {a b : List UInt8} {c d : UInt8} {m _x y : List UInt8} (hc : isD c = false) (e : a ++ c :: y = b ++ d :: m) (hb : allD b = true) (ha : allD a = false) (_hd : isD d = false) : allD m = false := by
  have : c ∈ m := by
    rcases List.append_eq_append_iff.1 e with ⟨z, e1, e2⟩ | ⟨z, e1, e2⟩
    · exfalso
      rw [e1, allD_append] at hb
      rw [ha] at hb; simp at hb
    · cases z with
      | nil =>
        simp at e1 e2
        rw [e1, hb] at ha; cases ha
      | cons z0 z =>
        simp at e2
        rw [e2.2]; simp
  cases h : allD m
  · rfl
  · rw [allD_mem h this] at hc; cases hc
theorem frm_cut {l a b : List UInt8} {s : UInt8} (e : body l = a ++ s :: b) (hs : isD s = false) :
    frm l = if a ≠ [] ∧ allD a = true ∧ b ≠ [] ∧ allD b = true then
      (if s = 46 then some (mkRat (sg (isNeg l) (val (a ++ b))) (10 ^ b.length))
       else if s = 47 then (if val b = 0 then none else some (mkRat (sg (isNeg l) (val a)) (val b))) else none) else none := by
  unfold frm
  cases ha : allD a
  · rw [if_neg (show ¬ (a ≠ [] ∧ false = true ∧ _) from fun h => by cases h.2.1)]
    obtain ⟨x, y, e1, h1, h2⟩ := digits_end (body l)
    obtain ⟨t1, t2⟩ := take_digits h1 h2
    rw [e1, t1, t2]
    cases y with
    | nil =>
      exfalso
      rw [List.append_nil] at e1
      rw [← e1, e, allD_append, ha] at h1; simp at h1
    | cons d m =>
      have hd := h2 d rfl
      have hm := not_all_tail (_x := []) hs (e.symm.trans e1) h1 ha hd
      simp only [hm, or_true, if_true]
      split <;> rfl
  · obtain ⟨t1, t2⟩ := take_digits (b := s :: b) ha (fun c h => by cases h; exact hs)
    rw [e, t1, t2]
    by_cases h0 : a = []
    · rw [if_pos h0, if_neg (fun h => h.1 h0)]
    · rw [if_neg h0]
      show (if b = [] ∨ allD b = false then none else _) = _
      by_cases h3 : b = [] ∨ allD b = false
      · rw [if_pos h3, if_neg (c := a ≠ [] ∧ true = true ∧ b ≠ [] ∧ allD b = true)]
        rintro ⟨_, _, h4, h5⟩
        rcases h3 with h3 | h3
        · exact h4 h3
        · rw [h3] at h5; cases h5
      · rw [if_neg h3, if_pos (c := a ≠ [] ∧ true = true ∧ b ≠ [] ∧ allD b = true)]
        refine ⟨h0, rfl, fun h => h3 (.inl h), ?_⟩
        cases h5 : allD b
        · exact absurd (.inr h5) h3
        · rfl

theorem dec_ne (u : Nat) : decDigits u ≠ [] := fun h => by have := decDigits_pos u; rw [h] at this; simp at this
theorem dec_head_digit (u : Nat) {c : UInt8} (h : (decDigits u).head? = some c) : isD c = true := allD_mem (allD_dec u) (List.mem_of_mem_head? h)
theorem txt_neg (q : Rat) : isNeg (txt q) = ngt q := by
  unfold isNeg txt
  cases hn : ngt q
  · simp only [Bool.false_eq_true, if_false, List.nil_append]
    cases hd : decDigits (top q) with
    | nil => exact absurd hd (dec_ne _)
    | cons x l =>
      have hx := dec_head_digit (top q) (c := x) (by rw [hd]; rfl)
      have : x ≠ 45 := fun e => by rw [e] at hx; cases hx
      simpa using this
  · rfl
theorem txt_body (q : Rat) : body (txt q) = decDigits (top q) ++ (if q.den = 1 then [] else 47 :: decDigits q.den) := by
  unfold body
  rw [txt_neg]
  unfold txt
  cases ngt q <;> rfl
theorem mk_top_den (q : Rat) : mkRat (sg (ngt q) (top q)) q.den = q := by rw [← num_sg]; exact Rat.mkRat_self q
theorem frm_txt (q : Rat) : frm (txt q) = some q := by
  have hb := txt_body q
  have hm := mk_top_den q
  by_cases h1 : q.den = 1
  · rw [if_pos h1, List.append_nil] at hb
    have m1 : (47 : UInt8) ∉ body (txt q) := by rw [hb]; exact fun h => by cases allD_mem (allD_dec _) h
    have m2 : (46 : UInt8) ∉ body (txt q) := by rw [hb]; exact fun h => by cases allD_mem (allD_dec _) h
    rw [frm_int m1 m2, hb, if_pos ⟨dec_ne _, allD_dec _⟩, txt_neg, val_dec]
    rw [h1] at hm; rw [hm]
  · rw [if_neg h1] at hb
    have hv : val (decDigits q.den) ≠ 0 := by rw [val_dec]; exact q.den_nz
    rw [frm_cut hb not_digit_47, if_pos ⟨dec_ne _, allD_dec _, dec_ne _, allD_dec _⟩, if_neg (by decide), if_pos rfl, if_neg hv, txt_neg, val_dec, val_dec, hm]
theorem num_iff {l : List UInt8} {q : Rat} : num? l = some q ↔ txt q = l ∧ short q = true := by
  unfold num?
  constructor
  · intro h
    obtain ⟨h1, h2⟩ := Option.filter_eq_some_iff.1 h
    simp only [Bool.and_eq_true, beq_iff_eq] at h2
    exact ⟨h2.2, h2.1⟩
  · rintro ⟨rfl, h⟩
    exact Option.filter_eq_some_iff.2 ⟨frm_txt q, by simp [h]⟩
theorem txt_inj {p q : Rat} (h : txt p = txt q) : p = q := by have := frm_txt p; rw [h, frm_txt] at this; injection this with e; exact e.symm
theorem num_put {q : Rat} (h : short q = true) : num? (put q) = some q := by unfold put; rw [if_pos h]; exact num_iff.2 ⟨rfl, h⟩
theorem num_nil : num? [] = none := rfl
theorem txt_zero : txt 0 = [48] := by decide +kernel
theorem txt_ne (q : Rat) : txt q ≠ [] := by
  intro h
  have := txt_body q
  rw [h] at this
  exact dec_ne _ (List.append_eq_nil_iff.1 this.symm).1
theorem short_len {q : Rat} (h : short q = true) : (txt q).length ≤ 82 := by
  unfold short at h
  simp only [Bool.and_eq_true, decide_eq_true_eq] at h
  unfold txt
  rw [List.length_append, List.length_append]
  have h1 : (if ngt q = true then ([45] : List UInt8) else []).length ≤ 1 := by split <;> simp
  have h2 : (if q.den = 1 then ([] : List UInt8) else 47 :: decDigits q.den).length ≤ 41 := by split <;> simp <;> omega
  omega

end Go.Proofs.YthjnmnepjeegiaaGreatDoor.Num

/- Plain laws: what the reader of canonical texts checks, and that it finds just the canonical texts. No program. -/
namespace Go.Proofs.YthjnmnepjeegiaaGreatDoor.Num
open Go.Proofs.YthjnmnepjeegiaaGreatDoor.Str Go.Proofs.YthjnmnepjeegiaaGreatDoor.Dg Go.Proofs.YthjnmnepjeegiaaGreatDoor.Q Go.Lib

theorem body_is (l : List UInt8) : l = (if isNeg l = true then [45] else []) ++ body l := by
  unfold body
  cases h : isNeg l
  · rfl
  · unfold isNeg at h
    cases l with
    | nil => cases h
    | cons x l => simp at h; rw [h]; rfl
theorem val_zero_canon {l : List UInt8} (h : canon l = true) : val l = 0 ↔ l = [48] := by
  constructor
  · intro e
    have := dec_val h
    rw [e, dec_small (by decide)] at this
    exact this.symm
  · rintro rfl; rfl
theorem val_one_canon {l : List UInt8} (h : canon l = true) : val l = 1 ↔ l = [49] := by
  constructor
  · intro e
    have := dec_val h
    rw [e, dec_small (by decide)] at this
    exact this.symm
  · rintro rfl; rfl
theorem canon_all {l : List UInt8} (h : canon l = true) : allD l = true ∧ l ≠ [] := by
  unfold canon at h
  simp only [Bool.and_eq_true, Bool.not_eq_true'] at h
  exact ⟨h.1.1, by rintro rfl; simp at h⟩
/-- A number whose parts are known. -/
theorem parts_of {b : Bool} {n d : Nat} (hd : d ≠ 0) (hb : b = true → n ≠ 0) (hg : Nat.gcd n d = 1) : top (mkRat (sg b n) d) = n ∧ (mkRat (sg b n) d).den = d ∧ ngt (mkRat (sg b n) d) = b := by
  refine ⟨by rw [make_top hd, hg, Nat.div_one], by rw [make_den hd, hg, Nat.div_one], ?_⟩
  by_cases hn : n = 0
  · subst hn
    rw [make_zero]
    cases b
    · rfl
    · exact absurd rfl (hb rfl)
  · exact make_ngt hn hd
theorem txt_parts {q : Rat} {b : Bool} {n d : Nat} (h1 : top q = n) (h2 : q.den = d) (h3 : ngt q = b) : txt q = (if b = true then [45] else []) ++ (decDigits n ++ (if d = 1 then [] else 47 :: decDigits d)) := by
  subst h1 h2 h3; rfl

/-- A canonical text without '/'. -/
theorem lng_int {l : List UInt8} (hc : canon (body l) = true) (hn : isNeg l = true → body l ≠ [48]) :
    txt (mkRat (sg (isNeg l) (val (body l))) 1) = l ∧ top (mkRat (sg (isNeg l) (val (body l))) 1) = val (body l) ∧ (mkRat (sg (isNeg l) (val (body l))) 1).den = 1 ∧ ngt (mkRat (sg (isNeg l) (val (body l))) 1) = isNeg l := by
  obtain ⟨p1, p2, p3⟩ := parts_of (b := isNeg l) (n := val (body l)) (d := 1) (by decide) (fun h e => hn h ((val_zero_canon hc).1 e)) (Nat.gcd_one_right _)
  refine ⟨?_, p1, p2, p3⟩
  rw [txt_parts p1 p2 p3, if_pos rfl, List.append_nil, dec_val hc]
  exact (body_is l).symm
theorem lng_int_no {l : List UInt8} {q : Rat} (h : (47 : UInt8) ∉ body l) (e : txt q = l) : canon (body l) = true ∧ (isNeg l = true → body l ≠ [48]) := by
  subst e
  have hb := txt_body q
  by_cases h1 : q.den = 1
  · rw [if_pos h1, List.append_nil] at hb
    rw [hb, txt_neg]
    refine ⟨canon_dec _, fun hn e => ngt_top hn ?_⟩
    have := val_dec (top q)
    rw [e] at this; exact this.symm
  · rw [if_neg h1] at hb
    exact absurd (by rw [hb]; simp) h
theorem lng_cut {l a b : List UInt8} (e : body l = a ++ 47 :: b) (ca : canon a = true) (cb : canon b = true) (ha : a ≠ [48]) (hb : b ≠ [48]) (hb1 : b ≠ [49]) (hg : Nat.gcd (val a) (val b) = 1) :
    txt (mkRat (sg (isNeg l) (val a)) (val b)) = l ∧ top (mkRat (sg (isNeg l) (val a)) (val b)) = val a ∧ (mkRat (sg (isNeg l) (val a)) (val b)).den = val b ∧ ngt (mkRat (sg (isNeg l) (val a)) (val b)) = isNeg l := by
  obtain ⟨p1, p2, p3⟩ := parts_of (b := isNeg l) (n := val a) (d := val b) (fun e => hb ((val_zero_canon cb).1 e)) (fun _ e => ha ((val_zero_canon ca).1 e)) hg
  refine ⟨?_, p1, p2, p3⟩
  rw [txt_parts p1 p2 p3, if_neg (fun e => hb1 ((val_one_canon cb).1 e)), dec_val ca, dec_val cb, ← e]
  exact (body_is l).symm
theorem lng_cut_no {l a b : List UInt8} {q : Rat} (e : body l = a ++ 47 :: b) (ha : (47 : UInt8) ∉ a) (et : txt q = l) :
    canon a = true ∧ canon b = true ∧ a ≠ [48] ∧ b ≠ [48] ∧ b ≠ [49] ∧ Nat.gcd (val a) (val b) = 1 ∧ a = decDigits (top q) ∧ b = decDigits q.den := by
  subst et
  have hb := txt_body q
  have no47 : ∀ u, (47 : UInt8) ∉ decDigits u := fun u h => by cases allD_mem (allD_dec u) h
  by_cases h1 : q.den = 1
  · rw [if_pos h1, List.append_nil] at hb
    rw [hb] at e
    exact absurd (show (47 : UInt8) ∈ decDigits (top q) by rw [e]; simp) (no47 _)
  · rw [if_neg h1, e] at hb
    obtain ⟨rfl, rfl⟩ := cut_unique ha (no47 _) hb
    refine ⟨canon_dec _, canon_dec _, fun h => ?_, fun h => ?_, fun h => ?_, ?_, rfl, rfl⟩
    · have h2 := val_dec (top q)
      rw [h] at h2
      have h3 : top q = 0 := h2.symm
      have := top_zero.1 h3
      subst this
      exact h1 rfl
    · have := val_dec q.den
      rw [h] at this
      exact q.den_nz this.symm
    · have := val_dec q.den
      rw [h] at this
      exact h1 this.symm
    · rw [val_dec, val_dec]; exact coprime q

/-- The number of a canonical text of any length. -/
def lng? (l : List UInt8) : Option Rat := (frm l).filter fun q => txt q == l
theorem lng_iff {l : List UInt8} {q : Rat} : lng? l = some q ↔ txt q = l := by
  unfold lng?
  constructor
  · intro h
    obtain ⟨h1, h2⟩ := Option.filter_eq_some_iff.1 h
    exact by simpa using h2
  · rintro rfl
    exact Option.filter_eq_some_iff.2 ⟨frm_txt q, by simp⟩
theorem num_lng {l : List UInt8} : num? l = (lng? l).filter short := by
  cases h : lng? l with
  | none =>
    cases h2 : num? l with
    | none => rfl
    | some q => have := lng_iff.2 (num_iff.1 h2).1; rw [h] at this; cases this
  | some q =>
    have h1 := lng_iff.1 h
    cases hs : short q
    · have : (some q).filter short = none := by simp [Option.filter, hs]
      rw [this]
      cases h2 : num? l with
      | none => rfl
      | some p =>
        have h3 := num_iff.1 h2
        have := txt_inj (h1.trans h3.1.symm)
        subst this
        rw [hs] at h3; cases h3.2
    · have : (some q).filter short = some q := by simp [Option.filter, hs]
      rw [this]
      exact num_iff.2 ⟨h1, hs⟩
theorem lng_none {l : List UInt8} (h : ∀ q, txt q ≠ l) : lng? l = none := by
  cases h2 : lng? l with
  | none => rfl
  | some q => exact absurd (lng_iff.1 h2) (h q)
/-- The lengths of the parts of a canonical text. -/
theorem short_cut {l a b : List UInt8} {q : Rat} (e : body l = a ++ 47 :: b) (ha : (47 : UInt8) ∉ a) (et : txt q = l) : short q = (decide (a.length ≤ 40) && decide (b.length ≤ 40)) := by
  obtain ⟨_, _, _, _, _, _, h1, h2⟩ := lng_cut_no e ha et
  unfold short
  rw [← h1, ← h2]
theorem short_int {l : List UInt8} {q : Rat} (h : (47 : UInt8) ∉ body l) (et : txt q = l) : short q = decide ((body l).length ≤ 40) := by
  subst et
  have hb := txt_body q
  by_cases h1 : q.den = 1
  · rw [if_pos h1, List.append_nil] at hb
    rw [hb]
    unfold short
    have h2 : (decDigits 1).length ≤ 40 := by rw [dec_small (by decide)]; decide
    rw [h1, decide_eq_true h2, Bool.and_true]
  · rw [if_neg h1] at hb
    exact absurd (by rw [hb]; simp) h

end Go.Proofs.YthjnmnepjeegiaaGreatDoor.Num

/- Plain laws: numbers read and written limb by limb. No program. -/
namespace Go.Proofs.YthjnmnepjeegiaaGreatDoor.Num
open Go.Proofs.YthjnmnepjeegiaaGreatDoor.Str Go.Proofs.YthjnmnepjeegiaaGreatDoor.Dg Go.Lib

theorem val_nil : val [] = 0 := rfl
/-- One step of reading: the last nine digits, or all of them. -/
theorem chunk_step {r r1 ch : List UInt8} (e : r = r1 ++ ch) (h : ch.length = 9 ∨ (r1 = [] ∧ ch.length ≤ 9)) (hd : allD ch = true) : val ch = val r % 1000000000 ∧ val r1 = val r / 1000000000 := by
  subst e
  have h1 := val_lt ch hd
  rw [val_append]
  rcases h with h | ⟨rfl, h⟩
  · rw [h] at h1 ⊢
    omega
  · have h2 : (10 : Nat) ^ ch.length ≤ 10 ^ 9 := Nat.pow_le_pow_right (by decide) h
    rw [val_nil]
    omega
theorem read_step {s r r1 ch : List UInt8} {i : Nat} (hr : val r = val s / pw i) (e : r = r1 ++ ch) (h : ch.length = 9 ∨ (r1 = [] ∧ ch.length ≤ 9)) (hd : allD ch = true) :
    val ch = Dg.dg (val s) i ∧ val r1 = val s / pw (i + 1) := by
  obtain ⟨h1, h2⟩ := chunk_step e h hd
  rw [hr] at h1 h2
  exact ⟨h1, by rw [div_succ]; exact h2⟩
theorem read_end {s : List UInt8} {i : Nat} (h : val ([] : List UInt8) = val s / pw i) : sumTo (Dg.dg (val s)) i = val s := by
  rw [sumTo_dg]
  refine Nat.mod_eq_of_lt ?_
  have h1 := Nat.lt_div_mul_add (a := val s) (pw_pos i)
  rw [← h, val_nil] at h1
  omega
/-- One step of writing: the next limb behind what is written. -/
theorem write_step {a i : Nat} (h : i + 1 < nd a) : decDigits (a / pw i) = decDigits (a / pw (i + 1)) ++ pad 9 (Dg.dg a i) := by
  have h1 : a / pw (i + 1) ≠ 0 := by
    have h0 : a ≠ 0 := by rintro rfl; rw [nd_zero] at h; omega
    have h1 := pw_le_nd h0
    have h2 := pw_le (show i + 1 ≤ nd a - 1 by omega)
    have := Nat.div_pos (Nat.le_trans h2 h1) (pw_pos _)
    omega
  have h2 := dg_lt a i
  rw [← dec_parts h1 (y := Dg.dg a i) (k := 9) (by simpa using h2), div_split a i]
  congr 1; omega
theorem write_top {a : Nat} (h : a ≠ 0) : a / pw (nd a - 1) = Dg.dg a (nd a - 1) := (dg_top_is h).symm
theorem write_end (a : Nat) : decDigits (a / pw 0) = decDigits a := by rw [pw_zero, Nat.div_one]

/-- The decimal digit of place j. -/
def dd (a j : Nat) : Nat := 48 + a / 10 ^ j % 10
/-- The number of decimal digits. -/
theorem pad_at : ∀ (k a j : Nat), j < k → (pad k a)[j]? = some (UInt8.ofNat (dd a (k - 1 - j)))
  | 0, a, j, h => by omega
  | k + 1, a, j, h => by
    unfold pad
    rcases Nat.lt_or_ge j k with h1 | h1
    · rw [List.getElem?_append_left (by rw [pad_length]; exact h1), pad_at k (a / 10) j h1]
      congr 2
      unfold dd
      rw [Nat.div_div_eq_div_mul, ← Nat.pow_succ']
      congr 4; omega
    · have : j = k := by omega
      subst this
      rw [List.getElem?_append_right (by rw [pad_length]; exact Nat.le_refl _), pad_length, Nat.sub_self]
      unfold dd
      simp
theorem dec_pad {a : Nat} : decDigits a = pad (decDigits a).length a := by
  obtain ⟨h1, h2⟩ := pad_decDigits (decDigits a).length a (by have := val_lt _ (allD_dec a); rwa [val_dec] at this) (decDigits_pos a)
  rw [Nat.sub_self] at h2
  simpa using h2
theorem dec_at {a j : Nat} (h : j < (decDigits a).length) : (decDigits a)[j]? = some (UInt8.ofNat (dd a ((decDigits a).length - 1 - j))) := by
  have := pad_at (decDigits a).length a j h
  rwa [← dec_pad] at this
theorem dd_lt (a j : Nat) : dd a j < 256 := by unfold dd; omega
theorem dec_lt {a : Nat} : a < 10 ^ (decDigits a).length := by have := val_lt _ (allD_dec a); rwa [val_dec] at this
theorem dec_ge {a t : Nat} (h : t < (decDigits a).length) (h0 : 0 < t) : 10 ^ t ≤ a := by
  rcases Nat.lt_or_ge a (10 ^ t) with h1 | h1
  · have := (dec_len_le (u := a) h0).2 h1; omega
  · exact h1
/-- A digit of a limb. -/
theorem limb_digit {a i k : Nat} (h : k < 9) : Dg.dg a i / 10 ^ k % 10 = a / 10 ^ (9 * i + k) % 10 := by
  unfold Dg.dg
  rw [Nat.pow_add, ← Nat.div_div_eq_div_mul, ← pw_ten]
  generalize a / pw i = x
  obtain ⟨m, hm⟩ : ∃ m, (1000000000 : Nat) = 10 ^ k * (10 * 10 ^ m) := ⟨8 - k, by rw [← Nat.mul_assoc, ← Nat.pow_succ, ← Nat.pow_add]; rw [show k + 1 + (8 - k) = 9 by omega]⟩
  rw [hm, Nat.mod_mul_right_div_self, Nat.mod_mul_right_mod]

end Go.Proofs.YthjnmnepjeegiaaGreatDoor.Num

/- What the world holds of the library's variables; the library's string functions as they are used here. -/
namespace Go.Proofs.YthjnmnepjeegiaaGreatDoor
open Go.RowKit Go.Sort Go.Joins Go.Proofs.YthjnmnepjeegiaaGreatDoor.Dg Go.Proofs.YthjnmnepjeegiaaGreatDoor.Str Go.Proofs.YthjnmnepjeegiaaGreatDoor.Num

/-- What the library's variables hold. -/
def Wf (w : World) : Prop := Lib.TabIs Tryz.prog w "internal/strconv.uint64pow10" .u64 Lib.pow10Tab ∧
  (∃ tp p, w.var? Tryz.prog "strconv.ErrSyntax" = some #[.iface tp p]) ∧ (∃ tp p, w.var? Tryz.prog "strconv.ErrRange" = some #[.iface tp p])
theorem Tryz.gPow : Tryz.prog.globalNamed "internal/strconv.uint64pow10" = some 5 := by kernel_rfl
theorem Tryz.gSyn : Tryz.prog.globalNamed "strconv.ErrSyntax" = some 1 := by kernel_rfl
theorem Tryz.gRng : Tryz.prog.globalNamed "strconv.ErrRange" = some 2 := by kernel_rfl
theorem Wf.up {w w' : World} (h : Wf w) (hb : Below w.heap.size w w') : Wf w' := by
  obtain ⟨h1, ⟨t, p, h2⟩, ⟨t', p', h3⟩⟩ := h
  exact ⟨tab_stays Tryz.gPow h1 hb (Nat.le_refl _), ⟨t, p, var_stays Tryz.gSyn h2 hb (Nat.le_refl _)⟩, ⟨t', p', var_stays Tryz.gRng h3 hb (Nat.le_refl _)⟩⟩

/-- The bytes of a string. -/
def bl (S : ByteArray) : List UInt8 := S.data.toList
theorem bl_mk (l : List UInt8) : bl ⟨l.toArray⟩ = l := rfl
theorem mk_bl (S : ByteArray) : (⟨(bl S).toArray⟩ : ByteArray) = S := by unfold bl; cases S; simp
theorem bl_inj {S T : ByteArray} (h : bl S = bl T) : S = T := by rw [← mk_bl S, ← mk_bl T, h]
theorem bl_len (S : ByteArray) : (bl S).length = S.size := (Lib.size_eq S).symm
theorem bl_app (S T : ByteArray) : bl (S ++ T) = bl S ++ bl T := by unfold bl; rw [ByteArray.data_append]; simp
theorem bl_cut (S : ByteArray) (a b : Nat) : bl (S.extract a b) = ((bl S).drop a).take (b - a) := Lib.extract_data S a b
theorem emptyS (S : ByteArray) : S.toList.isEmpty = decide (bl S = []) := by
  rw [Lib.toList_data]
  show (bl S).isEmpty = _
  cases bl S <;> simp
theorem bl_eq {S : ByteArray} {l : List UInt8} : S = ⟨l.toArray⟩ ↔ bl S = l := ⟨fun h => by rw [h]; rfl, fun h => bl_inj h⟩

theorem indexByte_cases (l : List UInt8) (c : UInt8) : (Lib.indexByte l c = -1 ∧ c ∉ l) ∨ ∃ a b, l = a ++ c :: b ∧ c ∉ a ∧ Lib.indexByte l c = (a.length : Int) := by
  induction l with
  | nil => exact .inl ⟨rfl, by simp⟩
  | cons x l ih =>
    by_cases hx : x = c
    · subst hx
      exact .inr ⟨[], l, rfl, by simp, by simp [Lib.indexByte]⟩
    · have e : Lib.indexByte (x :: l) c = if Lib.indexByte l c == -1 then -1 else Lib.indexByte l c + 1 := by
        show (if x == c then 0 else _) = _
        rw [if_neg (by simpa using hx)]
      rw [e]
      rcases ih with ⟨h1, h2⟩ | ⟨a, b, h1, h2, h3⟩
      · refine .inl ⟨by rw [h1]; rfl, ?_⟩
        intro h
        rcases List.mem_cons.1 h with h | h
        · exact hx h.symm
        · exact h2 h
      · refine .inr ⟨x :: a, b, by rw [h1]; rfl, ?_, ?_⟩
        · intro h
          rcases List.mem_cons.1 h with h | h
          · exact hx h.symm
          · exact h2 h
        · have : (Lib.indexByte l c == -1) = false := by rw [beq_eq_false_iff_ne]; omega
          rw [this, h3]
          simp

/-- What strings.Cut gives at a separator of one byte. -/
def CutQ (S : ByteArray) (c : UInt8) (w : World) (e : Ending) (w' : World) : Prop :=
  ∃ (P R : ByteArray) (f : Bool), e = .returned (.tuple #[.string P, .string R, .bool f]) ∧ (f = true → bl S = bl P ++ c :: bl R ∧ c ∉ bl P) ∧ (f = false → P = S ∧ R = ⟨#[]⟩ ∧ c ∉ bl S) ∧ ∃ n, w' = w.drewN n

set_option maxRecDepth 100000 in
set_option maxHeartbeats 1600000 in
theorem cutlite_any (S : ByteArray) (c : UInt8) (hs : S.size ≤ 9223372036854775807) (w : World) : Calls Tryz.prog 53 #[.string S, .string ⟨#[c]⟩] w (CutQ S c w) := by
  have I := Tryz.stringslite_Index_one S c w
  rcases indexByte_cases (bl S) c with ⟨h1, h2⟩ | ⟨a, b, h1, h2, h3⟩
  · have e1 : Lib.indexByte S.data.toList c = -1 := h1
    rw [e1] at I
    have H := Lib.hid h2
    clear h1 h2 e1
    go_enter Tryz.func53, Tryz.ntmps53
    go_wp2_with (go_at_call 90; refine I.mono ?_; rintro e w1 ⟨rfl, rfl⟩)
    go_ret3
    exact ⟨S, ⟨#[]⟩, false, rfl, (fun h => by cases h), fun _ => ⟨rfl, rfl, H.out⟩, 0, rfl⟩
  · have e1 : Lib.indexByte S.data.toList c = (a.length : Int) := h3
    rw [e1] at I
    have hl : S.size = a.length + 1 + b.length := by rw [← bl_len, h1]; simp; omega
    have hP : bl (S.extract 0 a.length) = a := by rw [bl_cut, h1]; simp
    have hR : bl (S.extract (a.length + 1) S.size) = b := by rw [bl_cut, hl, h1]; simp
    have HP := Lib.hid hP
    have HR := Lib.hid hR
    have H1 := Lib.hid h1
    have H2 := Lib.hid h2
    clear h1 h2 h3 e1 hP hR
    generalize a.length = n at *
    have i1 : (n : Int) ≤ 9223372036854775806 := by omega
    have i2 : n ≤ S.size := by omega
    have i3 : n + 1 ≤ S.size := by omega
    have i4 : (n : Int) + 1 ≤ (S.size : Int) := by omega
    have w1 : IntKind.i64.wrap ((n : Int) + 1) = (n : Int) + 1 := IntWalk.i64_in _ (by constructor <;> omega)
    clear hl
    go_enter Tryz.func53, Tryz.ntmps53
    go_wp2_with (go_at_call 90; refine I.mono ?_; rintro e w1 ⟨rfl, rfl⟩)
    go_quiet (fail)
    go_wp2
    go_ret3
    exact ⟨_, _, true, rfl, fun _ => ⟨by rw [HP.out, HR.out]; exact H1.out, by rw [HP.out]; exact H2.out⟩, (fun h => by cases h), _, rfl⟩

set_option maxRecDepth 100000 in
set_option maxHeartbeats 1600000 in
theorem cut_any (S : ByteArray) (c : UInt8) (hs : S.size ≤ 9223372036854775807) (w : World) : Calls Tryz.prog 28 #[.string S, .string ⟨#[c]⟩] w (CutQ S c w) := by
  have I := cutlite_any S c hs w
  go_enter Tryz.func28, Tryz.ntmps28
  go_wp2_with (go_at_call 53; refine I.mono ?_; rintro e w1 ⟨P, R, f, rfl, h1, h2, h3⟩; have H1 := Lib.hid h1; have H2 := Lib.hid h2; have H3 := Lib.hid h3; clear h1 h2 h3)
  go_ret3
  exact ⟨P, R, f, rfl, H1.out, H2.out, H3.out⟩

theorem neg_prefix (l : List UInt8) : Lib.hasPrefix l [45] = isNeg l ∧ Lib.trimPrefix l [45] = body l := by
  cases l with
  | nil => exact ⟨rfl, rfl⟩
  | cons x l =>
    have h : Lib.hasPrefix (x :: l) [45] = isNeg (x :: l) := by
      unfold Lib.hasPrefix isNeg
      show (45 == x && true) = (some x == some 45)
      rw [Bool.and_true, Bool.eq_iff_iff, beq_iff_eq, beq_iff_eq]
      exact ⟨fun e => by rw [e], fun e => by injection e with e; exact e.symm⟩
    refine ⟨h, ?_⟩
    unfold Lib.trimPrefix body
    rw [h]
    split <;> rfl
/-- strings.CutPrefix at "-". -/
theorem cutneg_any (S : ByteArray) (w : World) : Calls Tryz.prog 25 #[.string S, .string ⟨#[45]⟩] w fun e w' => ∃ R : ByteArray, e = .returned (.tuple #[.string R, .bool (isNeg (bl S))]) ∧ bl R = body (bl S) ∧ w' = w := by
  have h := Tryz.strings_CutPrefix S ⟨#[45]⟩ w
  obtain ⟨h1, h2⟩ := neg_prefix (bl S)
  refine h.mono ?_
  rintro e w' ⟨rfl, rfl⟩
  refine ⟨⟨(Lib.trimPrefix S.data.toList [45]).toArray⟩, ?_, h2, rfl⟩
  rw [← h1]; rfl
/-- strings.TrimPrefix at "-". -/
theorem trimneg_any (S : ByteArray) (w : World) : Calls Tryz.prog 29 #[.string S, .string ⟨#[45]⟩] w fun e w' => ∃ R : ByteArray, e = .returned (.string R) ∧ bl R = body (bl S) ∧ w' = w := by
  have h := Tryz.strings_TrimPrefix S ⟨#[45]⟩ w
  obtain ⟨h1, h2⟩ := neg_prefix (bl S)
  refine h.mono ?_
  rintro e w' ⟨rfl, rfl⟩
  exact ⟨⟨(Lib.trimPrefix S.data.toList [45]).toArray⟩, rfl, h2, rfl⟩
theorem body_len (l : List UInt8) : (body l).length ≤ l.length := by unfold body; split <;> simp

/-- strconv.Itoa of a natural number. -/
theorem itoa_any (n : Nat) (hn : n ≤ 9223372036854775807) (w : World) (hw : Wf w) :
    Calls Tryz.prog 95 #[.int .i64 (n : Int)] w fun e w' => ∃ R : ByteArray, e = .returned (.string R) ∧ bl R = Lib.decDigits n ∧ Below w.heap.size w w' := by
  refine (Tryz.strconv_Itoa (n : Int) (by omega) (by omega) w hw.1).mono ?_
  rintro e w' ⟨rfl, k, os, rfl⟩
  refine ⟨_, rfl, ?_, Lib.below_grow _ w (Nat.le_refl _) k os⟩
  rw [bl_mk]
  unfold Lib.itoa
  rw [if_neg (by omega), Int.toNat_natCast]

theorem Tryz.infoSet : (Tryz.prog.info? (Tryz.lays160_ren.t 116)).map (fun i => (i.zero, i.size)) = some (some (.agg (Array.replicate 256 (.bool false))), 256) := by kernel_rfl
theorem trimset_any (S : ByteArray) (w : World) (hs : S.size ≤ 9223372036854775807) :
    Calls Tryz.prog 107 #[.string S, .string ⟨#[48, 49, 50, 51, 52, 53, 54, 55, 56, 57]⟩] w fun e w' => e = .returned (.string ⟨(Lib.trimS S.data.toList cs10).toArray⟩) ∧ Below w.heap.size w w' :=
  Any.strings_Trim_laid Tryz.lays160 Tryz.infoSet S ⟨#[48, 49, 50, 51, 52, 53, 54, 55, 56, 57]⟩ w hs (by decide) (ascii_of_all (by decide))

set_option maxRecDepth 100000 in
set_option maxHeartbeats 1600000 in
/-- all of the program. -/
theorem all_any (S : ByteArray) (hs : S.size ≤ 9223372036854775807) (w : World) : Calls Tryz.prog 85 #[.string S] w fun e w' => e = .returned (.bool (decide (bl S ≠ []) && allD (bl S))) ∧ Below w.heap.size w w' := by
  have T := fun w => trimset_any S w hs
  by_cases h0 : S = ⟨#[]⟩
  · subst h0
    clear T
    go_enter Tryz.func85, Tryz.ntmps85
    go_wp2_with fail
    go_ret
    exact ⟨rfl, Below.refl _ _⟩
  · have e0 : bl S ≠ [] := fun e => h0 (bl_inj (by rw [e]; rfl))
    have e1 := trim_digits (bl S)
    have HE := Lib.hid (show (decide (bl S ≠ []) && allD (bl S)) = allD (bl S) by rw [decide_eq_true e0, Bool.true_and])
    have hne : S.toList.isEmpty = false := by rw [emptyS]; exact decide_eq_false e0
    generalize hA : allD (bl S) = A at *
    obtain ⟨T1, hT⟩ : ∃ T1 : ByteArray, T1 = ⟨(Lib.trimS S.data.toList cs10).toArray⟩ := ⟨_, rfl⟩
    rw [← hT] at T
    have hT1 : T1.toList.isEmpty = A := by
      rw [emptyS, Bool.eq_iff_iff, decide_eq_true_iff, ← e1, hT]
      exact Iff.rfl
    clear e1 hT hA e0 h0
    go_enter Tryz.func85, Tryz.ntmps85
    go_wp2_with (go_at_call 107; refine (T _).mono ?_; rintro e w1 ⟨rfl, hb1⟩; have B1 := Lib.hid hb1; clear hb1)
    go_ret
    exact ⟨by rw [HE.out]; rfl, B1.out⟩

end Go.Proofs.YthjnmnepjeegiaaGreatDoor
