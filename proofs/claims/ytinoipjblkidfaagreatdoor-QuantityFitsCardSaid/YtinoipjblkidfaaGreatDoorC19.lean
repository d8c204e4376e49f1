/- DERIVED: THE SHELF's CONTRACTS AT THIS DUMP, IN PLAIN WORDS (tools/lay-plain.mjs out of 'TryzShelfCut.lean', which tools/lay-shelf.mjs wrote): THE SAME DECLARATIONS UNDER THE SAME NAMES: 'import', 'namespace', 'open', 'def', 'theorem' AND NOTHING ELSE: no command of the shelf's: FOR A HAND-IN. Each laying: the table of numbers ('.._ren') and one theorem, a field a fact of the dump's own or the kernel's comparison; each contract: ONE APPLICATION. Which values fit a type: bits, Fits of the program. -/
import Derived.Test.YtinoipjblkidfaaGreatDoorC18
import Derived.Test.YtinoipjblkidfaaGreatDoorProg
import Derived.Shelf.LaysC
import Derived.Shelf.Strconv.ParseIntPublic10
import Derived.Shelf.Strconv.ErrVarParseInt
/- DERIVED: THE SHELF's CONTRACTS AT THIS DUMP, IN PLAIN WORDS (tools/lay-plain.mjs out of 'TryzShelfCut.lean', which tools/lay-shelf.mjs wrote): THE SAME DECLARATIONS UNDER THE SAME NAMES: 'import', 'namespace', 'open', 'def', 'theorem' AND NOTHING ELSE: no command of the shelf's: FOR A HAND-IN. Each laying: the table of numbers ('.._ren') and one theorem, a field a fact of the dump's own or the kernel's comparison; each contract: ONE APPLICATION. -/
namespace Go.Proofs
open Go.Shelf
def Tryz.laysC174_ren : Go.Shelf.Ren := ⟨fun | 174 => 114 | 247 => 160 | 245 => 145 | 287 => 191 | 279 => 181 | 280 => 182 | 281 => 183 | 282 => 184 | 321 => 213 | 322 => 214 | 316 => 207 | 171 => 89 | 205 => 208 | 243 => 146 | 246 => 185 | 283 => 209 | 284 => 210 | 285 => 211 | 286 => 212 | 129 => 226 | 317 => 225 | 318 => 227 | 319 => 228 | 320 => 229 | 337 => 235 | 338 => 236 | n => n, fun | 9 => 9 | 3 => 3 | 2 => 2 | 75 => 100 | 85 => 128 | 4 => 4 | 167 => 173 | 5 => 5 | 53 => 105 | 175 => 183 | 46 => 130 | 168 => 174 | 37 => 162 | 0 => 0 | 210 => 202 | 21 => 21 | 127 => 185 | 145 => 220 | 143 => 218 | 171 => 204 | 173 => 207 | 212 => 222 | 51 => 122 | 20 => 20 | 213 => 223 | 232 => 233 | 233 => 234 | 80 => 83 | n => n, fun | 15 => 0 | 16 => 1 | 17 => 3 | 18 => 6 | 19 => 7 | n => n⟩
theorem Tryz.laysC174 : Go.Proofs.LaysC.n174 Tryz.prog Tryz.laysC174_ren := {
  mixed := by kernel_rfl
  f129 := Tryz.func226.trans (congrArg some (by kernel_rfl))
  f171 := Tryz.func89.trans (congrArg some (by kernel_rfl))
  f174 := Tryz.func114.trans (congrArg some (by kernel_rfl))
  f205 := Tryz.func208.trans (congrArg some (by kernel_rfl))
  f243 := Tryz.func146.trans (congrArg some (by kernel_rfl))
  f245 := Tryz.func145.trans (congrArg some (by kernel_rfl))
  f246 := Tryz.func185.trans (congrArg some (by kernel_rfl))
  f247 := Tryz.func160.trans (congrArg some (by kernel_rfl))
  f279 := Tryz.func181.trans (congrArg some (by kernel_rfl))
  f280 := Tryz.func182.trans (congrArg some (by kernel_rfl))
  f281 := Tryz.func183.trans (congrArg some (by kernel_rfl))
  f282 := Tryz.func184.trans (congrArg some (by kernel_rfl))
  f283 := Tryz.func209.trans (congrArg some (by kernel_rfl))
  f284 := Tryz.func210.trans (congrArg some (by kernel_rfl))
  f285 := Tryz.func211.trans (congrArg some (by kernel_rfl))
  f286 := Tryz.func212.trans (congrArg some (by kernel_rfl))
  f287 := Tryz.func191.trans (congrArg some (by kernel_rfl))
  f316 := Tryz.func207.trans (congrArg some (by kernel_rfl))
  f317 := Tryz.func225.trans (congrArg some (by kernel_rfl))
  f318 := Tryz.func227.trans (congrArg some (by kernel_rfl))
  f319 := Tryz.func228.trans (congrArg some (by kernel_rfl))
  f320 := Tryz.func229.trans (congrArg some (by kernel_rfl))
  f321 := Tryz.func213.trans (congrArg some (by kernel_rfl))
  f322 := Tryz.func214.trans (congrArg some (by kernel_rfl))
  f337 := Tryz.func235.trans (congrArg some (by kernel_rfl))
  f338 := Tryz.func236.trans (congrArg some (by kernel_rfl))
  t0 := Tryz.underlying0
  a0 := Tryz.isAgg0
  z0 := Tryz.sizeOf0
  v0 := Tryz.zeroValue0
  t2 := Tryz.underlying2
  a2 := Tryz.isAgg2
  z2 := Tryz.sizeOf2
  v2 := Tryz.zeroValue2
  t3 := Tryz.underlying3
  a3 := Tryz.isAgg3
  z3 := Tryz.sizeOf3
  v3 := Tryz.zeroValue3
  t4 := Tryz.underlying4
  a4 := Tryz.isAgg4
  z4 := Tryz.sizeOf4
  v4 := Tryz.zeroValue4
  t5 := Tryz.underlying5
  a5 := Tryz.isAgg5
  z5 := Tryz.sizeOf5
  v5 := Tryz.zeroValue5
  t9 := Tryz.underlying9
  a9 := Tryz.isAgg9
  z9 := Tryz.sizeOf9
  v9 := Tryz.zeroValue9
  t20 := Tryz.underlying20
  a20 := Tryz.isAgg20
  z20 := Tryz.sizeOf20
  v20 := Tryz.zeroValue20
  t21 := Tryz.underlying21
  a21 := Tryz.isAgg21
  z21 := Tryz.sizeOf21
  v21 := Tryz.zeroValue21
  t37 := Tryz.underlying162
  a37 := Tryz.isAgg162
  z37 := Tryz.sizeOf162
  v37 := Tryz.zeroValue162
  t46 := Tryz.underlying130
  a46 := Tryz.isAgg130
  z46 := Tryz.sizeOf130
  v46 := Tryz.zeroValue130
  t51 := Tryz.underlying122
  a51 := Tryz.isAgg122
  z51 := Tryz.sizeOf122
  v51 := Tryz.zeroValue122
  t53 := Tryz.underlying105
  a53 := Tryz.isAgg105
  z53 := Tryz.sizeOf105
  v53 := Tryz.zeroValue105
  t75 := Tryz.underlying100
  a75 := Tryz.isAgg100
  z75 := Tryz.sizeOf100
  v75 := Tryz.zeroValue100
  t85 := Tryz.underlying128
  a85 := Tryz.isAgg128
  z85 := Tryz.sizeOf128
  v85 := Tryz.zeroValue128
  t127 := Tryz.underlying185
  a127 := Tryz.isAgg185
  z127 := Tryz.sizeOf185
  v127 := Tryz.zeroValue185
  t143 := Tryz.underlying218
  a143 := Tryz.isAgg218
  z143 := Tryz.sizeOf218
  v143 := Tryz.zeroValue218
  t145 := Tryz.underlying220
  a145 := Tryz.isAgg220
  z145 := Tryz.sizeOf220
  v145 := Tryz.zeroValue220
  t167 := Tryz.underlying173
  a167 := Tryz.isAgg173
  z167 := Tryz.sizeOf173
  v167 := Tryz.zeroValue173
  t168 := Tryz.underlying174
  a168 := Tryz.isAgg174
  z168 := Tryz.sizeOf174
  v168 := Tryz.zeroValue174
  t171 := Tryz.underlying204
  a171 := Tryz.isAgg204
  z171 := Tryz.sizeOf204
  v171 := Tryz.zeroValue204
  t173 := Tryz.underlying207
  a173 := Tryz.isAgg207
  z173 := Tryz.sizeOf207
  v173 := Tryz.zeroValue207
  t175 := Tryz.underlying183
  a175 := Tryz.isAgg183
  z175 := Tryz.sizeOf183
  v175 := Tryz.zeroValue183
  t210 := Tryz.underlying202
  a210 := Tryz.isAgg202
  z210 := Tryz.sizeOf202
  v210 := Tryz.zeroValue202
  t212 := Tryz.underlying222
  a212 := Tryz.isAgg222
  z212 := Tryz.sizeOf222
  v212 := Tryz.zeroValue222
  t213 := Tryz.underlying223
  a213 := Tryz.isAgg223
  z213 := Tryz.sizeOf223
  t232 := Tryz.underlying233
  a232 := Tryz.isAgg233
  z232 := Tryz.sizeOf233
  v232 := Tryz.zeroValue233
  t233 := Tryz.underlying234
  a233 := Tryz.isAgg234
  z233 := Tryz.sizeOf234
  v233 := Tryz.zeroValue234
  g15 := by kernel_rfl
  g16 := by kernel_rfl
  g17 := by kernel_rfl
  g18 := by kernel_rfl
  g19 := by kernel_rfl
  t80 := Tryz.underlying83
  a80 := Tryz.isAgg83
  z80 := Tryz.sizeOf83
  v80 := Tryz.zeroValue83
  i0 := by kernel_rfl
  i2 := by kernel_rfl
  i3 := by kernel_rfl
  i4 := by kernel_rfl
  i5 := by kernel_rfl
  i9 := by kernel_rfl
  i20 := by kernel_rfl
  i21 := by kernel_rfl
  i37 := by kernel_rfl
  i46 := by kernel_rfl
  i51 := by kernel_rfl
  i53 := by kernel_rfl
  i75 := by kernel_rfl
  i80 := by kernel_rfl
  i85 := by kernel_rfl
  i127 := by kernel_rfl
  i143 := by kernel_rfl
  i145 := by kernel_rfl
  i167 := by kernel_rfl
  i168 := by kernel_rfl
  i171 := by kernel_rfl
  i173 := by kernel_rfl
  i175 := by kernel_rfl
  i210 := by kernel_rfl
  i212 := by kernel_rfl
  i232 := by kernel_rfl
  i233 := by kernel_rfl
  m15 := by kernel_rfl
  m16 := by kernel_rfl
  m17 := by kernel_rfl
  m18 := by kernel_rfl
  m19 := by kernel_rfl
  c0 := by kernel_rfl
  c2 := by kernel_rfl
  c3 := by kernel_rfl
  c4 := by kernel_rfl
  c5 := by kernel_rfl
  c9 := by kernel_rfl
  c20 := by kernel_rfl
  c21 := by kernel_rfl
  c37 := by kernel_rfl
  c46 := by kernel_rfl
  c51 := by kernel_rfl
  c53 := by kernel_rfl
  c75 := by kernel_rfl
  c80 := by kernel_rfl
  c85 := by kernel_rfl
  c127 := by kernel_rfl
  c143 := by kernel_rfl
  c145 := by kernel_rfl
  c167 := by kernel_rfl
  c168 := by kernel_rfl
  c171 := by kernel_rfl
  c173 := by kernel_rfl
  c175 := by kernel_rfl
  c210 := by kernel_rfl
  c212 := by kernel_rfl
  c213 := by kernel_rfl
  c232 := by kernel_rfl
  c233 := by kernel_rfl }
open Go.RowKit in
/-- strconv.ParseInt(s, 10, 64), AT EVERY STRING THAT SPELLS AN int64 ('Lib.parseIntB 64 s.data.toList = .ok v'): v, AND NO ERROR. (LAID: no walk: one application.) -/
theorem Tryz.strconv_ParseInt_10_at64_ok (s : ByteArray) (hmax : s.size ≤ 9223372036854775806) (v : Int) (h : Lib.parseIntB 64 s.data.toList = .ok v) (w : World) :
    Calls Tryz.prog 114 #[.string s, .int .i64 10, .int .i64 64] w fun e w' => e = .returned (.tuple #[.int .i64 v, .nilIface]) ∧ (w' = w ∨ ∃ t, w' = Lib.bytesWorld w 5 t) := Any.strconv_ParseInt_10_at64_ok Tryz.laysC174 s hmax v h w
open Go.RowKit in
/-- strconv.ParseInt(s, 10, 32), AT EVERY STRING THAT SPELLS AN int32 ('Lib.parseIntB 32 s.data.toList = .ok v'): v, AND NO ERROR. (LAID: no walk: one application.) -/
theorem Tryz.strconv_ParseInt_10_at32_ok (s : ByteArray) (hmax : s.size ≤ 9223372036854775806) (v : Int) (h : Lib.parseIntB 32 s.data.toList = .ok v) (w : World) :
    Calls Tryz.prog 114 #[.string s, .int .i64 10, .int .i64 32] w fun e w' => e = .returned (.tuple #[.int .i64 v, .nilIface]) ∧ (w' = w ∨ ∃ t, w' = Lib.bytesWorld w 5 t) := Any.strconv_ParseInt_10_at32_ok Tryz.laysC174 s hmax v h w
open Go.RowKit in
/-- strconv.ParseInt(s, 10, 16), AT EVERY STRING THAT SPELLS AN int16 ('Lib.parseIntB 16 s.data.toList = .ok v'): v, AND NO ERROR. (LAID: no walk: one application.) -/
theorem Tryz.strconv_ParseInt_10_at16_ok (s : ByteArray) (hmax : s.size ≤ 9223372036854775806) (v : Int) (h : Lib.parseIntB 16 s.data.toList = .ok v) (w : World) :
    Calls Tryz.prog 114 #[.string s, .int .i64 10, .int .i64 16] w fun e w' => e = .returned (.tuple #[.int .i64 v, .nilIface]) ∧ (w' = w ∨ ∃ t, w' = Lib.bytesWorld w 5 t) := Any.strconv_ParseInt_10_at16_ok Tryz.laysC174 s hmax v h w
open Go.RowKit in
/-- strconv.ParseInt(s, 10, 8), AT EVERY STRING THAT SPELLS AN int8 ('Lib.parseIntB 8 s.data.toList = .ok v'): v, AND NO ERROR. (LAID: no walk: one application.) -/
theorem Tryz.strconv_ParseInt_10_at8_ok (s : ByteArray) (hmax : s.size ≤ 9223372036854775806) (v : Int) (h : Lib.parseIntB 8 s.data.toList = .ok v) (w : World) :
    Calls Tryz.prog 114 #[.string s, .int .i64 10, .int .i64 8] w fun e w' => e = .returned (.tuple #[.int .i64 v, .nilIface]) ∧ (w' = w ∨ ∃ t, w' = Lib.bytesWorld w 5 t) := Any.strconv_ParseInt_10_at8_ok Tryz.laysC174 s hmax v h w
open Go.RowKit in
theorem Tryz.strconv_ParseInt_10_at64_syntax_var (s : ByteArray) (hlim : s.size ≤ 281474976710656) (h : Lib.parseIntB 64 s.data.toList = Lib.parseIntB 64 []) (tp : TypeId) (p : Value) (w : World) (hvar : w.var? Tryz.prog "strconv.ErrSyntax" = some #[.iface tp p]) :
    Calls Tryz.prog 114 #[.string s, .int .i64 10, .int .i64 64] w fun e w' => ∃ N, e = .returned (.tuple #[.int .i64 (0), .iface 174 (.pointer (some ⟨N, 0, none⟩))]) ∧ w.heap.size ≤ N ∧ w'.heap[N]? = some (.cells #[.string ⟨#[80, 97, 114, 115, 101, 73, 110, 116]⟩, .string s, .iface tp p] 202 (0, 0)) ∧ Below w.heap.size w w' := Any.strconv_ParseInt_10_at64_syntax_var Tryz.laysC174 s hlim h tp p w hvar
open Go.RowKit in
theorem Tryz.strconv_ParseInt_10_at64_range_var (s : ByteArray) (hlim : s.size ≤ 281474976710656) (h : Lib.parseIntB 64 s.data.toList = .range) (tp : TypeId) (p : Value) (w : World) (hvar : w.var? Tryz.prog "strconv.ErrRange" = some #[.iface tp p]) :
    Calls Tryz.prog 114 #[.string s, .int .i64 10, .int .i64 64] w fun e w' => ∃ N, e = .returned (.tuple #[.int .i64 (Lib.intSat 64 s.data.toList), .iface 174 (.pointer (some ⟨N, 0, none⟩))]) ∧ w.heap.size ≤ N ∧ w'.heap[N]? = some (.cells #[.string ⟨#[80, 97, 114, 115, 101, 73, 110, 116]⟩, .string s, .iface tp p] 202 (0, 0)) ∧ Below w.heap.size w w' := Any.strconv_ParseInt_10_at64_range_var Tryz.laysC174 s hlim h tp p w hvar
open Go.RowKit in
theorem Tryz.strconv_ParseInt_10_at32_syntax_var (s : ByteArray) (hlim : s.size ≤ 281474976710656) (h : Lib.parseIntB 32 s.data.toList = Lib.parseIntB 32 []) (tp : TypeId) (p : Value) (w : World) (hvar : w.var? Tryz.prog "strconv.ErrSyntax" = some #[.iface tp p]) :
    Calls Tryz.prog 114 #[.string s, .int .i64 10, .int .i64 32] w fun e w' => ∃ N, e = .returned (.tuple #[.int .i64 (0), .iface 174 (.pointer (some ⟨N, 0, none⟩))]) ∧ w.heap.size ≤ N ∧ w'.heap[N]? = some (.cells #[.string ⟨#[80, 97, 114, 115, 101, 73, 110, 116]⟩, .string s, .iface tp p] 202 (0, 0)) ∧ Below w.heap.size w w' := Any.strconv_ParseInt_10_at32_syntax_var Tryz.laysC174 s hlim h tp p w hvar
open Go.RowKit in
theorem Tryz.strconv_ParseInt_10_at32_range_var (s : ByteArray) (hlim : s.size ≤ 281474976710656) (h : Lib.parseIntB 32 s.data.toList = .range) (tp : TypeId) (p : Value) (w : World) (hvar : w.var? Tryz.prog "strconv.ErrRange" = some #[.iface tp p]) :
    Calls Tryz.prog 114 #[.string s, .int .i64 10, .int .i64 32] w fun e w' => ∃ N, e = .returned (.tuple #[.int .i64 (Lib.intSat 32 s.data.toList), .iface 174 (.pointer (some ⟨N, 0, none⟩))]) ∧ w.heap.size ≤ N ∧ w'.heap[N]? = some (.cells #[.string ⟨#[80, 97, 114, 115, 101, 73, 110, 116]⟩, .string s, .iface tp p] 202 (0, 0)) ∧ Below w.heap.size w w' := Any.strconv_ParseInt_10_at32_range_var Tryz.laysC174 s hlim h tp p w hvar
open Go.RowKit in
theorem Tryz.strconv_ParseInt_10_at16_syntax_var (s : ByteArray) (hlim : s.size ≤ 281474976710656) (h : Lib.parseIntB 16 s.data.toList = Lib.parseIntB 16 []) (tp : TypeId) (p : Value) (w : World) (hvar : w.var? Tryz.prog "strconv.ErrSyntax" = some #[.iface tp p]) :
    Calls Tryz.prog 114 #[.string s, .int .i64 10, .int .i64 16] w fun e w' => ∃ N, e = .returned (.tuple #[.int .i64 (0), .iface 174 (.pointer (some ⟨N, 0, none⟩))]) ∧ w.heap.size ≤ N ∧ w'.heap[N]? = some (.cells #[.string ⟨#[80, 97, 114, 115, 101, 73, 110, 116]⟩, .string s, .iface tp p] 202 (0, 0)) ∧ Below w.heap.size w w' := Any.strconv_ParseInt_10_at16_syntax_var Tryz.laysC174 s hlim h tp p w hvar
open Go.RowKit in
theorem Tryz.strconv_ParseInt_10_at16_range_var (s : ByteArray) (hlim : s.size ≤ 281474976710656) (h : Lib.parseIntB 16 s.data.toList = .range) (tp : TypeId) (p : Value) (w : World) (hvar : w.var? Tryz.prog "strconv.ErrRange" = some #[.iface tp p]) :
    Calls Tryz.prog 114 #[.string s, .int .i64 10, .int .i64 16] w fun e w' => ∃ N, e = .returned (.tuple #[.int .i64 (Lib.intSat 16 s.data.toList), .iface 174 (.pointer (some ⟨N, 0, none⟩))]) ∧ w.heap.size ≤ N ∧ w'.heap[N]? = some (.cells #[.string ⟨#[80, 97, 114, 115, 101, 73, 110, 116]⟩, .string s, .iface tp p] 202 (0, 0)) ∧ Below w.heap.size w w' := Any.strconv_ParseInt_10_at16_range_var Tryz.laysC174 s hlim h tp p w hvar
open Go.RowKit in
theorem Tryz.strconv_ParseInt_10_at8_syntax_var (s : ByteArray) (hlim : s.size ≤ 281474976710656) (h : Lib.parseIntB 8 s.data.toList = Lib.parseIntB 8 []) (tp : TypeId) (p : Value) (w : World) (hvar : w.var? Tryz.prog "strconv.ErrSyntax" = some #[.iface tp p]) :
    Calls Tryz.prog 114 #[.string s, .int .i64 10, .int .i64 8] w fun e w' => ∃ N, e = .returned (.tuple #[.int .i64 (0), .iface 174 (.pointer (some ⟨N, 0, none⟩))]) ∧ w.heap.size ≤ N ∧ w'.heap[N]? = some (.cells #[.string ⟨#[80, 97, 114, 115, 101, 73, 110, 116]⟩, .string s, .iface tp p] 202 (0, 0)) ∧ Below w.heap.size w w' := Any.strconv_ParseInt_10_at8_syntax_var Tryz.laysC174 s hlim h tp p w hvar
open Go.RowKit in
theorem Tryz.strconv_ParseInt_10_at8_range_var (s : ByteArray) (hlim : s.size ≤ 281474976710656) (h : Lib.parseIntB 8 s.data.toList = .range) (tp : TypeId) (p : Value) (w : World) (hvar : w.var? Tryz.prog "strconv.ErrRange" = some #[.iface tp p]) :
    Calls Tryz.prog 114 #[.string s, .int .i64 10, .int .i64 8] w fun e w' => ∃ N, e = .returned (.tuple #[.int .i64 (Lib.intSat 8 s.data.toList), .iface 174 (.pointer (some ⟨N, 0, none⟩))]) ∧ w.heap.size ≤ N ∧ w'.heap[N]? = some (.cells #[.string ⟨#[80, 97, 114, 115, 101, 73, 110, 116]⟩, .string s, .iface tp p] 202 (0, 0)) ∧ Below w.heap.size w w' := Any.strconv_ParseInt_10_at8_range_var Tryz.laysC174 s hlim h tp p w hvar
end Go.Proofs

/- Which values fit a type: bits, Fits of the program. -/
namespace Go.Proofs.YtinoipjblkidfaaGreatDoor
open Go.RowKit Go.Sort Go.Joins Go.Proofs.YtinoipjblkidfaaGreatDoor.Dg Go.Proofs.YtinoipjblkidfaaGreatDoor.Q Go.Proofs.YtinoipjblkidfaaGreatDoor.Num Go.Proofs.YtinoipjblkidfaaGreatDoor.Str

/-- strconv.ParseInt of 8 bits at a canonical text. -/
theorem parseint8_any (S : ByteArray) (q : Rat) (hq : txt q = bl S) (hs : S.size ≤ 1000000) (w : World) (hw : Wf w) :
    Calls Tryz.prog 114 #[.string S, .int .i64 10, .int .i64 8] w fun e w' => ∃ v ev, e = .returned (.tuple #[.int .i64 v, ev]) ∧ (if q.den = 1 ∧ -((2 ^ (8 - 1) : Nat) : Int) ≤ q.num ∧ q.num < ((2 ^ (8 - 1) : Nat) : Int) then ev = .nilIface else ∃ t p, ev = .iface t p) ∧ Below w.heap.size w w' := by
  have hI := intB_iff (B := 8) (by decide) (by decide) q
  rw [hq] at hI
  cases h : Lib.parseIntB 8 S.data.toList
  case ok v =>
    refine (Tryz.strconv_ParseInt_10_at8_ok S (by omega) v h w).mono ?_
    rintro e w' ⟨rfl, hw'⟩
    have h2 := (hI v).1 h
    refine ⟨v, .nilIface, rfl, ?_, ?_⟩
    · rw [if_pos ⟨h2.1, by rw [← h2.2.1]; exact h2.2.2⟩]
    · rcases hw' with rfl | ⟨t, rfl⟩
      · exact Below.refl _ _
      · exact below_bytesWorld _ _ _ _ (Nat.le_refl _)
  case range =>
    obtain ⟨tp, p, hv⟩ := hw.2.2
    refine (Tryz.strconv_ParseInt_10_at8_range_var S (by omega) h tp p w hv).mono ?_
    rintro e w' ⟨N, rfl, _, _, hb⟩
    refine ⟨_, _, rfl, ?_, hb⟩
    rw [if_neg]
    · exact ⟨_, _, rfl⟩
    · intro g
      have := (hI q.num).2 ⟨g.1, rfl, g.2⟩
      unfold bl at this
      rw [h] at this; cases this
  obtain ⟨tp, p, hv⟩ := hw.2.1
  refine (Tryz.strconv_ParseInt_10_at8_syntax_var S (by omega) h tp p w hv).mono ?_
  rintro e w' ⟨N, rfl, _, _, hb⟩
  refine ⟨_, _, rfl, ?_, hb⟩
  rw [if_neg]
  · exact ⟨_, _, rfl⟩
  · intro g
    have := (hI q.num).2 ⟨g.1, rfl, g.2⟩
    unfold bl at this
    rw [h] at this; cases this

/-- strconv.ParseInt of 16 bits at a canonical text. -/
theorem parseint16_any (S : ByteArray) (q : Rat) (hq : txt q = bl S) (hs : S.size ≤ 1000000) (w : World) (hw : Wf w) :
    Calls Tryz.prog 114 #[.string S, .int .i64 10, .int .i64 16] w fun e w' => ∃ v ev, e = .returned (.tuple #[.int .i64 v, ev]) ∧ (if q.den = 1 ∧ -((2 ^ (16 - 1) : Nat) : Int) ≤ q.num ∧ q.num < ((2 ^ (16 - 1) : Nat) : Int) then ev = .nilIface else ∃ t p, ev = .iface t p) ∧ Below w.heap.size w w' := by
  have hI := intB_iff (B := 16) (by decide) (by decide) q
  rw [hq] at hI
  cases h : Lib.parseIntB 16 S.data.toList
  case ok v =>
    refine (Tryz.strconv_ParseInt_10_at16_ok S (by omega) v h w).mono ?_
    rintro e w' ⟨rfl, hw'⟩
    have h2 := (hI v).1 h
    refine ⟨v, .nilIface, rfl, ?_, ?_⟩
    · rw [if_pos ⟨h2.1, by rw [← h2.2.1]; exact h2.2.2⟩]
    · rcases hw' with rfl | ⟨t, rfl⟩
      · exact Below.refl _ _
      · exact below_bytesWorld _ _ _ _ (Nat.le_refl _)
  case range =>
    obtain ⟨tp, p, hv⟩ := hw.2.2
    refine (Tryz.strconv_ParseInt_10_at16_range_var S (by omega) h tp p w hv).mono ?_
    rintro e w' ⟨N, rfl, _, _, hb⟩
    refine ⟨_, _, rfl, ?_, hb⟩
    rw [if_neg]
    · exact ⟨_, _, rfl⟩
    · intro g
      have := (hI q.num).2 ⟨g.1, rfl, g.2⟩
      unfold bl at this
      rw [h] at this; cases this
  obtain ⟨tp, p, hv⟩ := hw.2.1
  refine (Tryz.strconv_ParseInt_10_at16_syntax_var S (by omega) h tp p w hv).mono ?_
  rintro e w' ⟨N, rfl, _, _, hb⟩
  refine ⟨_, _, rfl, ?_, hb⟩
  rw [if_neg]
  · exact ⟨_, _, rfl⟩
  · intro g
    have := (hI q.num).2 ⟨g.1, rfl, g.2⟩
    unfold bl at this
    rw [h] at this; cases this

/-- strconv.ParseInt of 32 bits at a canonical text. -/
theorem parseint32_any (S : ByteArray) (q : Rat) (hq : txt q = bl S) (hs : S.size ≤ 1000000) (w : World) (hw : Wf w) :
    Calls Tryz.prog 114 #[.string S, .int .i64 10, .int .i64 32] w fun e w' => ∃ v ev, e = .returned (.tuple #[.int .i64 v, ev]) ∧ (if q.den = 1 ∧ -((2 ^ (32 - 1) : Nat) : Int) ≤ q.num ∧ q.num < ((2 ^ (32 - 1) : Nat) : Int) then ev = .nilIface else ∃ t p, ev = .iface t p) ∧ Below w.heap.size w w' := by
  have hI := intB_iff (B := 32) (by decide) (by decide) q
  rw [hq] at hI
  cases h : Lib.parseIntB 32 S.data.toList
  case ok v =>
    refine (Tryz.strconv_ParseInt_10_at32_ok S (by omega) v h w).mono ?_
    rintro e w' ⟨rfl, hw'⟩
    have h2 := (hI v).1 h
    refine ⟨v, .nilIface, rfl, ?_, ?_⟩
    · rw [if_pos ⟨h2.1, by rw [← h2.2.1]; exact h2.2.2⟩]
    · rcases hw' with rfl | ⟨t, rfl⟩
      · exact Below.refl _ _
      · exact below_bytesWorld _ _ _ _ (Nat.le_refl _)
  case range =>
    obtain ⟨tp, p, hv⟩ := hw.2.2
    refine (Tryz.strconv_ParseInt_10_at32_range_var S (by omega) h tp p w hv).mono ?_
    rintro e w' ⟨N, rfl, _, _, hb⟩
    refine ⟨_, _, rfl, ?_, hb⟩
    rw [if_neg]
    · exact ⟨_, _, rfl⟩
    · intro g
      have := (hI q.num).2 ⟨g.1, rfl, g.2⟩
      unfold bl at this
      rw [h] at this; cases this
  obtain ⟨tp, p, hv⟩ := hw.2.1
  refine (Tryz.strconv_ParseInt_10_at32_syntax_var S (by omega) h tp p w hv).mono ?_
  rintro e w' ⟨N, rfl, _, _, hb⟩
  refine ⟨_, _, rfl, ?_, hb⟩
  rw [if_neg]
  · exact ⟨_, _, rfl⟩
  · intro g
    have := (hI q.num).2 ⟨g.1, rfl, g.2⟩
    unfold bl at this
    rw [h] at this; cases this

/-- strconv.ParseInt of 64 bits at a canonical text. -/
theorem parseint64_any (S : ByteArray) (q : Rat) (hq : txt q = bl S) (hs : S.size ≤ 1000000) (w : World) (hw : Wf w) :
    Calls Tryz.prog 114 #[.string S, .int .i64 10, .int .i64 64] w fun e w' => ∃ v ev, e = .returned (.tuple #[.int .i64 v, ev]) ∧ (if q.den = 1 ∧ -((2 ^ (64 - 1) : Nat) : Int) ≤ q.num ∧ q.num < ((2 ^ (64 - 1) : Nat) : Int) then ev = .nilIface else ∃ t p, ev = .iface t p) ∧ Below w.heap.size w w' := by
  have hI := intB_iff (B := 64) (by decide) (by decide) q
  rw [hq] at hI
  cases h : Lib.parseIntB 64 S.data.toList
  case ok v =>
    refine (Tryz.strconv_ParseInt_10_at64_ok S (by omega) v h w).mono ?_
    rintro e w' ⟨rfl, hw'⟩
    have h2 := (hI v).1 h
    refine ⟨v, .nilIface, rfl, ?_, ?_⟩
    · rw [if_pos ⟨h2.1, by rw [← h2.2.1]; exact h2.2.2⟩]
    · rcases hw' with rfl | ⟨t, rfl⟩
      · exact Below.refl _ _
      · exact below_bytesWorld _ _ _ _ (Nat.le_refl _)
  case range =>
    obtain ⟨tp, p, hv⟩ := hw.2.2
    refine (Tryz.strconv_ParseInt_10_at64_range_var S (by omega) h tp p w hv).mono ?_
    rintro e w' ⟨N, rfl, _, _, hb⟩
    refine ⟨_, _, rfl, ?_, hb⟩
    rw [if_neg]
    · exact ⟨_, _, rfl⟩
    · intro g
      have := (hI q.num).2 ⟨g.1, rfl, g.2⟩
      unfold bl at this
      rw [h] at this; cases this
  obtain ⟨tp, p, hv⟩ := hw.2.1
  refine (Tryz.strconv_ParseInt_10_at64_syntax_var S (by omega) h tp p w hv).mono ?_
  rintro e w' ⟨N, rfl, _, _, hb⟩
  refine ⟨_, _, rfl, ?_, hb⟩
  rw [if_neg]
  · exact ⟨_, _, rfl⟩
  · intro g
    have := (hI q.num).2 ⟨g.1, rfl, g.2⟩
    unfold bl at this
    rw [h] at this; cases this

set_option maxRecDepth 100000 in
set_option maxHeartbeats 1600000 in
theorem bits_any (k : Int) (w : World) : Calls Tryz.prog 113 #[.int .i64 k] w fun e w' => e = .returned (.int .i64 ((bitsOf k : Nat) : Int)) ∧ w = w' := by
  by_cases h1 : k = 1
  · subst h1
    go_enter Tryz.func113, Tryz.ntmps113
    go_wp2
    go_ret
    exact ⟨rfl, by first | rfl | trivial⟩
  · by_cases h2 : k = 2
    · subst h2
      go_enter Tryz.func113, Tryz.ntmps113
      go_wp2
      go_ret
      exact ⟨rfl, by first | rfl | trivial⟩
    · by_cases h3 : k = 3
      · subst h3
        go_enter Tryz.func113, Tryz.ntmps113
        go_wp2
        go_ret
        exact ⟨rfl, by first | rfl | trivial⟩
      · by_cases h4 : k = 4
        · subst h4
          go_enter Tryz.func113, Tryz.ntmps113
          go_wp2
          go_ret
          exact ⟨rfl, by first | rfl | trivial⟩
        · have HB := Lib.hid (show bitsOf k = 0 by unfold bitsOf; rw [if_neg h1, if_neg h2, if_neg h3, if_neg h4])
          go_enter Tryz.func113, Tryz.ntmps113
          go_wp2
          go_ret
          exact ⟨by rw [HB.out]; rfl, by first | rfl | trivial⟩

set_option maxRecDepth 100000 in
set_option maxHeartbeats 3200000 in
theorem qFits_none (k : Int) (S : ByteArray) (hs : S.size ≤ 9223372036854775807) (w : World) (hw : Wf w) (h0 : bitsOf k = 0) :
    Calls Tryz.prog 58 #[.int .i64 k, .string S] w fun e w' => e = .returned (.bool (qfits k (bl S))) ∧ Below w.heap.size w w' := by
  have BI := fun w' => bits_any k w'
  rw [h0] at BI
  have VA := fun w' (hb : Below w.heap.size w w') => qValid_any S hs w' (hw.up hb)
  have b := Lib.hid (Below.refl w.heap.size w)
  have e1 := emptyS S
  obtain ⟨X, hX⟩ : ∃ X, qfits k (bl S) = X := ⟨_, rfl⟩
  rw [hX]
  unfold qfits at hX
  rw [h0] at hX
  by_cases h5 : k = 5
  · subst h5
    by_cases he : bl S = []
    · rw [decide_eq_true he] at e1
      have HX := Lib.hid (show X = true by rw [← hX, he]; rfl)
      clear hs hw h0 he hX
      go_enter Tryz.func58, Tryz.ntmps58
      go_wp2_with (first
        | (go_at_call 113; ((with_reducible refine (BI _).mono ?_); rintro e wn ⟨rfl, rfl⟩))
        | (go_at_call 23; ((refine (VA _ b.out).mono ?_); rintro e wn ⟨rfl, hb⟩; replace b := Lib.hid (btrans b.out hb); clear hb)))
      go_ret
      exact ⟨by rw [HX.out]; rfl, b.out⟩
    · rw [decide_eq_false he] at e1
      have HX := Lib.hid (show X = (num? (bl S)).isSome by
        rw [← hX]
        cases num? (bl S) <;> simp [he])
      clear hs hw h0 he hX
      generalize (num? (bl S)).isSome = c at *
      cases c
      all_goals
        go_enter Tryz.func58, Tryz.ntmps58
        go_wp2_with (first
          | (go_at_call 113; ((with_reducible refine (BI _).mono ?_); rintro e wn ⟨rfl, rfl⟩))
          | (go_at_call 23; ((refine (VA _ b.out).mono ?_); rintro e wn ⟨rfl, hb⟩; replace b := Lib.hid (btrans b.out hb); clear hb)))
        go_ret
        exact ⟨by rw [HX.out]; rfl, b.out⟩
  · have HX := Lib.hid (show X = false by rw [← hX]; exact if_pos (.inl ⟨rfl, h5⟩))
    clear hs hw h0 hX
    go_enter Tryz.func58, Tryz.ntmps58
    go_wp2_with (first
      | (go_at_call 113; ((with_reducible refine (BI _).mono ?_); rintro e wn ⟨rfl, rfl⟩))
      | (go_at_call 23; ((refine (VA _ b.out).mono ?_); rintro e wn ⟨rfl, hb⟩; replace b := Lib.hid (btrans b.out hb); clear hb)))
    go_ret
    exact ⟨by rw [HX.out]; rfl, b.out⟩

set_option maxRecDepth 100000 in
set_option maxHeartbeats 3200000 in
theorem qFits_8 (S : ByteArray) (hs : S.size ≤ 9223372036854775807) (w : World) (hw : Wf w) :
    Calls Tryz.prog 58 #[.int .i64 1, .string S] w fun e w' => e = .returned (.bool (qfits 1 (bl S))) ∧ Below w.heap.size w w' := by
  have BI := fun w' => bits_any 1 w'
  rw [show bitsOf 1 = 8 by decide] at BI
  have VA := fun w' (hb : Below w.heap.size w w') => qValid_any S hs w' (hw.up hb)
  have b := Lib.hid (Below.refl w.heap.size w)
  have e1 := emptyS S
  obtain ⟨X, hX⟩ : ∃ X, qfits 1 (bl S) = X := ⟨_, rfl⟩
  rw [hX]
  unfold qfits at hX
  rw [show bitsOf 1 = 8 by decide] at hX
  by_cases he : bl S = []
  · rw [decide_eq_true he] at e1
    have HX := Lib.hid (show X = true by rw [← hX, he]; rfl)
    clear hs hw he hX
    go_enter Tryz.func58, Tryz.ntmps58
    go_wp2_with (first
      | (go_at_call 113; ((with_reducible refine (BI _).mono ?_); rintro e wn ⟨rfl, rfl⟩))
      | (go_at_call 23; ((refine (VA _ b.out).mono ?_); rintro e wn ⟨rfl, hb⟩; replace b := Lib.hid (btrans b.out hb); clear hb)))
    go_ret
    exact ⟨by rw [HX.out]; rfl, b.out⟩
  · rw [decide_eq_false he] at e1
    cases hn : num? (bl S) with
    | none =>
      rw [hn] at VA hX
      have HX := Lib.hid (show X = false by rw [← hX]; exact if_pos (.inr ⟨he, rfl⟩))
      clear hs hw he hX hn
      go_enter Tryz.func58, Tryz.ntmps58
      go_wp2_with (first
        | (go_at_call 113; ((with_reducible refine (BI _).mono ?_); rintro e wn ⟨rfl, rfl⟩))
        | (go_at_call 23; ((refine (VA _ b.out).mono ?_); rintro e wn ⟨rfl, hb⟩; replace b := Lib.hid (btrans b.out hb); clear hb)))
      go_ret
      exact ⟨by rw [HX.out]; rfl, b.out⟩
    | some q =>
      obtain ⟨ht, hsh⟩ := num_iff.1 hn
      have hlen := short_len hsh
      rw [ht, bl_len] at hlen
      have PI := fun w' (hb : Below w.heap.size w w') => parseint8_any S q ht (by omega) w' (hw.up hb)
      rw [hn] at VA hX
      rw [if_neg (fun h => h.elim (fun g => absurd g.1 (by decide)) (fun g => nomatch g.2)), if_neg (fun h => h.elim he (fun g => absurd g (by decide)))] at hX
      by_cases hc : q.den = 1 ∧ -((2 ^ (8 - 1) : Nat) : Int) ≤ q.num ∧ q.num < ((2 ^ (8 - 1) : Nat) : Int)
      · have HX := Lib.hid (show X = true by rw [← hX]; exact decide_eq_true hc)
        have PI := fun w' hb => (PI w' hb).mono fun e w2 h => (show ∃ v, e = .returned (.tuple #[.int .i64 v, .nilIface]) ∧ Below w'.heap.size w' w2 from by
          obtain ⟨v, ev, rfl, h3, h4⟩ := h
          rw [if_pos hc] at h3
          subst h3
          exact ⟨v, rfl, h4⟩)
        clear hs hw he hX hn ht hsh hlen hc
        go_enter Tryz.func58, Tryz.ntmps58
        go_wp2_with (first
          | (go_at_call 113; ((with_reducible refine (BI _).mono ?_); rintro e wn ⟨rfl, rfl⟩))
          | (go_at_call 23; ((refine (VA _ b.out).mono ?_); rintro e wn ⟨rfl, hb⟩; replace b := Lib.hid (btrans b.out hb); clear hb))
          | (go_at_call 114; ((with_reducible refine (PI _ b.out).mono ?_); rintro e wn ⟨v, rfl, hb⟩; replace b := Lib.hid (btrans b.out hb); clear hb)))
        go_ret
        exact ⟨by rw [HX.out]; rfl, b.out⟩
      · have HX := Lib.hid (show X = false by rw [← hX]; exact decide_eq_false hc)
        have PI := fun w' hb => (PI w' hb).mono fun e w2 h => (show ∃ v t p, e = .returned (.tuple #[.int .i64 v, .iface t p]) ∧ Below w'.heap.size w' w2 from by
          obtain ⟨v, ev, rfl, h3, h4⟩ := h
          rw [if_neg hc] at h3
          obtain ⟨t, p, rfl⟩ := h3
          exact ⟨v, t, p, rfl, h4⟩)
        clear hs hw he hX hn ht hsh hlen hc
        go_enter Tryz.func58, Tryz.ntmps58
        go_wp2_with (first
          | (go_at_call 113; ((with_reducible refine (BI _).mono ?_); rintro e wn ⟨rfl, rfl⟩))
          | (go_at_call 23; ((refine (VA _ b.out).mono ?_); rintro e wn ⟨rfl, hb⟩; replace b := Lib.hid (btrans b.out hb); clear hb))
          | (go_at_call 114; ((with_reducible refine (PI _ b.out).mono ?_); rintro e wn ⟨v, t, p, rfl, hb⟩; replace b := Lib.hid (btrans b.out hb); clear hb)))
        go_ret
        exact ⟨by rw [HX.out]; rfl, b.out⟩

set_option maxRecDepth 100000 in
set_option maxHeartbeats 3200000 in
theorem qFits_16 (S : ByteArray) (hs : S.size ≤ 9223372036854775807) (w : World) (hw : Wf w) :
    Calls Tryz.prog 58 #[.int .i64 2, .string S] w fun e w' => e = .returned (.bool (qfits 2 (bl S))) ∧ Below w.heap.size w w' := by
  have BI := fun w' => bits_any 2 w'
  rw [show bitsOf 2 = 16 by decide] at BI
  have VA := fun w' (hb : Below w.heap.size w w') => qValid_any S hs w' (hw.up hb)
  have b := Lib.hid (Below.refl w.heap.size w)
  have e1 := emptyS S
  obtain ⟨X, hX⟩ : ∃ X, qfits 2 (bl S) = X := ⟨_, rfl⟩
  rw [hX]
  unfold qfits at hX
  rw [show bitsOf 2 = 16 by decide] at hX
  by_cases he : bl S = []
  · rw [decide_eq_true he] at e1
    have HX := Lib.hid (show X = true by rw [← hX, he]; rfl)
    clear hs hw he hX
    go_enter Tryz.func58, Tryz.ntmps58
    go_wp2_with (first
      | (go_at_call 113; ((with_reducible refine (BI _).mono ?_); rintro e wn ⟨rfl, rfl⟩))
      | (go_at_call 23; ((refine (VA _ b.out).mono ?_); rintro e wn ⟨rfl, hb⟩; replace b := Lib.hid (btrans b.out hb); clear hb)))
    go_ret
    exact ⟨by rw [HX.out]; rfl, b.out⟩
  · rw [decide_eq_false he] at e1
    cases hn : num? (bl S) with
    | none =>
      rw [hn] at VA hX
      have HX := Lib.hid (show X = false by rw [← hX]; exact if_pos (.inr ⟨he, rfl⟩))
      clear hs hw he hX hn
      go_enter Tryz.func58, Tryz.ntmps58
      go_wp2_with (first
        | (go_at_call 113; ((with_reducible refine (BI _).mono ?_); rintro e wn ⟨rfl, rfl⟩))
        | (go_at_call 23; ((refine (VA _ b.out).mono ?_); rintro e wn ⟨rfl, hb⟩; replace b := Lib.hid (btrans b.out hb); clear hb)))
      go_ret
      exact ⟨by rw [HX.out]; rfl, b.out⟩
    | some q =>
      obtain ⟨ht, hsh⟩ := num_iff.1 hn
      have hlen := short_len hsh
      rw [ht, bl_len] at hlen
      have PI := fun w' (hb : Below w.heap.size w w') => parseint16_any S q ht (by omega) w' (hw.up hb)
      rw [hn] at VA hX
      rw [if_neg (fun h => h.elim (fun g => absurd g.1 (by decide)) (fun g => nomatch g.2)), if_neg (fun h => h.elim he (fun g => absurd g (by decide)))] at hX
      by_cases hc : q.den = 1 ∧ -((2 ^ (16 - 1) : Nat) : Int) ≤ q.num ∧ q.num < ((2 ^ (16 - 1) : Nat) : Int)
      · have HX := Lib.hid (show X = true by rw [← hX]; exact decide_eq_true hc)
        have PI := fun w' hb => (PI w' hb).mono fun e w2 h => (show ∃ v, e = .returned (.tuple #[.int .i64 v, .nilIface]) ∧ Below w'.heap.size w' w2 from by
          obtain ⟨v, ev, rfl, h3, h4⟩ := h
          rw [if_pos hc] at h3
          subst h3
          exact ⟨v, rfl, h4⟩)
        clear hs hw he hX hn ht hsh hlen hc
        go_enter Tryz.func58, Tryz.ntmps58
        go_wp2_with (first
          | (go_at_call 113; ((with_reducible refine (BI _).mono ?_); rintro e wn ⟨rfl, rfl⟩))
          | (go_at_call 23; ((refine (VA _ b.out).mono ?_); rintro e wn ⟨rfl, hb⟩; replace b := Lib.hid (btrans b.out hb); clear hb))
          | (go_at_call 114; ((with_reducible refine (PI _ b.out).mono ?_); rintro e wn ⟨v, rfl, hb⟩; replace b := Lib.hid (btrans b.out hb); clear hb)))
        go_ret
        exact ⟨by rw [HX.out]; rfl, b.out⟩
      · have HX := Lib.hid (show X = false by rw [← hX]; exact decide_eq_false hc)
        have PI := fun w' hb => (PI w' hb).mono fun e w2 h => (show ∃ v t p, e = .returned (.tuple #[.int .i64 v, .iface t p]) ∧ Below w'.heap.size w' w2 from by
          obtain ⟨v, ev, rfl, h3, h4⟩ := h
          rw [if_neg hc] at h3
          obtain ⟨t, p, rfl⟩ := h3
          exact ⟨v, t, p, rfl, h4⟩)
        clear hs hw he hX hn ht hsh hlen hc
        go_enter Tryz.func58, Tryz.ntmps58
        go_wp2_with (first
          | (go_at_call 113; ((with_reducible refine (BI _).mono ?_); rintro e wn ⟨rfl, rfl⟩))
          | (go_at_call 23; ((refine (VA _ b.out).mono ?_); rintro e wn ⟨rfl, hb⟩; replace b := Lib.hid (btrans b.out hb); clear hb))
          | (go_at_call 114; ((with_reducible refine (PI _ b.out).mono ?_); rintro e wn ⟨v, t, p, rfl, hb⟩; replace b := Lib.hid (btrans b.out hb); clear hb)))
        go_ret
        exact ⟨by rw [HX.out]; rfl, b.out⟩

set_option maxRecDepth 100000 in
set_option maxHeartbeats 3200000 in
theorem qFits_32 (S : ByteArray) (hs : S.size ≤ 9223372036854775807) (w : World) (hw : Wf w) :
    Calls Tryz.prog 58 #[.int .i64 3, .string S] w fun e w' => e = .returned (.bool (qfits 3 (bl S))) ∧ Below w.heap.size w w' := by
  have BI := fun w' => bits_any 3 w'
  rw [show bitsOf 3 = 32 by decide] at BI
  have VA := fun w' (hb : Below w.heap.size w w') => qValid_any S hs w' (hw.up hb)
  have b := Lib.hid (Below.refl w.heap.size w)
  have e1 := emptyS S
  obtain ⟨X, hX⟩ : ∃ X, qfits 3 (bl S) = X := ⟨_, rfl⟩
  rw [hX]
  unfold qfits at hX
  rw [show bitsOf 3 = 32 by decide] at hX
  by_cases he : bl S = []
  · rw [decide_eq_true he] at e1
    have HX := Lib.hid (show X = true by rw [← hX, he]; rfl)
    clear hs hw he hX
    go_enter Tryz.func58, Tryz.ntmps58
    go_wp2_with (first
      | (go_at_call 113; ((with_reducible refine (BI _).mono ?_); rintro e wn ⟨rfl, rfl⟩))
      | (go_at_call 23; ((refine (VA _ b.out).mono ?_); rintro e wn ⟨rfl, hb⟩; replace b := Lib.hid (btrans b.out hb); clear hb)))
    go_ret
    exact ⟨by rw [HX.out]; rfl, b.out⟩
  · rw [decide_eq_false he] at e1
    cases hn : num? (bl S) with
    | none =>
      rw [hn] at VA hX
      have HX := Lib.hid (show X = false by rw [← hX]; exact if_pos (.inr ⟨he, rfl⟩))
      clear hs hw he hX hn
      go_enter Tryz.func58, Tryz.ntmps58
      go_wp2_with (first
        | (go_at_call 113; ((with_reducible refine (BI _).mono ?_); rintro e wn ⟨rfl, rfl⟩))
        | (go_at_call 23; ((refine (VA _ b.out).mono ?_); rintro e wn ⟨rfl, hb⟩; replace b := Lib.hid (btrans b.out hb); clear hb)))
      go_ret
      exact ⟨by rw [HX.out]; rfl, b.out⟩
    | some q =>
      obtain ⟨ht, hsh⟩ := num_iff.1 hn
      have hlen := short_len hsh
      rw [ht, bl_len] at hlen
      have PI := fun w' (hb : Below w.heap.size w w') => parseint32_any S q ht (by omega) w' (hw.up hb)
      rw [hn] at VA hX
      rw [if_neg (fun h => h.elim (fun g => absurd g.1 (by decide)) (fun g => nomatch g.2)), if_neg (fun h => h.elim he (fun g => absurd g (by decide)))] at hX
      by_cases hc : q.den = 1 ∧ -((2 ^ (32 - 1) : Nat) : Int) ≤ q.num ∧ q.num < ((2 ^ (32 - 1) : Nat) : Int)
      · have HX := Lib.hid (show X = true by rw [← hX]; exact decide_eq_true hc)
        have PI := fun w' hb => (PI w' hb).mono fun e w2 h => (show ∃ v, e = .returned (.tuple #[.int .i64 v, .nilIface]) ∧ Below w'.heap.size w' w2 from by
          obtain ⟨v, ev, rfl, h3, h4⟩ := h
          rw [if_pos hc] at h3
          subst h3
          exact ⟨v, rfl, h4⟩)
        clear hs hw he hX hn ht hsh hlen hc
        go_enter Tryz.func58, Tryz.ntmps58
        go_wp2_with (first
          | (go_at_call 113; ((with_reducible refine (BI _).mono ?_); rintro e wn ⟨rfl, rfl⟩))
          | (go_at_call 23; ((refine (VA _ b.out).mono ?_); rintro e wn ⟨rfl, hb⟩; replace b := Lib.hid (btrans b.out hb); clear hb))
          | (go_at_call 114; ((with_reducible refine (PI _ b.out).mono ?_); rintro e wn ⟨v, rfl, hb⟩; replace b := Lib.hid (btrans b.out hb); clear hb)))
        go_ret
        exact ⟨by rw [HX.out]; rfl, b.out⟩
      · have HX := Lib.hid (show X = false by rw [← hX]; exact decide_eq_false hc)
        have PI := fun w' hb => (PI w' hb).mono fun e w2 h => (show ∃ v t p, e = .returned (.tuple #[.int .i64 v, .iface t p]) ∧ Below w'.heap.size w' w2 from by
          obtain ⟨v, ev, rfl, h3, h4⟩ := h
          rw [if_neg hc] at h3
          obtain ⟨t, p, rfl⟩ := h3
          exact ⟨v, t, p, rfl, h4⟩)
        clear hs hw he hX hn ht hsh hlen hc
        go_enter Tryz.func58, Tryz.ntmps58
        go_wp2_with (first
          | (go_at_call 113; ((with_reducible refine (BI _).mono ?_); rintro e wn ⟨rfl, rfl⟩))
          | (go_at_call 23; ((refine (VA _ b.out).mono ?_); rintro e wn ⟨rfl, hb⟩; replace b := Lib.hid (btrans b.out hb); clear hb))
          | (go_at_call 114; ((with_reducible refine (PI _ b.out).mono ?_); rintro e wn ⟨v, t, p, rfl, hb⟩; replace b := Lib.hid (btrans b.out hb); clear hb)))
        go_ret
        exact ⟨by rw [HX.out]; rfl, b.out⟩

set_option maxRecDepth 100000 in
set_option maxHeartbeats 3200000 in
theorem qFits_64 (S : ByteArray) (hs : S.size ≤ 9223372036854775807) (w : World) (hw : Wf w) :
    Calls Tryz.prog 58 #[.int .i64 4, .string S] w fun e w' => e = .returned (.bool (qfits 4 (bl S))) ∧ Below w.heap.size w w' := by
  have BI := fun w' => bits_any 4 w'
  rw [show bitsOf 4 = 64 by decide] at BI
  have VA := fun w' (hb : Below w.heap.size w w') => qValid_any S hs w' (hw.up hb)
  have b := Lib.hid (Below.refl w.heap.size w)
  have e1 := emptyS S
  obtain ⟨X, hX⟩ : ∃ X, qfits 4 (bl S) = X := ⟨_, rfl⟩
  rw [hX]
  unfold qfits at hX
  rw [show bitsOf 4 = 64 by decide] at hX
  by_cases he : bl S = []
  · rw [decide_eq_true he] at e1
    have HX := Lib.hid (show X = true by rw [← hX, he]; rfl)
    clear hs hw he hX
    go_enter Tryz.func58, Tryz.ntmps58
    go_wp2_with (first
      | (go_at_call 113; ((with_reducible refine (BI _).mono ?_); rintro e wn ⟨rfl, rfl⟩))
      | (go_at_call 23; ((refine (VA _ b.out).mono ?_); rintro e wn ⟨rfl, hb⟩; replace b := Lib.hid (btrans b.out hb); clear hb)))
    go_ret
    exact ⟨by rw [HX.out]; rfl, b.out⟩
  · rw [decide_eq_false he] at e1
    cases hn : num? (bl S) with
    | none =>
      rw [hn] at VA hX
      have HX := Lib.hid (show X = false by rw [← hX]; exact if_pos (.inr ⟨he, rfl⟩))
      clear hs hw he hX hn
      go_enter Tryz.func58, Tryz.ntmps58
      go_wp2_with (first
        | (go_at_call 113; ((with_reducible refine (BI _).mono ?_); rintro e wn ⟨rfl, rfl⟩))
        | (go_at_call 23; ((refine (VA _ b.out).mono ?_); rintro e wn ⟨rfl, hb⟩; replace b := Lib.hid (btrans b.out hb); clear hb)))
      go_ret
      exact ⟨by rw [HX.out]; rfl, b.out⟩
    | some q =>
      obtain ⟨ht, hsh⟩ := num_iff.1 hn
      have hlen := short_len hsh
      rw [ht, bl_len] at hlen
      have PI := fun w' (hb : Below w.heap.size w w') => parseint64_any S q ht (by omega) w' (hw.up hb)
      rw [hn] at VA hX
      rw [if_neg (fun h => h.elim (fun g => absurd g.1 (by decide)) (fun g => nomatch g.2)), if_neg (fun h => h.elim he (fun g => absurd g (by decide)))] at hX
      by_cases hc : q.den = 1 ∧ -((2 ^ (64 - 1) : Nat) : Int) ≤ q.num ∧ q.num < ((2 ^ (64 - 1) : Nat) : Int)
      · have HX := Lib.hid (show X = true by rw [← hX]; exact decide_eq_true hc)
        have PI := fun w' hb => (PI w' hb).mono fun e w2 h => (show ∃ v, e = .returned (.tuple #[.int .i64 v, .nilIface]) ∧ Below w'.heap.size w' w2 from by
          obtain ⟨v, ev, rfl, h3, h4⟩ := h
          rw [if_pos hc] at h3
          subst h3
          exact ⟨v, rfl, h4⟩)
        clear hs hw he hX hn ht hsh hlen hc
        go_enter Tryz.func58, Tryz.ntmps58
        go_wp2_with (first
          | (go_at_call 113; ((with_reducible refine (BI _).mono ?_); rintro e wn ⟨rfl, rfl⟩))
          | (go_at_call 23; ((refine (VA _ b.out).mono ?_); rintro e wn ⟨rfl, hb⟩; replace b := Lib.hid (btrans b.out hb); clear hb))
          | (go_at_call 114; ((with_reducible refine (PI _ b.out).mono ?_); rintro e wn ⟨v, rfl, hb⟩; replace b := Lib.hid (btrans b.out hb); clear hb)))
        go_ret
        exact ⟨by rw [HX.out]; rfl, b.out⟩
      · have HX := Lib.hid (show X = false by rw [← hX]; exact decide_eq_false hc)
        have PI := fun w' hb => (PI w' hb).mono fun e w2 h => (show ∃ v t p, e = .returned (.tuple #[.int .i64 v, .iface t p]) ∧ Below w'.heap.size w' w2 from by
          obtain ⟨v, ev, rfl, h3, h4⟩ := h
          rw [if_neg hc] at h3
          obtain ⟨t, p, rfl⟩ := h3
          exact ⟨v, t, p, rfl, h4⟩)
        clear hs hw he hX hn ht hsh hlen hc
        go_enter Tryz.func58, Tryz.ntmps58
        go_wp2_with (first
          | (go_at_call 113; ((with_reducible refine (BI _).mono ?_); rintro e wn ⟨rfl, rfl⟩))
          | (go_at_call 23; ((refine (VA _ b.out).mono ?_); rintro e wn ⟨rfl, hb⟩; replace b := Lib.hid (btrans b.out hb); clear hb))
          | (go_at_call 114; ((with_reducible refine (PI _ b.out).mono ?_); rintro e wn ⟨v, t, p, rfl, hb⟩; replace b := Lib.hid (btrans b.out hb); clear hb)))
        go_ret
        exact ⟨by rw [HX.out]; rfl, b.out⟩

theorem qFits_any (k : Int) (S : ByteArray) (hs : S.size ≤ 9223372036854775807) (w : World) (hw : Wf w) :
    Calls Tryz.prog 58 #[.int .i64 k, .string S] w fun e w' => e = .returned (.bool (qfits k (bl S))) ∧ Below w.heap.size w w' := by
  by_cases h1 : k = 1
  · subst h1; exact qFits_8 S hs w hw
  · by_cases h2 : k = 2
    · subst h2; exact qFits_16 S hs w hw
    · by_cases h3 : k = 3
      · subst h3; exact qFits_32 S hs w hw
      · by_cases h4 : k = 4
        · subst h4; exact qFits_64 S hs w hw
        · exact qFits_none k S hs w hw (by unfold bitsOf; rw [if_neg h1, if_neg h2, if_neg h3, if_neg h4])

end Go.Proofs.YtinoipjblkidfaaGreatDoor
