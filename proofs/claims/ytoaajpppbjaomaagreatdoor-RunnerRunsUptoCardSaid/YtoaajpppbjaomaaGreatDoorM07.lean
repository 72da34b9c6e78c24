/- Texts merged by program: parts Shelf, Lb, Kc, Lc, Ld, Le, Lf, Lg. -/
import Derived.Test.YtoaajpppbjaomaaGreatDoorM06
import Derived.Shelf.Strconv.Itoa0
import Derived.Shelf.Strconv.Itoa1
import Derived.Shelf.LaysM
import Derived.Shelf.Strconv.Itoa2
import Derived.Shelf.Strconv.Itoa3
import Derived.Shelf.Strconv.Itoa4
import Derived.Shelf.Strconv.ParseIntEmpty
import Derived.Shelf.Strconv.Clone
import Derived.Shelf.Strconv.SyntaxError
import Derived.Shelf.LaysC
import Derived.Shelf.Strconv.ToError
import Derived.Shelf.Strconv.Lower
import Derived.Shelf.Strconv.ParseUint10
import Derived.Shelf.Strconv.ParseUint10Empty
import Derived.Shelf.Strconv.ParseUint10Any
import Derived.Shelf.Strconv.ParseInt10
import Derived.Shelf.Strconv.RangeError
import Derived.Shelf.Strconv.ToErrorRange
import Derived.Shelf.Strconv.ParseUintEmpty
import Derived.Shelf.Strconv.ParseUint10b64
import Derived.Shelf.Strconv.ParseUint10b32
import Derived.Shelf.Strconv.ParseUint10b16
import Derived.Shelf.Strconv.ParseUint10b8
import Derived.Shelf.Strconv.ParseUint10At
import Derived.Shelf.Strconv.ParseInt10At64
import Derived.Shelf.Strconv.ParseInt10At32
import Derived.Shelf.Strconv.ParseInt10At16
import Derived.Shelf.Strconv.ParseInt10At8
import Derived.Shelf.Strconv.ParseInt10All
import Derived.Shelf.Strconv.ParseIntPublic10
import Derived.Shelf.Strconv.ErrVarParseInt
import Derived.Shelf.Unicode.Decode
import Derived.Shelf.Unicode.DecodeSlow
import Derived.Shelf.Unicode.DecodeAny
import Derived.Shelf.Slices.Turned
import Derived.Test.YtoaajpppbjaomaaGreatDoorProg
import Derived.Test.YtoaajpppbjaomaaGreatDoorCards
import Derived.Test.YtoaajpppbjaomaaGreatDoorTie
import Derived.ProofKit
import Derived.OpenShut
import Derived.Carry
import Derived.LaidMore
import Derived.Deep.DeepHandedRow
import Derived.Deep.DeepWitnessRowRef
import Derived.Stop.LaidErr
import Derived.Stop.Joined
import Derived.Deep.CutRange
import Derived.OwnWalk
import Derived.Deep.RegionWith
/-
  DERIVED: THE SHELF's CONTRACTS AT THIS DUMP, IN PLAIN WORDS (tools/lay-plain.mjs out of 'TryzShelf.lean', which tools/lay-shelf.mjs wrote): THE SAME DECLARATIONS UNDER THE SAME NAMES: 'import', 'namespace', 'open', 'def', 'theorem' AND NOTHING ELSE: no command of the shelf's: FOR A HAND-IN. Each laying: the table of numbers ('.._ren') and one theorem, a field a fact of the dump's own or the kernel's comparison; each contract: ONE APPLICATION.
-/
namespace Go.Proofs
open Go.Shelf
def Tryz.lays173_ren : Go.Shelf.Ren := ⟨fun | 173 => 94 | 246 => 112 | 283 => 136 | 284 => 137 | 285 => 138 | 286 => 139 | 129 => 148 | 317 => 147 | 318 => 149 | 319 => 150 | 320 => 151 | 337 => 153 | 338 => 154 | n => n, fun | 2 => 2 | 3 => 3 | 9 => 9 | 4 => 4 | 171 => 183 | 0 => 0 | 53 => 162 | 37 => 186 | 5 => 5 | 173 => 187 | 212 => 197 | 51 => 198 | 20 => 20 | 213 => 199 | 46 => 167 | 232 => 206 | 233 => 207 | n => n, fun | 17 => 4 | 18 => 5 | 19 => 6 | n => n⟩
theorem Tryz.lays173 : Go.Proofs.Lays.n173 Tryz.prog Tryz.lays173_ren := {
  mixed := by kernel_rfl
  f129 := Tryz.func148.trans (congrArg some (by kernel_rfl))
  f173 := Tryz.func94.trans (congrArg some (by kernel_rfl))
  f246 := Tryz.func112.trans (congrArg some (by kernel_rfl))
  f283 := Tryz.func136.trans (congrArg some (by kernel_rfl))
  f284 := Tryz.func137.trans (congrArg some (by kernel_rfl))
  f285 := Tryz.func138.trans (congrArg some (by kernel_rfl))
  f286 := Tryz.func139.trans (congrArg some (by kernel_rfl))
  f317 := Tryz.func147.trans (congrArg some (by kernel_rfl))
  f318 := Tryz.func149.trans (congrArg some (by kernel_rfl))
  f319 := Tryz.func150.trans (congrArg some (by kernel_rfl))
  f320 := Tryz.func151.trans (congrArg some (by kernel_rfl))
  f337 := Tryz.func153.trans (congrArg some (by kernel_rfl))
  f338 := Tryz.func154.trans (congrArg some (by kernel_rfl))
  t0 := Tryz.underlying0
  a0 := Tryz.isAgg0
  z0 := Tryz.sizeOf0
  v0 := Tryz.zeroValue0
  t2 := Tryz.underlying2
  a2 := Tryz.isAgg2
  z2 := Tryz.sizeOf2
  v2 := Tryz.zeroValue2
  t3 := Tryz.underlying3
  a3 := Tryz.isAgg3
  z3 := Tryz.sizeOf3
  v3 := Tryz.zeroValue3
  t4 := Tryz.underlying4
  a4 := Tryz.isAgg4
  z4 := Tryz.sizeOf4
  v4 := Tryz.zeroValue4
  t5 := Tryz.underlying5
  a5 := Tryz.isAgg5
  z5 := Tryz.sizeOf5
  v5 := Tryz.zeroValue5
  t9 := Tryz.underlying9
  a9 := Tryz.isAgg9
  z9 := Tryz.sizeOf9
  v9 := Tryz.zeroValue9
  t20 := Tryz.underlying20
  a20 := Tryz.isAgg20
  z20 := Tryz.sizeOf20
  v20 := Tryz.zeroValue20
  t37 := Tryz.underlying186
  a37 := Tryz.isAgg186
  z37 := Tryz.sizeOf186
  v37 := Tryz.zeroValue186
  t46 := Tryz.underlying167
  a46 := Tryz.isAgg167
  z46 := Tryz.sizeOf167
  v46 := Tryz.zeroValue167
  t51 := Tryz.underlying198
  a51 := Tryz.isAgg198
  z51 := Tryz.sizeOf198
  v51 := Tryz.zeroValue198
  t53 := Tryz.underlying162
  a53 := Tryz.isAgg162
  z53 := Tryz.sizeOf162
  v53 := Tryz.zeroValue162
  t171 := Tryz.underlying183
  a171 := Tryz.isAgg183
  z171 := Tryz.sizeOf183
  v171 := Tryz.zeroValue183
  t173 := Tryz.underlying187
  a173 := Tryz.isAgg187
  z173 := Tryz.sizeOf187
  v173 := Tryz.zeroValue187
  t212 := Tryz.underlying197
  a212 := Tryz.isAgg197
  z212 := Tryz.sizeOf197
  v212 := Tryz.zeroValue197
  t213 := Tryz.underlying199
  a213 := Tryz.isAgg199
  z213 := Tryz.sizeOf199
  t232 := Tryz.underlying206
  a232 := Tryz.isAgg206
  z232 := Tryz.sizeOf206
  v232 := Tryz.zeroValue206
  t233 := Tryz.underlying207
  a233 := Tryz.isAgg207
  z233 := Tryz.sizeOf207
  v233 := Tryz.zeroValue207
  g17 := by kernel_rfl
  g18 := by kernel_rfl
  g19 := by kernel_rfl }
open Go.RowKit Go.Sort Go.Lib in
/-- THE ROAD WITHOUT THE TABLE: 0 <= i < 100. (LAID: no walk: one application.) -/
theorem Tryz.strconv_FormatInt_10_small (i : Nat) (hi : i < 100) (w : World) :
    Calls Tryz.prog 94 #[.int .i64 i, .int .i64 10] w fun e w' => e = .returned (.string ⟨(Lib.decDigits i).toArray⟩) ∧ w' = w := Any.strconv_FormatInt_10_small Tryz.lays173 i hi w
def Tryz.laysC174_ren : Go.Shelf.Ren := ⟨fun | 174 => 93 | 247 => 110 | 245 => 111 | 287 => 131 | 279 => 132 | 280 => 133 | 281 => 134 | 282 => 135 | 321 => 142 | 322 => 143 | 316 => 144 | 171 => 146 | 205 => 145 | 243 => 152 | 246 => 112 | 283 => 136 | 284 => 137 | 285 => 138 | 286 => 139 | 129 => 148 | 317 => 147 | 318 => 149 | 319 => 150 | 320 => 151 | 337 => 153 | 338 => 154 | n => n, fun | 9 => 9 | 3 => 3 | 2 => 2 | 75 => 148 | 85 => 149 | 4 => 4 | 167 => 176 | 5 => 5 | 53 => 162 | 175 => 177 | 46 => 167 | 168 => 179 | 37 => 186 | 0 => 0 | 210 => 194 | 21 => 21 | 127 => 201 | 145 => 204 | 143 => 202 | 171 => 183 | 173 => 187 | 212 => 197 | 51 => 198 | 20 => 20 | 213 => 199 | 232 => 206 | 233 => 207 | 80 => 113 | n => n, fun | 15 => 2 | 16 => 3 | 17 => 4 | 18 => 5 | 19 => 6 | n => n⟩
theorem Tryz.laysC174 : Go.Proofs.LaysC.n174 Tryz.prog Tryz.laysC174_ren := {
  mixed := by kernel_rfl
  f129 := Tryz.func148.trans (congrArg some (by kernel_rfl))
  f171 := Tryz.func146.trans (congrArg some (by kernel_rfl))
  f174 := Tryz.func93.trans (congrArg some (by kernel_rfl))
  f205 := Tryz.func145.trans (congrArg some (by kernel_rfl))
  f243 := Tryz.func152.trans (congrArg some (by kernel_rfl))
  f245 := Tryz.func111.trans (congrArg some (by kernel_rfl))
  f246 := Tryz.func112.trans (congrArg some (by kernel_rfl))
  f247 := Tryz.func110.trans (congrArg some (by kernel_rfl))
  f279 := Tryz.func132.trans (congrArg some (by kernel_rfl))
  f280 := Tryz.func133.trans (congrArg some (by kernel_rfl))
  f281 := Tryz.func134.trans (congrArg some (by kernel_rfl))
  f282 := Tryz.func135.trans (congrArg some (by kernel_rfl))
  f283 := Tryz.func136.trans (congrArg some (by kernel_rfl))
  f284 := Tryz.func137.trans (congrArg some (by kernel_rfl))
  f285 := Tryz.func138.trans (congrArg some (by kernel_rfl))
  f286 := Tryz.func139.trans (congrArg some (by kernel_rfl))
  f287 := Tryz.func131.trans (congrArg some (by kernel_rfl))
  f316 := Tryz.func144.trans (congrArg some (by kernel_rfl))
  f317 := Tryz.func147.trans (congrArg some (by kernel_rfl))
  f318 := Tryz.func149.trans (congrArg some (by kernel_rfl))
  f319 := Tryz.func150.trans (congrArg some (by kernel_rfl))
  f320 := Tryz.func151.trans (congrArg some (by kernel_rfl))
  f321 := Tryz.func142.trans (congrArg some (by kernel_rfl))
  f322 := Tryz.func143.trans (congrArg some (by kernel_rfl))
  f337 := Tryz.func153.trans (congrArg some (by kernel_rfl))
  f338 := Tryz.func154.trans (congrArg some (by kernel_rfl))
  t0 := Tryz.underlying0
  a0 := Tryz.isAgg0
  z0 := Tryz.sizeOf0
  v0 := Tryz.zeroValue0
  t2 := Tryz.underlying2
  a2 := Tryz.isAgg2
  z2 := Tryz.sizeOf2
  v2 := Tryz.zeroValue2
  t3 := Tryz.underlying3
  a3 := Tryz.isAgg3
  z3 := Tryz.sizeOf3
  v3 := Tryz.zeroValue3
  t4 := Tryz.underlying4
  a4 := Tryz.isAgg4
  z4 := Tryz.sizeOf4
  v4 := Tryz.zeroValue4
  t5 := Tryz.underlying5
  a5 := Tryz.isAgg5
  z5 := Tryz.sizeOf5
  v5 := Tryz.zeroValue5
  t9 := Tryz.underlying9
  a9 := Tryz.isAgg9
  z9 := Tryz.sizeOf9
  v9 := Tryz.zeroValue9
  t20 := Tryz.underlying20
  a20 := Tryz.isAgg20
  z20 := Tryz.sizeOf20
  v20 := Tryz.zeroValue20
  t21 := Tryz.underlying21
  a21 := Tryz.isAgg21
  z21 := Tryz.sizeOf21
  v21 := Tryz.zeroValue21
  t37 := Tryz.underlying186
  a37 := Tryz.isAgg186
  z37 := Tryz.sizeOf186
  v37 := Tryz.zeroValue186
  t46 := Tryz.underlying167
  a46 := Tryz.isAgg167
  z46 := Tryz.sizeOf167
  v46 := Tryz.zeroValue167
  t51 := Tryz.underlying198
  a51 := Tryz.isAgg198
  z51 := Tryz.sizeOf198
  v51 := Tryz.zeroValue198
  t53 := Tryz.underlying162
  a53 := Tryz.isAgg162
  z53 := Tryz.sizeOf162
  v53 := Tryz.zeroValue162
  t75 := Tryz.underlying148
  a75 := Tryz.isAgg148
  z75 := Tryz.sizeOf148
  v75 := Tryz.zeroValue148
  t85 := Tryz.underlying149
  a85 := Tryz.isAgg149
  z85 := Tryz.sizeOf149
  v85 := Tryz.zeroValue149
  t127 := Tryz.underlying201
  a127 := Tryz.isAgg201
  z127 := Tryz.sizeOf201
  v127 := Tryz.zeroValue201
  t143 := Tryz.underlying202
  a143 := Tryz.isAgg202
  z143 := Tryz.sizeOf202
  v143 := Tryz.zeroValue202
  t145 := Tryz.underlying204
  a145 := Tryz.isAgg204
  z145 := Tryz.sizeOf204
  v145 := Tryz.zeroValue204
  t167 := Tryz.underlying176
  a167 := Tryz.isAgg176
  z167 := Tryz.sizeOf176
  v167 := Tryz.zeroValue176
  t168 := Tryz.underlying179
  a168 := Tryz.isAgg179
  z168 := Tryz.sizeOf179
  v168 := Tryz.zeroValue179
  t171 := Tryz.underlying183
  a171 := Tryz.isAgg183
  z171 := Tryz.sizeOf183
  v171 := Tryz.zeroValue183
  t173 := Tryz.underlying187
  a173 := Tryz.isAgg187
  z173 := Tryz.sizeOf187
  v173 := Tryz.zeroValue187
  t175 := Tryz.underlying177
  a175 := Tryz.isAgg177
  z175 := Tryz.sizeOf177
  v175 := Tryz.zeroValue177
  t210 := Tryz.underlying194
  a210 := Tryz.isAgg194
  z210 := Tryz.sizeOf194
  v210 := Tryz.zeroValue194
  t212 := Tryz.underlying197
  a212 := Tryz.isAgg197
  z212 := Tryz.sizeOf197
  v212 := Tryz.zeroValue197
  t213 := Tryz.underlying199
  a213 := Tryz.isAgg199
  z213 := Tryz.sizeOf199
  t232 := Tryz.underlying206
  a232 := Tryz.isAgg206
  z232 := Tryz.sizeOf206
  v232 := Tryz.zeroValue206
  t233 := Tryz.underlying207
  a233 := Tryz.isAgg207
  z233 := Tryz.sizeOf207
  v233 := Tryz.zeroValue207
  g15 := by kernel_rfl
  g16 := by kernel_rfl
  g17 := by kernel_rfl
  g18 := by kernel_rfl
  g19 := by kernel_rfl
  t80 := Tryz.underlying113
  a80 := Tryz.isAgg113
  z80 := Tryz.sizeOf113
  v80 := Tryz.zeroValue113
  i0 := by kernel_rfl
  i2 := by kernel_rfl
  i3 := by kernel_rfl
  i4 := by kernel_rfl
  i5 := by kernel_rfl
  i9 := by kernel_rfl
  i20 := by kernel_rfl
  i21 := by kernel_rfl
  i37 := by kernel_rfl
  i46 := by kernel_rfl
  i51 := by kernel_rfl
  i53 := by kernel_rfl
  i75 := by kernel_rfl
  i80 := by kernel_rfl
  i85 := by kernel_rfl
  i127 := by kernel_rfl
  i143 := by kernel_rfl
  i145 := by kernel_rfl
  i167 := by kernel_rfl
  i168 := by kernel_rfl
  i171 := by kernel_rfl
  i173 := by kernel_rfl
  i175 := by kernel_rfl
  i210 := by kernel_rfl
  i212 := by kernel_rfl
  i232 := by kernel_rfl
  i233 := by kernel_rfl
  m15 := by kernel_rfl
  m16 := by kernel_rfl
  m17 := by kernel_rfl
  m18 := by kernel_rfl
  m19 := by kernel_rfl
  c0 := by kernel_rfl
  c2 := by kernel_rfl
  c3 := by kernel_rfl
  c4 := by kernel_rfl
  c5 := by kernel_rfl
  c9 := by kernel_rfl
  c20 := by kernel_rfl
  c21 := by kernel_rfl
  c37 := by kernel_rfl
  c46 := by kernel_rfl
  c51 := by kernel_rfl
  c53 := by kernel_rfl
  c75 := by kernel_rfl
  c80 := by kernel_rfl
  c85 := by kernel_rfl
  c127 := by kernel_rfl
  c143 := by kernel_rfl
  c145 := by kernel_rfl
  c167 := by kernel_rfl
  c168 := by kernel_rfl
  c171 := by kernel_rfl
  c173 := by kernel_rfl
  c175 := by kernel_rfl
  c210 := by kernel_rfl
  c212 := by kernel_rfl
  c213 := by kernel_rfl
  c232 := by kernel_rfl
  c233 := by kernel_rfl }
open Go.RowKit in
/-- strconv.ParseInt(s, 10, 64), AT EVERY STRING THAT SPELLS AN int64 ('Lib.parseIntB 64 s.data.toList = .ok v'): v, AND NO ERROR. (LAID: no walk: one application.) -/
theorem Tryz.strconv_ParseInt_10_at64_ok (s : ByteArray) (hmax : s.size ≤ 9223372036854775806) (v : Int) (h : Lib.parseIntB 64 s.data.toList = .ok v) (w : World) :
    Calls Tryz.prog 93 #[.string s, .int .i64 10, .int .i64 64] w fun e w' => e = .returned (.tuple #[.int .i64 v, .nilIface]) ∧ (w' = w ∨ ∃ t, w' = Lib.bytesWorld w 5 t) := Any.strconv_ParseInt_10_at64_ok Tryz.laysC174 s hmax v h w
open Go.RowKit in
theorem Tryz.strconv_ParseInt_10_at64_syntax_var (s : ByteArray) (hlim : s.size ≤ 281474976710656) (h : Lib.parseIntB 64 s.data.toList = Lib.parseIntB 64 []) (tp : TypeId) (p : Value) (w : World) (hvar : w.var? Tryz.prog "strconv.ErrSyntax" = some #[.iface tp p]) :
    Calls Tryz.prog 93 #[.string s, .int .i64 10, .int .i64 64] w fun e w' => ∃ N, e = .returned (.tuple #[.int .i64 (0), .iface 179 (.pointer (some ⟨N, 0, none⟩))]) ∧ w.heap.size ≤ N ∧ w'.heap[N]? = some (.cells #[.string ⟨#[80, 97, 114, 115, 101, 73, 110, 116]⟩, .string s, .iface tp p] 194 (0, 0)) ∧ Below w.heap.size w w' := Any.strconv_ParseInt_10_at64_syntax_var Tryz.laysC174 s hlim h tp p w hvar
def Tryz.lays197_ren : Go.Shelf.Ren := ⟨fun | 197 => 72 | 260 => 88 | n => n, fun | 9 => 9 | 21 => 21 | 3 => 3 | 4 => 4 | 5 => 5 | 105 => 132 | 119 => 166 | 0 => 0 | 46 => 167 | 139 => 170 | 138 => 169 | n => n, fun | 3 => 0 | 4 => 1 | n => n⟩
theorem Tryz.lays197 : Go.Proofs.Lays.n197 Tryz.prog Tryz.lays197_ren := {
  mixed := by kernel_rfl
  f197 := Tryz.func72.trans (congrArg some (by kernel_rfl))
  f260 := Tryz.func88.trans (congrArg some (by kernel_rfl))
  t0 := Tryz.underlying0
  a0 := Tryz.isAgg0
  z0 := Tryz.sizeOf0
  v0 := Tryz.zeroValue0
  t3 := Tryz.underlying3
  a3 := Tryz.isAgg3
  z3 := Tryz.sizeOf3
  v3 := Tryz.zeroValue3
  t4 := Tryz.underlying4
  a4 := Tryz.isAgg4
  z4 := Tryz.sizeOf4
  v4 := Tryz.zeroValue4
  t5 := Tryz.underlying5
  a5 := Tryz.isAgg5
  z5 := Tryz.sizeOf5
  v5 := Tryz.zeroValue5
  t9 := Tryz.underlying9
  a9 := Tryz.isAgg9
  z9 := Tryz.sizeOf9
  v9 := Tryz.zeroValue9
  t21 := Tryz.underlying21
  a21 := Tryz.isAgg21
  z21 := Tryz.sizeOf21
  v21 := Tryz.zeroValue21
  t46 := Tryz.underlying167
  a46 := Tryz.isAgg167
  z46 := Tryz.sizeOf167
  v46 := Tryz.zeroValue167
  t105 := Tryz.underlying132
  a105 := Tryz.isAgg132
  z105 := Tryz.sizeOf132
  v105 := Tryz.zeroValue132
  t119 := Tryz.underlying166
  a119 := Tryz.isAgg166
  z119 := Tryz.sizeOf166
  t138 := Tryz.underlying169
  a138 := Tryz.isAgg169
  z138 := Tryz.sizeOf169
  v138 := Tryz.zeroValue169
  t139 := Tryz.underlying170
  a139 := Tryz.isAgg170
  z139 := Tryz.sizeOf170
  v139 := Tryz.zeroValue170
  g3 := by kernel_rfl
  g4 := by kernel_rfl }
open Go.RowKit Go.Lib in
/-- unicode/utf8.DecodeRuneInString: "DecodeRuneInString is like DecodeRune but its input is a string.": ("DecodeRune unpacks the first UTF-8 encoding in p and returns the rune and its width in bytes."): WHERE s BEGINS WITH AN ASCII BYTE x: (x, 1). (LAID: no walk: one application.) -/
theorem Tryz.utf8_DecodeRuneInString_ascii (s : ByteArray) (x : UInt8) (w : World) (h0 : s.data.toList[0]? = some x) (hx : x.toNat < 128) :
    Calls Tryz.prog 72 #[.string s] w fun e w' => e = .returned (.tuple #[.int .i32 x.toNat, .int .i64 1]) ∧ w' = w := Any.utf8_DecodeRuneInString_ascii Tryz.lays197 s x w h0 hx
def Tryz.lays110_ren : Go.Shelf.Ren := ⟨fun | 110 => 77 | 109 => 92 | n => n, fun | 31 => 45 | 9 => 9 | 4 => 4 | 3 => 3 | 0 => 0 | n => n, fun | n => n⟩
theorem Tryz.lays110 : Go.Proofs.Lays.n110 Tryz.prog Tryz.lays110_ren := {
  mixed := by kernel_rfl
  f109 := Tryz.func92.trans (congrArg some (by kernel_rfl))
  f110 := Tryz.func77.trans (congrArg some (by kernel_rfl))
  t0 := Tryz.underlying0
  a0 := Tryz.isAgg0
  z0 := Tryz.sizeOf0
  v0 := Tryz.zeroValue0
  t3 := Tryz.underlying3
  a3 := Tryz.isAgg3
  z3 := Tryz.sizeOf3
  v3 := Tryz.zeroValue3
  t4 := Tryz.underlying4
  a4 := Tryz.isAgg4
  z4 := Tryz.sizeOf4
  v4 := Tryz.zeroValue4
  t9 := Tryz.underlying9
  a9 := Tryz.isAgg9
  z9 := Tryz.sizeOf9
  v9 := Tryz.zeroValue9
  t31 := Tryz.underlying45
  a31 := Tryz.isAgg45
  z31 := Tryz.sizeOf45
  v31 := Tryz.zeroValue45 }
open Go.Lib in
/-- slices.Contains at []string: "Contains reports whether v is present in s.": IT RETURNS 'Lib.containsS (the elements) v', which is true just where v is among them ('Lib.containsS_iff'); the world is as it was. ITS CALLEE slices.Index IS MET BY ITS OWN CONTRACT OFF THE SHELF (lay that first): no loop is walked here. (LAID: no walk: one application.) -/
theorem Tryz.slices_Contains_string (b off n c : Nat) (zs : List ByteArray) (x : ByteArray) (w : World) (hz : n ≤ zs.length) (hbig : n ≤ 9223372036854775807) (hc : ∀ j, j < zs.length → w.cell? ⟨b, off + j, none⟩ = some (.string (zs.getD j ByteArray.empty))) :
    Calls Tryz.prog 77 #[.slice (some ⟨b, off, none⟩) n c, .string x] w fun e w' => e = .returned (.bool (Lib.containsS (zs.take n) x)) ∧ w' = w := Any.slices_Contains_string Tryz.lays110 b off n c zs x w hz hbig hc
end Go.Proofs
/- The parser of flat texts: numeral, number, names. -/
namespace Go.Proofs.YtoaajpppbjaomaaGreatDoor
open Go.RowKit
theorem var_on {W w : World} (hb : Below W.heap.size W w) {n : String} {cs : Array Value} (h : W.var? Tryz.prog n = some cs) : w.var? Tryz.prog n = some cs := by
  unfold World.var? at h ⊢
  obtain ⟨g, hg, h2⟩ := Option.bind_eq_some_iff.1 h
  rw [hg]
  show (match w.heap[g]? with | some (.cells cs _ _) => some cs | _ => none) = some cs
  cases hw : W.heap[g]? with
  | none => rw [hw] at h2; simp at h2
  | some o => rw [hb.block g (lt_of_block hw)]; exact h2
def ErrV (W : World) : Prop := ∃ tp p, W.var? Tryz.prog "strconv.ErrSyntax" = some #[.iface tp p]
set_option maxHeartbeats 400000 in
theorem numeral_ok {s : ByteArray} {i : Nat} (hi : i < 100) (hp : Lib.parseIntB 64 s.data.toList = .ok i) (hf : (⟨(Lib.decDigits i).toArray⟩ : ByteArray) = s) (hsz : s.size ≤ 100) (w : World) :
    Calls Tryz.prog 78 #[.string s] w (RetB (.tuple #[.int .i64 i, .bool true]) w) := by
  have HP := Lib.hid hp
  have HF := Lib.hid hf
  clear hp hf
  have d0 : decide ((0 : Int) ≤ (i : Int)) = true := by simp
  have d1 : (s.toList == s.toList) = true := by simp
  go_enter Tryz.func78, Tryz.ntmps78
  go_wp2_with fail
  refine (Tryz.strconv_ParseInt_10_at64_ok s (by omega) i HP.out w).mono ?_
  rintro e w1 ⟨rfl, hw1⟩
  have hb1 : Below w.heap.size w w1 := by
    rcases hw1 with rfl | ⟨t, rfl⟩
    · exact Below.refl _ _
    · exact Lib.bytesWorld_below _ _ _
  have HB1 := Lib.hid hb1
  clear hw1 hb1
  go_wp2_with fail
  refine (Tryz.strconv_FormatInt_10_small i hi w1).mono ?_
  rintro e w2 ⟨rfl, rfl⟩
  rw [HF.out]
  go_wp2_with fail
  go_ret2
  exact ⟨rfl, HB1.out⟩
set_option maxHeartbeats 400000 in
theorem numeral_no {s : ByteArray} (hp : Lib.parseIntB 64 s.data.toList = Lib.parseIntB 64 []) (hsz : s.size ≤ 100) {W w : World} (hE : ErrV W) (hW : Below W.heap.size W w) :
    Calls Tryz.prog 78 #[.string s] w (RetB (.tuple #[.int .i64 0, .bool false]) w) := by
  obtain ⟨tp, p, hv⟩ := hE
  have HV := Lib.hid (var_on hW hv)
  have HP := Lib.hid hp
  clear hp hv
  go_enter Tryz.func78, Tryz.ntmps78
  go_wp2_with fail
  refine (Tryz.strconv_ParseInt_10_at64_syntax_var s (by omega) HP.out tp p w HV.out).mono ?_
  rintro e w1 ⟨N, rfl, hN, hc, hb⟩
  have HB := Lib.hid hb
  clear hc hb hN
  go_wp2_with fail
  go_ret2
  exact ⟨rfl, HB.out⟩
end Go.Proofs.YtoaajpppbjaomaaGreatDoor
/- Law 21: from a walk to the row and its card. -/
namespace Go.Proofs.YtoaajpppbjaomaaGreatDoor
open Go Go.ChangeShapes Go.WideShapes Go.ChangeAt Go.RowKit
theorem Tryz.own : ownKnob Tryz.prog.godebug = none := by kernel_rfl
theorem Tryz.laidOut : laidOutB Tryz.prog = true := by kernel_rfl
/-- THE WITNESS's WORLD: what the door lays, and the pinned table. -/
noncomputable def laidWorld (os : Os) : World :=
  { World.doorLaid Tryz.prog 72 os with heap := (World.doorLaid Tryz.prog 72 os).heap.modify 0 fun
      | .cells _ t z => .cells ((Pinned.utf8FirstZ.map fun n : Nat => Value.int .u8 (n : Int)).toArray) t z
      | o => o }
def laid21 : List (String × DataW Unit) := Rows.runnerBeginsUptoRow.laid
set_option maxRecDepth 100000 in
theorem laid_met (os : Os) (args : Array Value) : laidMetH Tryz.prog laid21 ((laidWorld os).forCall (fun _ _ => 0) ⟨#[], args, []⟩).memory :=
  laidMetH_of_parts3 (fuel := 8) (laidMet_of_run' 8 (by kernel_rfl) (by kernel_rfl)) (by kernel_rfl) (by kernel_rfl)
theorem star : "*" ++ "errors.errorString" = "*errors.errorString" := by decide
theorem rowES (u : TypeId) (h : Tryz.prog.typeName? 3 u = some "*errors.errorString") : u = 202 :=
  typeName_ptr_named (P := Tryz.prog) (nm := "errors.errorString") (by rw [star]; kernel_rfl) (by kernel_rfl) (by decide) u (by rw [star]; exact h)
set_option maxRecDepth 100000 in
/-- what 'lives' asks: the sentinel is an error -/
theorem errV_of {W : World} (h : laidMetH Tryz.prog laid21 W) : ErrV W := by
  rw [MakeChecks.laidMetH_plain _ _ _ (by kernel_rfl)] at h
  obtain ⟨a, s, h1, -⟩ := laid_sentinel (P := Tryz.prog) (n := "strconv.ErrSyntax") (g := 2) (ti := 148) (tp := 202) (te := 204) (ts := 9) h.tail.tail.tail.tail.tail (by kernel_rfl) (by kernel_rfl) Tryz.underlying148 rowES Tryz.underlying202 Tryz.underlying204 rfl rfl Tryz.underlying9 (by kernel_rfl) (by kernel_rfl)
  exact ⟨_, _, h1⟩
set_option maxRecDepth 100000 in
theorem okWide_sl {w : World} {r : Reach} {base : Nat} {t e : TypeId} {v sv : Value} (ht : Tryz.prog.underlying t = some (.slice e)) (h : Value.okWide Tryz.prog w r base t v) (hc : v.cells.toList = [sv]) : v = sv := by
  simp only [Value.okWide, ht, Cell.okWide] at h
  cases v <;> simp_all [Cell.ok, Value.cells]
def argsNil : Array Value := #[.agg #[.slice none 0 0], .slice none 0 0]
/-- true, and every argument reads as it did -/
theorem post_true {H : Type} {enc : TypeId × Value → H} {s : ChangeSpec} {f : Func} {W W' : World} {d1 d2 : DataW H} {v0 v1 : Value} {p0 p1 : List MemPlace}
    (hv : s.vars = []) (hs : s.fn H [d1, d2] = { results := [.lit (.bool true)], args := [d1, d2] }) (hp : f.params.toList = [24, 25]) (hr : f.resultTypes = #[4])
    (hW : DataW.Whole enc Tryz.prog f.params.toList s.vars false W #[v0, v1].toList [d1, d2] [] (p0 ++ p1))
    (h0 : DataW.Trod enc Tryz.prog W 0 (fun _ => true) true 24 v0 d1 p0) (h1 : DataW.Trod enc Tryz.prog W 0 (fun _ => true) true 25 v1 d2 p1) (hb : Below W.heap.size W W') :
    s.post enc Tryz.prog f false true false false W #[v0, v1] (.bool true) W' := by
  have hl0 : ∀ x ∈ p0, x.block < W.heap.size := fun x hx => hW.lt x (by simp [hx])
  have hl1 : ∀ x ∈ p1, x.block < W.heap.size := fun x hx => hW.lt x (by simp [hx])
  refine ⟨[d1, d2], [], p0 ++ p1, [], p0 ++ p1, [], hW, ?_, ?_, ?_, hb.frame _, fun h => by cases h⟩
  · rw [hr, List.append_nil, hs]
    exact trodAll_cons_mk (shut_bool Tryz.underlying4 _) trodAll_mk0
  · rw [hp, List.append_nil, hs]
    refine (?_ : DataW.TrodAll enc Tryz.prog W' 0 (fun b => decide (b < W.heap.size)) true [24, 25] [v0, v1] [d1, d2] (p0 ++ p1))
    have := trodAll_mk2 (Below.trod Tryz.laidOut (by kernel_rfl) (of_decide_eq_true (by kernel_rfl)) h0 hb hl0) (Below.trod Tryz.laidOut (by kernel_rfl) (of_decide_eq_true (by kernel_rfl)) h1 hb hl1)
    exact this
  · rw [hv, List.append_nil, hs]
    exact rfl
end Go.Proofs.YtoaajpppbjaomaaGreatDoor
/- The parser of flat texts: number, begin, cell, name. -/
namespace Go.Proofs.YtoaajpppbjaomaaGreatDoor
open Go.RowKit
section
variable {W w : World} {P B cap : Nat} {ws : List ByteArray} {at_ op : Nat}
set_option maxHeartbeats 400000 in
theorem number_any (h : PS W w P B cap ws at_ op) {s : ByteArray} (hs : ws[at_]? = some s) {i : Nat} (hi : i < 100) (hp : Lib.parseIntB 64 s.data.toList = .ok i) (hf : (⟨(Lib.decDigits i).toArray⟩ : ByteArray) = s) (hsz : s.size ≤ 100) :
    Calls Tryz.prog 50 #[.pointer (some ⟨P, 0, none⟩)] w (ParP (.int .i64 i) W P B cap ws (at_ + 1) op w) := by
  have HH := Lib.hid h
  have HS := Lib.hid hs
  have HP := Lib.hid hp
  have HF := Lib.hid hf
  have hll := h.len
  have hlt := (List.getElem?_eq_some_iff.1 hs).1
  clear h hs hp hf
  go_enter Tryz.func50, Tryz.ntmps50
  go_wp2_with fail
  refine (next_any HH.out HS.out).mono ?_
  rintro e w1 ⟨rfl, n1, rfl⟩
  go_wp2_with fail
  refine (numeral_ok hi HP.out HF.out hsz (w.drewN n1)).mono ?_
  rintro e w2 ⟨rfl, hb2⟩
  have HB2 := Lib.hid ((Below.drewN' (Below.refl w.heap.size w) n1).trans hb2)
  have H2 := Lib.hid (HH.out.on HB2.out)
  have c1 := H2.out.c1
  have z1 := frozB H2.out.hP 1
  have hPl := lt_of_block H2.out.hP
  clear hb2
  go_wp2_with fail
  go_ret
  obtain ⟨h3, hk3⟩ := H2.out.setAt (at_ + 1) (by omega)
  exact ⟨rfl, (Keep.of_below HB2.out).trans hk3, h3⟩
set_option maxRecDepth 100000 in
set_option maxHeartbeats 400000 in
theorem begin_any' (h : PS W w P B cap ws at_ op) (ho : op < 100) : Calls Tryz.prog 79 #[.pointer (some ⟨P, 0, none⟩)] w (ParP (.tuple #[]) W P B cap ws at_ (op + 1) w) := by
  have c2 := h.c2
  have z2 := frozB h.hP 2
  have hPl := lt_of_block h.hP
  have HH := Lib.hid h
  clear h
  go_enter Tryz.func79, Tryz.ntmps79
  go_wp2_with fail
  go_end0
  obtain ⟨h3, hk3⟩ := HH.out.setOp (op + 1) (by omega)
  exact ⟨rfl, hk3, h3⟩
set_option maxHeartbeats 400000 in
theorem cell_any (h : PS W w P B cap ws at_ op) {s : ByteArray} (h0 : ws[at_]? = some ⟨#[91]⟩) (h1 : ws[at_ + 1]? = some s) (h2 : ws[at_ + 1 + 1]? = some ⟨#[93]⟩) {i : Nat} (hi : i < 100) (hp : Lib.parseIntB 64 s.data.toList = .ok i) (hf : (⟨(Lib.decDigits i).toArray⟩ : ByteArray) = s) (hsz : s.size ≤ 100) :
    Calls Tryz.prog 96 #[.pointer (some ⟨P, 0, none⟩)] w (ParP (.int .i64 i) W P B cap ws (at_ + 1 + 1 + 1) op w) := by
  have HH := Lib.hid h
  have H0 := Lib.hid h0
  have H1 := Lib.hid h1
  have H2 := Lib.hid h2
  have HP := Lib.hid hp
  have HF := Lib.hid hf
  clear h h0 h1 h2 hp hf
  go_enter Tryz.func96, Tryz.ntmps96
  go_wp2_with fail
  have hb1 : Below w.heap.size w (w.alloc (Obj.cells #[Value.string ⟨#[91]⟩] 9)) := (Below.refl _ _).alloc (Nat.le_refl _) _
  refine (want_one (HH.out.on hb1) H0.out (G := w.heap.size) (cellB' (heap_alloc_at _ _) 0 rfl)).mono ?_
  rintro e w2 ⟨rfl, hk2, h2⟩
  have HK2 := Lib.hid ((Keep.of_below hb1).trans hk2)
  have HS2 := Lib.hid h2
  clear hb1 hk2 h2
  go_wp2_with fail
  refine (number_any HS2.out H1.out hi HP.out HF.out hsz).mono ?_
  rintro e w3 ⟨rfl, hk3, h3⟩
  have HK3 := Lib.hid (HK2.out.trans hk3)
  have HS3 := Lib.hid h3
  clear hk3 h3
  go_wp2_with fail
  have hb4 : Below w3.heap.size w3 (w3.alloc (Obj.cells #[Value.string ⟨#[93]⟩] 9)) := (Below.refl _ _).alloc (Nat.le_refl _) _
  refine (want_one (HS3.out.on hb4) H2.out (G := w3.heap.size) (cellB' (heap_alloc_at _ _) 0 rfl)).mono ?_
  rintro e w5 ⟨rfl, hk5, h5⟩
  have HK5 := Lib.hid ((HK3.out.trans (Keep.of_below hb4)).trans hk5)
  have HS5 := Lib.hid h5
  clear hb4 hk5 h5
  go_wp2_with fail
  go_ret
  exact ⟨rfl, HK5.out, HS5.out⟩
end
end Go.Proofs.YtoaajpppbjaomaaGreatDoor
/- The parser of flat texts: x0, x1, x2 are names. -/
namespace Go.Proofs.YtoaajpppbjaomaaGreatDoor
open Go.RowKit
theorem lower_120 (w : World) : Calls Tryz.prog 90 #[.int .u8 120] w (Ret (.bool true) w) := by
  go_enter Tryz.func90, Tryz.ntmps90
  go_wp2_with fail
  go_ret
  exact ⟨rfl, rfl⟩
set_option maxHeartbeats 400000 in
theorem inner_120 (w : World) : Calls Tryz.prog 108 #[.int .u8 120] w (Ret (.bool true) w) := by
  go_enter Tryz.func108, Tryz.ntmps108
  go_wp2_with fail
  refine (lower_120 _).mono ?_
  rintro e w1 ⟨rfl, rfl⟩
  go_wp2_with fail
  go_ret
  exact ⟨rfl, rfl⟩
theorem lower_48 (w : World) : Calls Tryz.prog 90 #[.int .u8 48] w (Ret (.bool false) w) := by
  go_enter Tryz.func90, Tryz.ntmps90
  go_wp2_with fail
  go_ret
  exact ⟨rfl, rfl⟩
theorem upper_48 (w : World) : Calls Tryz.prog 129 #[.int .u8 48] w (Ret (.bool false) w) := by
  go_enter Tryz.func129, Tryz.ntmps129
  go_wp2_with fail
  go_ret
  exact ⟨rfl, rfl⟩
theorem digit_48 (w : World) : Calls Tryz.prog 130 #[.int .u8 48] w (Ret (.bool true) w) := by
  go_enter Tryz.func130, Tryz.ntmps130
  go_wp2_with fail
  go_ret
  exact ⟨rfl, rfl⟩
set_option maxHeartbeats 400000 in
theorem inner_48 (w : World) : Calls Tryz.prog 108 #[.int .u8 48] w (Ret (.bool true) w) := by
  go_enter Tryz.func108, Tryz.ntmps108
  go_wp2_with fail
  refine (lower_48 _).mono ?_
  rintro e w1 ⟨rfl, rfl⟩
  go_wp2_with fail
  refine (upper_48 _).mono ?_
  rintro e w1 ⟨rfl, rfl⟩
  go_wp2_with fail
  refine (digit_48 _).mono ?_
  rintro e w1 ⟨rfl, rfl⟩
  go_wp2_with fail
  go_ret
  exact ⟨rfl, rfl⟩
theorem lower_49 (w : World) : Calls Tryz.prog 90 #[.int .u8 49] w (Ret (.bool false) w) := by
  go_enter Tryz.func90, Tryz.ntmps90
  go_wp2_with fail
  go_ret
  exact ⟨rfl, rfl⟩
theorem upper_49 (w : World) : Calls Tryz.prog 129 #[.int .u8 49] w (Ret (.bool false) w) := by
  go_enter Tryz.func129, Tryz.ntmps129
  go_wp2_with fail
  go_ret
  exact ⟨rfl, rfl⟩
theorem digit_49 (w : World) : Calls Tryz.prog 130 #[.int .u8 49] w (Ret (.bool true) w) := by
  go_enter Tryz.func130, Tryz.ntmps130
  go_wp2_with fail
  go_ret
  exact ⟨rfl, rfl⟩
set_option maxHeartbeats 400000 in
theorem inner_49 (w : World) : Calls Tryz.prog 108 #[.int .u8 49] w (Ret (.bool true) w) := by
  go_enter Tryz.func108, Tryz.ntmps108
  go_wp2_with fail
  refine (lower_49 _).mono ?_
  rintro e w1 ⟨rfl, rfl⟩
  go_wp2_with fail
  refine (upper_49 _).mono ?_
  rintro e w1 ⟨rfl, rfl⟩
  go_wp2_with fail
  refine (digit_49 _).mono ?_
  rintro e w1 ⟨rfl, rfl⟩
  go_wp2_with fail
  go_ret
  exact ⟨rfl, rfl⟩
theorem lower_50 (w : World) : Calls Tryz.prog 90 #[.int .u8 50] w (Ret (.bool false) w) := by
  go_enter Tryz.func90, Tryz.ntmps90
  go_wp2_with fail
  go_ret
  exact ⟨rfl, rfl⟩
theorem upper_50 (w : World) : Calls Tryz.prog 129 #[.int .u8 50] w (Ret (.bool false) w) := by
  go_enter Tryz.func129, Tryz.ntmps129
  go_wp2_with fail
  go_ret
  exact ⟨rfl, rfl⟩
theorem digit_50 (w : World) : Calls Tryz.prog 130 #[.int .u8 50] w (Ret (.bool true) w) := by
  go_enter Tryz.func130, Tryz.ntmps130
  go_wp2_with fail
  go_ret
  exact ⟨rfl, rfl⟩
set_option maxHeartbeats 400000 in
theorem inner_50 (w : World) : Calls Tryz.prog 108 #[.int .u8 50] w (Ret (.bool true) w) := by
  go_enter Tryz.func108, Tryz.ntmps108
  go_wp2_with fail
  refine (lower_50 _).mono ?_
  rintro e w1 ⟨rfl, rfl⟩
  go_wp2_with fail
  refine (upper_50 _).mono ?_
  rintro e w1 ⟨rfl, rfl⟩
  go_wp2_with fail
  refine (digit_50 _).mono ?_
  rintro e w1 ⟨rfl, rfl⟩
  go_wp2_with fail
  go_ret
  exact ⟨rfl, rfl⟩
def wordsL : List ByteArray := [⟨#[116, 121, 112, 101]⟩, ⟨#[110, 111, 100, 101]⟩, ⟨#[119, 104, 101, 114, 101]⟩, ⟨#[101, 110, 100]⟩, ⟨#[97, 117, 116, 111, 109, 97, 116, 111, 110]⟩, ⟨#[115, 116, 97, 116, 101]⟩, ⟨#[117, 110, 116, 105, 108]⟩, ⟨#[116, 104, 101, 110]⟩, ⟨#[105, 102]⟩, ⟨#[101, 108, 115, 101]⟩, ⟨#[102, 98, 121]⟩, ⟨#[112, 114, 101]⟩, ⟨#[110, 111, 116]⟩, ⟨#[97, 110, 100]⟩, ⟨#[111, 114]⟩, ⟨#[119, 104, 101, 110]⟩, ⟨#[109, 101, 114, 103, 101]⟩, ⟨#[109, 97, 116, 99, 104]⟩, ⟨#[101, 118, 101, 114, 121]⟩, ⟨#[116, 114, 117, 101]⟩, ⟨#[102, 97, 108, 115, 101]⟩]
def keysL : List ByteArray := [⟨#[109]⟩, ⟨#[115, 116, 101, 112]⟩, ⟨#[102, 117, 110]⟩, ⟨#[99, 101, 108, 108, 115]⟩, ⟨#[102, 108, 97, 103, 115]⟩, ⟨#[112, 97, 114, 116, 115]⟩, ⟨#[114, 101, 115, 101, 116]⟩, ⟨#[115, 119, 105, 116, 99, 104]⟩, ⟨#[99, 97, 115, 101]⟩]
def SpanRel (w : World) (i : Value) (wr : World) : Prop := wr = w ∧ (i = .int .i64 0 ∨ i = .int .i64 1 ∨ i = .int .i64 2)
theorem words_any (w : World) : Calls Tryz.prog 109 #[] w (fun e w' => e = .returned (.slice (some ⟨w.heap.size, 0, none⟩) 21 21) ∧ w' = w.alloc (Obj.cells (wordsL.map Value.string).toArray 9)) := by
  go_enter Tryz.func109, Tryz.ntmps109
  go_wp2_with fail
  go_ret
  exact ⟨rfl, rfl⟩
theorem cells_strs (w : World) (l : List ByteArray) : ∀ j, j < l.length → (w.alloc (Obj.cells (l.map Value.string).toArray 9)).cell? ⟨w.heap.size, 0 + j, none⟩ = some (.string (l.getD j ByteArray.empty)) := by
  intro j hj
  refine cellB' (heap_alloc_at _ _) (0 + j) ?_
  simp [List.getD_eq_getElem?_getD, hj]
set_option maxRecDepth 100000 in
set_option maxHeartbeats 400000 in
theorem span_48 (w : World) : Calls Tryz.prog 107 #[.string ⟨#[120, 48]⟩, .func (.func 108) #[] #[]] w (Ret (.int .i64 2) w) := by
  go_enter Tryz.func107, Tryz.ntmps107
  go_wp2_with fail
  go_loopw [8] (fun i wr => SpanRel w i wr) (fun i _ => 2 - (intOf i).toNat)
  case atStart => exact ⟨rfl, .inl rfl⟩
  case round =>
    obtain ⟨rfl, rfl | rfl | rfl⟩ := hrel
    · go_wp2_with fail
      refine (inner_120 _).mono ?_
      rintro e w1 ⟨rfl, rfl⟩
      go_wp2_with fail
      exact ⟨⟨rfl, .inr (.inl rfl)⟩, by simp [intOf]⟩
    · go_wp2_with fail
      refine (inner_48 _).mono ?_
      rintro e w1 ⟨rfl, rfl⟩
      go_wp2_with fail
      exact ⟨⟨rfl, .inr (.inr rfl)⟩, by simp [intOf]⟩
    · go_wp2_with fail
      go_ret
      exact ⟨rfl, rfl⟩
set_option maxRecDepth 100000 in
set_option maxHeartbeats 400000 in
theorem shaped_48 (w : World) : Calls Tryz.prog 89 #[.string ⟨#[120, 48]⟩, .func (.func 90) #[] #[]] w (Ret (.bool true) w) := by
  go_enter Tryz.func89, Tryz.ntmps89
  go_wp2_with fail
  refine (lower_120 _).mono ?_
  rintro e w1 ⟨rfl, rfl⟩
  go_wp2_with fail
  refine (span_48 _).mono ?_
  rintro e w1 ⟨rfl, rfl⟩
  go_wp2_with fail
  go_ret
  exact ⟨rfl, rfl⟩
set_option maxRecDepth 100000 in
set_option maxHeartbeats 400000 in
theorem isWord_48 (w : World) : Calls Tryz.prog 91 #[.string ⟨#[120, 48]⟩] w (RetB (.bool false) w) := by
  go_enter Tryz.func91, Tryz.ntmps91
  go_wp2_with fail
  refine (words_any w).mono ?_
  rintro e w1 ⟨rfl, rfl⟩
  go_wp2_with fail
  have hc := Tryz.slices_Contains_string w.heap.size 0 21 21 wordsL ⟨#[120, 48]⟩ (w.alloc (Obj.cells (wordsL.map Value.string).toArray 9)) (by decide) (by decide) (cells_strs w wordsL)
  rw [show Lib.containsS (wordsL.take 21) ⟨#[120, 48]⟩ = false by decide] at hc
  refine hc.mono ?_
  clear hc
  rintro e w2 ⟨rfl, rfl⟩
  go_wp2_with fail
  go_ret
  exact ⟨rfl, (Below.refl _ _).alloc (Nat.le_refl _) _⟩
set_option maxRecDepth 100000 in
set_option maxHeartbeats 400000 in
theorem isName_48 (w : World) : Calls Tryz.prog 76 #[.string ⟨#[120, 48]⟩] w (RetB (.bool true) w) := by
  go_enter Tryz.func76, Tryz.ntmps76
  go_wp2_with fail
  refine (shaped_48 w).mono ?_
  rintro e w1 ⟨rfl, rfl⟩
  go_wp2_with fail
  refine (isWord_48 w1).mono ?_
  rintro e w2 ⟨rfl, hb⟩
  have HB := Lib.hid hb
  clear hb
  go_wp2_with fail
  go_ret
  exact ⟨rfl, HB.out⟩
set_option maxRecDepth 100000 in
set_option maxHeartbeats 400000 in
theorem span_49 (w : World) : Calls Tryz.prog 107 #[.string ⟨#[120, 49]⟩, .func (.func 108) #[] #[]] w (Ret (.int .i64 2) w) := by
  go_enter Tryz.func107, Tryz.ntmps107
  go_wp2_with fail
  go_loopw [8] (fun i wr => SpanRel w i wr) (fun i _ => 2 - (intOf i).toNat)
  case atStart => exact ⟨rfl, .inl rfl⟩
  case round =>
    obtain ⟨rfl, rfl | rfl | rfl⟩ := hrel
    · go_wp2_with fail
      refine (inner_120 _).mono ?_
      rintro e w1 ⟨rfl, rfl⟩
      go_wp2_with fail
      exact ⟨⟨rfl, .inr (.inl rfl)⟩, by simp [intOf]⟩
    · go_wp2_with fail
      refine (inner_49 _).mono ?_
      rintro e w1 ⟨rfl, rfl⟩
      go_wp2_with fail
      exact ⟨⟨rfl, .inr (.inr rfl)⟩, by simp [intOf]⟩
    · go_wp2_with fail
      go_ret
      exact ⟨rfl, rfl⟩
set_option maxRecDepth 100000 in
set_option maxHeartbeats 400000 in
theorem shaped_49 (w : World) : Calls Tryz.prog 89 #[.string ⟨#[120, 49]⟩, .func (.func 90) #[] #[]] w (Ret (.bool true) w) := by
  go_enter Tryz.func89, Tryz.ntmps89
  go_wp2_with fail
  refine (lower_120 _).mono ?_
  rintro e w1 ⟨rfl, rfl⟩
  go_wp2_with fail
  refine (span_49 _).mono ?_
  rintro e w1 ⟨rfl, rfl⟩
  go_wp2_with fail
  go_ret
  exact ⟨rfl, rfl⟩
set_option maxRecDepth 100000 in
set_option maxHeartbeats 400000 in
theorem isWord_49 (w : World) : Calls Tryz.prog 91 #[.string ⟨#[120, 49]⟩] w (RetB (.bool false) w) := by
  go_enter Tryz.func91, Tryz.ntmps91
  go_wp2_with fail
  refine (words_any w).mono ?_
  rintro e w1 ⟨rfl, rfl⟩
  go_wp2_with fail
  have hc := Tryz.slices_Contains_string w.heap.size 0 21 21 wordsL ⟨#[120, 49]⟩ (w.alloc (Obj.cells (wordsL.map Value.string).toArray 9)) (by decide) (by decide) (cells_strs w wordsL)
  rw [show Lib.containsS (wordsL.take 21) ⟨#[120, 49]⟩ = false by decide] at hc
  refine hc.mono ?_
  clear hc
  rintro e w2 ⟨rfl, rfl⟩
  go_wp2_with fail
  go_ret
  exact ⟨rfl, (Below.refl _ _).alloc (Nat.le_refl _) _⟩
set_option maxRecDepth 100000 in
set_option maxHeartbeats 400000 in
theorem isName_49 (w : World) : Calls Tryz.prog 76 #[.string ⟨#[120, 49]⟩] w (RetB (.bool true) w) := by
  go_enter Tryz.func76, Tryz.ntmps76
  go_wp2_with fail
  refine (shaped_49 w).mono ?_
  rintro e w1 ⟨rfl, rfl⟩
  go_wp2_with fail
  refine (isWord_49 w1).mono ?_
  rintro e w2 ⟨rfl, hb⟩
  have HB := Lib.hid hb
  clear hb
  go_wp2_with fail
  go_ret
  exact ⟨rfl, HB.out⟩
set_option maxRecDepth 100000 in
set_option maxHeartbeats 400000 in
theorem span_50 (w : World) : Calls Tryz.prog 107 #[.string ⟨#[120, 50]⟩, .func (.func 108) #[] #[]] w (Ret (.int .i64 2) w) := by
  go_enter Tryz.func107, Tryz.ntmps107
  go_wp2_with fail
  go_loopw [8] (fun i wr => SpanRel w i wr) (fun i _ => 2 - (intOf i).toNat)
  case atStart => exact ⟨rfl, .inl rfl⟩
  case round =>
    obtain ⟨rfl, rfl | rfl | rfl⟩ := hrel
    · go_wp2_with fail
      refine (inner_120 _).mono ?_
      rintro e w1 ⟨rfl, rfl⟩
      go_wp2_with fail
      exact ⟨⟨rfl, .inr (.inl rfl)⟩, by simp [intOf]⟩
    · go_wp2_with fail
      refine (inner_50 _).mono ?_
      rintro e w1 ⟨rfl, rfl⟩
      go_wp2_with fail
      exact ⟨⟨rfl, .inr (.inr rfl)⟩, by simp [intOf]⟩
    · go_wp2_with fail
      go_ret
      exact ⟨rfl, rfl⟩
set_option maxRecDepth 100000 in
set_option maxHeartbeats 400000 in
theorem shaped_50 (w : World) : Calls Tryz.prog 89 #[.string ⟨#[120, 50]⟩, .func (.func 90) #[] #[]] w (Ret (.bool true) w) := by
  go_enter Tryz.func89, Tryz.ntmps89
  go_wp2_with fail
  refine (lower_120 _).mono ?_
  rintro e w1 ⟨rfl, rfl⟩
  go_wp2_with fail
  refine (span_50 _).mono ?_
  rintro e w1 ⟨rfl, rfl⟩
  go_wp2_with fail
  go_ret
  exact ⟨rfl, rfl⟩
set_option maxRecDepth 100000 in
set_option maxHeartbeats 400000 in
theorem isWord_50 (w : World) : Calls Tryz.prog 91 #[.string ⟨#[120, 50]⟩] w (RetB (.bool false) w) := by
  go_enter Tryz.func91, Tryz.ntmps91
  go_wp2_with fail
  refine (words_any w).mono ?_
  rintro e w1 ⟨rfl, rfl⟩
  go_wp2_with fail
  have hc := Tryz.slices_Contains_string w.heap.size 0 21 21 wordsL ⟨#[120, 50]⟩ (w.alloc (Obj.cells (wordsL.map Value.string).toArray 9)) (by decide) (by decide) (cells_strs w wordsL)
  rw [show Lib.containsS (wordsL.take 21) ⟨#[120, 50]⟩ = false by decide] at hc
  refine hc.mono ?_
  clear hc
  rintro e w2 ⟨rfl, rfl⟩
  go_wp2_with fail
  go_ret
  exact ⟨rfl, (Below.refl _ _).alloc (Nat.le_refl _) _⟩
set_option maxRecDepth 100000 in
set_option maxHeartbeats 400000 in
theorem isName_50 (w : World) : Calls Tryz.prog 76 #[.string ⟨#[120, 50]⟩] w (RetB (.bool true) w) := by
  go_enter Tryz.func76, Tryz.ntmps76
  go_wp2_with fail
  refine (shaped_50 w).mono ?_
  rintro e w1 ⟨rfl, rfl⟩
  go_wp2_with fail
  refine (isWord_50 w1).mono ?_
  rintro e w2 ⟨rfl, hb⟩
  have HB := Lib.hid hb
  clear hb
  go_wp2_with fail
  go_ret
  exact ⟨rfl, HB.out⟩
/-- a name, as the parser takes it -/
def IsNm (s : ByteArray) : Prop := (∀ w, Calls Tryz.prog 76 #[.string s] w (RetB (.bool true) w)) ∧ Lib.containsS (keysL.take 9) s = false
theorem isNm_48 : IsNm ⟨#[120, 48]⟩ := ⟨isName_48, by decide⟩
theorem isNm_49 : IsNm ⟨#[120, 49]⟩ := ⟨isName_49, by decide⟩
theorem isNm_50 : IsNm ⟨#[120, 50]⟩ := ⟨isName_50, by decide⟩
set_option maxRecDepth 100000 in
set_option maxHeartbeats 400000 in
theorem name_any {W w : World} {P B cap : Nat} {ws : List ByteArray} {at_ op : Nat} (h : PS W w P B cap ws at_ op) {s : ByteArray} (hs : ws[at_]? = some s) (hn : IsNm s) :
    Calls Tryz.prog 49 #[.pointer (some ⟨P, 0, none⟩)] w (ParP (.string s) W P B cap ws (at_ + 1) op w) := by
  have HH := Lib.hid h
  have HS := Lib.hid hs
  have HN := Lib.hid hn
  have hll := h.len
  have hlt := (List.getElem?_eq_some_iff.1 hs).1
  clear h hs hn
  go_enter Tryz.func49, Tryz.ntmps49
  go_wp2_with fail
  refine (next_any HH.out HS.out).mono ?_
  rintro e w1 ⟨rfl, n1, rfl⟩
  go_wp2_with fail
  refine (HN.out.1 (w.drewN n1)).mono ?_
  rintro e w2 ⟨rfl, hb2⟩
  have HB2 := Lib.hid ((Below.drewN' (Below.refl w.heap.size w) n1).trans hb2)
  clear hb2
  go_wp2_with fail
  have hc := Tryz.slices_Contains_string w2.heap.size 0 9 9 keysL s (w2.alloc (Obj.cells (keysL.map Value.string).toArray 9)) (by decide) (by decide) (cells_strs w2 keysL)
  rw [HN.out.2] at hc
  refine hc.mono ?_
  clear hc
  rintro e w3 ⟨rfl, rfl⟩
  have H3 := Lib.hid (HH.out.on (HB2.out.alloc HB2.out.size (Obj.cells (keysL.map Value.string).toArray 9)))
  have HB3 := Lib.hid (HB2.out.alloc HB2.out.size (Obj.cells (keysL.map Value.string).toArray 9))
  generalize w2.alloc (Obj.cells (keysL.map Value.string).toArray 9) = w3 at H3 HB3 ⊢
  have c1 := H3.out.c1
  have z1 := frozB H3.out.hP 1
  have hPl := lt_of_block H3.out.hP
  go_wp2_with fail
  go_ret
  obtain ⟨h3, hk3⟩ := H3.out.setAt (at_ + 1) (by omega)
  exact ⟨rfl, (Keep.of_below HB3.out).trans hk3, h3⟩
end Go.Proofs.YtoaajpppbjaomaaGreatDoor
/- The parser of flat texts: expressions, as they lie. -/
namespace Go.Proofs.YtoaajpppbjaomaaGreatDoor
open Go.RowKit
def RepVl {α : Type} (R : α → List Value → Prop) (sz : Nat) (w : World) (lo : Nat) (v : Value) (xs : List α) : Prop :=
  xs.length ≤ 1048576 ∧ ∃ A c, v = .slice A xs.length c ∧ xs.length ≤ c ∧ c ≤ 9223372036854775807 ∧ (0 < xs.length → ∃ b o, A = some ⟨b, o, none⟩ ∧ lo ≤ b ∧ (∃ arr z, w.heap[b]? = some (.cells arr 85 z)) ∧ RepL R sz w b o xs)
/-- what the blocks of expressions from lo on hold, they hold in the later world too -/
def SameX (lo : Nat) (w w' : World) : Prop := ∀ b arr z, lo ≤ b → w.heap[b]? = some (.cells arr 85 z) → w'.heap[b]? = w.heap[b]?
theorem SameX.of_keep {lo : Nat} {w w' : World} {S : List Nat} (hk : Keep S w w') (hS : ∀ x, x ∈ S → x < lo) : SameX lo w w' := fun b _ _ hb h => hk.block b (lt_of_block h) (fun hm => by have := hS b hm; omega)
def RepXl (w : World) (lo : Nat) : Nat → XE → List Value → Prop
  | 0, _, _ => False
  | n + 1, .mk op name v kids, cs => ∃ vc vk, cs = [.int .i64 op, .string name, .int .i64 v, vc, vk] ∧ IsSl vc ∧ I64 op ∧ I64 v ∧ name.size ≤ 1048576 ∧ RepVl (RepXl w lo n) 5 w lo vk kids
theorem RepVl.imp {α : Type} {R R' : α → List Value → Prop} {sz : Nat} {w w' : World} {lo lo' : Nat} {v : Value} {xs : List α} (h : RepVl R sz w lo v xs) (hk : SameX lo w w') (hlo : lo' ≤ lo) (hR : ∀ x cs, x ∈ xs → R x cs → R' x cs) : RepVl R' sz w' lo' v xs := by
  obtain ⟨h1, A, c, rfl, h2, h3, h4⟩ := h
  refine ⟨h1, A, c, rfl, h2, h3, fun h5 => ?_⟩
  obtain ⟨b, o, rfl, h6, ⟨arr, z, h7⟩, h8⟩ := h4 h5
  refine ⟨b, o, rfl, by omega, ⟨arr, z, (hk b arr z h6 h7).trans h7⟩, fun j x hj => ?_⟩
  obtain ⟨cs, g1, g2, g3⟩ := h8 j x hj
  refine ⟨cs, g1, hR x cs (List.mem_of_getElem? hj) g2, fun i u hu => ?_⟩
  exact (World.cell?_of_block (w := w) (w' := w') (hk b arr z h6 h7)).trans (g3 i u hu)
theorem RepXl.same {w w' : World} {lo lo' : Nat} (hk : SameX lo w w') (hlo : lo' ≤ lo) : ∀ {n : Nat} {e : XE} {cs : List Value}, RepXl w lo n e cs → RepXl w' lo' n e cs
  | 0, _, _, h => h.elim
  | _n + 1, .mk _op _name _v _kids, _cs, ⟨vc, vk, h1, h2, h3, h4, h5, h6⟩ => ⟨vc, vk, h1, h2, h3, h4, h5, h6.imp hk hlo (fun _ _ _ h => RepXl.same hk hlo h)⟩
theorem RepXl.keep {w w' : World} {lo lo' : Nat} {S : List Nat} (hk : Keep S w w') (hS : ∀ x, x ∈ S → x < lo) (hlo : lo' ≤ lo) {n : Nat} {e : XE} {cs : List Value} (h : RepXl w lo n e cs) : RepXl w' lo' n e cs :=
  h.same (.of_keep hk hS) hlo
theorem RepXl.up {w : World} {lo : Nat} : ∀ {n : Nat} {e : XE} {cs : List Value}, RepXl w lo n e cs → RepXl w lo (n + 1) e cs
  | 0, _, _, h => h.elim
  | _n + 1, .mk _op _name _v _kids, _cs, ⟨vc, vk, h1, h2, h3, h4, h5, h6⟩ => ⟨vc, vk, h1, h2, h3, h4, h5, h6.imp (fun _ _ _ _ _ => rfl) (Nat.le_refl _) (fun _ _ _ h => h.up)⟩
theorem RepVl.v {α : Type} {R R' : α → List Value → Prop} {sz : Nat} {w : World} {lo : Nat} {v : Value} {xs : List α} (h : RepVl R sz w lo v xs) (hR : ∀ x cs, x ∈ xs → R x cs → R' x cs) : RepV R' sz w v xs := by
  obtain ⟨h1, A, c, rfl, h2, h3, h4⟩ := h
  refine ⟨h1, A, c, rfl, h2, h3, fun h5 => ?_⟩
  obtain ⟨b, o, rfl, h6, ⟨arr, z, h7⟩, h8⟩ := h4 h5
  refine ⟨b, o, rfl, lt_of_block h7, fun j x hj => ?_⟩
  obtain ⟨cs, g1, g2, g3⟩ := h8 j x hj
  exact ⟨cs, g1, hR x cs (List.mem_of_getElem? hj) g2, g3⟩
theorem RepXl.x {w : World} {lo : Nat} : ∀ {n : Nat} {e : XE} {cs : List Value}, RepXl w lo n e cs → RepX w n e cs
  | 0, _, _, h => h.elim
  | _n + 1, .mk _op _name _v _kids, _cs, ⟨vc, vk, h1, h2, h3, h4, h5, h6⟩ => ⟨vc, vk, h1, h2, h3, h4, h5, h6.v (fun _ _ _ h => h.x)⟩
theorem RepVl.nil {α : Type} (R : α → List Value → Prop) (sz : Nat) (w : World) (lo : Nat) : RepVl R sz w lo (.slice none 0 0) [] :=
  ⟨by simp, none, 0, rfl, by simp, by omega, fun h => by simp at h⟩
/-- a store of five cells -/
theorem set5 {w : World} {b : Nat} {a0 a1 a2 a3 a4 : Value} {t : TypeId} (h : w.heap[b]? = some (.cells #[a0, a1, a2, a3, a4] t (0, 0))) (v0 v1 v2 v3 v4 : Value) (w5 : World)
    (hw : w5 = ((((w.setCell ⟨b, 0, none⟩ v0).setCell ⟨b, 1, none⟩ v1).setCell ⟨b, 2, none⟩ v2).setCell ⟨b, 3, none⟩ v3).setCell ⟨b, 4, none⟩ v4) :
    w5.heap[b]? = some (.cells #[v0, v1, v2, v3, v4] t (0, 0)) ∧ Keep [b] w w5 := by
  constructor
  · rw [hw, heap_setCell_eq (heap_setCell_eq (heap_setCell_eq (heap_setCell_eq (heap_setCell_eq h 0 v0) 1 v1) 2 v2) 3 v3) 4 v4]; rfl
  · rw [hw]
    exact (((((Keep.refl _ _).setCell (.inl (by simp)) _).setCell (.inl (by simp)) _).setCell (.inl (by simp)) _).setCell (.inl (by simp)) _).setCell (.inl (by simp)) _
theorem five {w : World} {b : Nat} {a0 a1 a2 a3 a4 : Value} {t : TypeId} (h : w.heap[b]? = some (.cells #[a0, a1, a2, a3, a4] t (0, 0))) :
    w.cell? ⟨b, 0, none⟩ = some a0 ∧ w.cell? ⟨b, 1, none⟩ = some a1 ∧ w.cell? ⟨b, 2, none⟩ = some a2 ∧ w.cell? ⟨b, 3, none⟩ = some a3 ∧ w.cell? ⟨b, 4, none⟩ = some a4 ∧
    w.frozen? ⟨b, 0, none⟩ = false ∧ w.frozen? ⟨b, 1, none⟩ = false ∧ w.frozen? ⟨b, 2, none⟩ = false ∧ w.frozen? ⟨b, 3, none⟩ = false ∧ w.frozen? ⟨b, 4, none⟩ = false :=
  ⟨cellB' h 0 rfl, cellB' h 1 rfl, cellB' h 2 rfl, cellB' h 3 rfl, cellB' h 4 rfl, frozB h 0, frozB h 1, frozB h 2, frozB h 3, frozB h 4⟩
/-- a parser that stands behind other writing -/
theorem PS.kept {W w w' : World} {P B cap : Nat} {ws : List ByteArray} {at_ op : Nat} (h : PS W w P B cap ws at_ op) {S : List Nat} (hk : Keep S w w') (hS : ∀ x, x ∈ S → W.heap.size ≤ x ∧ x ≠ P ∧ x ≠ B) : PS W w' P B cap ws at_ op :=
  { h with
    below := hk.below h.below h.below.size (fun x hx => (hS x hx).1)
    hP := (hk.block P (lt_of_block h.hP) (fun hm => (hS P hm).2.1 rfl)).trans h.hP
    hB := fun j s hj => (World.cell?_of_block (w := w) (hk.block B h.Blt (fun hm => (hS B hm).2.2 rfl))).trans (h.hB j s hj)
    Blt := Nat.lt_of_lt_of_le h.Blt hk.size }
/-- what an expression's parser hands back -/
structure ExprP (W : World) (P B cap : Nat) (ws : List ByteArray) (at_ op n : Nat) (x : XE) (w : World) (e : Ending) (w' : World) : Prop where
  ret : ∃ aC lC cC aK lK cK, e = .returned (.agg #[.int .i64 x.op, .string x.name, .int .i64 x.n, .slice aC lC cC, .slice aK lK cK]) ∧ RepXl w' w.heap.size n x [.int .i64 x.op, .string x.name, .int .i64 x.n, .slice aC lC cC, .slice aK lK cK]
  keep : Keep [P] w w'
  st : PS W w' P B cap ws at_ op
theorem tl_lit {a b : ByteArray} (h : (a.data.toList == b.data.toList) = false) : (a.toList == b.toList) = false := by
  rw [ByteArray.toList_eq, ByteArray.toList_eq]; exact h
/-- what stands where an expression begins -/
inductive ExprCase (W : World) (P B cap : Nat) (ws : List ByteArray) (at_ op n : Nat) : XE → Nat → Prop
  | num (s : ByteArray) (i : Nat) (hs : ws[at_]? = some s) (hi : i < 100) (hp : Lib.parseIntB 64 s.data.toList = .ok i) (hf : (⟨(Lib.decDigits i).toArray⟩ : ByteArray) = s) (hsz : s.size ≤ 100) : ExprCase W P B cap ws at_ op n (.mk 1 ⟨#[]⟩ i []) (at_ + 1)
  | mem (s : ByteArray) (i : Nat) (h0 : ws[at_]? = some ⟨#[109]⟩) (h1 : ws[at_ + 1]? = some ⟨#[91]⟩) (hs : ws[at_ + 1 + 1]? = some s) (h2 : ws[at_ + 1 + 1 + 1]? = some ⟨#[93]⟩) (hi : i < 100) (hp : Lib.parseIntB 64 s.data.toList = .ok i) (hf : (⟨(Lib.decDigits i).toArray⟩ : ByteArray) = s) (hsz : s.size ≤ 100) :
      ExprCase W P B cap ws at_ op n (.mk 16 ⟨#[]⟩ i []) (at_ + 1 + 1 + 1 + 1)
  | var (s : ByteArray) (hs : ws[at_]? = some s) (hn : IsNm s) (hp : Lib.parseIntB 64 s.data.toList = Lib.parseIntB 64 []) (hsz : s.size ≤ 100) (hm : (s.toList == (⟨#[109]⟩ : ByteArray).toList) = false) (hq : (s.toList == (⟨#[40]⟩ : ByteArray).toList) = false) : ExprCase W P B cap ws at_ op n (.mk 4 s 0 []) (at_ + 1)
  | par (x : XE) (j : Nat) (h0 : ws[at_]? = some ⟨#[40]⟩) (h1 : ws[j]? = some ⟨#[41]⟩)
      (hin : ∀ w, PS W w P B cap ws (at_ + 1) (op + 1) → Calls Tryz.prog 114 #[.pointer (some ⟨P, 0, none⟩)] w (ExprP W P B cap ws j (op + 1) (n + 1) x w)) : ExprCase W P B cap ws at_ op n x (j + 1)
def ExMid (W : World) (P B cap : Nat) (ws : List ByteArray) (at_ op n : Nat) (x : XE) (w w2 wx : World) : Prop :=
  ∃ aC lC cC aK lK cK, wx.heap[w2.heap.size]? = some (.cells #[.int .i64 x.op, .string x.name, .int .i64 x.n, .slice aC lC cC, .slice aK lK cK] 85 (0, 0)) ∧ RepXl wx (w.heap.size + 1) (n + 1) x [.int .i64 x.op, .string x.name, .int .i64 x.n, .slice aC lC cC, .slice aK lK cK] ∧
    wx.heap[w.heap.size]? = some (.cells #[.int .i64 0, .string ⟨#[]⟩, .int .i64 0, .slice none 0 0, .slice none 0 0] 85 (0, 0)) ∧ Keep [P] w wx ∧ PS W wx P B cap ws at_ (op + 1)
theorem mid_store {W w w2 w5 : World} {P B cap : Nat} {ws : List ByteArray} {at_ op n : Nat} {x : XE} (hgP : W.heap.size ≤ P) (_hWs : W.heap.size ≤ w.heap.size) (hPl : P < w.heap.size) (hBl : B < w.heap.size) (hl2 : w.heap.size < w2.heap.size)
    (h5 : PS W w5 P B cap ws at_ (op + 1)) {a0 a1 a2 a3 a4 : Value} (hT : w5.heap[w2.heap.size]? = some (.cells #[a0, a1, a2, a3, a4] 85 (0, 0)))
    (hN : w5.heap[w.heap.size]? = some (.cells #[.int .i64 0, .string ⟨#[]⟩, .int .i64 0, .slice none 0 0, .slice none 0 0] 85 (0, 0))) (hk : Keep [P] w w5) (aC aK : Option Addr) (lC cC lK cK : Nat) {lo : Nat}
    (hR : RepXl w5 lo (n + 1) x [.int .i64 x.op, .string x.name, .int .i64 x.n, .slice aC lC cC, .slice aK lK cK]) (hlo : w2.heap.size < lo) (hlo' : w.heap.size + 1 ≤ lo) (wx : World)
    (hwx : wx = (((((w5.setCell ⟨w2.heap.size, 0, none⟩ (.int .i64 x.op)).setCell ⟨w2.heap.size, 1, none⟩ (.string x.name)).setCell ⟨w2.heap.size, 2, none⟩ (.int .i64 x.n)).setCell ⟨w2.heap.size, 3, none⟩ (.slice aC lC cC)).setCell ⟨w2.heap.size, 4, none⟩ (.slice aK lK cK))) :
    ExMid W P B cap ws at_ op n x w w2 wx := by
  obtain ⟨hT7, k7⟩ := set5 hT _ _ _ _ _ wx hwx
  have hy : ∀ y, y ∈ [w2.heap.size] → y = w2.heap.size := fun y hy => by simpa using hy
  exact ⟨aC, lC, cC, aK, lK, cK, hT7, hR.keep k7 (fun y h => (by rw [hy y h]; exact hlo)) hlo', (k7.block _ (lt_of_block hN) (by simp; omega)).trans hN, hk.old k7 (fun y h => .inr (by rw [hy y h]; omega)), h5.kept k7 (fun y h => by rw [hy y h]; omega)⟩
set_option maxRecDepth 100000 in
set_option maxHeartbeats 1000000 in
theorem expr_core {W w : World} {P B cap : Nat} {ws : List ByteArray} {at_ op n : Nat} (hE : ErrV W) (h : PS W w P B cap ws at_ op) (ho : op < 100) {x : XE} {j : Nat} (hc : ExprCase W P B cap ws at_ op n x j) :
    Calls Tryz.prog 97 #[.pointer (some ⟨P, 0, none⟩)] w (ExprP W P B cap ws j op (n + 1) x w) := by
  have HH := Lib.hid h
  have HC := Lib.hid hc
  have HEV := Lib.hid hE
  have hll := h.len
  have hPl := lt_of_block h.hP
  have hBl := h.Blt
  clear h hc hE
  go_enter Tryz.func97, Tryz.ntmps97
  go_wp2_with fail
  have hb1 : Below w.heap.size w (w.alloc (Obj.cells #[.int .i64 0, .string ⟨#[]⟩, .int .i64 0, .slice none 0 0, .slice none 0 0] 85)) := (Below.refl _ _).alloc (Nat.le_refl _) _
  refine (begin_any' (HH.out.on hb1) ho).mono ?_
  rintro e w2 ⟨rfl, hk2, h2⟩
  have hN2 := (hk2.block w.heap.size (by simp) (by simp; omega)).trans (heap_alloc_at _ _)
  have HK2 := Lib.hid ((Keep.of_below (S := [P]) hb1).trans hk2)
  have HS2 := Lib.hid h2
  have HN2 := Lib.hid hN2
  have hl2 := lt_of_block hN2
  clear hb1 hk2 h2 hN2
  go_upto_region 2 with fail
  go_step
  go_step
  go_step
  go_step
  go_step
  go_step
  go_step
  go_step
  go_cut [] from 4 to 38 (fun wx => ExMid W P B cap ws j op n x w w2 wx)
  case first =>
    obtain ⟨w3, hw3⟩ : ∃ w3, w3 = w2.alloc (Obj.cells #[.int .i64 0, .string ⟨#[]⟩, .int .i64 0, .slice none 0 0, .slice none 0 0] 85) := ⟨_, rfl⟩
    rw [← hw3]
    have hb3 : Below w2.heap.size w2 w3 := by rw [hw3]; exact (Below.refl _ _).alloc (Nat.le_refl _) _
    have hT3 : w3.heap[w2.heap.size]? = some (.cells #[.int .i64 0, .string ⟨#[]⟩, .int .i64 0, .slice none 0 0, .slice none 0 0] 85 (0, 0)) := by rw [hw3]; exact heap_alloc_at _ _
    have HS3 := Lib.hid (HS2.out.on hb3)
    have HN3 := Lib.hid ((hb3.block _ hl2).trans HN2.out)
    have HT3 := Lib.hid hT3
    have HK3 := Lib.hid (HK2.out.trans (Keep.of_below hb3))
    have hl3 := lt_of_block HN3.out
    have hl3' := lt_of_block hT3
    clear hw3 hb3 hT3 HS2 HN2 HK2
    cases HC.out with
    | num s i hs hi hp hf hsz =>
      have HS := Lib.hid hs
      have HP := Lib.hid hp
      have HF := Lib.hid hf
      have hlt := (List.getElem?_eq_some_iff.1 hs).1
      clear hs hp hf HC
      go_wp2_with fail
      refine (next_any HS3.out HS.out).mono ?_
      rintro e w4 ⟨rfl, n1, rfl⟩
      go_wp2_with fail
      refine (numeral_ok hi HP.out HF.out hsz (w3.drewN n1)).mono ?_
      rintro e w5 ⟨rfl, hb5⟩
      have hb5' := (Below.drewN' (Below.refl w3.heap.size w3) n1).trans hb5
      have HS5 := Lib.hid (HS3.out.on hb5')
      have HN5 := Lib.hid ((hb5'.block _ hl3).trans HN3.out)
      have HT5 := Lib.hid ((hb5'.block _ hl3').trans HT3.out)
      have HK5 := Lib.hid (HK3.out.trans (Keep.of_below hb5'))
      have c1 := HS5.out.c1
      have z1 := frozB HS5.out.hP 1
      have hPl5 := lt_of_block HS5.out.hP
      have hl5 := lt_of_block HT5.out
      have hPT : P ≠ w2.heap.size := by omega
      have hTP : w2.heap.size ≠ P := by omega
      obtain ⟨y0, y1, y2, y3, y4, x0, x1, x2, x3, x4⟩ := five HT5.out
      clear hb5 hb5' HS3 HN3 HT3 HK3
      go_wp2_with fail
      go_meet
      case rel =>
        obtain ⟨p6, k6⟩ := HS5.out.setAt (at_ + 1) (by omega)
        have hT6 := (heap_setCell_ne (b := P) (k := w2.heap.size) 1 (.int .i64 ((at_ + 1 : Nat) : Int)) hTP).trans HT5.out
        have hN6 := (heap_setCell_ne (b := P) (k := w.heap.size) 1 (.int .i64 ((at_ + 1 : Nat) : Int)) (by omega)).trans HN5.out
        exact mid_store (n := n) (x := .mk 1 ⟨#[]⟩ i []) (lo := w2.heap.size + 1) HH.out.geP HH.out.below.size hPl hBl hl2 p6 hT6 hN6 (HK5.out.trans k6) none none 0 0 0 0 ⟨_, _, rfl, ⟨_, _, _, rfl⟩, (show I64 1 by unfold I64; omega), (show I64 (i : Int) by unfold I64; omega), (show (⟨#[]⟩ : ByteArray).size ≤ 1048576 by decide), RepVl.nil _ _ _ _⟩ (by omega) (by omega) _ rfl
    | mem s i h0 h1 hs h2 hi hp hf hsz =>
      have H0 := Lib.hid h0
      have H1 := Lib.hid h1
      have H2 := Lib.hid h2
      have HS := Lib.hid hs
      have HP := Lib.hid hp
      have HF := Lib.hid hf
      clear hs hp hf HC h0 h1 h2
      go_wp2_with fail
      refine (next_any HS3.out H0.out).mono ?_
      rintro e w4 ⟨rfl, n1, rfl⟩
      go_wp2_with fail
      refine (numeral_no (s := ⟨#[109]⟩) (by decide) (by decide) HEV.out (HS3.out.on (Below.drewN' (Below.refl w3.heap.size w3) n1)).below).mono ?_
      rintro e w5 ⟨rfl, hb5⟩
      have hb5' := (Below.drewN' (Below.refl w3.heap.size w3) n1).trans hb5
      have HS5 := Lib.hid (HS3.out.on hb5')
      have HK5 := Lib.hid (Keep.of_below (S := [P]) hb5')
      clear hb5 hb5'
      go_wp2_with fail
      refine (takes_yes HS5.out H0.out).mono ?_
      rintro e w6 ⟨rfl, hk6, hs6⟩
      have HS6 := Lib.hid hs6
      have HK6 := Lib.hid (HK5.out.trans hk6)
      clear hk6 hs6
      go_wp2_with fail
      refine (cell_any HS6.out H1.out HS.out H2.out hi HP.out HF.out hsz).mono ?_
      rintro e w7 ⟨rfl, hk7, hs7⟩
      have hk7' := HK6.out.trans hk7
      have HS7 := Lib.hid hs7
      have HN7 := Lib.hid ((hk7'.block _ hl3 (by simp; omega)).trans HN3.out)
      have HT7 := Lib.hid ((hk7'.block _ hl3' (by simp; omega)).trans HT3.out)
      have HK7 := Lib.hid (HK3.out.trans hk7')
      have hl7 := lt_of_block HT7.out
      obtain ⟨y0, y1, y2, y3, y4, x0, x1, x2, x3, x4⟩ := five HT7.out
      clear hk7 hs7 hk7' HS3 HN3 HT3 HK3
      go_wp2_with fail
      go_meet
      case rel =>
        exact mid_store (n := n) (x := .mk 16 ⟨#[]⟩ i []) (lo := w2.heap.size + 1) HH.out.geP HH.out.below.size hPl hBl hl2 HS7.out HT7.out HN7.out HK7.out none none 0 0 0 0 ⟨_, _, rfl, ⟨_, _, _, rfl⟩, (show I64 16 by unfold I64; omega), (show I64 (i : Int) by unfold I64; omega), (show (⟨#[]⟩ : ByteArray).size ≤ 1048576 by decide), RepVl.nil _ _ _ _⟩ (by omega) (by omega) _ rfl
    | var s hs hn hp hsz hm hq =>
      have HS := Lib.hid hs
      have HNm := Lib.hid hn
      have HP := Lib.hid hp
      clear hs hp hn HC
      go_wp2_with fail
      refine (next_any HS3.out HS.out).mono ?_
      rintro e w4 ⟨rfl, n1, rfl⟩
      go_wp2_with fail
      refine (numeral_no HP.out hsz HEV.out (HS3.out.on (Below.drewN' (Below.refl w3.heap.size w3) n1)).below).mono ?_
      rintro e w5 ⟨rfl, hb5⟩
      have hb5' := (Below.drewN' (Below.refl w3.heap.size w3) n1).trans hb5
      have HS5 := Lib.hid (HS3.out.on hb5')
      have HB5 := Lib.hid hb5'
      clear hb5 hb5'
      go_wp2_with fail
      refine (takes_no HS5.out HS.out (s := ⟨#[109]⟩) hm).mono ?_
      rintro e w6 ⟨rfl, n6, rfl⟩
      have HS6 := Lib.hid (HS5.out.on (Below.drewN' (Below.refl _ _) n6))
      go_wp2_with fail
      refine (takes_no HS6.out HS.out (s := ⟨#[40]⟩) hq).mono ?_
      rintro e w7 ⟨rfl, n7, rfl⟩
      have HS7 := Lib.hid (HS5.out.on (Below.drewN' (Below.refl _ _) (n6 + n7)))
      go_wp2_with fail
      refine (name_any HS7.out HS.out HNm.out).mono ?_
      rintro e w8 ⟨rfl, hk8, hs8⟩
      have hb8 : Below w3.heap.size w3 (w5.drewN (n6 + n7)) := Below.drewN' HB5.out (n6 + n7)
      have hk8' := (Keep.of_below (S := [P]) hb8).trans hk8
      have HS8 := Lib.hid hs8
      have HN8 := Lib.hid ((hk8'.block _ hl3 (by simp; omega)).trans HN3.out)
      have HT8 := Lib.hid ((hk8'.block _ hl3' (by simp; omega)).trans HT3.out)
      have HK8 := Lib.hid (HK3.out.trans hk8')
      have hl8 := lt_of_block HT8.out
      obtain ⟨y0, y1, y2, y3, y4, x0, x1, x2, x3, x4⟩ := five HT8.out
      clear hk8 hs8 hk8' hb8 HS3 HN3 HT3 HK3
      go_wp2_with fail
      go_meet
      case rel =>
        exact mid_store (n := n) (x := .mk 4 s 0 []) (lo := w2.heap.size + 1) HH.out.geP HH.out.below.size hPl hBl hl2 HS8.out HT8.out HN8.out HK8.out none none 0 0 0 0 ⟨_, _, rfl, ⟨_, _, _, rfl⟩, (show I64 4 by unfold I64; omega), (show I64 0 by unfold I64; omega), (show s.size ≤ 1048576 by omega), RepVl.nil _ _ _ _⟩ (by omega) (by omega) _ rfl
    | par x j h0 h1 hin =>
      have H0 := Lib.hid h0
      have H1 := Lib.hid h1
      have HIN := Lib.hid hin
      clear h0 h1 hin HC
      go_wp2_with fail
      refine (next_any HS3.out H0.out).mono ?_
      rintro e w4 ⟨rfl, n1, rfl⟩
      go_wp2_with fail
      refine (numeral_no (s := ⟨#[40]⟩) (by decide) (by decide) HEV.out (HS3.out.on (Below.drewN' (Below.refl w3.heap.size w3) n1)).below).mono ?_
      rintro e w5 ⟨rfl, hb5⟩
      have hb5' := (Below.drewN' (Below.refl w3.heap.size w3) n1).trans hb5
      have HS5 := Lib.hid (HS3.out.on hb5')
      have HB5 := Lib.hid hb5'
      clear hb5 hb5'
      go_wp2_with fail
      refine (takes_no HS5.out H0.out (s := ⟨#[109]⟩) (tl_lit (by decide))).mono ?_
      rintro e w6 ⟨rfl, n6, rfl⟩
      have HS6 := Lib.hid (HS5.out.on (Below.drewN' (Below.refl _ _) n6))
      go_wp2_with fail
      refine (takes_yes HS6.out H0.out).mono ?_
      rintro e w7 ⟨rfl, hk7, hs7⟩
      have HS7 := Lib.hid hs7
      have HK7 := Lib.hid ((Keep.of_below (S := [P]) (Below.drewN' HB5.out n6)).trans hk7)
      have hs7z := HK7.out.size
      clear hk7 hs7
      go_wp2_with fail
      refine (HIN.out w7 HS7.out).mono ?_
      rintro e w8 ⟨⟨aC, lC, cC, aK, lK, cK, rfl, hx⟩, hk8, hs8⟩
      have hk8' := HK7.out.trans hk8
      have hS8 := hs8
      have HN8 := Lib.hid ((hk8'.block _ hl3 (by simp; omega)).trans HN3.out)
      have HT8 := Lib.hid ((hk8'.block _ hl3' (by simp; omega)).trans HT3.out)
      have HK8 := Lib.hid (HK3.out.trans hk8')
      have HX := Lib.hid hx
      have HS8 := Lib.hid hS8
      have hl8 := lt_of_block HT8.out
      obtain ⟨y0, y1, y2, y3, y4, x0, x1, x2, x3, x4⟩ := five HT8.out
      clear hk8 hs8 hS8 hk8' hx HS3 HN3 HT3 HK3
      go_upto_region 11 with fail
      obtain ⟨w9, hw9⟩ : ∃ w9, w9 = (((((w8.setCell ⟨w2.heap.size, 0, none⟩ (.int .i64 x.op)).setCell ⟨w2.heap.size, 1, none⟩ (.string x.name)).setCell ⟨w2.heap.size, 2, none⟩ (.int .i64 x.n)).setCell ⟨w2.heap.size, 3, none⟩ (.slice aC lC cC)).setCell ⟨w2.heap.size, 4, none⟩ (.slice aK lK cK)) := ⟨_, rfl⟩
      rw [← hw9]
      have hM := mid_store (n := n) (x := x) (lo := w7.heap.size) HH.out.geP HH.out.below.size hPl hBl hl2 HS8.out HT8.out HN8.out HK8.out aC aK lC cC lK cK HX.out (by omega) (by omega) w9 hw9
      have HM := Lib.hid hM
      clear hM hw9 y0 y1 y2 y3 y4 x0 x1 x2 x3 x4
      have hs9 := HM.out
      obtain ⟨aC', lC', cC', aK', lK', cK', hT9, hX9, hN9, hk9, hS9⟩ := HM.out
      have HS9 := Lib.hid hS9
      have HT9 := Lib.hid hT9
      have HX9 := Lib.hid hX9
      have HN9 := Lib.hid hN9
      have HK9 := Lib.hid hk9
      have hl9 := lt_of_block hT9
      clear hs9 hT9 hX9 hN9 hk9 hS9 HM
      go_wp2_with fail
      have hb10 : Below w9.heap.size w9 (w9.alloc (Obj.cells #[Value.string ⟨#[41]⟩] 9)) := (Below.refl _ _).alloc (Nat.le_refl _) _
      refine (want_one (HS9.out.on hb10) H1.out (G := w9.heap.size) (cellB' (heap_alloc_at _ _) 0 rfl)).mono ?_
      rintro e w11 ⟨rfl, hk11, hs11⟩
      have hk11' := (Keep.of_below (S := [P]) hb10).trans hk11
      have HK11 := Lib.hid hk11'
      have HS11 := Lib.hid hs11
      clear hb10 hk11 hs11 hk11'
      go_wp2_with fail
      go_meet
      case rel =>
        exact ⟨aC', lC', cC', aK', lK', cK', (HK11.out.block _ hl9 (by simp; omega)).trans HT9.out, HX9.out.keep HK11.out (fun y hy => by
          have : y = P := by simpa using hy
          omega) (Nat.le_refl _), (HK11.out.block _ (lt_of_block HN9.out) (by simp; omega)).trans HN9.out, HK9.out.trans HK11.out, HS11.out⟩
  case rest =>
    obtain ⟨aC, lC, cC, aK, lK, cK, hT, hX, hN, hk, hs⟩ := hcut
    have HTc := Lib.hid hT
    have HXc := Lib.hid hX
    have HNc := Lib.hid hN
    have HKc := Lib.hid hk
    have HSc := Lib.hid hs
    have c2 := hs.c2
    have z2 := frozB hs.hP 2
    have hPc := lt_of_block hs.hP
    clear HS2 HN2 HK2 HC hT hX hN hk hs
    go_upto_region 14 with fail
    obtain ⟨p6, k6⟩ := HSc.out.setOp op (by omega)
    have hT6 := (k6.block _ (lt_of_block HTc.out) (by simp; omega)).trans HTc.out
    have hN6 := (k6.block _ (lt_of_block HNc.out) (by simp; omega)).trans HNc.out
    have HS6 := Lib.hid p6
    have HK6 := Lib.hid k6
    have HT6 := Lib.hid hT6
    have HN6 := Lib.hid hN6
    have hlT := lt_of_block hT6
    have hlN := lt_of_block hN6
    clear c2 z2 hPc p6 k6 hT6 hN6
    generalize wc.setCell ⟨P, 2, none⟩ (.int .i64 op) = wd at HS6 HK6 HT6 HN6 hlT hlN ⊢
    obtain ⟨y0, y1, y2, y3, y4, -⟩ := five HT6.out
    obtain ⟨v0, v1, v2, v3, v4, x0, x1, x2, x3, x4⟩ := five HN6.out
    go_wp2_with fail
    obtain ⟨we, hwe⟩ : ∃ we, we = (((((wd.setCell ⟨w.heap.size, 0, none⟩ (.int .i64 x.op)).setCell ⟨w.heap.size, 1, none⟩ (.string x.name)).setCell ⟨w.heap.size, 2, none⟩ (.int .i64 x.n)).setCell ⟨w.heap.size, 3, none⟩ (.slice aC lC cC)).setCell ⟨w.heap.size, 4, none⟩ (.slice aK lK cK)) := ⟨_, rfl⟩
    rw [← hwe]
    obtain ⟨hN7, k7⟩ := set5 HN6.out _ _ _ _ _ we hwe
    have hy : ∀ y, y ∈ [w.heap.size] → y = w.heap.size := fun y hy => by simpa using hy
    obtain ⟨v0', v1', v2', v3', v4', -⟩ := five hN7
    clear hwe y0 y1 y2 y3 y4 v0 v1 v2 v3 v4 x0 x1 x2 x3 x4
    have hX7 := HXc.out
    have e6 : Keep [P] wc wd := HK6.out
    refine bodyPost_ret (v := .agg #[.int .i64 x.op, .string x.name, .int .i64 x.n, .slice aC lC cC, .slice aK lK cK]) ?_ rfl ?_
    · simp [results, Tryz.results97, go_sem, v0', v1', v2', v3', v4']
    · exact ⟨⟨aC, lC, cC, aK, lK, cK, rfl, (hX7.keep e6 (fun y hy => by
        have : y = P := by simpa using hy
        omega) (Nat.le_refl _)).keep k7 (fun y h => by rw [hy y h]; omega) (by omega)⟩, (HKc.out.trans HK6.out).old k7 (fun y h => .inr (by rw [hy y h]; omega)), HS6.out.kept k7 (fun y h => by
        have := HH.out.geP
        have := HH.out.below.size
        rw [hy y h]; omega)⟩
end Go.Proofs.YtoaajpppbjaomaaGreatDoor
/- The parser of flat texts: what stands between brackets. -/
namespace Go.Proofs.YtoaajpppbjaomaaGreatDoor
open Go.RowKit
theorem neq_func (fn : Nat) (caps : Array Value) (w : World) : (binOp BinOp.neq 156 (.func (.func fn) #[] caps) .nilFunc).run Tryz.prog w = .ok (.bool true) w := by kernel_rfl
set_option maxRecDepth 100000 in
set_option maxHeartbeats 400000 in
theorem takes_plus (w : World) : Calls Tryz.prog 140 #[.string ⟨#[43]⟩, .int .i64 2] w (fun e w' => ∃ a b : Int, e = .returned (.tuple #[.int .i64 a, .int .i64 b, .bool true]) ∧ Below w.heap.size w w') := by
  have HO := Lib.hid (ofname1 ⟨#[43]⟩ (by rw [ByteArray.toList_eq]; decide) w)
  go_enter Tryz.func140, Tryz.ntmps140
  go_wp2_with fail
  refine HO.out.mono ?_
  rintro e w1 ⟨fn, caps, t, r, rfl, hb1, hcall, hdo⟩
  have HB := Lib.hid hb1
  clear hb1 hdo hcall HO
  have he := neq_func
  go_wp2_with fail
  go_region
  go_wp2_with fail
  go_ret3
  exact ⟨_, _, rfl, (HB.out.alloc HB.out.size _).drew⟩
theorem flat_get {sz : Nat} : ∀ (css : List (List Value)) (j i : Nat) (cs : List Value) (v : Value), (∀ c, c ∈ css → c.length = sz) → css[j]? = some cs → cs[i]? = some v → css.flatten[j * sz + i]? = some v
  | [], j, i, cs, v, _, h, _ => by simp at h
  | c :: r, 0, i, cs, v, _, h, hv => by
    simp at h
    subst h
    rw [List.flatten_cons, Nat.zero_mul, Nat.zero_add, List.getElem?_append_left (List.getElem?_eq_some_iff.1 hv).1]
    exact hv
  | c :: r, j + 1, i, cs, v, hl, h, hv => by
    have hc := hl c (by simp)
    rw [List.flatten_cons, List.getElem?_append_right (by rw [hc, Nat.add_mul]; omega), hc, show (j + 1) * sz + i - sz = j * sz + i by rw [Nat.add_mul]; omega]
    exact flat_get r j i cs v (fun x hx => hl x (by simp [hx])) (by simpa using h) hv
theorem repVl_of {α : Type} {R : α → List Value → Prop} {sz : Nat} {w : World} {lo b cap : Nat} {xs : List α} {css : List (List Value)} {arr : Array Value} {z : Nat × Nat} (h : w.heap[b]? = some (.cells arr 85 z)) (harr : ∀ (i : Nat) v, css.flatten[i]? = some v → arr[i]? = some v)
    (hl : css.length = xs.length) (hsz : ∀ c, c ∈ css → c.length = sz) (hR : ∀ (j : Nat) x cs, xs[j]? = some x → css[j]? = some cs → R x cs) (hlo : lo ≤ b) (hn : xs.length ≤ 1048576) (hc : xs.length ≤ cap) (hcm : cap ≤ 9223372036854775807) :
    RepVl R sz w lo (.slice (some ⟨b, 0, none⟩) xs.length cap) xs := by
  refine ⟨hn, _, _, rfl, hc, hcm, fun _ => ⟨b, 0, rfl, hlo, ⟨_, _, h⟩, fun j x hj => ?_⟩⟩
  have hjl : j < css.length := by rw [hl]; exact (List.getElem?_eq_some_iff.1 hj).1
  have hg := List.getElem?_eq_getElem hjl
  refine ⟨css[j], hsz _ (List.getElem_mem _), hR j x _ hj hg, fun i v hv => ?_⟩
  rw [cellB h, Nat.zero_add]
  exact harr _ _ (flat_get css j i _ v hsz hg hv)
theorem reps2 {R : XE → List Value → Prop} {a b : XE} {ca cb : List Value} (ha : R a ca) (hb : R b cb) : ∀ (j : Nat) x cs, [a, b][j]? = some x → [ca, cb][j]? = some cs → R x cs
  | 0, x, cs, h, h' => by simp at h h'; subst h h'; exact ha
  | 1, x, cs, h, h' => by simp at h h'; subst h h'; exact hb
  | j + 2, x, cs, h, _ => by simp at h
theorem reps3 {R : XE → List Value → Prop} {a b c : XE} {ca cb cc : List Value} (ha : R a ca) (hb : R b cb) (hc : R c cc) : ∀ (j : Nat) x cs, [a, b, c][j]? = some x → [ca, cb, cc][j]? = some cs → R x cs
  | 0, x, cs, h, h' => by simp at h h'; subst h h'; exact ha
  | 1, x, cs, h, h' => by simp at h h'; subst h h'; exact hb
  | 2, x, cs, h, h' => by simp at h h'; subst h h'; exact hc
  | j + 3, x, cs, h, _ => by simp at h
/-- what stands at the end of a bracket -/
theorem inner_end {W w w7 we : World} {P B cap : Nat} {ws : List ByteArray} {k op n lo : Nat} {o nn : Int} {name : ByteArray} {kids : List XE} {css : List (List Value)} {arr : Array Value} {a0 a1 a2 a3 a4 : Value}
    (_hgP : W.heap.size ≤ P) (hWs : W.heap.size ≤ w.heap.size) (hPl : P < w.heap.size) (hBl : B < w.heap.size) (hs : PS W w7 P B cap ws k op) (hk : Keep [P] w w7) (hN : w7.heap[w.heap.size]? = some (.cells #[a0, a1, a2, a3, a4] 85 (0, 0)))
    (harr : ∀ (i : Nat) v, css.flatten[i]? = some v → arr[i]? = some v) (hl : css.length = kids.length) (hsz : ∀ c, c ∈ css → c.length = 5) (hR : ∀ (j : Nat) x cs, kids[j]? = some x → css[j]? = some cs → RepXl w7 lo n x cs) (hlo : w.heap.size + 1 ≤ lo) (hkl : kids.length ≤ 3)
    (ho : I64 o) (hnn : I64 nn) (hnm : name.size ≤ 1048576)
    (hwe : we = (((((w7.setCell ⟨w.heap.size, 0, none⟩ (.int .i64 o)).setCell ⟨w.heap.size, 1, none⟩ (.string name)).setCell ⟨w.heap.size, 2, none⟩ (.int .i64 nn)).setCell ⟨w.heap.size, 3, none⟩ (.slice none 0 0)).setCell ⟨w.heap.size, 4, none⟩ (.slice (some ⟨w7.heap.size, 0, none⟩) kids.length kids.length)).alloc (.cells arr 85)) :
    we.heap[w.heap.size]? = some (.cells #[.int .i64 o, .string name, .int .i64 nn, .slice none 0 0, .slice (some ⟨w7.heap.size, 0, none⟩) kids.length kids.length] 85 (0, 0)) ∧
      ExprP W P B cap ws k op (n + 1) (.mk o name nn kids) w (.returned (.agg #[.int .i64 o, .string name, .int .i64 nn, .slice none 0 0, .slice (some ⟨w7.heap.size, 0, none⟩) kids.length kids.length])) we := by
  obtain ⟨w8, hw8⟩ : ∃ w8, w8 = (((((w7.setCell ⟨w.heap.size, 0, none⟩ (.int .i64 o)).setCell ⟨w.heap.size, 1, none⟩ (.string name)).setCell ⟨w.heap.size, 2, none⟩ (.int .i64 nn)).setCell ⟨w.heap.size, 3, none⟩ (.slice none 0 0)).setCell ⟨w.heap.size, 4, none⟩ (.slice (some ⟨w7.heap.size, 0, none⟩) kids.length kids.length)) := ⟨_, rfl⟩
  rw [← hw8] at hwe
  obtain ⟨hN8, k8⟩ := set5 hN _ _ _ _ _ w8 hw8
  have hy : ∀ y, y ∈ [w.heap.size] → y = w.heap.size := fun y hy => by simpa using hy
  have hsz8 : w8.heap.size = w7.heap.size := by rw [hw8]; simp [World.setCell]
  have hb9 : Below w8.heap.size w8 we := by rw [hwe]; exact (Below.refl _ _).alloc (Nat.le_refl _) _
  have hK9 : we.heap[w7.heap.size]? = some (.cells arr 85 (0, 0)) := by rw [hwe, ← hsz8]; exact heap_alloc_at _ _
  have hN9 := (hb9.block _ (lt_of_block hN8)).trans hN8
  have k9 := k8.trans (Keep.of_below (S := [w.heap.size]) hb9)
  have hNl := lt_of_block hN
  refine ⟨hN9, ⟨_, _, _, _, _, _, rfl, ⟨_, _, rfl, ⟨_, _, _, rfl⟩, ho, hnn, hnm, ?_⟩⟩, hk.old k9 (fun y h => .inr (by rw [hy y h]; omega)), hs.kept k9 (fun y h => by rw [hy y h]; omega)⟩
  exact repVl_of hK9 harr hl hsz (fun j x cs h1 h2 => (hR j x cs h1 h2).keep k9 (fun y h => by rw [hy y h]; omega) (by omega)) (by omega) (by omega) (Nat.le_refl _) (by omega)
/-- an expression stands here, and the parser takes it -/
def EC (W : World) (P B cap : Nat) (ws : List ByteArray) (i j op n : Nat) (x : XE) : Prop := ∀ w, PS W w P B cap ws i op → Calls Tryz.prog 97 #[.pointer (some ⟨P, 0, none⟩)] w (ExprP W P B cap ws j op n x w)
def NotOp (t : ByteArray) : Prop := (t.toList == [110, 111, 116]) = false ∧ (t.toList == [45]) = false ∧ (t.toList == [105, 102]) = false
set_option maxRecDepth 100000 in
set_option maxHeartbeats 2000000 in
theorem inner_bin {W w : World} {P B cap : Nat} {ws : List ByteArray} {i j k op n : Nat} (h : PS W w P B cap ws i op) {t : ByteArray} (ht : ws[i]? = some t) (hno : NotOp t) {a b : XE} (ha : EC W P B cap ws i j op n a) (hj : ws[j]? = some ⟨#[43]⟩) (hb : EC W P B cap ws (j + 1) k op n b) :
    Calls Tryz.prog 114 #[.pointer (some ⟨P, 0, none⟩)] w (ExprP W P B cap ws k op (n + 1) (.mk 6 ⟨#[43]⟩ 0 [a, b]) w) := by
  obtain ⟨d1, d2, d3⟩ := hno
  have HH := Lib.hid h
  have HT := Lib.hid ht
  have HA := Lib.hid ha
  have HJ := Lib.hid hj
  have HBx := Lib.hid hb
  have hPl := lt_of_block h.hP
  have hBl := h.Blt
  have hlt := (List.getElem?_eq_some_iff.1 hj).1
  have hll := h.len
  clear h ht ha hj hb
  go_enter Tryz.func114, Tryz.ntmps114
  go_wp2_with fail
  have hb1 : Below w.heap.size w (w.alloc (Obj.cells #[.int .i64 0, .string ⟨#[]⟩, .int .i64 0, .slice none 0 0, .slice none 0 0] 85)) := (Below.refl _ _).alloc (Nat.le_refl _) _
  refine (next_any (HH.out.on hb1) HT.out).mono ?_
  rintro e w1 ⟨rfl, n1, rfl⟩
  obtain ⟨w2, hw2⟩ : ∃ w2, w2 = (w.alloc (Obj.cells #[.int .i64 0, .string ⟨#[]⟩, .int .i64 0, .slice none 0 0, .slice none 0 0] 85)).drewN n1 := ⟨_, rfl⟩
  rw [← hw2]
  have hb2 : Below w.heap.size w w2 := by rw [hw2]; exact Below.drewN' hb1 _
  have hN2 : w2.heap[w.heap.size]? = some (.cells #[.int .i64 0, .string ⟨#[]⟩, .int .i64 0, .slice none 0 0, .slice none 0 0] 85 (0, 0)) := by rw [hw2]; exact heap_alloc_at w _
  have HS2 := Lib.hid (HH.out.on hb2)
  have HB2 := Lib.hid hb2
  have HN2 := Lib.hid hN2
  have hl2 := lt_of_block hN2
  clear hw2 hb1 hb2 hN2
  go_wp2_with fail
  refine (HA.out w2 HS2.out).mono ?_
  rintro e w3 ⟨⟨aC, lC, cC, aK, lK, cK, rfl, hx3⟩, hk3, hs3⟩
  have HX3 := Lib.hid hx3
  have HK3 := Lib.hid ((Keep.of_below (S := [P]) HB2.out).trans hk3)
  have HS3 := Lib.hid hs3
  have HN3 := Lib.hid ((hk3.block _ hl2 (by simp; omega)).trans HN2.out)
  have hl3 := lt_of_block HN3.out
  have hz3 := hk3.size
  clear hx3 hk3 hs3 HN2 HB2 HS2
  go_wp2_with fail
  have hb4 : Below w3.heap.size w3 (w3.alloc (Obj.cells #[.int .i64 a.op, .string a.name, .int .i64 a.n, .slice aC lC cC, .slice aK lK cK] 85)) := (Below.refl _ _).alloc (Nat.le_refl _) _
  refine (next_any (HS3.out.on hb4) HJ.out).mono ?_
  rintro e w4 ⟨rfl, n4, rfl⟩
  go_wp2_with fail
  refine (takes_plus _).mono ?_
  rintro e w5 ⟨x1, x2, rfl, hb5⟩
  have hb5' := (Below.drewN' hb4 n4).trans (hb5.mono (by simp))
  have HS5 := Lib.hid (HS3.out.on hb5')
  have HN5 := Lib.hid ((hb5'.block _ hl3).trans HN3.out)
  have HT5 := Lib.hid ((hb5.block _ (by simp)).trans (heap_alloc_at w3 (Obj.cells #[.int .i64 a.op, .string a.name, .int .i64 a.n, .slice aC lC cC, .slice aK lK cK] 85)))
  have HK5 := Lib.hid (HK3.out.trans (Keep.of_below hb5'))
  have HX5 := Lib.hid (HX3.out.keep (S := []) (lo' := w2.heap.size) (Keep.of_below hb5') (fun y hy => by cases hy) (Nat.le_refl _))
  have hz5 := hb5'.size
  have c1 := HS5.out.c1
  have z1 := frozB HS5.out.hP 1
  have hP5 := lt_of_block HS5.out.hP
  clear hb4 hb5 hb5' HS3 HN3 HK3 HX3
  go_upto_region 20 with fail
  obtain ⟨p6, k6⟩ := HS5.out.setAt (j + 1) (by omega)
  rw [show ((j + 1 : Nat) : Int) = (j : Int) + 1 from by simp] at p6 k6
  have HS6 := Lib.hid p6
  have HT6 := Lib.hid ((k6.block _ (lt_of_block HT5.out) (by simp; omega)).trans HT5.out)
  have HN6 := Lib.hid ((k6.block _ (lt_of_block HN5.out) (by simp; omega)).trans HN5.out)
  have HK6 := Lib.hid (HK5.out.trans k6)
  have HX6 := Lib.hid (HX5.out.keep k6 (fun y hy => (by have : y = P := by simpa using hy
                                                        omega)) (Nat.le_refl _))
  have hz6 := k6.size
  clear c1 z1 hP5 p6 k6 HS5 HT5 HN5 HK5 HX5
  generalize w5.setCell ⟨P, 1, none⟩ (.int .i64 ((j : Int) + 1)) = w6 at HS6 HT6 HN6 HK6 HX6 hz6 ⊢
  have HS6d := Lib.hid (HS6.out.on (Below.refl w6.heap.size w6).drew)
  have hT6l := lt_of_block HT6.out
  have hN6l := lt_of_block HN6.out
  obtain ⟨y0, y1, y2, y3, y4, -⟩ := five HT6.out
  go_region_with (go_at_call 97; refine (HBx.out _ HS6d.out).mono ?_; rintro e w7 ⟨⟨bC, lCb, cCb, bK, lKb, cKb, rfl, hx7⟩, hk7, hs7⟩; obtain ⟨u0, u1, u2, u3, u4, -⟩ := five ((hk7.block _ hT6l (by simp; omega)).trans HT6.out); obtain ⟨t0, t1, t2, t3, t4, f0, f1, f2, f3, f4⟩ := five ((hk7.block _ hN6l (by simp; omega)).trans HN6.out); have hN7l := Nat.lt_of_lt_of_le hN6l hk7.size; have HX7 := Lib.hid hx7; have HK7 := Lib.hid hk7; have HS7 := Lib.hid hs7; clear hx7 hk7 hs7)
  all_goals
    obtain ⟨we, hwe⟩ : ∃ we, we = (((((w7.setCell ⟨w.heap.size, 0, none⟩ (.int .i64 6)).setCell ⟨w.heap.size, 1, none⟩ (.string ⟨#[43]⟩)).setCell ⟨w.heap.size, 2, none⟩ (.int .i64 0)).setCell ⟨w.heap.size, 3, none⟩ (.slice none 0 0)).setCell ⟨w.heap.size, 4, none⟩ (.slice (some ⟨w7.heap.size, 0, none⟩) 2 2)).alloc (.cells #[.int .i64 a.op, .string a.name, .int .i64 a.n, .slice aC lC cC, .slice aK lK cK, .int .i64 b.op, .string b.name, .int .i64 b.n, .slice bC lCb cCb, .slice bK lKb cKb] 85) := ⟨_, rfl⟩
    rw [← hwe]
    have hk67 := (Keep.of_below (S := [P]) (Below.refl w6.heap.size w6).drew).trans HK7.out
    have hend := inner_end (n := n) (kids := [a, b]) (lo := w.heap.size + 1) (css := [[.int .i64 a.op, .string a.name, .int .i64 a.n, .slice aC lC cC, .slice aK lK cK], [.int .i64 b.op, .string b.name, .int .i64 b.n, .slice bC lCb cCb, .slice bK lKb cKb]]) (arr := #[.int .i64 a.op, .string a.name, .int .i64 a.n, .slice aC lC cC, .slice aK lK cK, .int .i64 b.op, .string b.name, .int .i64 b.n, .slice bC lCb cCb, .slice bK lKb cKb]) HH.out.geP HH.out.below.size hPl hBl HS7.out (HK6.out.trans hk67) ((HK7.out.block _ hN6l (by simp; omega)).trans HN6.out) (fun i v h => by simpa using h) rfl (by simp)
      (reps2 (HX6.out.keep hk67 (fun y hy => by rw [List.mem_singleton.1 hy]; omega) (by omega)) (HX7.out.keep (S := []) (Keep.refl _ _) (fun y hy => by cases hy) (by show w.heap.size + 1 ≤ w6.heap.size; omega))) (Nat.le_refl _) (by simp) (by unfold I64; omega) (by unfold I64; omega) (by decide) hwe
    have HEND := Lib.hid hend
    clear hwe hend
    obtain ⟨t0', t1', t2', t3', t4', -⟩ := five HEND.out.1
    go_wp2_with fail
    refine bodyPost_ret (v := .agg #[.int .i64 6, .string ⟨#[43]⟩, .int .i64 0, .slice none 0 0, .slice (some ⟨w7.heap.size, 0, none⟩) 2 2]) ?_ rfl HEND.out.2
    simp only [List.length_cons, List.length_nil] at t4'
    simp [results, Tryz.results114, go_sem, t0', t1', t2', t3', t4']
end Go.Proofs.YtoaajpppbjaomaaGreatDoor
/- The parser of flat texts: if .. then .. else between brackets. -/
namespace Go.Proofs.YtoaajpppbjaomaaGreatDoor
open Go.RowKit
set_option maxRecDepth 100000 in
set_option maxHeartbeats 2000000 in
theorem inner_iff {W w : World} {P B cap : Nat} {ws : List ByteArray} {i j k l op n : Nat} (h : PS W w P B cap ws i op) (ht : ws[i]? = some ⟨#[105, 102]⟩) {a b c : XE} (ha : EC W P B cap ws (i + 1) j op n a) (hj : ws[j]? = some ⟨#[116, 104, 101, 110]⟩)
    (hb : EC W P B cap ws (j + 1) k op n b) (hk : ws[k]? = some ⟨#[101, 108, 115, 101]⟩) (hc : EC W P B cap ws (k + 1) l op n c) :
    Calls Tryz.prog 114 #[.pointer (some ⟨P, 0, none⟩)] w (ExprP W P B cap ws l op (n + 1) (.mk 7 ⟨#[]⟩ 0 [a, b, c]) w) := by
  have HH := Lib.hid h
  have HT := Lib.hid ht
  have HA := Lib.hid ha
  have HJ := Lib.hid hj
  have HBx := Lib.hid hb
  have HKx := Lib.hid hk
  have HCx := Lib.hid hc
  have hPl := lt_of_block h.hP
  have hBl := h.Blt
  have hlt := (List.getElem?_eq_some_iff.1 ht).1
  have hll := h.len
  clear h ht ha hj hb hk hc
  go_enter Tryz.func114, Tryz.ntmps114
  go_wp2_with fail
  have hb1 : Below w.heap.size w (w.alloc (Obj.cells #[.int .i64 0, .string ⟨#[]⟩, .int .i64 0, .slice none 0 0, .slice none 0 0] 85)) := (Below.refl _ _).alloc (Nat.le_refl _) _
  refine (next_any (HH.out.on hb1) HT.out).mono ?_
  rintro e w1 ⟨rfl, n1, rfl⟩
  obtain ⟨w2, hw2⟩ : ∃ w2, w2 = (w.alloc (Obj.cells #[.int .i64 0, .string ⟨#[]⟩, .int .i64 0, .slice none 0 0, .slice none 0 0] 85)).drewN n1 := ⟨_, rfl⟩
  rw [← hw2]
  have hb2 : Below w.heap.size w w2 := by rw [hw2]; exact Below.drewN' hb1 _
  have hN2 : w2.heap[w.heap.size]? = some (.cells #[.int .i64 0, .string ⟨#[]⟩, .int .i64 0, .slice none 0 0, .slice none 0 0] 85 (0, 0)) := by rw [hw2]; exact heap_alloc_at w _
  have HS2 := Lib.hid (HH.out.on hb2)
  have HB2 := Lib.hid hb2
  have HN2 := Lib.hid hN2
  have hl2 := lt_of_block hN2
  have c1 := HS2.out.c1
  have z1 := frozB HS2.out.hP 1
  have hP2 := lt_of_block HS2.out.hP
  clear hw2 hb1 hb2 hN2
  go_wp2_with fail
  obtain ⟨p3, k3⟩ := HS2.out.setAt (i + 1) (by omega)
  have e1 : ((i + 1 : Nat) : Int) = (i : Int) + 1 := by simp
  rw [e1] at p3 k3
  have HS3 := Lib.hid p3
  have HN3 := Lib.hid ((k3.block _ hl2 (by simp; omega)).trans HN2.out)
  have HK3 := Lib.hid ((Keep.of_below (S := [P]) HB2.out).trans k3)
  have hz3 := k3.size
  clear c1 z1 hP2 p3 k3 HS2 HN2 HB2 e1
  generalize w2.setCell ⟨P, 1, none⟩ (.int .i64 ((i : Int) + 1)) = w3 at HS3 HN3 HK3 hz3 ⊢
  have hl3 := lt_of_block HN3.out
  refine (HA.out w3 HS3.out).mono ?_
  rintro e w4 ⟨⟨aC, lC, cC, aK, lK, cK, rfl, hx4⟩, hk4, hs4⟩
  have HX4 := Lib.hid hx4
  have HK4 := Lib.hid (HK3.out.trans hk4)
  have HS4 := Lib.hid hs4
  have HN4 := Lib.hid ((hk4.block _ hl3 (by simp; omega)).trans HN3.out)
  have hl4 := lt_of_block HN4.out
  have hz4 := hk4.size
  clear hx4 hk4 hs4 HN3 HK3 HS3
  go_wp2_with fail
  obtain ⟨w5, hw5⟩ : ∃ w5, w5 = w4.alloc (Obj.cells #[.int .i64 a.op, .string a.name, .int .i64 a.n, .slice aC lC cC, .slice aK lK cK] 85) := ⟨_, rfl⟩
  have hb5 : Below w4.heap.size w4 w5 := by rw [hw5]; exact (Below.refl _ _).alloc (Nat.le_refl _) _
  have hT5 : w5.heap[w4.heap.size]? = some (.cells #[.int .i64 a.op, .string a.name, .int .i64 a.n, .slice aC lC cC, .slice aK lK cK] 85 (0, 0)) := by rw [hw5]; exact heap_alloc_at _ _
  have hz5' : w5.heap.size = w4.heap.size + 1 := by rw [hw5]; simp
  rw [← hw5]
  clear hw5
  have HB5 := Lib.hid hb5
  have HT5 := Lib.hid hT5
  have HS5 := Lib.hid (HS4.out.on hb5)
  have hl5 := lt_of_block hT5
  have hz5 := hb5.size
  clear hb5 hT5
  have hb6 : Below w5.heap.size w5 (w5.alloc (Obj.cells #[Value.string ⟨#[116, 104, 101, 110]⟩] 9)) := (Below.refl _ _).alloc (Nat.le_refl _) _
  refine (want_one (HS5.out.on hb6) HJ.out (G := w4.heap.size + 1) (by rw [← hz5']; exact cellB' (heap_alloc_at _ _) 0 rfl)).mono ?_
  rintro e w6 ⟨rfl, hk6, hs6⟩
  have hk6' := ((Keep.of_below (S := [P]) HB5.out).trans (Keep.of_below hb6)).trans hk6
  have hk6t := (Keep.of_below (S := [P]) hb6).trans hk6
  have HX6 := Lib.hid (HX4.out.keep (lo' := w3.heap.size) hk6' (fun y hy => by rw [List.mem_singleton.1 hy]; omega) (Nat.le_refl _))
  have HK6 := Lib.hid (HK4.out.trans hk6')
  have HS6 := Lib.hid hs6
  have HN6 := Lib.hid ((hk6'.block _ hl4 (by simp; omega)).trans HN4.out)
  have HT6 := Lib.hid ((hk6t.block _ hl5 (by simp; omega)).trans HT5.out)
  have hz6 := hk6t.size
  have hl6 := lt_of_block HN6.out
  have hl6t := lt_of_block HT6.out
  clear hb6 hk6 hs6 hk6' hk6t HX4 HK4 HS4 HN4 HB5 HT5 HS5
  go_wp2_with fail
  refine (HBx.out w6 HS6.out).mono ?_
  rintro e w7 ⟨⟨bC, lCb, cCb, bK, lKb, cKb, rfl, hx7⟩, hk7, hs7⟩
  have HX7 := Lib.hid (HX6.out.keep (lo' := w3.heap.size) hk7 (fun y hy => by rw [List.mem_singleton.1 hy]; omega) (Nat.le_refl _))
  have HY7 := Lib.hid hx7
  have HK7 := Lib.hid (HK6.out.trans hk7)
  have HS7 := Lib.hid hs7
  have HN7 := Lib.hid ((hk7.block _ hl6 (by simp; omega)).trans HN6.out)
  have HT7 := Lib.hid ((hk7.block _ hl6t (by simp; omega)).trans HT6.out)
  have hz7 := hk7.size
  have hl7 := lt_of_block HN7.out
  have hl7t := lt_of_block HT7.out
  clear hx7 hk7 hs7 HX6 HK6 HS6 HN6 HT6
  go_wp2_with fail
  obtain ⟨w8, hw8⟩ : ∃ w8, w8 = w7.alloc (Obj.cells #[.int .i64 b.op, .string b.name, .int .i64 b.n, .slice bC lCb cCb, .slice bK lKb cKb] 85) := ⟨_, rfl⟩
  have hb8 : Below w7.heap.size w7 w8 := by rw [hw8]; exact (Below.refl _ _).alloc (Nat.le_refl _) _
  have hU8 : w8.heap[w7.heap.size]? = some (.cells #[.int .i64 b.op, .string b.name, .int .i64 b.n, .slice bC lCb cCb, .slice bK lKb cKb] 85 (0, 0)) := by rw [hw8]; exact heap_alloc_at _ _
  have hz8' : w8.heap.size = w7.heap.size + 1 := by rw [hw8]; simp
  rw [← hw8]
  clear hw8
  have hb9 : Below w8.heap.size w8 (w8.alloc (Obj.cells #[Value.string ⟨#[101, 108, 115, 101]⟩] 9)) := (Below.refl _ _).alloc (Nat.le_refl _) _
  refine (want_one ((HS7.out.on hb8).on hb9) HKx.out (G := w7.heap.size + 1) (by rw [← hz8']; exact cellB' (heap_alloc_at _ _) 0 rfl)).mono ?_
  rintro e w9 ⟨rfl, hk9, hs9⟩
  have hk9t := (Keep.of_below (S := [P]) hb9).trans hk9
  have hk9' := (Keep.of_below (S := [P]) hb8).trans hk9t
  have hz8 := hb8.size
  have HX9 := Lib.hid (HX7.out.keep (lo' := w3.heap.size) hk9' (fun y hy => by rw [List.mem_singleton.1 hy]; omega) (Nat.le_refl _))
  have HY9 := Lib.hid (HY7.out.keep (lo' := w6.heap.size) hk9' (fun y hy => by rw [List.mem_singleton.1 hy]; omega) (Nat.le_refl _))
  have HK9 := Lib.hid (HK7.out.trans hk9')
  have HS9 := Lib.hid hs9
  have HN9 := Lib.hid ((hk9'.block _ hl7 (by simp; omega)).trans HN7.out)
  have HT9 := Lib.hid ((hk9'.block _ hl7t (by simp; omega)).trans HT7.out)
  have HU9 := Lib.hid ((hk9t.block _ (lt_of_block hU8) (by simp; omega)).trans hU8)
  have hz9 := hk9t.size
  have hl9 := lt_of_block HN9.out
  have hl9t := lt_of_block HT9.out
  have hl9u := lt_of_block HU9.out
  clear hb8 hU8 hb9 hk9 hs9 hk9' hk9t HX7 HY7 HK7 HS7 HN7 HT7
  have HS9d := Lib.hid (HS9.out.on (Below.refl w9.heap.size w9).drew)
  obtain ⟨y0, y1, y2, y3, y4, -⟩ := five HT9.out
  obtain ⟨q0, q1, q2, q3, q4, -⟩ := five HU9.out
  go_upto_region 13 with fail
  go_region_with (go_at_call 97; refine (HCx.out _ HS9d.out).mono ?_; rintro e wA ⟨⟨cC', lCc, cCc, cK', lKc, cKc, rfl, hxA⟩, hkA, hsA⟩; obtain ⟨u0, u1, u2, u3, u4, -⟩ := five ((hkA.block _ hl9t (by simp; omega)).trans HT9.out); obtain ⟨r0, r1, r2, r3, r4, -⟩ := five ((hkA.block _ hl9u (by simp; omega)).trans HU9.out); obtain ⟨t0, t1, t2, t3, t4, f0, f1, f2, f3, f4⟩ := five ((hkA.block _ hl9 (by simp; omega)).trans HN9.out); have hNAl := Nat.lt_of_lt_of_le hl9 hkA.size; have HXA := Lib.hid hxA; have HKA := Lib.hid hkA; have HSA := Lib.hid hsA; clear hxA hkA hsA)
  all_goals
    obtain ⟨we, hwe⟩ : ∃ we, we = (((((wA.setCell ⟨w.heap.size, 0, none⟩ (.int .i64 7)).setCell ⟨w.heap.size, 1, none⟩ (.string ⟨#[]⟩)).setCell ⟨w.heap.size, 2, none⟩ (.int .i64 0)).setCell ⟨w.heap.size, 3, none⟩ (.slice none 0 0)).setCell ⟨w.heap.size, 4, none⟩ (.slice (some ⟨wA.heap.size, 0, none⟩) 3 3)).alloc (.cells #[.int .i64 a.op, .string a.name, .int .i64 a.n, .slice aC lC cC, .slice aK lK cK, .int .i64 b.op, .string b.name, .int .i64 b.n, .slice bC lCb cCb, .slice bK lKb cKb, .int .i64 c.op, .string c.name, .int .i64 c.n, .slice cC' lCc cCc, .slice cK' lKc cKc] 85) := ⟨_, rfl⟩
    rw [← hwe]
    have hk9A := (Keep.of_below (S := [P]) (Below.refl w9.heap.size w9).drew).trans HKA.out
    have hend := inner_end (n := n) (kids := [a, b, c]) (lo := w.heap.size + 1) (css := [[.int .i64 a.op, .string a.name, .int .i64 a.n, .slice aC lC cC, .slice aK lK cK], [.int .i64 b.op, .string b.name, .int .i64 b.n, .slice bC lCb cCb, .slice bK lKb cKb], [.int .i64 c.op, .string c.name, .int .i64 c.n, .slice cC' lCc cCc, .slice cK' lKc cKc]]) (arr := #[.int .i64 a.op, .string a.name, .int .i64 a.n, .slice aC lC cC, .slice aK lK cK, .int .i64 b.op, .string b.name, .int .i64 b.n, .slice bC lCb cCb, .slice bK lKb cKb, .int .i64 c.op, .string c.name, .int .i64 c.n, .slice cC' lCc cCc, .slice cK' lKc cKc]) HH.out.geP HH.out.below.size hPl hBl HSA.out (HK9.out.trans hk9A) ((HKA.out.block _ hl9 (by simp; omega)).trans HN9.out) (fun i v h => by simpa using h) rfl (by simp)
      (reps3 (HX9.out.keep hk9A (fun y hy => by rw [List.mem_singleton.1 hy]; omega) (by omega)) (HY9.out.keep hk9A (fun y hy => by rw [List.mem_singleton.1 hy]; omega) (by omega)) (HXA.out.keep (S := []) (Keep.refl _ _) (fun y hy => by cases hy) (by show w.heap.size + 1 ≤ w9.heap.size; omega))) (Nat.le_refl _) (by simp) (by unfold I64; omega) (by unfold I64; omega) (by decide) hwe
    have HEND := Lib.hid hend
    clear hwe hend
    obtain ⟨t0', t1', t2', t3', t4', -⟩ := five HEND.out.1
    go_wp2_with fail
    refine bodyPost_ret (v := .agg #[.int .i64 7, .string ⟨#[]⟩, .int .i64 0, .slice none 0 0, .slice (some ⟨wA.heap.size, 0, none⟩) 3 3]) ?_ rfl HEND.out.2
    simp only [List.length_cons, List.length_nil] at t4'
    simp [results, Tryz.results114, go_sem, t0', t1', t2', t3', t4']
end Go.Proofs.YtoaajpppbjaomaaGreatDoor
