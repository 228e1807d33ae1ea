/- Contracts of the library's functions at this program, laid by the kit's tools (lay-shelf.mjs, lay-plain.mjs), cut by tools/shelfcut.py. -/
import Derived.Shelf.Strings.Builder1
import Derived.Shelf.Strings.Builder2
import Derived.Shelf.Strings.OnBuilder
import Derived.Shelf.Utf8.RuneCount
import Derived.Shelf.Strconv.Atoi
import Derived.Shelf.Strconv.Itoa0
import Derived.Shelf.Strconv.Itoa1
import Derived.Shelf.LaysM
import Derived.Shelf.Strconv.Itoa2
import Derived.Shelf.Strconv.Itoa3
import Derived.Shelf.Strconv.AtoiErrFast
import Derived.Shelf.Strconv.ParseIntEmpty
import Derived.Shelf.Strconv.AtoiFail
import Derived.Shelf.Strconv.Clone
import Derived.Shelf.Strconv.SyntaxError
import Derived.Shelf.LaysC
import Derived.Shelf.Strconv.ToError
import Derived.Shelf.Strconv.Lower
import Derived.Shelf.Strconv.ParseUint10
import Derived.Shelf.Strconv.ParseUint10Empty
import Derived.Shelf.Strconv.ParseUint10Any
import Derived.Shelf.Strconv.ParseInt10
import Derived.Shelf.Strconv.AtoiLong
import Derived.Shelf.Strconv.AtoiInnerAll
import Derived.Shelf.Strconv.RangeError
import Derived.Shelf.Strconv.ToErrorRange
import Derived.Shelf.Strconv.AtoiAll
import Derived.Shelf.Strings.Search1
import Derived.Shelf.Strings.Search2
import Derived.Shelf.Strings.Search3
import Derived.Shelf.Strings.Count
import Derived.Shelf.Strings.Shaped
import Derived.Shelf.Strings.Split
import Derived.Shelf.Strings.SplitShaped
import Derived.Shelf.Unicode.Decode
import Derived.Shelf.Strings.RuneCount
import Derived.Shelf.Strings.Explode
import Derived.Shelf.Unicode.DecodeSlow
import Derived.Shelf.Unicode.DecodeAny
import Derived.Ground.Names2Prog
import Derived.Shelf.Slices.Clone
import Derived.Shelf.Slices.SearchI
import Derived.Ground.SlgnProg
import Derived.Shelf.SlicesE.Clone
import Derived.Test.YtnekpofaflpmdaaGreatDoorProg
import Derived.Test.YtnekpofaflpmdaaGreatDoorShf
namespace Go.Proofs
open Go.Shelf
def Tryz.laysC172_ren : Go.Shelf.Ren := ⟨fun | 172 => 26 | 244 => 47 | 245 => 48 | 247 => 74 | 279 => 75 | 280 => 76 | 281 => 77 | 282 => 78 | 287 => 91 | 316 => 92 | 171 => 44 | 205 => 93 | 321 => 108 | 322 => 109 | 243 => 67 | 246 => 84 | 283 => 97 | 284 => 98 | 285 => 99 | 286 => 100 | 129 => 111 | 317 => 110 | 318 => 112 | 319 => 113 | 320 => 114 | 337 => 117 | 338 => 118 | n => n, fun | 9 => 9 | 3 => 3 | 75 => 51 | 76 => 52 | 4 => 4 | 5 => 5 | 167 => 85 | 37 => 22 | 0 => 0 | 85 => 86 | 2 => 2 | 168 => 88 | 53 => 56 | 175 => 100 | 46 => 93 | 210 => 104 | 127 => 95 | 145 => 119 | 143 => 117 | 21 => 21 | 171 => 107 | 173 => 110 | 212 => 121 | 51 => 122 | 20 => 20 | 213 => 123 | 232 => 132 | 233 => 133 | 80 => 82 | n => n, fun | 15 => 0 | 16 => 1 | 17 => 3 | 18 => 6 | 19 => 7 | n => n⟩
theorem Tryz.laysC172 : Go.Proofs.LaysC.n172 Tryz.prog Tryz.laysC172_ren := {
  mixed := by kernel_rfl
  f129 := Tryz.func111.trans (congrArg some (by kernel_rfl))
  f171 := Tryz.func44.trans (congrArg some (by kernel_rfl))
  f172 := Tryz.func26.trans (congrArg some (by kernel_rfl))
  f205 := Tryz.func93.trans (congrArg some (by kernel_rfl))
  f243 := Tryz.func67.trans (congrArg some (by kernel_rfl))
  f244 := Tryz.func47.trans (congrArg some (by kernel_rfl))
  f245 := Tryz.func48.trans (congrArg some (by kernel_rfl))
  f246 := Tryz.func84.trans (congrArg some (by kernel_rfl))
  f247 := Tryz.func74.trans (congrArg some (by kernel_rfl))
  f279 := Tryz.func75.trans (congrArg some (by kernel_rfl))
  f280 := Tryz.func76.trans (congrArg some (by kernel_rfl))
  f281 := Tryz.func77.trans (congrArg some (by kernel_rfl))
  f282 := Tryz.func78.trans (congrArg some (by kernel_rfl))
  f283 := Tryz.func97.trans (congrArg some (by kernel_rfl))
  f284 := Tryz.func98.trans (congrArg some (by kernel_rfl))
  f285 := Tryz.func99.trans (congrArg some (by kernel_rfl))
  f286 := Tryz.func100.trans (congrArg some (by kernel_rfl))
  f287 := Tryz.func91.trans (congrArg some (by kernel_rfl))
  f316 := Tryz.func92.trans (congrArg some (by kernel_rfl))
  f317 := Tryz.func110.trans (congrArg some (by kernel_rfl))
  f318 := Tryz.func112.trans (congrArg some (by kernel_rfl))
  f319 := Tryz.func113.trans (congrArg some (by kernel_rfl))
  f320 := Tryz.func114.trans (congrArg some (by kernel_rfl))
  f321 := Tryz.func108.trans (congrArg some (by kernel_rfl))
  f322 := Tryz.func109.trans (congrArg some (by kernel_rfl))
  f337 := Tryz.func117.trans (congrArg some (by kernel_rfl))
  f338 := Tryz.func118.trans (congrArg some (by kernel_rfl))
  t0 := Tryz.underlying0
  a0 := Tryz.isAgg0
  z0 := Tryz.sizeOf0
  v0 := Tryz.zeroValue0
  t2 := Tryz.underlying2
  a2 := Tryz.isAgg2
  z2 := Tryz.sizeOf2
  v2 := Tryz.zeroValue2
  t3 := Tryz.underlying3
  a3 := Tryz.isAgg3
  z3 := Tryz.sizeOf3
  v3 := Tryz.zeroValue3
  t4 := Tryz.underlying4
  a4 := Tryz.isAgg4
  z4 := Tryz.sizeOf4
  v4 := Tryz.zeroValue4
  t5 := Tryz.underlying5
  a5 := Tryz.isAgg5
  z5 := Tryz.sizeOf5
  v5 := Tryz.zeroValue5
  t9 := Tryz.underlying9
  a9 := Tryz.isAgg9
  z9 := Tryz.sizeOf9
  v9 := Tryz.zeroValue9
  t20 := Tryz.underlying20
  a20 := Tryz.isAgg20
  z20 := Tryz.sizeOf20
  v20 := Tryz.zeroValue20
  t21 := Tryz.underlying21
  a21 := Tryz.isAgg21
  z21 := Tryz.sizeOf21
  v21 := Tryz.zeroValue21
  t37 := Tryz.underlying22
  a37 := Tryz.isAgg22
  z37 := Tryz.sizeOf22
  v37 := Tryz.zeroValue22
  t46 := Tryz.underlying93
  a46 := Tryz.isAgg93
  z46 := Tryz.sizeOf93
  v46 := Tryz.zeroValue93
  t51 := Tryz.underlying122
  a51 := Tryz.isAgg122
  z51 := Tryz.sizeOf122
  v51 := Tryz.zeroValue122
  t53 := Tryz.underlying56
  a53 := Tryz.isAgg56
  z53 := Tryz.sizeOf56
  v53 := Tryz.zeroValue56
  t75 := Tryz.underlying51
  a75 := Tryz.isAgg51
  z75 := Tryz.sizeOf51
  v75 := Tryz.zeroValue51
  t76 := Tryz.underlying52
  a76 := Tryz.isAgg52
  z76 := Tryz.sizeOf52
  v76 := Tryz.zeroValue52
  t85 := Tryz.underlying86
  a85 := Tryz.isAgg86
  z85 := Tryz.sizeOf86
  v85 := Tryz.zeroValue86
  t127 := Tryz.underlying95
  a127 := Tryz.isAgg95
  z127 := Tryz.sizeOf95
  v127 := Tryz.zeroValue95
  t143 := Tryz.underlying117
  a143 := Tryz.isAgg117
  z143 := Tryz.sizeOf117
  v143 := Tryz.zeroValue117
  t145 := Tryz.underlying119
  a145 := Tryz.isAgg119
  z145 := Tryz.sizeOf119
  v145 := Tryz.zeroValue119
  t167 := Tryz.underlying85
  a167 := Tryz.isAgg85
  z167 := Tryz.sizeOf85
  v167 := Tryz.zeroValue85
  t168 := Tryz.underlying88
  a168 := Tryz.isAgg88
  z168 := Tryz.sizeOf88
  v168 := Tryz.zeroValue88
  t171 := Tryz.underlying107
  a171 := Tryz.isAgg107
  z171 := Tryz.sizeOf107
  v171 := Tryz.zeroValue107
  t173 := Tryz.underlying110
  a173 := Tryz.isAgg110
  z173 := Tryz.sizeOf110
  v173 := Tryz.zeroValue110
  t175 := Tryz.underlying100
  a175 := Tryz.isAgg100
  z175 := Tryz.sizeOf100
  v175 := Tryz.zeroValue100
  t210 := Tryz.underlying104
  a210 := Tryz.isAgg104
  z210 := Tryz.sizeOf104
  v210 := Tryz.zeroValue104
  t212 := Tryz.underlying121
  a212 := Tryz.isAgg121
  z212 := Tryz.sizeOf121
  v212 := Tryz.zeroValue121
  t213 := Tryz.underlying123
  a213 := Tryz.isAgg123
  z213 := Tryz.sizeOf123
  t232 := Tryz.underlying132
  a232 := Tryz.isAgg132
  z232 := Tryz.sizeOf132
  v232 := Tryz.zeroValue132
  t233 := Tryz.underlying133
  a233 := Tryz.isAgg133
  z233 := Tryz.sizeOf133
  v233 := Tryz.zeroValue133
  g15 := by kernel_rfl
  g16 := by kernel_rfl
  g17 := by kernel_rfl
  g18 := by kernel_rfl
  g19 := by kernel_rfl
  t80 := Tryz.underlying82
  a80 := Tryz.isAgg82
  z80 := Tryz.sizeOf82
  v80 := Tryz.zeroValue82
  i0 := by kernel_rfl
  i2 := by kernel_rfl
  i3 := by kernel_rfl
  i4 := by kernel_rfl
  i5 := by kernel_rfl
  i9 := by kernel_rfl
  i20 := by kernel_rfl
  i21 := by kernel_rfl
  i37 := by kernel_rfl
  i46 := by kernel_rfl
  i51 := by kernel_rfl
  i53 := by kernel_rfl
  i75 := by kernel_rfl
  i76 := by kernel_rfl
  i80 := by kernel_rfl
  i85 := by kernel_rfl
  i127 := by kernel_rfl
  i143 := by kernel_rfl
  i145 := by kernel_rfl
  i167 := by kernel_rfl
  i168 := by kernel_rfl
  i171 := by kernel_rfl
  i173 := by kernel_rfl
  i175 := by kernel_rfl
  i210 := by kernel_rfl
  i212 := by kernel_rfl
  i232 := by kernel_rfl
  i233 := by kernel_rfl
  m15 := by kernel_rfl
  m16 := by kernel_rfl
  m17 := by kernel_rfl
  m18 := by kernel_rfl
  m19 := by kernel_rfl
  c0 := by kernel_rfl
  c2 := by kernel_rfl
  c3 := by kernel_rfl
  c4 := by kernel_rfl
  c5 := by kernel_rfl
  c9 := by kernel_rfl
  c20 := by kernel_rfl
  c21 := by kernel_rfl
  c37 := by kernel_rfl
  c46 := by kernel_rfl
  c51 := by kernel_rfl
  c53 := by kernel_rfl
  c75 := by kernel_rfl
  c76 := by kernel_rfl
  c80 := by kernel_rfl
  c85 := by kernel_rfl
  c127 := by kernel_rfl
  c143 := by kernel_rfl
  c145 := by kernel_rfl
  c167 := by kernel_rfl
  c168 := by kernel_rfl
  c171 := by kernel_rfl
  c173 := by kernel_rfl
  c175 := by kernel_rfl
  c210 := by kernel_rfl
  c212 := by kernel_rfl
  c213 := by kernel_rfl
  c232 := by kernel_rfl
  c233 := by kernel_rfl }
open Go.RowKit in
theorem Tryz.strconv_Atoi_ok (s : ByteArray) (hmax : s.size ≤ 9223372036854775806) (v : Int) (h : Lib.atoiAll s.data.toList = .ok v) (w : World) :
    Calls Tryz.prog 26 #[.string s] w fun e w' => e = .returned (.tuple #[.int .i64 v, .nilIface]) ∧ (w' = w ∨ ∃ t, w' = Lib.bytesWorld w 5 t) := Any.strconv_Atoi_ok Tryz.laysC172 s hmax v h w
open Go.RowKit in
theorem Tryz.strconv_Atoi_syntax (s : ByteArray) (hlim : s.size ≤ 281474976710656) (h : match Lib.atoiAll s.data.toList with | .ok _ => False | .range => False | _ => True) (ev : Value) (w : World) (hv : w.cell? ⟨0, 0, none⟩ = some ev) (hev : ev = .nilIface ∨ ∃ te pe, ev = .iface te pe) :
    Calls Tryz.prog 26 #[.string s] w fun e w' => ∃ N, e = .returned (.tuple #[.int .i64 (0), .iface 88 (.pointer (some ⟨N, 0, none⟩))]) ∧ w.heap.size ≤ N ∧ w'.heap[N]? = some (.cells #[.string ⟨#[65, 116, 111, 105]⟩, .string s, ev] 104 (0, 0)) ∧ Below w.heap.size w w' := Any.strconv_Atoi_syntax Tryz.laysC172 s hlim (by revert h; cases Lib.atoiAll s.data.toList <;> simp) ev w hv hev
open Go.RowKit in
theorem Tryz.strconv_Atoi_range (s : ByteArray) (hlim : s.size ≤ 281474976710656) (h : Lib.atoiAll s.data.toList = .range) (ev : Value) (w : World) (hv : w.cell? ⟨1, 0, none⟩ = some ev) (hev : ev = .nilIface ∨ ∃ te pe, ev = .iface te pe) :
    Calls Tryz.prog 26 #[.string s] w fun e w' => ∃ N, e = .returned (.tuple #[.int .i64 (Lib.atoiSat s.data.toList), .iface 88 (.pointer (some ⟨N, 0, none⟩))]) ∧ w.heap.size ≤ N ∧ w'.heap[N]? = some (.cells #[.string ⟨#[65, 116, 111, 105]⟩, .string s, ev] 104 (0, 0)) ∧ Below w.heap.size w w' := Any.strconv_Atoi_range Tryz.laysC172 s hlim h ev w hv hev
def Tryz.lays146_ren : Go.Shelf.Ren := ⟨fun | 146 => 25 | 221 => 46 | 268 => 71 | 138 => 72 | 143 => 73 | 195 => 87 | 197 => 88 | 218 => 89 | 219 => 90 | 260 => 103 | 217 => 104 | 225 => 105 | 224 => 106 | 267 => 107 | 266 => 115 | 314 => 116 | n => n, fun | 9 => 9 | 31 => 48 | 3 => 3 | 4 => 4 | 0 => 0 | 105 => 97 | 21 => 21 | 5 => 5 | 46 => 93 | 119 => 125 | 139 => 128 | 138 => 127 | 146 => 129 | 51 => 122 | n => n, fun | 1 => 2 | 3 => 4 | 4 => 5 | n => n⟩
theorem Tryz.lays146 : Go.Proofs.Lays.n146 Tryz.prog Tryz.lays146_ren := {
  mixed := by kernel_rfl
  f138 := Tryz.func72.trans (congrArg some (by kernel_rfl))
  f143 := Tryz.func73.trans (congrArg some (by kernel_rfl))
  f146 := Tryz.func25.trans (congrArg some (by kernel_rfl))
  f195 := Tryz.func87.trans (congrArg some (by kernel_rfl))
  f197 := Tryz.func88.trans (congrArg some (by kernel_rfl))
  f217 := Tryz.func104.trans (congrArg some (by kernel_rfl))
  f218 := Tryz.func89.trans (congrArg some (by kernel_rfl))
  f219 := Tryz.func90.trans (congrArg some (by kernel_rfl))
  f221 := Tryz.func46.trans (congrArg some (by kernel_rfl))
  f224 := Tryz.func106.trans (congrArg some (by kernel_rfl))
  f225 := Tryz.func105.trans (congrArg some (by kernel_rfl))
  f260 := Tryz.func103.trans (congrArg some (by kernel_rfl))
  f266 := Tryz.func115.trans (congrArg some (by kernel_rfl))
  f267 := Tryz.func107.trans (congrArg some (by kernel_rfl))
  f268 := Tryz.func71.trans (congrArg some (by kernel_rfl))
  f314 := Tryz.func116.trans (congrArg some (by kernel_rfl))
  t0 := Tryz.underlying0
  a0 := Tryz.isAgg0
  z0 := Tryz.sizeOf0
  v0 := Tryz.zeroValue0
  t3 := Tryz.underlying3
  a3 := Tryz.isAgg3
  z3 := Tryz.sizeOf3
  v3 := Tryz.zeroValue3
  t4 := Tryz.underlying4
  a4 := Tryz.isAgg4
  z4 := Tryz.sizeOf4
  v4 := Tryz.zeroValue4
  t5 := Tryz.underlying5
  a5 := Tryz.isAgg5
  z5 := Tryz.sizeOf5
  v5 := Tryz.zeroValue5
  t9 := Tryz.underlying9
  a9 := Tryz.isAgg9
  z9 := Tryz.sizeOf9
  v9 := Tryz.zeroValue9
  t21 := Tryz.underlying21
  a21 := Tryz.isAgg21
  z21 := Tryz.sizeOf21
  v21 := Tryz.zeroValue21
  t31 := Tryz.underlying48
  a31 := Tryz.isAgg48
  z31 := Tryz.sizeOf48
  v31 := Tryz.zeroValue48
  t46 := Tryz.underlying93
  a46 := Tryz.isAgg93
  z46 := Tryz.sizeOf93
  v46 := Tryz.zeroValue93
  t51 := Tryz.underlying122
  a51 := Tryz.isAgg122
  z51 := Tryz.sizeOf122
  v51 := Tryz.zeroValue122
  t105 := Tryz.underlying97
  a105 := Tryz.isAgg97
  z105 := Tryz.sizeOf97
  v105 := Tryz.zeroValue97
  t119 := Tryz.underlying125
  a119 := Tryz.isAgg125
  z119 := Tryz.sizeOf125
  t138 := Tryz.underlying127
  a138 := Tryz.isAgg127
  z138 := Tryz.sizeOf127
  v138 := Tryz.zeroValue127
  t139 := Tryz.underlying128
  a139 := Tryz.isAgg128
  z139 := Tryz.sizeOf128
  v139 := Tryz.zeroValue128
  t146 := Tryz.underlying129
  a146 := Tryz.isAgg129
  z146 := Tryz.sizeOf129
  v146 := Tryz.zeroValue129
  g1 := by kernel_rfl
  g3 := by kernel_rfl
  g4 := by kernel_rfl }
open Go.RowKit Go.Lib in
theorem Tryz.strings_Split (s sep : ByteArray) (m : Int) (w : World) (hs : s.size < 4294967281) (hm : w.cell? ⟨2, 0, none⟩ = some (.int .i64 m)) (h1 : 1 ≤ sep.size) :
    Calls Tryz.prog 25 #[.string s, .string sep] w fun e w' =>
      e = .returned (.slice (some ⟨w.heap.size, 0, none⟩) (Lib.countB s sep + 1) (Lib.countB s sep + 1)) ∧ w' = w.alloc (.cells ((Lib.splitB sep 0 (Lib.countB s sep) s).map Value.string).toArray 9) := Any.strings_Split Tryz.lays146 (by kernel_rfl) s sep m w hs hm h1
end Go.Proofs
