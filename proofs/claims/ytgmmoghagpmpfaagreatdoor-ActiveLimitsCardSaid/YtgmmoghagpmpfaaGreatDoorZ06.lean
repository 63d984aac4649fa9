/-
  DERIVED: THE SHELF's CONTRACTS AT THIS DUMP, IN PLAIN WORDS (tools/lay-plain.mjs out of 'TryzShelf.lean', which tools/lay-shelf.mjs wrote): THE SAME DECLARATIONS UNDER THE SAME NAMES: 'import', 'namespace', 'open', 'def', 'theorem' AND NOTHING ELSE: no command of the shelf's: FOR A HAND-IN. Each laying: the table of numbers ('.._ren') and one theorem, a field a fact of the dump's own or the kernel's comparison; each contract: ONE APPLICATION.
-/
import Derived.Shelf.Strings.Builder1
import Derived.Shelf.Strings.Builder2
import Derived.Shelf.Small.Bits
import Derived.Shelf.Strings.BuilderF
import Derived.Shelf.Strings.BuilderK
import Derived.Shelf.Utf8.RuneCount
import Derived.Shelf.Strings.Builder2Cap
import Derived.Shelf.Strconv.Itoa0
import Derived.Shelf.Strconv.Itoa1
import Derived.Shelf.LaysM
import Derived.Shelf.Strconv.Itoa2
import Derived.Shelf.Strconv.Itoa3
import Derived.Shelf.Strings.Search1
import Derived.Shelf.Strings.Search2
import Derived.Shelf.Strings.Search3
import Derived.Shelf.Strings.Cut
import Derived.Shelf.Strings.Count
import Derived.Shelf.Strings.Shaped
import Derived.Shelf.Strings.Split
import Derived.Shelf.Strings.SplitShaped
import Derived.Shelf.Unicode.Decode
import Derived.Shelf.Strings.RuneCount
import Derived.Shelf.Unicode.DecodeSlow
import Derived.Shelf.Unicode.DecodeAny
import Derived.Shelf.Strings.BuilderCap
import Derived.Shelf.Slices.Turned
import Derived.Ground.SlsfProg
import Derived.Shelf.SlSortCmp.Insertion
import Derived.Shelf.SlSortCmp.SiftDown1
import Derived.Shelf.SlSortCmp.HeapSort1
import Derived.Shelf.SlSortCmp.Insertion1
import Derived.Shelf.SlSortCmp.Median1
import Derived.Shelf.SlSortCmp.Pivot1
import Derived.Shelf.SlSortCmp.ReverseRange1
import Derived.Shelf.SlSortCmp.PartialInsertion1
import Derived.Shelf.SlSortCmp.PartitionEqual1
import Derived.Shelf.SlSortCmp.Partition1
import Derived.Shelf.SlSortCmp.Pdq1
import Derived.Shelf.SlSortCmp.Whole1
import Derived.Shelf.SlSortCmp.NoneTotal
import Derived.Test.YtgmmoghagpmpfaaGreatDoorProg
import Derived.Test.YtgmmoghagpmpfaaGreatDoorZ05
import Derived.Test.YtgmmoghagpmpfaaGreatDoorZ03
import Derived.Lib.Bytealg
import Derived.Sort.Statements
import Derived.Maps.Keyed
namespace Go.Proofs
open Go.Shelf
def Tryz.lays169_ren : Go.Shelf.Ren := ⟨fun | 169 => 50 | n => n, fun | 70 => 106 | 9 => 9 | 0 => 0 | 72 => 109 | 37 => 107 | 127 => 141 | 3 => 3 | 5 => 5 | n => n, fun | n => n⟩
theorem Tryz.lays169 : Go.Proofs.Lays.n169 Tryz.prog Tryz.lays169_ren := {
  mixed := by kernel_rfl
  f169 := Tryz.func50.trans (congrArg some (by kernel_rfl))
  t0 := Tryz.underlying0
  a0 := Tryz.isAgg0
  z0 := Tryz.sizeOf0
  v0 := Tryz.zeroValue0
  t3 := Tryz.underlying3
  a3 := Tryz.isAgg3
  z3 := Tryz.sizeOf3
  v3 := Tryz.zeroValue3
  t9 := Tryz.underlying9
  a9 := Tryz.isAgg9
  z9 := Tryz.sizeOf9
  v9 := Tryz.zeroValue9
  t37 := Tryz.underlying107
  a37 := Tryz.isAgg107
  z37 := Tryz.sizeOf107
  v37 := Tryz.zeroValue107
  t70 := Tryz.underlying106
  a70 := Tryz.isAgg106
  z70 := Tryz.sizeOf106
  v70 := Tryz.zeroValue106
  t72 := Tryz.underlying109
  a72 := Tryz.isAgg109
  z72 := Tryz.sizeOf109
  v72 := Tryz.zeroValue109
  t127 := Tryz.underlying141
  a127 := Tryz.isAgg141
  z127 := Tryz.sizeOf141
  v127 := Tryz.zeroValue141 }
theorem Tryz.Builder_Extra_169 : Builder.Extra Tryz.prog Tryz.lays169_ren := {
  sizeBuilder := by kernel_rfl
  liesBuilder := by kernel_rfl
  t5 := Tryz.underlying5
  a5 := Tryz.isAgg5
  z5 := Tryz.sizeOf5
  v5 := Tryz.zeroValue5
  infoByte := by kernel_rfl
  cellsByte := by kernel_rfl
  sizeByte := by kernel_rfl
  neB5 := by decide }
open Go.RowKit in
/-- (*strings.Builder).String: "String returns the accumulated string.": WHATEVER THE BUILDER HOLDS. (LAID: no walk: one application.) -/
theorem Tryz.Builder_String_any (B b : Nat) (l : List UInt8) (w : World) (h : Lib.IsBuilder 109 5 B b (Lib.byteCells l) w) (hBw : B ≤ w.heap.size) :
    Calls Tryz.prog 50 #[.pointer (some ⟨b, 0, none⟩)] w fun e w' => e = .returned (.string ⟨l.toArray⟩) ∧ Below B w w' := Any.Builder_String_any Tryz.lays169 Tryz.Builder_Extra_169 B b l w h hBw
def Tryz.lays165_ren : Go.Shelf.Ren := ⟨fun | 165 => 78 | 240 => 77 | 241 => 97 | 276 => 96 | 277 => 122 | n => n, fun | 70 => 106 | 3 => 3 | 0 => 0 | 4 => 4 | 9 => 9 | 20 => 20 | 72 => 109 | 37 => 107 | 164 => 156 | 5 => 5 | n => n, fun | n => n⟩
theorem Tryz.lays165 : Go.Proofs.Lays.n165 Tryz.prog Tryz.lays165_ren := {
  mixed := by kernel_rfl
  f165 := Tryz.func78.trans (congrArg some (by kernel_rfl))
  f240 := Tryz.func77.trans (congrArg some (by kernel_rfl))
  f241 := Tryz.func97.trans (congrArg some (by kernel_rfl))
  f276 := Tryz.func96.trans (congrArg some (by kernel_rfl))
  f277 := Tryz.func122.trans (congrArg some (by kernel_rfl))
  t0 := Tryz.underlying0
  a0 := Tryz.isAgg0
  z0 := Tryz.sizeOf0
  v0 := Tryz.zeroValue0
  t3 := Tryz.underlying3
  a3 := Tryz.isAgg3
  z3 := Tryz.sizeOf3
  v3 := Tryz.zeroValue3
  t4 := Tryz.underlying4
  a4 := Tryz.isAgg4
  z4 := Tryz.sizeOf4
  v4 := Tryz.zeroValue4
  t9 := Tryz.underlying9
  a9 := Tryz.isAgg9
  z9 := Tryz.sizeOf9
  v9 := Tryz.zeroValue9
  t20 := Tryz.underlying20
  a20 := Tryz.isAgg20
  z20 := Tryz.sizeOf20
  v20 := Tryz.zeroValue20
  t37 := Tryz.underlying107
  a37 := Tryz.isAgg107
  z37 := Tryz.sizeOf107
  v37 := Tryz.zeroValue107
  t70 := Tryz.underlying106
  a70 := Tryz.isAgg106
  z70 := Tryz.sizeOf106
  v70 := Tryz.zeroValue106
  t72 := Tryz.underlying109
  a72 := Tryz.isAgg109
  z72 := Tryz.sizeOf109
  v72 := Tryz.zeroValue109
  t164 := Tryz.underlying156
  a164 := Tryz.isAgg156
  z164 := Tryz.sizeOf156
  v164 := Tryz.zeroValue156 }
theorem Tryz.Builder_Extra_165 : Builder.Extra Tryz.prog Tryz.lays165_ren := {
  sizeBuilder := by kernel_rfl
  liesBuilder := by kernel_rfl
  t5 := Tryz.underlying5
  a5 := Tryz.isAgg5
  z5 := Tryz.sizeOf5
  v5 := Tryz.zeroValue5
  infoByte := by kernel_rfl
  cellsByte := by kernel_rfl
  sizeByte := by kernel_rfl
  neB5 := by decide }
open Go.RowKit in
/-- (*strings.Builder).Grow AT A BUILDER THAT HAS NOT BEEN WRITTEN ('var b strings.Builder; b.Grow(n)'): "Grow grows b's capacity, if necessary, to guarantee space for another n bytes.": it holds no byte behind it as before it. (LAID: no walk: one application.) -/
theorem Tryz.Builder_Grow_fresh (B b n : Nat) (w : World) (hB : B ≤ b) (hbk : w.heap[b]? = some (.cells #[.pointer none, .slice none 0 0] 109 (0, 0))) (hBw : B ≤ w.heap.size) (hn : n ≤ 281474976710656) :
    Calls Tryz.prog 78 #[.pointer (some ⟨b, 0, none⟩), .int .i64 n] w fun e w' => e = .returned (.tuple #[]) ∧ (Lib.BuilderAt 109 5 B b (.pointer (some ⟨b, 0, none⟩)) [] w' ∧ Below B w w') := Any.Builder_Grow_fresh Tryz.lays165 Tryz.Builder_Extra_165 B b n w hB hbk hBw hn
def Tryz.laysM171_ren : Go.Shelf.Ren := ⟨fun | 171 => 76 | 243 => 95 | 246 => 121 | 283 => 135 | 284 => 136 | 285 => 137 | 286 => 138 | 129 => 107 | 317 => 141 | 318 => 142 | 319 => 143 | 320 => 144 | 337 => 145 | 338 => 146 | n => n, fun | 3 => 3 | 9 => 9 | 2 => 2 | 4 => 4 | 171 => 188 | 0 => 0 | 53 => 148 | 37 => 107 | 5 => 5 | 173 => 190 | 212 => 196 | 51 => 167 | 20 => 20 | 213 => 197 | 46 => 144 | 232 => 202 | 233 => 203 | n => n, fun | 17 => 1 | 18 => 4 | 19 => 5 | n => n⟩
theorem Tryz.laysM171 : Go.Proofs.LaysM.n171 Tryz.prog Tryz.laysM171_ren := {
  mixed := by kernel_rfl
  f129 := Tryz.func107.trans (congrArg some (by kernel_rfl))
  f171 := Tryz.func76.trans (congrArg some (by kernel_rfl))
  f243 := Tryz.func95.trans (congrArg some (by kernel_rfl))
  f246 := Tryz.func121.trans (congrArg some (by kernel_rfl))
  f283 := Tryz.func135.trans (congrArg some (by kernel_rfl))
  f284 := Tryz.func136.trans (congrArg some (by kernel_rfl))
  f285 := Tryz.func137.trans (congrArg some (by kernel_rfl))
  f286 := Tryz.func138.trans (congrArg some (by kernel_rfl))
  f317 := Tryz.func141.trans (congrArg some (by kernel_rfl))
  f318 := Tryz.func142.trans (congrArg some (by kernel_rfl))
  f319 := Tryz.func143.trans (congrArg some (by kernel_rfl))
  f320 := Tryz.func144.trans (congrArg some (by kernel_rfl))
  f337 := Tryz.func145.trans (congrArg some (by kernel_rfl))
  f338 := Tryz.func146.trans (congrArg some (by kernel_rfl))
  t0 := Tryz.underlying0
  a0 := Tryz.isAgg0
  z0 := Tryz.sizeOf0
  v0 := Tryz.zeroValue0
  t2 := Tryz.underlying2
  a2 := Tryz.isAgg2
  z2 := Tryz.sizeOf2
  v2 := Tryz.zeroValue2
  t3 := Tryz.underlying3
  a3 := Tryz.isAgg3
  z3 := Tryz.sizeOf3
  v3 := Tryz.zeroValue3
  t4 := Tryz.underlying4
  a4 := Tryz.isAgg4
  z4 := Tryz.sizeOf4
  v4 := Tryz.zeroValue4
  t5 := Tryz.underlying5
  a5 := Tryz.isAgg5
  z5 := Tryz.sizeOf5
  v5 := Tryz.zeroValue5
  t9 := Tryz.underlying9
  a9 := Tryz.isAgg9
  z9 := Tryz.sizeOf9
  v9 := Tryz.zeroValue9
  t20 := Tryz.underlying20
  a20 := Tryz.isAgg20
  z20 := Tryz.sizeOf20
  v20 := Tryz.zeroValue20
  t37 := Tryz.underlying107
  a37 := Tryz.isAgg107
  z37 := Tryz.sizeOf107
  v37 := Tryz.zeroValue107
  t46 := Tryz.underlying144
  a46 := Tryz.isAgg144
  z46 := Tryz.sizeOf144
  v46 := Tryz.zeroValue144
  t51 := Tryz.underlying167
  a51 := Tryz.isAgg167
  z51 := Tryz.sizeOf167
  v51 := Tryz.zeroValue167
  t53 := Tryz.underlying148
  a53 := Tryz.isAgg148
  z53 := Tryz.sizeOf148
  v53 := Tryz.zeroValue148
  t171 := Tryz.underlying188
  a171 := Tryz.isAgg188
  z171 := Tryz.sizeOf188
  v171 := Tryz.zeroValue188
  t173 := Tryz.underlying190
  a173 := Tryz.isAgg190
  z173 := Tryz.sizeOf190
  v173 := Tryz.zeroValue190
  t212 := Tryz.underlying196
  a212 := Tryz.isAgg196
  z212 := Tryz.sizeOf196
  v212 := Tryz.zeroValue196
  t213 := Tryz.underlying197
  a213 := Tryz.isAgg197
  z213 := Tryz.sizeOf197
  t232 := Tryz.underlying202
  a232 := Tryz.isAgg202
  z232 := Tryz.sizeOf202
  v232 := Tryz.zeroValue202
  t233 := Tryz.underlying203
  a233 := Tryz.isAgg203
  z233 := Tryz.sizeOf203
  v233 := Tryz.zeroValue203
  g17 := by kernel_rfl
  g18 := by kernel_rfl
  g19 := by kernel_rfl
  i0 := by kernel_rfl
  i2 := by kernel_rfl
  i3 := by kernel_rfl
  i4 := by kernel_rfl
  i5 := by kernel_rfl
  i9 := by kernel_rfl
  i20 := by kernel_rfl
  i37 := by kernel_rfl
  i46 := by kernel_rfl
  i51 := by kernel_rfl
  i53 := by kernel_rfl
  i171 := by kernel_rfl
  i173 := by kernel_rfl
  i212 := by kernel_rfl
  i232 := by kernel_rfl
  i233 := by kernel_rfl
  m17 := by kernel_rfl
  m18 := by kernel_rfl
  m19 := by kernel_rfl }
open Go.RowKit Go.Sort Go.Lib in
/-- strconv.Itoa: "Itoa is equivalent to FormatInt(int64(i), 10).": i's DECIMAL NUMERAL ('Lib.itoa': a '-' where i is negative, then the digits), FOR EVERY int. The world behind the call: the world before it, new blocks behind the heap (the library's 'var a [24]byte'), draws. (LAID: no walk: one application.) -/
theorem Tryz.strconv_Itoa (n : Int) (h0 : -9223372036854775808 ≤ n) (h1 : n ≤ 9223372036854775807) (w : World) (htab : Lib.TabIs Tryz.prog w "internal/strconv.uint64pow10" .u64 Lib.pow10Tab) :
    Calls Tryz.prog 76 #[.int .i64 n] w fun e w' => e = .returned (.string ⟨(Lib.itoa n).toArray⟩) ∧ ∃ k os, w' = grow (w.drewN k) os := Any.strconv_Itoa Tryz.laysM171 n h0 h1 w htab
def Tryz.lays145_ren : Go.Shelf.Ren := ⟨fun | 145 => 42 | 220 => 67 | 219 => 90 | 217 => 114 | 225 => 115 | 224 => 116 | 267 => 117 | 266 => 130 | 314 => 131 | n => n, fun | 9 => 9 | 4 => 4 | 59 => 90 | 3 => 3 | 5 => 5 | 46 => 144 | 146 => 184 | 51 => 167 | n => n, fun | 1 => 0 | n => n⟩
theorem Tryz.lays145 : Go.Proofs.Lays.n145 Tryz.prog Tryz.lays145_ren := {
  mixed := by kernel_rfl
  f145 := Tryz.func42.trans (congrArg some (by kernel_rfl))
  f217 := Tryz.func114.trans (congrArg some (by kernel_rfl))
  f219 := Tryz.func90.trans (congrArg some (by kernel_rfl))
  f220 := Tryz.func67.trans (congrArg some (by kernel_rfl))
  f224 := Tryz.func116.trans (congrArg some (by kernel_rfl))
  f225 := Tryz.func115.trans (congrArg some (by kernel_rfl))
  f266 := Tryz.func130.trans (congrArg some (by kernel_rfl))
  f267 := Tryz.func117.trans (congrArg some (by kernel_rfl))
  f314 := Tryz.func131.trans (congrArg some (by kernel_rfl))
  t3 := Tryz.underlying3
  a3 := Tryz.isAgg3
  z3 := Tryz.sizeOf3
  v3 := Tryz.zeroValue3
  t4 := Tryz.underlying4
  a4 := Tryz.isAgg4
  z4 := Tryz.sizeOf4
  v4 := Tryz.zeroValue4
  t5 := Tryz.underlying5
  a5 := Tryz.isAgg5
  z5 := Tryz.sizeOf5
  v5 := Tryz.zeroValue5
  t9 := Tryz.underlying9
  a9 := Tryz.isAgg9
  z9 := Tryz.sizeOf9
  v9 := Tryz.zeroValue9
  t46 := Tryz.underlying144
  a46 := Tryz.isAgg144
  z46 := Tryz.sizeOf144
  v46 := Tryz.zeroValue144
  t51 := Tryz.underlying167
  a51 := Tryz.isAgg167
  z51 := Tryz.sizeOf167
  v51 := Tryz.zeroValue167
  t59 := Tryz.underlying90
  a59 := Tryz.isAgg90
  z59 := Tryz.sizeOf90
  v59 := Tryz.zeroValue90
  t146 := Tryz.underlying184
  a146 := Tryz.isAgg184
  z146 := Tryz.sizeOf184
  v146 := Tryz.zeroValue184
  g1 := by kernel_rfl }
open Go.RowKit Go.Lib in
/-- strings.Cut: "Cut slices s around the first instance of sep, returning the text before and after sep. The found result reports whether sep appears in s. If sep does not appear in s, cut returns s, "", false.": IT RETURNS 'Lib.cut s sep'; the world is as it was but for the count of draws. (LAID: no walk: one application.) -/
theorem Tryz.strings_Cut (s sep : ByteArray) (m : Int) (w : World) (hs : s.size < 4294967281) (hm : w.cell? ⟨0, 0, none⟩ = some (.int .i64 m)) :
    Calls Tryz.prog 42 #[.string s, .string sep] w fun e w' => e = .returned (.tuple #[.string ⟨(Lib.cut s.data.toList sep.data.toList).1.toArray⟩, .string ⟨(Lib.cut s.data.toList sep.data.toList).2.1.toArray⟩, .bool (Lib.cut s.data.toList sep.data.toList).2.2]) ∧ ∃ n, w' = w.drewN n := Any.strings_Cut Tryz.lays145 s sep m w hs hm
def Tryz.lays146_ren : Go.Shelf.Ren := ⟨fun | 146 => 68 | 221 => 91 | 268 => 118 | 138 => 119 | 143 => 120 | 195 => 132 | 197 => 133 | 218 => 134 | 219 => 90 | 260 => 140 | 217 => 114 | 225 => 115 | 224 => 116 | 267 => 117 | 266 => 130 | 314 => 131 | n => n, fun | 9 => 9 | 31 => 40 | 3 => 3 | 4 => 4 | 0 => 0 | 105 => 186 | 21 => 21 | 5 => 5 | 46 => 144 | 119 => 198 | 139 => 201 | 138 => 200 | 146 => 184 | 51 => 167 | n => n, fun | 1 => 0 | 3 => 2 | 4 => 3 | n => n⟩
theorem Tryz.lays146 : Go.Proofs.Lays.n146 Tryz.prog Tryz.lays146_ren := {
  mixed := by kernel_rfl
  f138 := Tryz.func119.trans (congrArg some (by kernel_rfl))
  f143 := Tryz.func120.trans (congrArg some (by kernel_rfl))
  f146 := Tryz.func68.trans (congrArg some (by kernel_rfl))
  f195 := Tryz.func132.trans (congrArg some (by kernel_rfl))
  f197 := Tryz.func133.trans (congrArg some (by kernel_rfl))
  f217 := Tryz.func114.trans (congrArg some (by kernel_rfl))
  f218 := Tryz.func134.trans (congrArg some (by kernel_rfl))
  f219 := Tryz.func90.trans (congrArg some (by kernel_rfl))
  f221 := Tryz.func91.trans (congrArg some (by kernel_rfl))
  f224 := Tryz.func116.trans (congrArg some (by kernel_rfl))
  f225 := Tryz.func115.trans (congrArg some (by kernel_rfl))
  f260 := Tryz.func140.trans (congrArg some (by kernel_rfl))
  f266 := Tryz.func130.trans (congrArg some (by kernel_rfl))
  f267 := Tryz.func117.trans (congrArg some (by kernel_rfl))
  f268 := Tryz.func118.trans (congrArg some (by kernel_rfl))
  f314 := Tryz.func131.trans (congrArg some (by kernel_rfl))
  t0 := Tryz.underlying0
  a0 := Tryz.isAgg0
  z0 := Tryz.sizeOf0
  v0 := Tryz.zeroValue0
  t3 := Tryz.underlying3
  a3 := Tryz.isAgg3
  z3 := Tryz.sizeOf3
  v3 := Tryz.zeroValue3
  t4 := Tryz.underlying4
  a4 := Tryz.isAgg4
  z4 := Tryz.sizeOf4
  v4 := Tryz.zeroValue4
  t5 := Tryz.underlying5
  a5 := Tryz.isAgg5
  z5 := Tryz.sizeOf5
  v5 := Tryz.zeroValue5
  t9 := Tryz.underlying9
  a9 := Tryz.isAgg9
  z9 := Tryz.sizeOf9
  v9 := Tryz.zeroValue9
  t21 := Tryz.underlying21
  a21 := Tryz.isAgg21
  z21 := Tryz.sizeOf21
  v21 := Tryz.zeroValue21
  t31 := Tryz.underlying40
  a31 := Tryz.isAgg40
  z31 := Tryz.sizeOf40
  v31 := Tryz.zeroValue40
  t46 := Tryz.underlying144
  a46 := Tryz.isAgg144
  z46 := Tryz.sizeOf144
  v46 := Tryz.zeroValue144
  t51 := Tryz.underlying167
  a51 := Tryz.isAgg167
  z51 := Tryz.sizeOf167
  v51 := Tryz.zeroValue167
  t105 := Tryz.underlying186
  a105 := Tryz.isAgg186
  z105 := Tryz.sizeOf186
  v105 := Tryz.zeroValue186
  t119 := Tryz.underlying198
  a119 := Tryz.isAgg198
  z119 := Tryz.sizeOf198
  t138 := Tryz.underlying200
  a138 := Tryz.isAgg200
  z138 := Tryz.sizeOf200
  v138 := Tryz.zeroValue200
  t139 := Tryz.underlying201
  a139 := Tryz.isAgg201
  z139 := Tryz.sizeOf201
  v139 := Tryz.zeroValue201
  t146 := Tryz.underlying184
  a146 := Tryz.isAgg184
  z146 := Tryz.sizeOf184
  v146 := Tryz.zeroValue184
  g1 := by kernel_rfl
  g3 := by kernel_rfl
  g4 := by kernel_rfl }
open Go.RowKit Go.Lib in
/-- strings.Split. (LAID: no walk: one application.) -/
theorem Tryz.strings_Split (s sep : ByteArray) (m : Int) (w : World) (hs : s.size < 4294967281) (hm : w.cell? ⟨0, 0, none⟩ = some (.int .i64 m)) (h1 : 1 ≤ sep.size) :
    Calls Tryz.prog 68 #[.string s, .string sep] w fun e w' =>
      e = .returned (.slice (some ⟨w.heap.size, 0, none⟩) (Lib.countB s sep + 1) (Lib.countB s sep + 1)) ∧ w' = w.alloc (.cells ((Lib.splitB sep 0 (Lib.countB s sep) s).map Value.string).toArray 9) := Any.strings_Split Tryz.lays146 (by kernel_rfl) s sep m w hs hm h1
def Tryz.lays110_ren : Go.Shelf.Ren := ⟨fun | 110 => 60 | 109 => 84 | n => n, fun | 31 => 40 | 9 => 9 | 4 => 4 | 3 => 3 | 0 => 0 | n => n, fun | n => n⟩
theorem Tryz.lays110 : Go.Proofs.Lays.n110 Tryz.prog Tryz.lays110_ren := {
  mixed := by kernel_rfl
  f109 := Tryz.func84.trans (congrArg some (by kernel_rfl))
  f110 := Tryz.func60.trans (congrArg some (by kernel_rfl))
  t0 := Tryz.underlying0
  a0 := Tryz.isAgg0
  z0 := Tryz.sizeOf0
  v0 := Tryz.zeroValue0
  t3 := Tryz.underlying3
  a3 := Tryz.isAgg3
  z3 := Tryz.sizeOf3
  v3 := Tryz.zeroValue3
  t4 := Tryz.underlying4
  a4 := Tryz.isAgg4
  z4 := Tryz.sizeOf4
  v4 := Tryz.zeroValue4
  t9 := Tryz.underlying9
  a9 := Tryz.isAgg9
  z9 := Tryz.sizeOf9
  v9 := Tryz.zeroValue9
  t31 := Tryz.underlying40
  a31 := Tryz.isAgg40
  z31 := Tryz.sizeOf40
  v31 := Tryz.zeroValue40 }
open Go.Lib in
/-- slices.Contains at []string: "Contains reports whether v is present in s.": IT RETURNS 'Lib.containsS (the elements) v', which is true just where v is among them ('Lib.containsS_iff'); the world is as it was. ITS CALLEE slices.Index IS MET BY ITS OWN CONTRACT OFF THE SHELF (lay that first): no loop is walked here. (LAID: no walk: one application.) -/
theorem Tryz.slices_Contains_string (b off n c : Nat) (zs : List ByteArray) (x : ByteArray) (w : World) (hz : n ≤ zs.length) (hbig : n ≤ 9223372036854775807) (hc : ∀ j, j < zs.length → w.cell? ⟨b, off + j, none⟩ = some (.string (zs.getD j ByteArray.empty))) :
    Calls Tryz.prog 60 #[.slice (some ⟨b, off, none⟩) n c, .string x] w fun e w' => e = .returned (.bool (Lib.containsS (zs.take n) x)) ∧ w' = w := Any.slices_Contains_string Tryz.lays110 b off n c zs x w hz hbig hc
open Go.Lib in
/-- The same at a slice of length 0, a nil one too. (LAID: no walk: one application.) -/
theorem Tryz.slices_Contains_string_empty (a : Option Addr) (c : Nat) (x : ByteArray) (w : World) :
    Calls Tryz.prog 60 #[.slice a 0 c, .string x] w fun e w' => e = .returned (.bool false) ∧ w' = w := Any.slices_Contains_string_empty Tryz.lays110 a c x w
def Tryz.laysSlF6_f51_ren : Go.Shelf.Ren := ⟨fun | 6 => 51 | 15 => 80 | 14 => 79 | 28 => 106 | 29 => 107 | 20 => 98 | 21 => 99 | 22 => 100 | 23 => 101 | 24 => 102 | 25 => 103 | 26 => 104 | 27 => 105 | 46 => 123 | 47 => 124 | 48 => 125 | 49 => 126 | 50 => 127 | 57 => 139 | n => n, fun | 22 => 40 | 24 => 9 | 25 => 117 | 3 => 3 | 39 => 144 | 0 => 0 | 53 => 167 | 55 => 148 | 4 => 4 | 46 => 160 | 45 => 159 | 50 => 164 | 5 => 5 | 9 => 9 | 66 => 177 | 70 => 181 | 76 => 192 | 77 => 193 | n => n, fun | n => n⟩
theorem Tryz.laysSlF6_f51 : Go.Proofs.SlLaysF.n6 Tryz.prog Tryz.laysSlF6_f51_ren := {
  mixed := by kernel_rfl
  f6 := ⟨Tryz.f51.name, by decide, Tryz.func51.trans (congrArg some (by kernel_rfl))⟩
  f14 := ⟨Tryz.f79.name, by decide, Tryz.func79.trans (congrArg some (by kernel_rfl))⟩
  f15 := Tryz.func80.trans (congrArg some (by kernel_rfl))
  f20 := ⟨Tryz.f98.name, by decide, Tryz.func98.trans (congrArg some (by kernel_rfl))⟩
  f21 := ⟨Tryz.f99.name, by decide, Tryz.func99.trans (congrArg some (by kernel_rfl))⟩
  f22 := ⟨Tryz.f100.name, by decide, Tryz.func100.trans (congrArg some (by kernel_rfl))⟩
  f23 := ⟨Tryz.f101.name, by decide, Tryz.func101.trans (congrArg some (by kernel_rfl))⟩
  f24 := ⟨Tryz.f102.name, by decide, Tryz.func102.trans (congrArg some (by kernel_rfl))⟩
  f25 := ⟨Tryz.f103.name, by decide, Tryz.func103.trans (congrArg some (by kernel_rfl))⟩
  f26 := ⟨Tryz.f104.name, by decide, Tryz.func104.trans (congrArg some (by kernel_rfl))⟩
  f27 := ⟨Tryz.f105.name, by decide, Tryz.func105.trans (congrArg some (by kernel_rfl))⟩
  f28 := Tryz.func106.trans (congrArg some (by kernel_rfl))
  f29 := Tryz.func107.trans (congrArg some (by kernel_rfl))
  f46 := ⟨Tryz.f123.name, by decide, Tryz.func123.trans (congrArg some (by kernel_rfl))⟩
  f47 := Tryz.func124.trans (congrArg some (by kernel_rfl))
  f48 := Tryz.func125.trans (congrArg some (by kernel_rfl))
  f49 := ⟨Tryz.f126.name, by decide, Tryz.func126.trans (congrArg some (by kernel_rfl))⟩
  f50 := ⟨Tryz.f127.name, by decide, Tryz.func127.trans (congrArg some (by kernel_rfl))⟩
  f57 := ⟨Tryz.f139.name, by decide, Tryz.func139.trans (congrArg some (by kernel_rfl))⟩
  t0 := Tryz.underlying0
  a0 := Tryz.isAgg0
  z0 := Tryz.sizeOf0
  v0 := Tryz.zeroValue0
  t3 := Tryz.underlying3
  a3 := Tryz.isAgg3
  z3 := Tryz.sizeOf3
  v3 := Tryz.zeroValue3
  t4 := Tryz.underlying4
  a4 := Tryz.isAgg4
  z4 := Tryz.sizeOf4
  v4 := Tryz.zeroValue4
  t5 := Tryz.underlying5
  a5 := Tryz.isAgg5
  z5 := Tryz.sizeOf5
  v5 := Tryz.zeroValue5
  t9 := Tryz.underlying9
  a9 := Tryz.isAgg9
  z9 := Tryz.sizeOf9
  v9 := Tryz.zeroValue9
  t22 := Tryz.underlying40
  a22 := Tryz.isAgg40
  z22 := Tryz.sizeOf40
  v22 := Tryz.zeroValue40
  a24 := Tryz.isAgg9
  z24 := Tryz.sizeOf9
  t25 := Tryz.underlying117
  a25 := Tryz.isAgg117
  z25 := Tryz.sizeOf117
  v25 := Tryz.zeroValue117
  t39 := Tryz.underlying144
  a39 := Tryz.isAgg144
  z39 := Tryz.sizeOf144
  v39 := Tryz.zeroValue144
  t45 := Tryz.underlying159
  a45 := Tryz.isAgg159
  z45 := Tryz.sizeOf159
  v45 := Tryz.zeroValue159
  t46 := Tryz.underlying160
  a46 := Tryz.isAgg160
  z46 := Tryz.sizeOf160
  v46 := Tryz.zeroValue160
  t50 := Tryz.underlying164
  a50 := Tryz.isAgg164
  z50 := Tryz.sizeOf164
  v50 := Tryz.zeroValue164
  t53 := Tryz.underlying167
  a53 := Tryz.isAgg167
  z53 := Tryz.sizeOf167
  v53 := Tryz.zeroValue167
  t55 := Tryz.underlying148
  a55 := Tryz.isAgg148
  z55 := Tryz.sizeOf148
  v55 := Tryz.zeroValue148
  t66 := Tryz.underlying177
  a66 := Tryz.isAgg177
  z66 := Tryz.sizeOf177
  v66 := Tryz.zeroValue177
  t70 := Tryz.underlying181
  a70 := Tryz.isAgg181
  z70 := Tryz.sizeOf181
  v70 := Tryz.zeroValue181
  t76 := Tryz.underlying192
  a76 := Tryz.isAgg192
  z76 := Tryz.sizeOf192
  v76 := Tryz.zeroValue192
  t77 := Tryz.underlying193
  a77 := Tryz.isAgg193
  z77 := Tryz.sizeOf193
  v77 := Tryz.zeroValue193 }
open Go.RowKit Go.Lib Go.Sort in
/-- **slices.SortFunc, IN THE DOCUMENTATION's OWN TERMS: A PERMUTATION OF WHAT THE ROW HELD, SORTED BY 'cmp(a, b) < 0'.** Which of two equals comes first is left open ("The sort is not guaranteed to be stable"). (LAID AT THE INSTANCE 'slices.SortFunc[[]string,string]': no walk: one application.) -/
theorem Tryz.slices_SortFunc {α : Type} [Inhabited α] (enc : α → Value) (h1 : OneCell enc) (cf : α → α → Int) (hO : SWO (ltOf cf)) (g : Nat) (cb : Array Value) (blk off cap : Nat) (d : Array α) (w : World) (eg : ∀ args w, (callFunc g args).run Tryz.prog w = .ok (.enter g args) w) (hcmp : CmpLays1 Tryz.prog g cb enc cf blk off d.size w) (hH : Holds enc w blk off d) (hblk : blk < w.heap.size) (hsz : d.size < 4611686018427387904) :
    Calls Tryz.prog 51 #[.slice (some ⟨blk, off, none⟩) d.size cap, .func (.func g) #[] cb] w fun e w' =>
      e = .returned (.tuple #[]) ∧ ∃ d' n os, PermIn 0 d.size d d' ∧ SortedIn (ltOf cf) 0 d.size d' ∧ w' = sortWorld enc w blk off n d' os := Any.slices_SortFunc Tryz.laysSlF6_f51 enc h1 cf hO g cb blk off cap d w eg hcmp hH hblk hsz
def Tryz.laysSlF06_f51_ren : Go.Shelf.Ren := ⟨fun | 6 => 51 | 15 => 80 | 14 => 79 | 28 => 106 | 29 => 107 | 20 => 98 | 21 => 99 | 22 => 100 | 23 => 101 | 24 => 102 | 25 => 103 | 26 => 104 | 27 => 105 | 46 => 123 | 47 => 124 | 48 => 125 | 49 => 126 | 50 => 127 | 57 => 139 | n => n, fun | 22 => 40 | 24 => 9 | 25 => 117 | 3 => 3 | 39 => 144 | 0 => 0 | 53 => 167 | 55 => 148 | 4 => 4 | 46 => 160 | 45 => 159 | 50 => 164 | 5 => 5 | 9 => 9 | 66 => 177 | 70 => 181 | 76 => 192 | 77 => 193 | n => n, fun | n => n⟩
theorem Tryz.laysSlF06_f51 : Go.Proofs.SlLaysF0.n6 Tryz.prog Tryz.laysSlF06_f51_ren := {
  mixed := by kernel_rfl
  f6 := ⟨Tryz.f51.name, by decide, Tryz.func51.trans (congrArg some (by kernel_rfl))⟩
  f14 := ⟨Tryz.f79.name, by decide, Tryz.func79.trans (congrArg some (by kernel_rfl))⟩
  f15 := Tryz.func80.trans (congrArg some (by kernel_rfl))
  f20 := ⟨Tryz.f98.name, by decide, Tryz.func98.trans (congrArg some (by kernel_rfl))⟩
  f21 := ⟨Tryz.f99.name, by decide, Tryz.func99.trans (congrArg some (by kernel_rfl))⟩
  f22 := ⟨Tryz.f100.name, by decide, Tryz.func100.trans (congrArg some (by kernel_rfl))⟩
  f23 := ⟨Tryz.f101.name, by decide, Tryz.func101.trans (congrArg some (by kernel_rfl))⟩
  f24 := ⟨Tryz.f102.name, by decide, Tryz.func102.trans (congrArg some (by kernel_rfl))⟩
  f25 := ⟨Tryz.f103.name, by decide, Tryz.func103.trans (congrArg some (by kernel_rfl))⟩
  f26 := ⟨Tryz.f104.name, by decide, Tryz.func104.trans (congrArg some (by kernel_rfl))⟩
  f27 := ⟨Tryz.f105.name, by decide, Tryz.func105.trans (congrArg some (by kernel_rfl))⟩
  f28 := Tryz.func106.trans (congrArg some (by kernel_rfl))
  f29 := Tryz.func107.trans (congrArg some (by kernel_rfl))
  f46 := ⟨Tryz.f123.name, by decide, Tryz.func123.trans (congrArg some (by kernel_rfl))⟩
  f47 := Tryz.func124.trans (congrArg some (by kernel_rfl))
  f48 := Tryz.func125.trans (congrArg some (by kernel_rfl))
  f49 := ⟨Tryz.f126.name, by decide, Tryz.func126.trans (congrArg some (by kernel_rfl))⟩
  f50 := ⟨Tryz.f127.name, by decide, Tryz.func127.trans (congrArg some (by kernel_rfl))⟩
  f57 := ⟨Tryz.f139.name, by decide, Tryz.func139.trans (congrArg some (by kernel_rfl))⟩
  t0 := Tryz.underlying0
  a0 := Tryz.isAgg0
  z0 := Tryz.sizeOf0
  v0 := Tryz.zeroValue0
  t3 := Tryz.underlying3
  a3 := Tryz.isAgg3
  z3 := Tryz.sizeOf3
  v3 := Tryz.zeroValue3
  t4 := Tryz.underlying4
  a4 := Tryz.isAgg4
  z4 := Tryz.sizeOf4
  v4 := Tryz.zeroValue4
  t5 := Tryz.underlying5
  a5 := Tryz.isAgg5
  z5 := Tryz.sizeOf5
  v5 := Tryz.zeroValue5
  t9 := Tryz.underlying9
  a9 := Tryz.isAgg9
  z9 := Tryz.sizeOf9
  v9 := Tryz.zeroValue9
  t22 := Tryz.underlying40
  a22 := Tryz.isAgg40
  z22 := Tryz.sizeOf40
  v22 := Tryz.zeroValue40
  t25 := Tryz.underlying117
  a25 := Tryz.isAgg117
  z25 := Tryz.sizeOf117
  v25 := Tryz.zeroValue117
  t39 := Tryz.underlying144
  a39 := Tryz.isAgg144
  z39 := Tryz.sizeOf144
  v39 := Tryz.zeroValue144
  t45 := Tryz.underlying159
  a45 := Tryz.isAgg159
  z45 := Tryz.sizeOf159
  v45 := Tryz.zeroValue159
  t46 := Tryz.underlying160
  a46 := Tryz.isAgg160
  z46 := Tryz.sizeOf160
  v46 := Tryz.zeroValue160
  t50 := Tryz.underlying164
  a50 := Tryz.isAgg164
  z50 := Tryz.sizeOf164
  v50 := Tryz.zeroValue164
  t53 := Tryz.underlying167
  a53 := Tryz.isAgg167
  z53 := Tryz.sizeOf167
  v53 := Tryz.zeroValue167
  t55 := Tryz.underlying148
  a55 := Tryz.isAgg148
  z55 := Tryz.sizeOf148
  v55 := Tryz.zeroValue148
  t66 := Tryz.underlying177
  a66 := Tryz.isAgg177
  z66 := Tryz.sizeOf177
  v66 := Tryz.zeroValue177
  t70 := Tryz.underlying181
  a70 := Tryz.isAgg181
  z70 := Tryz.sizeOf181
  v70 := Tryz.zeroValue181
  t76 := Tryz.underlying192
  a76 := Tryz.isAgg192
  z76 := Tryz.sizeOf192
  v76 := Tryz.zeroValue192
  t77 := Tryz.underlying193
  a77 := Tryz.isAgg193
  z77 := Tryz.sizeOf193
  v77 := Tryz.zeroValue193 }
open Go.RowKit Go.Lib Go.Sort in
/-- **slices.SortFunc AT NO ELEMENT, A nil SLICE TOO: nothing turns.** (LAID AT THE INSTANCE 'slices.SortFunc[[]string,string]': no walk: one application.) -/
theorem Tryz.slices_SortFunc_none {α : Type} [Inhabited α] (p : Option Addr) (cap : Nat) (fv : Value) (w : World) :
    Calls Tryz.prog 51 #[.slice p 0 cap, fv] w fun e w' => e = .returned (.tuple #[]) ∧ w' = w := AnyF.slices_SortFunc_none Tryz.laysSlF06_f51 p cap fv w
end Go.Proofs

/- Chapter 21: the contracts of groupname.Check and of the reference's Check of a name. The library's variable MaxLen holds a number. -/
namespace Go.Proofs.YtgmmoghagpmpfaaGreatDoor
open Go.RowKit
/-- The library's variable MaxLen holds a number. -/
def GW (w : World) : Prop := ∃ m, w.cell? ⟨0, 0, none⟩ = some (.int .i64 m)
theorem GW.kp {M : Nat → Prop} {w w' : World} (h : GW w) (hk : Kp M w w') (hm : ¬ M 0) : GW w' := by
  obtain ⟨m, h⟩ := h; exact ⟨m, hk.cell' h hm⟩
theorem byte_cell {w : World} {g : Nat} {s : ByteArray} {c : Nat} {t : TypeId} {fz : Nat × Nat} (h : w.heap[g]? = some (.cells (bytesRow s c) t fz)) {k : Nat} (hk : k < s.size) : w.cell? ⟨g, 0 + k, none⟩ = some (.int .u8 (at8 s k)) := by
  rw [cell_block h, Nat.zero_add, bytesRow_at s c k hk, at8_lt s k hk]
  rfl
theorem T0.at8_extract (s : ByteArray) (a b j : Nat) (h : a + j < b) (hb : b ≤ s.size) : at8 (s.extract a b) j = at8 s (a + j) := Go.Proofs.YtgmmoghagpmpfaaGreatDoor.at8_extract s a b j h hb

theorem nn_is {g : Bool} {p : Option Addr} {b o : Nat} {K : Nat → Nat → Prop} (hp : p = some ⟨b, o, none⟩) (h : K b o) : nn g p K := by subst hp; exact h
theorem nneg {a : Nat} (h : a ≤ 4611686018427387904) : ((9223372036854775807 : Int) - (a : Int)).NonNeg :=
  Int.nonneg_def.2 ⟨9223372036854775807 - a, by omega⟩
theorem str_get {w : World} {p : Option Addr} {zs : List ByteArray} (h : StrP w p zs) {k : Nat} (hk : k < zs.length) : ∃ z b o, zs[k]? = some z ∧ p = some ⟨b, o, none⟩ ∧ w.cell? ⟨b, o + k, none⟩ = some (.string z) := h.get hk
theorem bcon_any (s : ByteArray) (b c : Nat) (f : FuncId) (fa fb : Array Value) (g : Int → Bool) (w : World) (hS : ∀ k, k < s.size → w.cell? ⟨b, 0 + k, none⟩ = some (.int .u8 (at8 s k))) (hs : s.size ≤ 1073741824) (hok : okFn Tryz.prog f = true)
    (hF : ∀ x, ∀ w1, K0 w w1 → Calls Tryz.prog f (appA fa [.int .u8 x] fb) w1 fun e w2 => e = .returned (.bool (g x)) ∧ K0 w1 w2) :
    Calls Tryz.prog 112 #[.slice (some ⟨b, 0, none⟩) s.size c, .func (.func f) fa fb] w fun e w' => e = .returned (.bool ((List.range s.size).any fun i => g (at8 s i))) ∧ K0 w w' := by
  have hidx : Calls Tryz.prog 129 #[.slice (some ⟨b, 0, none⟩) s.size c, .func (.func f) fa fb] w fun e w' => (∃ x : Int, e = .returned (.int .i64 x) ∧ decide (x ≥ 0) = (List.range s.size).any fun i => g (at8 s i)) ∧ K0 w w' := by
    refine vc_bidx (some ⟨b, 0, none⟩) s.size c f fa fb w _ ?_
    refine ⟨fun vs w' => ∃ i : Nat, vs = [.int .i64 (i : Int)] ∧ i ≤ s.size ∧ (∀ j, j < i → g (at8 s j) = false) ∧ K0 w w',
      fun vs _ => (match vs with | .int _ x :: _ => s.size - x.toNat | _ => 0), ⟨0, rfl, by omega, (fun j h => by omega), .refl _ _⟩, ?_⟩
    rintro x w1 ⟨i, hv, hi, hall, k1⟩
    simp only [List.cons.injEq, Value.int.injEq, true_and, and_true] at hv
    subst hv
    refine bsp_intro (fun hlt => ?_) (fun hge => ?_)
    · have hlt : i < s.size := by simp at hlt; omega
      rw [Int.toNat_natCast]
      refine nn_is rfl ⟨⟨by omega, by omega⟩, at8 s i, k1.cell' (hS i hlt) (fun h => h), f, fa, fb, rfl, hok, ⟨(hF (at8 s i) w1 k1).mono fun e w2 ⟨he, k2⟩ => ⟨_, he, .of_k0 k2, bsp_intro (fun hg => ?_) (fun hg => ?_)⟩⟩⟩
      · refine ⟨⟨i, rfl, ?_⟩, k1.trans k2⟩
        have : ((List.range s.size).any fun i => g (at8 s i)) = true := List.any_eq_true.2 ⟨i, List.mem_range.2 hlt, hg⟩
        rw [this]; simp
      · refine ⟨⟨i + 1, by rw [inc64 (by omega)], hlt, fun j hj => ?_, k1.trans k2⟩, by rw [inc64 (by omega)]; simp only [Int.toNat_natCast]; omega⟩
        by_cases e : j = i
        · rw [e]; exact hg
        · exact hall j (by omega)
    · have hi : i = s.size := by simp at hge; omega
      subst hi
      refine ⟨⟨-1, rfl, ?_⟩, k1⟩
      have : ((List.range s.size).any fun i => g (at8 s i)) = false := List.any_eq_false.2 fun j hj => by simpa using hall j (List.mem_range.1 hj)
      rw [this]; rfl
  refine vc_bcon (some ⟨b, 0, none⟩) s.size c f fa fb w _ ⟨hidx.mono fun e w1 ⟨⟨x, he, hx⟩, k1⟩ => ⟨_, he, .of_k0 k1, by rw [hx], k1⟩⟩
theorem scon_any (l : List ByteArray) (p : Option Addr) (c : Nat) (f : FuncId) (fa fb : Array Value) (g : ByteArray → Bool) (w : World) (hR : StrP w p l) (hs : l.length ≤ 1073741824) (hok : okFn Tryz.prog f = true)
    (hF : ∀ x, ∀ w1, K0 w w1 → Calls Tryz.prog f (appA fa [.string x] fb) w1 fun e w2 => e = .returned (.bool (g x)) ∧ K0 w1 w2) :
    Calls Tryz.prog 87 #[.slice p l.length c, .func (.func f) fa fb] w fun e w' => e = .returned (.bool (l.any g)) ∧ K0 w w' := by
  have hidx : Calls Tryz.prog 110 #[.slice p l.length c, .func (.func f) fa fb] w fun e w' => (∃ x : Int, e = .returned (.int .i64 x) ∧ decide (x ≥ 0) = l.any g) ∧ K0 w w' := by
    refine vc_sidx p l.length c f fa fb w _ ?_
    refine ⟨fun vs w' => ∃ i : Nat, vs = [.int .i64 (i : Int)] ∧ i ≤ l.length ∧ (∀ j z, j < i → l[j]? = some z → g z = false) ∧ K0 w w',
      fun vs _ => (match vs with | .int _ x :: _ => l.length - x.toNat | _ => 0), ⟨0, rfl, by omega, (fun j z h => by omega), .refl _ _⟩, ?_⟩
    rintro x w1 ⟨i, hv, hi, hall, k1⟩
    simp only [List.cons.injEq, Value.int.injEq, true_and, and_true] at hv
    subst hv
    refine bsp_intro (fun hlt => ?_) (fun hge => ?_)
    · have hlt : i < l.length := by simp at hlt; omega
      obtain ⟨z, b, o, hz, hp, hc⟩ := str_get (hR.k0 k1) hlt
      rw [Int.toNat_natCast]
      refine nn_is hp ⟨⟨by omega, by omega⟩, z, hc, f, fa, fb, rfl, hok, ⟨(hF z w1 k1).mono fun e w2 ⟨he, k2⟩ => ⟨_, he, .of_k0 k2, bsp_intro (fun hg => ?_) (fun hg => ?_)⟩⟩⟩
      · refine ⟨⟨i, rfl, ?_⟩, k1.trans k2⟩
        have : l.any g = true := List.any_eq_true.2 ⟨z, List.mem_of_getElem? hz, hg⟩
        rw [this]; simp
      · refine ⟨⟨i + 1, by rw [inc64 (by omega)], hlt, fun j y hj hy => ?_, k1.trans k2⟩, by rw [inc64 (by omega)]; simp only [Int.toNat_natCast]; omega⟩
        by_cases e : j = i
        · rw [e, hz] at hy; cases hy; exact hg
        · exact hall j y (by omega) hy
    · have hi : i = l.length := by simp at hge; omega
      subst hi
      refine ⟨⟨-1, rfl, ?_⟩, k1⟩
      have : l.any g = false := List.any_eq_false.2 fun z hz => by
        obtain ⟨j, hj, e⟩ := List.getElem_of_mem hz
        simpa using hall j z hj (by rw [List.getElem?_eq_getElem hj, e])
      rw [this]; rfl
  refine vc_scon p l.length c f fa fb w _ ⟨hidx.mono fun e w1 ⟨⟨x, he, hx⟩, k1⟩ => ⟨_, he, .of_k0 k1, by rw [hx], k1⟩⟩

/-! ### The program's -/
theorem gisl_any (c : Int) (w : World) : Calls Tryz.prog 111 #[.int .u8 c] w fun e w' => e = .returned (.bool (lowC c)) ∧ K0 w w' :=
  vc_gisl c w _ ⟨by unfold lowC; simp, .refl _ _⟩
theorem gcompC_any (c : Int) (w : World) : Calls Tryz.prog 113 #[.int .u8 c] w fun e w' => e = .returned (.bool (!compC c)) ∧ K0 w w' := by
  refine vc_gcompC c w _ ⟨(gisl_any c w).mono fun e w1 ⟨he, k1⟩ => ⟨_, he, .of_k0 k1, ?_, k1⟩⟩
  congr 2
  unfold compC
  rw [Bool.eq_iff_iff]
  cases lowC c <;> simp <;> omega
theorem compB_eq {s : ByteArray} (h0 : 0 < s.size) (h1 : s.size ≤ 20) (h2 : lowC (at8 s 0) = true) : compB s = !((List.range s.size).any fun i => !compC (at8 s i)) := by
  unfold compB
  rw [decide_eq_true h0, decide_eq_true h1, h2, List.not_any_eq_all_not]
  simp
theorem gcomp_any (s : ByteArray) (w : World) : Calls Tryz.prog 89 #[.string s] w fun e w' => e = .returned (.bool (compB s)) ∧ K0 w w' := by
  refine vc_gcomp s w _ ?_
  unfold VC_gcomp
  rw [toList_nil]
  refine ⟨gimp_intro fun h => ?_, bsp_intro (fun h => ?_) (fun h => ?_)⟩
  · simp only [Bool.not_eq_true', Bool.or_eq_false_iff, decide_eq_false_iff_not] at h
    omega
  · simp only [Bool.not_eq_true', Bool.or_eq_false_iff, decide_eq_false_iff_not] at h
    have h0 : 0 < s.size := by omega
    have h1 : s.size ≤ 20 := by omega
    refine ⟨(gisl_any (at8 s 0) w).mono fun e w1 ⟨he, k1⟩ => ⟨_, he, .of_k0 k1, bsp_intro (fun h2 => ?_) (fun h2 => ?_)⟩⟩
    · have h2 : lowC (at8 s 0) = false := by simpa using h2
      have : compB s = false := by unfold compB; rw [h2]; simp
      rw [this]; exact ⟨rfl, k1⟩
    · have h2 : lowC (at8 s 0) = true := by simpa using h2
      intro c n w2 hc hn
      have k2 : K0 w1 w2 := (hn.kp (fun _ => False)).of_drew
      refine ⟨.of_k0 k2, ⟨(bcon_any s n c 113 #[] #[] (fun c => !compC c) w2 (fun k hk => byte_cell hn.block hk) (by omega) (by kernel_rfl) (fun x w3 _ => gcompC_any x w3)).mono fun e w3 ⟨he, k3⟩ => ⟨_, he, .of_k0 k3, ?_, (k1.trans k2).trans k3⟩⟩⟩
      rw [compB_eq h0 h1 h2]
  · have h : s.size = 0 ∨ 20 < s.size := by
      simp only [Bool.not_eq_false', Bool.or_eq_true, decide_eq_true_eq] at h
      omega
    have : compB s = false := by
      unfold compB
      rcases h with h | h
      · rw [decide_eq_false (by omega)]; rfl
      · rw [decide_eq_false (show ¬ s.size ≤ 20 by omega)]; simp
    rw [this]
    exact ⟨.refl _ _, rfl, .refl _ _⟩
theorem gcheckC_any (s : ByteArray) (w : World) : Calls Tryz.prog 88 #[.string s] w fun e w' => e = .returned (.bool (!compB s)) ∧ K0 w w' :=
  vc_gcheckC s w _ ⟨(gcomp_any s w).mono fun _ _ ⟨he, k1⟩ => ⟨_, he, .of_k0 k1, rfl, k1⟩⟩
theorem gparts_any (s : ByteArray) (w : World) (hs : s.size ≤ 1073741824) (hG : GW w) : Calls Tryz.prog 82 #[.string s] w fun e w' => (∃ (p : Option Addr) (c : Nat), e = .returned (.slice p (partsD s).length c) ∧ StrP w' p (partsD s)) ∧ K0 w w' := by
  refine vc_gparts s w _ ?_
  obtain ⟨mm, hG1⟩ := hG
  refine ⟨(Tryz.strings_Split s ⟨#[46]⟩ mm w (by omega) hG1 (by decide)).mono fun e w2 ⟨he, hw2⟩ => ?_⟩
  have hlen : (partsD s).length = Lib.countB s ⟨#[46]⟩ + 1 := Lib.splitB_all ⟨#[46]⟩ (by decide) 0 _ s rfl
  have hn2 : NewB w (.cells ((partsD s).map .string).toArray 9) w.heap.size w2 := ⟨rfl, hw2⟩
  rw [← hlen] at he
  have k2 : K0 w w2 := hn2.kp _
  refine ⟨_, _, _, he, .of_k0 k2, ⟨_, _, rfl, fun k z hk => ⟨_, 0, rfl, ?_⟩⟩, k2⟩
  rw [Nat.zero_add]
  exact cell_at hn2.block (by simp [hk])
theorem partsD_len {s : ByteArray} : (partsD s).length = Lib.countB s ⟨#[46]⟩ + 1 := Lib.splitB_all ⟨#[46]⟩ (by decide) 0 _ s rfl
theorem partsD_le : ∀ (n : Nat) (s : ByteArray), s.size ≤ n → (partsD s).length ≤ s.size + 1
  | n, s, h => by
    have hf := findC_first 46 s
    by_cases hi : findC 46 s < s.size
    · cases n with
      | zero => omega
      | succ n =>
        rw [partsD_hit hf hi, List.length_cons]
        have hz : (s.extract (findC 46 s + 1) s.size).size = s.size - (findC 46 s + 1) := by rw [ByteArray.size_extract]; omega
        have := partsD_le n (s.extract (findC 46 s + 1) s.size) (by omega)
        omega
    · rw [partsD_miss hf hi]; simp
theorem gcheck_any (s : ByteArray) (w : World) (hG : GW w) : Calls Tryz.prog 64 #[.string s] w fun e w' => e = .returned (.int .i64 (gnE s)) ∧ K0 w w' := by
  refine vc_gcheck s w _ (bsp_intro (fun h => ?_) (fun h => ?_))
  · have : gnE s = 5 := by unfold gnE; rw [if_pos (by simp at h; omega)]
    rw [this]; exact ⟨rfl, .refl _ _⟩
  have h80 : ¬ 80 < s.size := by simp at h; omega
  have hle := partsD_le s.size s (Nat.le_refl _)
  unfold gnE
  rw [if_neg h80]
  refine ⟨(gparts_any s w (by omega) hG).mono fun e w1 ⟨⟨p, c, he, hR⟩, k1⟩ => ⟨_, _, _, he, .of_k0 k1, ?_⟩⟩
  refine ⟨(scon_any (partsD s) p c 88 #[] #[] (fun x => !compB x) w1 hR (by omega) (by kernel_rfl) (fun x w2 _ => gcheckC_any x w2)).mono fun e w2 ⟨he, k2⟩ => ⟨_, he, .of_k0 k2, bsp_intro (fun h => ?_) (fun h => ?_)⟩⟩
  · rw [if_pos h]; exact ⟨rfl, k1.trans k2⟩
  rw [if_neg (by rw [h]; decide)]
  refine bsp_intro (fun h => ?_) (fun h => ?_)
  · rw [if_pos (by simp at h; omega)]; exact ⟨rfl, k1.trans k2⟩
  · rw [if_neg (by simp at h; omega)]; exact ⟨rfl, k1.trans k2⟩

/-! ### The reference's -/
end Go.Proofs.YtgmmoghagpmpfaaGreatDoor

/- Orders by a comparing function (plain): numbers first, then bytes. No condition. -/
namespace Go.Proofs.YtgmmoghagpmpfaaGreatDoor
open Go.Sort

/-- A comparing function. -/
structure Ord3 {α : Type} (cf : α → α → Int) : Prop where
  anti : ∀ x y, cf x y = - cf y x
  tlt : ∀ x y z, cf x y < 0 → cf y z < 0 → cf x z < 0
  el : ∀ x y z, cf x y = 0 → cf y z < 0 → cf x z < 0
  le : ∀ x y z, cf x y < 0 → cf y z = 0 → cf x z < 0
theorem Ord3.self {α : Type} {cf : α → α → Int} (h : Ord3 cf) (x : α) : cf x x = 0 := by have := h.anti x x; omega
theorem Ord3.le_trans {α : Type} {cf : α → α → Int} (h : Ord3 cf) {x y z : α} (h1 : cf x y ≤ 0) (h2 : cf y z ≤ 0) (hz : ∀ x y z, cf x y = 0 → cf y z = 0 → cf x z = 0) : cf x z ≤ 0 := by
  rcases Int.lt_or_eq_of_le h1 with a | a <;> rcases Int.lt_or_eq_of_le h2 with b | b
  · have := h.tlt x y z a b; omega
  · have := h.le x y z a b; omega
  · have := h.el x y z a b; omega
  · have := hz x y z a b; omega
theorem cb_anti : ∀ a b : List UInt8, Lib.compareBytes a b = - Lib.compareBytes b a
  | [], [] => rfl
  | [], _ :: _ => rfl
  | _ :: _, [] => rfl
  | a :: us, b :: bs => by
    have ih := cb_anti us bs
    simp only [Lib.compareBytes]
    by_cases h1 : a < b
    · have h2 : ¬ b < a := by rw [UInt8.lt_iff_toNat_lt] at h1 ⊢; omega
      rw [if_pos h1, if_neg h2, if_pos h1]
    · by_cases h2 : b < a
      · rw [if_neg h1, if_pos h2, if_pos h2]; rfl
      · rw [if_neg h1, if_neg h2, if_neg h2, if_neg h1]; exact ih
theorem cb_zero : ∀ a b : List UInt8, Lib.compareBytes a b = 0 → a = b
  | [], [], _ => rfl
  | [], _ :: _, h => by simp [Lib.compareBytes] at h
  | _ :: _, [], h => by simp [Lib.compareBytes] at h
  | a :: us, b :: bs, h => by
    simp only [Lib.compareBytes] at h
    split at h
    · cases h
    · split at h
      · cases h
      · rename_i h1 h2
        have : a = b := by
          rw [UInt8.lt_iff_toNat_lt] at h1 h2
          exact UInt8.toNat_inj.1 (by omega)
        rw [this, cb_zero us bs h]
theorem cb_self (a : List UInt8) : Lib.compareBytes a a = 0 := by have := cb_anti a a; omega
theorem cb_tlt : ∀ a b c : List UInt8, Lib.compareBytes a b < 0 → Lib.compareBytes b c < 0 → Lib.compareBytes a c < 0
  | [], [], _, h, _ => by simp [Lib.compareBytes] at h
  | _ :: _, [], _, h, _ => by simp [Lib.compareBytes] at h
  | [], _ :: _, [], _, h => by simp [Lib.compareBytes] at h
  | [], _ :: _, _ :: _, _, _ => by simp [Lib.compareBytes]
  | _ :: _, _ :: _, [], _, h => by simp [Lib.compareBytes] at h
  | a :: us, b :: bs, c :: cs, h1, h2 => by
    have ih := cb_tlt us bs cs
    simp only [Lib.compareBytes] at h1 h2 ⊢
    simp only [UInt8.lt_iff_toNat_lt] at h1 h2 ⊢
    repeat' split
    all_goals first | decide | (split at h1 <;> split at h2 <;> first | omega | (split at h1 <;> first | omega | (split at h2 <;> first | omega | (apply ih <;> assumption))) | (split at h2 <;> first | omega | (apply ih <;> assumption)))
theorem Ord3.swo {α : Type} {cf : α → α → Int} (h : Ord3 cf) : SWO fun x y => decide (cf x y < 0) where
  irrefl x := by have := h.self x; simp; omega
  trans x y z h1 h2 := by simp at h1 h2 ⊢; exact h.tlt x y z h1 h2
  ntrans x y z h1 h2 := by
    simp at h1 h2 ⊢
    have a1 := h.anti x y
    have a2 := h.anti y z
    have a3 := h.anti x z
    rcases Int.lt_or_eq_of_le h1 with p | p <;> rcases Int.lt_or_eq_of_le h2 with q | q
    · have := h.tlt z y x (by omega) (by omega); omega
    · have := h.el z y x (by omega) (by omega); omega
    · have := h.le z y x (by omega) (by omega); omega
    · have b1 : cf x y = 0 := by omega
      have b2 : cf y z = 0 := by omega
      apply Classical.byContradiction
      intro hc
      have := h.le x z y (by omega) (by omega)
      omega

end Go.Proofs.YtgmmoghagpmpfaaGreatDoor

/- Sorted permutations are equal; insertion keeps the order; keys of a number and bytes (plain). No condition. -/
namespace Go.Proofs.YtgmmoghagpmpfaaGreatDoor
open Go.Sort

theorem perm_sorted_eq {β : Type} {R : β → β → Prop} (anti : ∀ x y, R x y → R y x → x = y) : ∀ (L L' : List β), L.Perm L' → L.Pairwise R → L'.Pairwise R → L = L'
  | [], L', h, _, _ => (List.nil_perm.1 h).symm
  | a :: r, [], h, _, _ => by have := h.length_eq; simp at this
  | a :: r, b :: r', h, h1, h2 => by
    have e : a = b := by
      by_cases e : a = b
      · exact e
      · have ha : a ∈ r' := by
          have : a ∈ b :: r' := h.mem_iff.1 List.mem_cons_self
          rcases List.mem_cons.1 this with h | h
          · exact absurd h e
          · exact h
        have hb : b ∈ r := by
          have : b ∈ a :: r := h.mem_iff.2 List.mem_cons_self
          rcases List.mem_cons.1 this with h | h
          · exact absurd h.symm e
          · exact h
        exact anti a b ((List.pairwise_cons.1 h1).1 b hb) ((List.pairwise_cons.1 h2).1 a ha)
    subst e
    congr 1
    exact perm_sorted_eq anti r r' h.cons_inv (List.pairwise_cons.1 h1).2 (List.pairwise_cons.1 h2).2
end Go.Proofs.YtgmmoghagpmpfaaGreatDoor

/- Chapter 39, plain: submissions, entries, their order. No program in sight. -/
namespace Go.Proofs.YtgmmoghagpmpfaaGreatDoor
open Go.RowKit Go.Sort

/-! ### Names compared -/
def lsC : List ByteArray → List ByteArray → Int
  | [], [] => 0
  | [], _ :: _ => -1
  | _ :: _, [] => 1
  | a :: r, b :: s => if Lib.compareBytes a.data.toList b.data.toList ≠ 0 then Lib.compareBytes a.data.toList b.data.toList else lsC r s
theorem lsC_anti : ∀ a b, lsC a b = - lsC b a
  | [], [] => rfl
  | [], _ :: _ => rfl
  | _ :: _, [] => rfl
  | a :: r, b :: s => by
    have h1 := cb_anti a.data.toList b.data.toList
    have h2 := lsC_anti r s
    unfold lsC
    split <;> split <;> omega
theorem ba_eq {a b : ByteArray} (h : a.data.toList = b.data.toList) : a = b := ByteArray.ext (Array.toList_inj.1 h)
theorem lsC_zero : ∀ a b, lsC a b = 0 → a = b
  | [], [], _ => rfl
  | [], _ :: _, h => by cases h
  | _ :: _, [], h => by cases h
  | a :: r, b :: s, h => by
    unfold lsC at h
    split at h
    · contradiction
    · rename_i h1
      have h2 : Lib.compareBytes a.data.toList b.data.toList = 0 := by simpa using h1
      rw [lsC_zero r s h, ba_eq (cb_zero _ _ h2)]
theorem lsC_tlt : ∀ a b c, lsC a b < 0 → lsC b c < 0 → lsC a c < 0
  | [], [], _, h, _ => by simp [lsC] at h
  | _ :: _, [], _, h, _ => by simp [lsC] at h
  | [], _ :: _, [], _, h => by simp [lsC] at h
  | [], _ :: _, _ :: _, _, _ => by simp [lsC]
  | _ :: _, _ :: _, [], _, h => by simp [lsC] at h
  | a :: r, b :: s, c :: t, h1, h2 => by
    have ih := lsC_tlt r s t
    unfold lsC at h1 h2 ⊢
    have q1 := cb_tlt a.data.toList b.data.toList c.data.toList
    by_cases e1 : Lib.compareBytes a.data.toList b.data.toList = 0
    · have e : a = b := ba_eq (cb_zero _ _ e1)
      subst e
      rw [if_neg (by omega)] at h1
      by_cases e2 : Lib.compareBytes a.data.toList c.data.toList = 0
      · rw [if_neg (by omega)] at h2
        rw [if_neg (by omega)]
        exact ih h1 h2
      · rw [if_pos e2] at h2
        rw [if_pos e2]
        exact h2
    · rw [if_pos e1] at h1
      by_cases e2 : Lib.compareBytes b.data.toList c.data.toList = 0
      · have e : b = c := ba_eq (cb_zero _ _ e2)
        subst e
        rw [if_pos e1]
        exact h1
      · rw [if_pos e2] at h2
        have := q1 h1 h2
        rw [if_pos (by omega)]
        exact this
def gnC (a b : ByteArray) : Int := lsC (partsD a) (partsD b)
theorem lsC_ord : Ord3 fun x y : ByteArray => gnC x y where
  anti x y := lsC_anti _ _
  tlt x y z := lsC_tlt _ _ _
  el x y z h1 h2 := by have := lsC_zero (partsD x) (partsD y) h1; show lsC (partsD x) _ < 0; rw [this]; exact h2
  le x y z h1 h2 := by have := lsC_zero (partsD y) (partsD z) h2; show lsC _ (partsD z) < 0; rw [← this]; exact h1

end Go.Proofs.YtgmmoghagpmpfaaGreatDoor

/- Maps in the program's memory: their entries as a list, looked up, written, struck. Generic: no program, no condition. -/
namespace Go.Proofs.YtgmmoghagpmpfaaGreatDoor
open Go.RowKit Go.Maps

section
variable {α : Type} [DecidableEq α]
def aget {β : Type} : List (α × β) → α → Option β
  | [], _ => none
  | (b, v) :: r, a => if b = a then some v else aget r a
def aset {β : Type} : List (α × β) → α → β → List (α × β)
  | [], a, v => [(a, v)]
  | (b, u) :: r, a, v => if b = a then (a, v) :: r else (b, u) :: aset r a v
variable {β : Type}
theorem aget_aset (l : List (α × β)) (a c : α) (v : β) : aget (aset l a v) c = if a = c then some v else aget l c := by
  induction l with
  | nil => simp [aset, aget]
  | cons p r ih =>
    obtain ⟨b, u⟩ := p
    unfold aset
    by_cases h : b = a
    · subst h
      simp only [if_pos]
      unfold aget
      split <;> rfl
    · rw [if_neg h]
      simp only [aget]
      rw [ih]
      by_cases h1 : b = c
      · subst h1
        rw [if_pos rfl, if_neg (fun e => h e.symm), if_pos rfl]
      · rw [if_neg h1, if_neg h1]
theorem aget_none {l : List (α × β)} {a : α} : aget l a = none ↔ ∀ p ∈ l, p.1 ≠ a := by
  induction l with
  | nil => simp [aget]
  | cons p r ih =>
    obtain ⟨b, u⟩ := p
    unfold aget
    by_cases h : b = a
    · simp [h]
    · rw [if_neg h, ih]
      simp [h]
theorem aget_mem {l : List (α × β)} {a : α} {v : β} (h : aget l a = some v) : (a, v) ∈ l := by
  induction l with
  | nil => simp [aget] at h
  | cons p r ih =>
    obtain ⟨b, u⟩ := p
    unfold aget at h
    by_cases h' : b = a
    · rw [if_pos h'] at h
      simp at h; subst h; subst h'; simp
    · rw [if_neg h'] at h
      exact List.mem_cons_of_mem _ (ih h)
theorem aget_at {l : List (α × β)} (hd : l.Pairwise fun p q => p.1 ≠ q.1) {a : α} {v : β} (h : (a, v) ∈ l) : aget l a = some v := by
  induction l with
  | nil => cases h
  | cons p r ih =>
    obtain ⟨b, u⟩ := p
    obtain ⟨h1, h2⟩ := List.pairwise_cons.1 hd
    unfold aget
    rcases List.mem_cons.1 h with e | e
    · cases e; rw [if_pos rfl]
    · rw [if_neg (h1 _ e)]; exact ih h2 e
theorem aset_new {l : List (α × β)} {a : α} {v : β} (h : ∀ p ∈ l, p.1 ≠ a) : aset l a v = l ++ [(a, v)] := by
  induction l with
  | nil => rfl
  | cons p r ih =>
    obtain ⟨b, u⟩ := p
    unfold aset
    rw [if_neg (h (b, u) (by simp)), ih fun q hq => h q (by simp [hq])]
    rfl
theorem aset_old {l : List (α × β)} (hd : l.Pairwise fun p q => p.1 ≠ q.1) {a : α} {v u : β} {j : Nat} (hj : l[j]? = some (a, u)) : aset l a v = l.set j (a, v) := by
  induction l generalizing j with
  | nil => simp at hj
  | cons p r ih =>
    obtain ⟨b, x⟩ := p
    obtain ⟨h1, h2⟩ := List.pairwise_cons.1 hd
    unfold aset
    cases j with
    | zero =>
      simp at hj
      rw [if_pos hj.1]; rfl
    | succ j =>
      have hj' : r[j]? = some (a, u) := by simpa using hj
      rw [if_neg (h1 _ (List.mem_of_getElem? hj')), ih h2 hj']
      rfl
theorem aset_keys {l : List (α × β)} (a : α) (v : β) : ∀ p ∈ aset l a v, p = (a, v) ∨ (p ∈ l ∧ p.1 ≠ a) ∨ (p ∈ l) := by
  induction l with
  | nil => intro p hp; simp [aset] at hp; exact .inl hp
  | cons q r ih =>
    obtain ⟨b, u⟩ := q
    intro p hp
    unfold aset at hp
    split at hp
    · rcases List.mem_cons.1 hp with h | h
      · exact .inl h
      · exact .inr (.inr (by simp [h]))
    · rcases List.mem_cons.1 hp with h | h
      · exact .inr (.inr (by simp [h]))
      · rcases ih p h with h | h | h
        · exact .inl h
        · exact .inr (.inr (by simp [h.1]))
        · exact .inr (.inr (by simp [h]))
theorem aset_dis {l : List (α × β)} (hd : l.Pairwise fun p q => p.1 ≠ q.1) (a : α) (v : β) : (aset l a v).Pairwise fun p q => p.1 ≠ q.1 := by
  induction l with
  | nil => simp [aset]
  | cons q r ih =>
    obtain ⟨b, u⟩ := q
    obtain ⟨h1, h2⟩ := List.pairwise_cons.1 hd
    unfold aset
    split
    · rename_i h
      subst h
      exact List.pairwise_cons.2 ⟨h1, h2⟩
    · rename_i h
      refine List.pairwise_cons.2 ⟨fun p hp => ?_, ih h2⟩
      rcases aset_keys a v p hp with e | e | e
      · rw [e]; exact h
      · exact h1 _ e.1
      · exact h1 _ e
end

/-- The entries with their values as they lie. -/
def amap {α β γ : Type} (f : β → γ) (l : List (α × β)) : List (α × γ) := l.map fun p => (p.1, f p.2)
theorem aset_amap {α β γ : Type} [DecidableEq α] (f : β → γ) (l : List (α × β)) (a : α) (v : β) : aset (amap f l) a (f v) = amap f (aset l a v) := by
  induction l with
  | nil => rfl
  | cons p r ih =>
    obtain ⟨b, u⟩ := p
    show aset ((b, f u) :: amap f r) a (f v) = _
    unfold aset
    split
    · rfl
    · rw [ih]; rfl
theorem aget_amap {α β γ : Type} [DecidableEq α] (f : β → γ) (l : List (α × β)) (a : α) : aget (amap f l) a = (aget l a).map f := by
  induction l with
  | nil => rfl
  | cons p r ih =>
    obtain ⟨b, u⟩ := p
    show aget ((b, f u) :: amap f r) a = _
    unfold aget
    split
    · rfl
    · rw [ih]

/-- Block b is a map with these entries, in the order of their making; a key lies as enc says. -/
structure MapB {α : Type} (P : Program) (k : TypeId) (enc : α → Value) (w : World) (b : Nat) (l : List (α × Value)) : Prop where
  blk : ∃ es clock, w.heap[b]? = some (.map es clock) ∧ es.toList.map (fun e => (e.key, e.val)) = l.map (fun p => (enc p.1, p.2))
  key : ∀ p ∈ l, ∃ kl, keyOf P k (enc p.1) = some kl
  dis : l.Pairwise fun p q => p.1 ≠ q.1
  brn : ∀ es c, w.heap[b]? = some (.map es c) → (es.toList.map (·.born)).Nodup ∧ ∀ x ∈ es.toList, x.born < c

section
variable {α : Type} {P : Program} {k t e : TypeId} {enc : α → Value} {w w1 : World} {b : Nat} {l : List (α × Value)}
theorem MapB.lt (h : MapB P k enc w b l) : b < w.heap.size := by obtain ⟨es, c, hb, _⟩ := h.blk; exact block_lt hb
theorem MapB.kp {M : Nat → Prop} {w' : World} (h : MapB P k enc w b l) (hk : Kp M w w') (hm : ¬ M b) : MapB P k enc w' b l := by
  obtain ⟨es, c, hb, he⟩ := h.blk
  exact ⟨⟨es, c, hk.blk hb hm, he⟩, h.key, h.dis, fun es' c' h' => h.brn es' c' (by rw [hk.blk hb hm] at h'; rw [hb]; exact h')⟩
theorem MapB.drew (h : MapB P k enc w b l) : MapB P k enc w.drew b l := ⟨h.blk, h.key, h.dis, h.brn⟩
theorem NewB.map {c : Nat} (h : NewB w (.map #[] c) b w1) : MapB P k enc w1 b ([] : List (α × Value)) :=
  ⟨⟨#[], c, h.block, rfl⟩, (fun p hp => by cases hp), .nil, fun es c' h' => by rw [h.block] at h'; cases h'; exact ⟨.nil, fun x hx => by simp at hx⟩⟩

variable [DecidableEq α] (hinj : ∀ x y, enc x = enc y → x = y)
include hinj
theorem map_find (K : Keyed P k) {es : List MapEntry} (he : es.map (fun e => (e.key, e.val)) = l.map (fun p => (enc p.1, p.2))) (hkey : ∀ p ∈ l, ∃ kl, keyOf P k (enc p.1) = some kl) (hdis : l.Pairwise fun p q => p.1 ≠ q.1)
    {a : α} {kl : Lit} (ha : keyOf P k (enc a) = some kl) :
    (aget l a = none ∧ (Instr.findKey k (enc a) es).run P w = .ok none w) ∨
    (∃ j v u, aget l a = some v ∧ (Instr.findKey k (enc a) es).run P w = .ok (some (j, v)) w ∧ l[j]? = some (a, v) ∧ es[j]? = some u ∧ u.key = enc a) := by
  have hm : ∀ x ∈ es, ∃ p ∈ l, x.key = enc p.1 ∧ x.val = p.2 := fun x hx => by
    have : (x.key, x.val) ∈ es.map (fun e => (e.key, e.val)) := List.mem_map.2 ⟨x, hx, rfl⟩
    rw [he] at this
    obtain ⟨p, hp, e⟩ := List.mem_map.1 this
    simp at e
    exact ⟨p, hp, e.1.symm, e.2.symm⟩
  rcases K.find w ha es (fun x hx => by
    obtain ⟨p, hp, h1, _⟩ := hm x hx
    rw [h1]; exact hkey p hp) with ⟨h1, h2⟩ | ⟨j, u, h1, h2, h3⟩
  · refine .inl ⟨aget_none.2 fun p hp hpa => ?_, h1⟩
    have : (enc p.1, p.2) ∈ l.map (fun p => (enc p.1, p.2)) := List.mem_map.2 ⟨p, hp, rfl⟩
    rw [← he] at this
    obtain ⟨x, hx, e⟩ := List.mem_map.1 this
    simp at e
    exact h2 x hx (by rw [e.1, hpa])
  · have h4 : (es.map (fun e => (e.key, e.val)))[j]? = some (u.key, u.val) := by simp [h2]
    rw [he] at h4
    simp only [List.getElem?_map, Option.map_eq_some_iff] at h4
    obtain ⟨p, hp, e⟩ := h4
    simp at e
    obtain ⟨pa, pv⟩ := p
    have ea : pa = a := hinj _ _ (e.1.trans h3)
    subst ea
    have ev : pv = u.val := e.2
    subst ev
    exact .inr ⟨j, _, u, aget_at hdis (List.mem_of_getElem? hp), h1, hp, h2, h3⟩
/-- A look into a map. -/
theorem MapB.look (h : MapB P k enc w b l) (K : Keyed P k) (ht : P.underlying t = some (.map k e)) {z : Value} (hz : (zeroValue e).run P w = .ok z w) {a : α} {kl : Lit} (ha : keyOf P k (enc a) = some kl) (ok : Bool) :
    LookP P t (.map (some b)) (enc a) ok (match ok with | true => .tuple #[(aget l a).getD z, .bool (aget l a).isSome] | false => (aget l a).getD z) w := by
  obtain ⟨es, c, hb, he⟩ := h.blk
  constructor
  rcases map_find hinj K he h.key h.dis ha (w := w) with ⟨h1, h2⟩ | ⟨j, v, u, h1, h2, _⟩
  · rw [h1]
    cases ok <;> simp [Instr.lookup, run_underlying ht, MapKept.run_getObj_map hb, K.check w _ ha, h2, hz, Result.andThen]
  · rw [h1]
    cases ok <;> simp [Instr.lookup, run_underlying ht, MapKept.run_getObj_map hb, K.check w _ ha, h2, Result.andThen]
/-- An entry of a map is written. -/
theorem MapB.upd (h : MapB P k enc w b l) (K : Keyed P k) (ht : P.underlying t = some (.map k e)) {a : α} {kl : Lit} (ha : keyOf P k (enc a) = some kl) (v : Value) :
    ∃ w1, UpdP P t (.map (some b)) (enc a) v w w1 ∧ MapB P k enc w1 b (aset l a v) ∧ Kp (· = b) w w1 := by
  obtain ⟨es, c, hb, he⟩ := h.blk
  have hkp : ∀ o, Kp (· = b) w (ChangeMaps.setBlock w b o) := fun o => ⟨rfl, rfl, rfl, by simp [ChangeMaps.setBlock], fun i _ hi => ChangeMaps.heap_setBlock_other hb _ (fun e => hi (by rw [e]))⟩
  have hkeys : ∀ p ∈ aset l a v, ∃ kl, keyOf P k (enc p.1) = some kl := fun p hp => by
    rcases aset_keys a v p hp with e | e | e
    · rw [e]; exact ⟨_, ha⟩
    · exact h.key p e.1
    · exact h.key p e
  rcases map_find hinj K he h.key h.dis ha (w := w) with ⟨h1, h2⟩ | ⟨j, x, u, h1, h2, h3, h4, h5⟩
  · refine ⟨ChangeMaps.setBlock w b (.map (es.push ⟨enc a, v, c⟩) (c + 1)), ⟨?_⟩, ⟨⟨_, _, ChangeMaps.heap_setBlock_same hb _, ?_⟩, hkeys, aset_dis h.dis a v, fun es' c' h' => ?_⟩, hkp _⟩
    rotate_left 2
    · rw [ChangeMaps.heap_setBlock_same hb] at h'
      cases h'
      have h3 := h.brn es c hb
      refine ⟨?_, fun x hx => ?_⟩
      · rw [Array.toList_push, List.map_append, List.nodup_append]
        refine ⟨h3.1, by simp, fun x hx y hy e => ?_⟩
        obtain ⟨z, hz, rfl⟩ := List.mem_map.1 hx
        simp at hy
        have := h3.2 z hz
        omega
      · rw [Array.toList_push] at hx
        rcases List.mem_append.1 hx with hx | hx
        · have := h3.2 x hx; omega
        · simp at hx; subst hx; exact Nat.lt_succ_self _
    · simp [Instr.mapUpdate, run_underlying ht, MapKept.run_getObj_map hb, K.check w _ ha, h2, MapKept.run_setObj_map _ hb, Result.andThen, ChangeMaps.setBlock]
    · rw [aset_new (aget_none.1 h1)]
      simp [he]
  · refine ⟨ChangeMaps.setBlock w b (.map (es.modify j fun e' => { e' with key := enc a, val := v }) c), ⟨?_⟩, ⟨⟨_, _, ChangeMaps.heap_setBlock_same hb _, ?_⟩, hkeys, aset_dis h.dis a v, fun es' c' h' => ?_⟩, hkp _⟩
    rotate_left 2
    · rw [ChangeMaps.heap_setBlock_same hb] at h'
      cases h'
      have h3' := h.brn es c hb
      have eb : (es.modify j fun e' => { e' with key := enc a, val := v }).toList.map (·.born) = es.toList.map (·.born) := by
        have hj : es[j]? = some u := by simpa using h4
        rw [Array.toList_modify, ChangeMaps.modify_eq_set _ _ _ _ h4, List.map_set]
        exact List.ext_getElem? fun i => by
          rw [List.getElem?_set]
          split
          · rename_i hji
            subst hji
            have hlt : j < (es.toList.map (·.born)).length := by simpa using (List.getElem?_eq_some_iff.1 h4).1
            rw [if_pos hlt, List.getElem?_map, h4]; rfl
          · rfl
      refine ⟨by rw [eb]; exact h3'.1, fun x hx => ?_⟩
      have hm : x.born ∈ (es.modify j fun e' => { e' with key := enc a, val := v }).toList.map (·.born) := List.mem_map.2 ⟨x, hx, rfl⟩
      rw [eb] at hm
      obtain ⟨y, hy, e⟩ := List.mem_map.1 hm
      rw [← e]; exact h3'.2 y hy
    · have hj : es[j]? = some u := by simpa using h4
      simp [Instr.mapUpdate, run_underlying ht, MapKept.run_getObj_map hb, K.check w _ ha, h2, hj, h5, K.stays w ha, MapKept.run_setObj_map _ hb, Result.andThen, ChangeMaps.setBlock]
    · rw [aset_old h.dis h3, List.map_set, ← he, Array.toList_modify, ChangeMaps.modify_eq_set _ _ _ _ h4, List.map_set]
end

end Go.Proofs.YtgmmoghagpmpfaaGreatDoor

/- Chapter 27, plain: intervals in ascending order and the numbers in them; the next number, a number out, the numbers of a range, neighbours. No condition. -/
namespace Go.Proofs.YtgmmoghagpmpfaaGreatDoor

/-- An interval of numbers. -/
structure Iv where
  a : Int
  b : Int
def Iv.l (x : Iv) : List Int := (List.range (x.b - x.a + 1).toNat).map fun (k : Nat) => x.a + (k : Int)
/-- The numbers of intervals, one behind the other. -/
def exI (l : List Iv) : List Int := l.flatMap Iv.l
/-- Intervals in ascending order that do not touch each other, from lo to hi. -/
def IvS (hi : Int) : Int → List Iv → Prop
  | _, [] => True
  | lo, x :: t => lo ≤ x.a ∧ x.a ≤ x.b ∧ x.b ≤ hi ∧ IvS hi (x.b + 2) t
theorem Iv.mem_l {x : Iv} {n : Int} : n ∈ x.l ↔ x.a ≤ n ∧ n ≤ x.b := by
  unfold Iv.l
  rw [List.mem_map]
  constructor
  · rintro ⟨k, hk, rfl⟩
    have := List.mem_range.1 hk
    omega
  · intro h
    exact ⟨(n - x.a).toNat, List.mem_range.2 (by omega), by omega⟩
theorem Iv.l_len (x : Iv) : x.l.length = (x.b - x.a + 1).toNat := by unfold Iv.l; simp
theorem mem_exI {l : List Iv} {n : Int} : n ∈ exI l ↔ ∃ x ∈ l, x.a ≤ n ∧ n ≤ x.b := by
  unfold exI
  rw [List.mem_flatMap]
  exact ⟨fun ⟨x, h, h2⟩ => ⟨x, h, Iv.mem_l.1 h2⟩, fun ⟨x, h, h2⟩ => ⟨x, h, Iv.mem_l.2 h2⟩⟩
theorem IvS.mem {hi : Int} : ∀ {lo : Int} {l : List Iv}, IvS hi lo l → ∀ x ∈ l, lo ≤ x.a ∧ x.a ≤ x.b ∧ x.b ≤ hi
  | _, [], _, x, h => by cases h
  | lo, y :: t, hS, x, h => by
    obtain ⟨h1, h2, h3, h4⟩ := hS
    rcases List.mem_cons.1 h with rfl | h
    · exact ⟨h1, h2, h3⟩
    · have := h4.mem x h; omega
theorem IvS.exI {hi lo : Int} {l : List Iv} (h : IvS hi lo l) {n : Int} (hn : n ∈ exI l) : lo ≤ n ∧ n ≤ hi := by
  obtain ⟨x, hx, h1, h2⟩ := mem_exI.1 hn
  have := h.mem x hx; omega
theorem IvS.mono {hi hi2 : Int} (hh : hi ≤ hi2) : ∀ {lo lo2 : Int} {l : List Iv}, lo2 ≤ lo → IvS hi lo l → IvS hi2 lo2 l
  | _, _, [], _, _ => trivial
  | _, _, y :: t, hl, ⟨h1, h2, h3, h4⟩ => ⟨by omega, h2, by omega, IvS.mono hh (Int.le_refl _) h4⟩
theorem exI_app (l m : List Iv) : exI (l ++ m) = exI l ++ exI m := by unfold exI; exact List.flatMap_append
theorem exI_one (n : Int) : exI [⟨n, n⟩] = [n] := by
  simp [exI, Iv.l]
/-- The next number. -/
def withI (l : List Iv) (n : Int) : List Iv :=
  match l.getLast? with
  | some x => if x.b = n - 1 then l.dropLast ++ [⟨x.a, n⟩] else l ++ [⟨n, n⟩]
  | none => [⟨n, n⟩]
theorem IvS_app {hi : Int} : ∀ {lo : Int} {l : List Iv} {x : Iv}, IvS hi lo (l ++ [x]) ↔ (IvS hi lo l ∧ lo ≤ x.a ∧ x.a ≤ x.b ∧ x.b ≤ hi ∧ ∀ y ∈ l, y.b + 2 ≤ x.a)
  | lo, [], x => by simp [IvS]
  | lo, y :: t, x => by
    show (lo ≤ y.a ∧ y.a ≤ y.b ∧ y.b ≤ hi ∧ IvS hi (y.b + 2) (t ++ [x])) ↔ _
    rw [IvS_app]
    constructor
    · rintro ⟨h1, h2, h3, h4, h5, h6, h7, h8⟩
      refine ⟨⟨h1, h2, h3, h4⟩, by omega, h6, h7, fun z hz => ?_⟩
      rcases List.mem_cons.1 hz with rfl | hz
      · exact h5
      · exact h8 z hz
    · rintro ⟨⟨h1, h2, h3, h4⟩, h5, h6, h7, h8⟩
      exact ⟨h1, h2, h3, h4, h8 y List.mem_cons_self, h6, h7, fun z hz => h8 z (List.mem_cons_of_mem _ hz)⟩
theorem Iv.l_succ {a n : Int} (h : a ≤ n) : (⟨a, n⟩ : Iv).l = (⟨a, n - 1⟩ : Iv).l ++ [n] := by
  unfold Iv.l
  have e : (n - a + 1).toNat = (n - 1 - a + 1).toNat + 1 := by omega
  show (List.range (n - a + 1).toNat).map _ = (List.range (n - 1 - a + 1).toNat).map _ ++ [n]
  rw [e, List.range_succ, List.map_append]
  congr 1
  show [_] = [n]
  congr 1
  show a + (((n - 1 - a + 1).toNat : Nat) : Int) = n
  omega
theorem withI_ok {l : List Iv} {n : Int} (h : IvS (n - 1) 1 l) (h1 : 1 ≤ n) : exI (withI l n) = exI l ++ [n] ∧ IvS n 1 (withI l n) := by
  unfold withI
  rcases List.eq_nil_or_concat l with rfl | ⟨t, x, rfl⟩
  · exact ⟨by simpa [exI] using exI_one n, by simp [IvS]; exact h1⟩
  · rw [List.concat_eq_append] at h ⊢
    rw [List.getLast?_append]
    have hx := IvS_app.1 h
    obtain ⟨h2, h3, h4, h5, h6⟩ := hx
    simp only [List.getLast?_singleton, Option.some_or]
    split
    · rename_i e
      have e : x.b = n - 1 := e
      rw [List.dropLast_concat, exI_app, exI_app, List.append_assoc]
      refine ⟨?_, IvS_app.2 ⟨h2.mono (by omega) (Int.le_refl _), h3, by show x.a ≤ n; omega, Int.le_refl _, h6⟩⟩
      congr 1
      show (⟨x.a, n⟩ : Iv).l ++ [] = (x.l ++ []) ++ [n]
      rw [Iv.l_succ (by omega), List.append_nil, List.append_nil, ← e]
    · rename_i e
      have e : ¬ x.b = n - 1 := e
      rw [exI_app _ [(⟨n, n⟩ : Iv)], exI_one]
      refine ⟨rfl, IvS_app.2 ⟨h.mono (by omega) (Int.le_refl _), h1, Int.le_refl _, Int.le_refl _, fun y hy => ?_⟩⟩
      show y.b + 2 ≤ n
      rcases List.mem_append.1 hy with hy | hy
      · have := h6 y hy; omega
      · rcases List.mem_singleton.1 hy with rfl
        omega
/-- An interval that is not empty. -/
def keepI (a b : Int) : List Iv := if a ≤ b then [⟨a, b⟩] else []
def remI (l : List Iv) (n : Int) : List Iv := l.flatMap fun x => if n < x.a ∨ x.b < n then [x] else keepI x.a (n - 1) ++ keepI (n + 1) x.b
theorem remI_ok {hi n : Int} : ∀ {lo : Int} {l : List Iv}, IvS hi lo l → IvS hi lo (remI l n)
  | _, [], _ => trivial
  | lo, y :: t, ⟨h1, h2, h3, h4⟩ => by
    have ht := remI_ok (n := n) h4
    show IvS hi lo ((if n < y.a ∨ y.b < n then [y] else keepI y.a (n - 1) ++ keepI (n + 1) y.b) ++ remI t n)
    split
    · exact ⟨h1, h2, h3, ht⟩
    · rename_i hn
      unfold keepI
      by_cases c1 : y.a ≤ n - 1 <;> by_cases c2 : n + 1 ≤ y.b
      · rw [if_pos c1, if_pos c2]
        exact ⟨h1, c1, by show n - 1 ≤ hi; omega, by show n - 1 + 2 ≤ n + 1; omega, c2, h3, ht⟩
      · rw [if_pos c1, if_neg c2]
        exact ⟨h1, c1, by show n - 1 ≤ hi; omega, ht.mono (Int.le_refl _) (by show n - 1 + 2 ≤ y.b + 2; omega)⟩
      · rw [if_neg c1, if_pos c2]
        exact ⟨by show lo ≤ n + 1; omega, c2, h3, ht⟩
      · rw [if_neg c1, if_neg c2]
        exact ht.mono (Int.le_refl _) (by omega)
theorem exI_len : ∀ l : List Iv, (∀ x ∈ l, x.a ≤ x.b) → ((exI l).length : Int) = (l.map fun x => x.b - x.a + 1).sum
  | [], _ => rfl
  | y :: t, h => by
    have e := exI_len t (fun x hx => h x (List.mem_cons_of_mem _ hx))
    have := h y List.mem_cons_self
    show ((y.l ++ exI t).length : Int) = _
    rw [List.length_append, Iv.l_len, List.map_cons, List.sum_cons, ← e]
    omega
/-- The number behind n (0: there is none), and the one ahead of it. -/
def IsNext (L : List Int) (n v : Int) : Prop := (v ∈ L ∧ n < v ∧ ∀ k ∈ L, n < k → v ≤ k) ∨ (v = 0 ∧ ∀ k ∈ L, k ≤ n)
def IsPrev (L : List Int) (n v : Int) : Prop := (v ∈ L ∧ v < n ∧ ∀ k ∈ L, k < n → k ≤ v) ∨ (v = 0 ∧ ∀ k ∈ L, n ≤ k)
theorem IsNext.uniq {L : List Int} {n v u : Int} (h : IsNext L n v) (g : IsNext L n u) : v = u := by
  rcases h with ⟨h1, h2, h3⟩ | ⟨h1, h2⟩ <;> rcases g with ⟨g1, g2, g3⟩ | ⟨g1, g2⟩
  · have := h3 u g1 g2; have := g3 v h1 h2; omega
  · have := g2 v h1; omega
  · have := h2 u g1; omega
  · omega
theorem IsPrev.uniq {L : List Int} {n v u : Int} (h : IsPrev L n v) (g : IsPrev L n u) : v = u := by
  rcases h with ⟨h1, h2, h3⟩ | ⟨h1, h2⟩ <;> rcases g with ⟨g1, g2, g3⟩ | ⟨g1, g2⟩
  · have := h3 u g1 g2; have := g3 v h1 h2; omega
  · have := g2 v h1; omega
  · have := h2 u g1; omega
  · omega
theorem IvS.at {hi : Int} : ∀ {lo : Int} {l : List Iv}, IvS hi lo l → ∀ {i j : Nat} {x y : Iv}, l[i]? = some x → l[j]? = some y → i < j → x.b + 2 ≤ y.a
  | _, [], _, i, _, _, _, h, _, _ => by simp at h
  | lo, z :: t, ⟨h1, h2, h3, h4⟩, i, j, x, y, hx, hy, hij => by
    cases j with
    | zero => omega
    | succ j =>
      have hy : t[j]? = some y := by simpa using hy
      cases i with
      | zero =>
        have : z = x := by simpa using hx
        have := (h4.mem y (List.mem_of_getElem? hy)).1
        subst x; exact this
      | succ i => exact h4.at (by simpa using hx) hy (by omega)
/-- Where the numbers of the j-th interval begin. -/
def offI (l : List Iv) (j : Nat) : Nat := (exI (l.take j)).length
theorem offI_succ {l : List Iv} {j : Nat} {x : Iv} (h : l[j]? = some x) : offI l (j + 1) = offI l j + (x.b - x.a + 1).toNat := by
  obtain ⟨hj, rfl⟩ := List.getElem?_eq_some_iff.1 h
  unfold offI
  rw [List.take_succ_eq_append_getElem hj, exI_app, List.length_append]
  congr 1
  show ((l[j]).l ++ []).length = _
  rw [List.append_nil, Iv.l_len]
theorem offI_all (l : List Iv) : offI l l.length = (exI l).length := by unfold offI; rw [List.take_length]
theorem offI_mono {l : List Iv} : ∀ {i j : Nat}, i ≤ j → offI l i ≤ offI l j := by
  intro i j h
  unfold offI
  have : l.take j = l.take i ++ (l.take j).drop i := by
    have e : (l.take j).take i = l.take i := by rw [List.take_take]; congr 1; omega
    rw [← e, List.take_append_drop]
  rw [this, exI_app, List.length_append]
  omega
theorem remI_len (l : List Iv) (n : Int) : (remI l n).length ≤ 2 * l.length := by
  induction l with
  | nil => simp [remI]
  | cons x t ih =>
    have e : remI (x :: t) n = (if n < x.a ∨ x.b < n then [x] else keepI x.a (n - 1) ++ keepI (n + 1) x.b) ++ remI t n := rfl
    rw [e, List.length_append]
    have hk : ∀ a b : Int, (keepI a b).length ≤ 1 := fun a b => by unfold keepI; split <;> simp
    have : (if n < x.a ∨ x.b < n then [x] else keepI x.a (n - 1) ++ keepI (n + 1) x.b).length ≤ 2 := by
      split
      · simp
      · rw [List.length_append]
        have := hk x.a (n - 1); have := hk (n + 1) x.b
        omega
    rw [List.length_cons]
    omega

end Go.Proofs.YtgmmoghagpmpfaaGreatDoor

/- Chapter 27, plain: lists of keys and values in ascending order of the keys: put in, overwritten; against a map's entries in any order. No condition. -/
namespace Go.Proofs.YtgmmoghagpmpfaaGreatDoor

/-- Keys in ascending order. -/
def KSort {β : Type} (C : ByteArray → ByteArray → Int) (l : List (ByteArray × β)) : Prop := l.Pairwise fun p q => C p.1 q.1 < 0
def insA {β : Type} (C : ByteArray → ByteArray → Int) (l : List (ByteArray × β)) (k : ByteArray) (v : β) : List (ByteArray × β) :=
  l.takeWhile (fun p => decide (C p.1 k < 0)) ++ (k, v) :: l.dropWhile fun p => decide (C p.1 k < 0)
section
variable {β : Type} {C : ByteArray → ByteArray → Int}
theorem KSort.dis (hC : Ord3 C) {l : List (ByteArray × β)} (h : KSort C l) : l.Pairwise fun p q => p.1 ≠ q.1 := List.Pairwise.imp (fun {a b} h e => by rw [e, hC.self] at h; omega) h
theorem insA_perm (l : List (ByteArray × β)) (k : ByteArray) (v : β) : (insA C l k v).Perm (l ++ [(k, v)]) := by
  unfold insA
  refine List.perm_middle.trans ?_
  rw [List.takeWhile_append_dropWhile]
  exact (List.perm_append_comm (l₁ := [(k, v)]) (l₂ := l))
theorem insA_sort (hC : Ord3 C) (hE : ∀ a b, C a b = 0 → a = b) {l : List (ByteArray × β)} (h : KSort C l) {k : ByteArray} {v : β} (hn : ∀ p ∈ l, p.1 ≠ k) : KSort C (insA C l k v) := by
  induction l with
  | nil => exact List.pairwise_singleton _ _
  | cons x t ih =>
    have hx := List.pairwise_cons.1 h
    have iht := ih hx.2 (fun p hp => hn p (List.mem_cons_of_mem _ hp))
    unfold insA at iht ⊢
    by_cases c : C x.1 k < 0
    · rw [List.takeWhile_cons_of_pos (by simpa using c), List.dropWhile_cons_of_pos (by simpa using c)]
      refine List.pairwise_cons.2 ⟨fun y hy => ?_, iht⟩
      rcases List.mem_append.1 ((insA_perm (C := C) t k v).mem_iff.1 hy) with hy | hy
      · exact hx.1 y hy
      · rw [List.mem_singleton.1 hy]; exact c
    · rw [List.takeWhile_cons_of_neg (by simpa using c), List.dropWhile_cons_of_neg (by simpa using c)]
      have hk : C k x.1 < 0 := by
        have h0 : C x.1 k ≠ 0 := fun e => hn x List.mem_cons_self (hE _ _ e)
        have := hC.anti x.1 k
        omega
      refine List.pairwise_cons.2 ⟨fun y hy => ?_, h⟩
      rcases List.mem_cons.1 hy with rfl | hy
      · exact hk
      · exact hC.tlt _ _ _ hk (hx.1 y hy)
theorem aset_sort (hC : Ord3 C) {l : List (ByteArray × β)} (h : KSort C l) {k : ByteArray} {u v : β} (hg : aget l k = some u) : KSort C (aset l k v) := by
  obtain ⟨j, hj⟩ := List.getElem?_of_mem (aget_mem hg)
  rw [aset_old (h.dis hC) hj]
  have e : (l.set j (k, v)).map (·.1) = l.map (·.1) := by
    rw [List.map_set]
    have h0 : (l.map (·.1))[j]? = some k := by rw [List.getElem?_map, hj]; rfl
    obtain ⟨hj', e'⟩ := List.getElem?_eq_some_iff.1 h0
    show (l.map (·.1)).set j k = _
    rw [← e', List.set_getElem_self]
  have h1 : (l.map (·.1)).Pairwise fun a b => C a b < 0 := List.pairwise_map.2 h
  exact List.pairwise_map.1 (e ▸ h1)
theorem aget_perm {l m : List (ByteArray × β)} (hp : l.Perm m) (hd : l.Pairwise fun p q => p.1 ≠ q.1) (k : ByteArray) : aget l k = aget m k := by
  have hd' : m.Pairwise fun p q => p.1 ≠ q.1 := hp.pairwise hd (fun {x y} h => fun e => h e.symm)
  cases hl : aget l k with
  | none =>
    symm; rw [aget_none] at hl ⊢
    exact fun p hp' => hl p (hp.mem_iff.2 hp')
  | some v => exact (aget_at hd' (hp.mem_iff.1 (aget_mem hl))).symm
theorem perm_nodup {l : List (ByteArray × β)} (hd : l.Pairwise fun p q => p.1 ≠ q.1) : l.Nodup := hd.imp (fun {a b} h e => h (by rw [e]))
theorem aset_perm {l m : List (ByteArray × β)} (hp : l.Perm m) (hd : l.Pairwise fun p q => p.1 ≠ q.1) (k : ByteArray) (v : β) : (aset l k v).Perm (aset m k v) := by
  have hd' : m.Pairwise fun p q => p.1 ≠ q.1 := hp.pairwise hd (fun {x y} h => fun e => h e.symm)
  refine (List.perm_ext_iff_of_nodup (perm_nodup (aset_dis hd k v)) (perm_nodup (aset_dis hd' k v))).2 fun x => ?_
  have key : ∀ {l m : List (ByteArray × β)}, l.Perm m → (l.Pairwise fun p q => p.1 ≠ q.1) → (m.Pairwise fun p q => p.1 ≠ q.1) → x ∈ aset l k v → x ∈ aset m k v := by
    intro l m hp hd hd' hx
    have h1 := aget_at (aset_dis hd k v) hx
    rw [aget_aset, aget_perm hp hd] at h1
    have h2 : aget (aset m k v) x.1 = some x.2 := by rw [aget_aset]; exact h1
    exact aget_mem h2
  exact ⟨key hp hd hd', key hp.symm hd' hd⟩
theorem ins_perm {l m : List (ByteArray × β)} (hp : l.Perm m) {k : ByteArray} {v : β} (hn : aget l k = none) : (aset l k v).Perm (insA C m k v) := by
  rw [aset_new (aget_none.1 hn)]
  exact (hp.append_right _).trans (insA_perm m k v).symm
end

end Go.Proofs.YtgmmoghagpmpfaaGreatDoor

/- Chapter 27, plain: the table as a list of names in ascending order; Open, Close, Assign, Remove on it. No condition. -/
namespace Go.Proofs.YtgmmoghagpmpfaaGreatDoor

theorem ext27 {s t : ByteArray} (hs : s.size = t.size) (h : ∀ j, j < s.size → at8 s j = at8 t j) : s = t := ba_eq (List.ext_getElem? fun j => by
  rcases Nat.lt_or_ge j s.size with hj | hj
  · rw [at8_byte hj, at8_byte (by omega), h j hj]
  · rw [List.getElem?_eq_none (by simpa using hj), List.getElem?_eq_none (by rw [hs] at hj; simpa using hj)])
theorem partsD_ne27 (s : ByteArray) : partsD s ≠ [] := fun e => by
  have h := partsD_len (s := s)
  rw [e] at h; simp at h
theorem partsD_inj27 : ∀ (n : Nat) (s t : ByteArray), s.size ≤ n → partsD s = partsD t → s = t
  | n, s, t, hn, h => by
    have fs := findC_first 46 s
    have ft := findC_first 46 t
    by_cases hi : findC 46 s < s.size
    · by_cases hj : findC 46 t < t.size
      · rw [partsD_hit fs hi, partsD_hit ft hj] at h
        obtain ⟨h1, h2⟩ := List.cons.inj h
        cases n with
        | zero => omega
        | succ n =>
          have hz : (s.extract (findC 46 s + 1) s.size).size = s.size - (findC 46 s + 1) := by rw [ByteArray.size_extract]; omega
          have hz2 : (t.extract (findC 46 t + 1) t.size).size = t.size - (findC 46 t + 1) := by rw [ByteArray.size_extract]; omega
          have h3 := partsD_inj27 n _ _ (by omega) h2
          have z1 : (s.extract 0 (findC 46 s)).size = findC 46 s := by rw [ByteArray.size_extract]; omega
          have z2 : (t.extract 0 (findC 46 t)).size = findC 46 t := by rw [ByteArray.size_extract]; omega
          have ez : findC 46 s = findC 46 t := by rw [← z1, h1, z2]
          have e3 : s.size = t.size := by rw [h3] at hz; omega
          refine ext27 e3 fun j hj2 => ?_
          rcases Nat.lt_trichotomy j (findC 46 s) with hl | hl | hl
          · have a1 := at8_extract s 0 (findC 46 s) j (by omega) (by omega)
            have a2 := at8_extract t 0 (findC 46 t) j (by omega) (by omega)
            rw [Nat.zero_add] at a1 a2
            rw [← a1, ← a2, h1]
          · rw [hl, fs.2.2.2 hi, ez, ft.2.2.2 hj]
          · have a1 := at8_extract s (findC 46 s + 1) s.size (j - (findC 46 s + 1)) (by omega) (Nat.le_refl _)
            have a2 := at8_extract t (findC 46 t + 1) t.size (j - (findC 46 t + 1)) (by omega) (Nat.le_refl _)
            rw [show findC 46 s + 1 + (j - (findC 46 s + 1)) = j by omega] at a1
            rw [show findC 46 t + 1 + (j - (findC 46 t + 1)) = j by omega] at a2
            rw [← a1, ← a2, h3, ez]
      · rw [partsD_hit fs hi, partsD_miss ft hj] at h
        exact absurd (List.cons.inj h).2 (partsD_ne27 _)
    · by_cases hj : findC 46 t < t.size
      · rw [partsD_miss fs hi, partsD_hit ft hj] at h
        exact absurd (List.cons.inj h).2.symm (partsD_ne27 _)
      · rw [partsD_miss fs hi, partsD_miss ft hj] at h
        exact (List.cons.inj h).1
theorem gnC_ord : Ord3 gnC := lsC_ord
theorem gnC_eq (a b : ByteArray) (h : gnC a b = 0) : a = b := partsD_inj27 a.size a b (Nat.le_refl _) (lsC_zero _ _ h)
/-- A group: its highest number, whether it is closed, its numbers. -/
structure Gv where
  h : Int
  c : Bool
  l : List Iv
abbrev TA := List (ByteArray × Gv)
/-- A table as the operations make it. -/
structure WF (A : TA) : Prop where
  sort : KSort gnC A
  nm : ∀ p ∈ A, gnE p.1 = 0
  hi : ∀ p ∈ A, 0 ≤ p.2.h ∧ p.2.h ≤ 2147483646
  iv : ∀ p ∈ A, IvS p.2.h 1 p.2.l
theorem WF.dis {A : TA} (h : WF A) : A.Pairwise fun p q => p.1 ≠ q.1 := h.sort.dis gnC_ord
theorem WF.nil : WF [] := ⟨List.Pairwise.nil, (fun p h => by cases h), (fun p h => by cases h), (fun p h => by cases h)⟩
theorem WF.get {A : TA} (h : WF A) {s : ByteArray} {v : Gv} (hg : aget A s = some v) : gnE s = 0 ∧ 0 ≤ v.h ∧ v.h ≤ 2147483646 ∧ IvS v.h 1 v.l := by
  have hm := aget_mem hg
  exact ⟨h.nm _ hm, (h.hi _ hm).1, (h.hi _ hm).2, h.iv _ hm⟩
theorem WF.set {A : TA} (h : WF A) {s : ByteArray} {u v : Gv} (hg : aget A s = some u) (hh : 0 ≤ v.h ∧ v.h ≤ 2147483646) (hv : IvS v.h 1 v.l) : WF (aset A s v) := by
  have hs := (h.get hg).1
  refine ⟨aset_sort gnC_ord h.sort hg, fun p hp => ?_, fun p hp => ?_, fun p hp => ?_⟩
  all_goals
    rcases aset_keys s v p hp with rfl | ⟨hp, _⟩ | hp
  · exact hs
  · exact h.nm p hp
  · exact h.nm p hp
  · exact hh
  · exact h.hi p hp
  · exact h.hi p hp
  · exact hv
  · exact h.iv p hp
  · exact h.iv p hp
theorem WF.ins {A : TA} (h : WF A) {s : ByteArray} (hg : aget A s = none) (he : gnE s = 0) : WF (insA gnC A s ⟨0, false, []⟩) := by
  have hm : ∀ p ∈ insA gnC A s ⟨0, false, []⟩, p ∈ A ∨ p = (s, ⟨0, false, []⟩) := fun p hp => by
    rcases List.mem_append.1 ((insA_perm A s _).mem_iff.1 hp) with h | h
    · exact .inl h
    · exact .inr (List.mem_singleton.1 h)
  refine ⟨insA_sort gnC_ord gnC_eq h.sort (aget_none.1 hg), fun p hp => ?_, fun p hp => ?_, fun p hp => ?_⟩
  · rcases hm p hp with h1 | rfl
    · exact h.nm p h1
    · exact he
  · rcases hm p hp with h1 | rfl
    · exact h.hi p h1
    · exact ⟨Int.le_refl _, by show (0 : Int) ≤ 2147483646; omega⟩
  · rcases hm p hp with h1 | rfl
    · exact h.iv p h1
    · trivial
/-- Open, Close, Remove: the new table and the error. -/
def opA (A : TA) (s : ByteArray) : TA × Int :=
  if gnE s ≠ 0 then (A, gnE s) else match aget A s with
    | some v => if v.c = false then (A, 7) else (aset A s ⟨v.h, false, v.l⟩, 0)
    | none => if 4096 ≤ A.length then (A, 9) else (insA gnC A s ⟨0, false, []⟩, 0)
def clA (A : TA) (s : ByteArray) : TA × Int :=
  match aget A s with
    | some v => if v.c = true then (A, 10) else (aset A s ⟨v.h, true, v.l⟩, 0)
    | none => (A, 8)
def hasI (l : List Iv) (n : Int) : Bool := l.any fun x => decide (x.a ≤ n ∧ n ≤ x.b)
def rmA (A : TA) (s : ByteArray) (n : Int) : TA × Int :=
  match aget A s with
    | some v => if hasI v.l n = true then (aset A s ⟨v.h, v.c, remI v.l n⟩, 0) else (A, 8)
    | none => (A, 8)
/-- Assign: the first error; the new table; the numbers. -/
def asE (A : TA) : List ByteArray → Int
  | [] => 0
  | s :: r => match aget A s with
    | some v => if v.c = true then 10 else if 2147483646 ≤ v.h then 9 else asE A r
    | none => 8
def nxG (v : Gv) : Gv := ⟨v.h + 1, v.c, withI v.l (v.h + 1)⟩
def asS (A : TA) : List ByteArray → TA
  | [] => A
  | s :: r => match aget A s with
    | some v => asS (aset A s (nxG v)) r
    | none => A
def asN (A : TA) : List ByteArray → List Int
  | [] => []
  | s :: r => match aget A s with
    | some v => (v.h + 1) :: asN (aset A s (nxG v)) r
    | none => []
theorem asE_set {A : TA} {s : ByteArray} {v : Gv} : ∀ {r : List ByteArray}, s ∉ r → asE (aset A s v) r = asE A r
  | [], _ => rfl
  | t :: r, h => by
    have ht : s ≠ t := fun e => h (by rw [e]; exact List.mem_cons_self)
    have hr := asE_set (A := A) (s := s) (v := v) (r := r) (fun hm => h (List.mem_cons_of_mem _ hm))
    unfold asE
    rw [aget_aset, if_neg ht, hr]
theorem WF.nx {A : TA} (h : WF A) {s : ByteArray} {v : Gv} (hg : aget A s = some v) (hv : v.h < 2147483646) : WF (aset A s (nxG v)) := by
  obtain ⟨_, h1, h2, h3⟩ := h.get hg
  have := withI_ok (n := v.h + 1) (l := v.l) (by have e : v.h + 1 - 1 = v.h := by omega
                                                 rw [e]; exact h3) (by omega)
  exact h.set hg ⟨by show 0 ≤ v.h + 1; omega, by show v.h + 1 ≤ 2147483646; omega⟩ this.2
theorem wf_asS : ∀ {A : TA} {r : List ByteArray}, WF A → r.Nodup → asE A r = 0 → WF (asS A r)
  | _, [], h, _, _ => h
  | A, s :: r, h, hn, he => by
    obtain ⟨h1, h2⟩ := List.nodup_cons.1 hn
    unfold asE at he
    unfold asS
    cases hg : aget A s with
    | none => rw [hg] at he; simp only at he; omega
    | some v =>
      rw [hg] at he
      simp only at he ⊢
      split at he
      · exact absurd he (by decide)
      split at he
      · exact absurd he (by decide)
      exact wf_asS (h.nx hg (by omega)) h2 (by rw [asE_set h1]; exact he)
theorem wf_opA {A : TA} (h : WF A) (s : ByteArray) : WF (opA A s).1 := by
  unfold opA
  split
  · exact h
  · rename_i he
    have he : gnE s = 0 := by simpa using he
    split
    · rename_i v hg
      split
      · exact h
      · obtain ⟨_, h1, h2, h3⟩ := h.get hg
        exact h.set hg ⟨h1, h2⟩ h3
    · rename_i hg
      split
      · exact h
      · exact h.ins hg he
theorem wf_clA {A : TA} (h : WF A) (s : ByteArray) : WF (clA A s).1 := by
  unfold clA
  split
  · rename_i v hg
    split
    · exact h
    · obtain ⟨_, h1, h2, h3⟩ := h.get hg
      exact h.set hg ⟨h1, h2⟩ h3
  · exact h
theorem wf_rmA {A : TA} (h : WF A) (s : ByteArray) (n : Int) : WF (rmA A s n).1 := by
  unfold rmA
  split
  · rename_i v hg
    split
    · obtain ⟨_, h1, h2, h3⟩ := h.get hg
      exact h.set hg ⟨h1, h2⟩ (remI_ok h3)
    · exact h
  · exact h
theorem asS_get {s : ByteArray} : ∀ {r : List ByteArray} {A : TA}, s ∉ r → aget (asS A r) s = aget A s
  | [], _, _ => rfl
  | t :: r, A, h => by
    have ht : t ≠ s := fun e => h (by rw [e]; exact List.mem_cons_self)
    have hr : s ∉ r := fun hm => h (List.mem_cons_of_mem _ hm)
    unfold asS
    split
    · rw [asS_get hr, aget_aset, if_neg ht]
    · rfl
theorem asS_snoc {s : ByteArray} {v : Gv} : ∀ {r : List ByteArray} {A : TA}, r.Nodup → asE A r = 0 → aget (asS A r) s = some v → asS A (r ++ [s]) = aset (asS A r) s (nxG v)
  | [], A, _, _, h => by
    have h : aget A s = some v := h
    show (match aget A s with | some v => asS (aset A s (nxG v)) [] | none => A) = _
    rw [h]; rfl
  | t :: r, A, hn, he, h => by
    obtain ⟨h1, h2⟩ := List.nodup_cons.1 hn
    unfold asE at he
    unfold asS at h
    show (match aget A t with | some v => asS (aset A t (nxG v)) (r ++ [s]) | none => A) = _
    have e : asS A (t :: r) = (match aget A t with | some v => asS (aset A t (nxG v)) r | none => A) := by rw [asS]
    rw [e]
    cases hg : aget A t with
    | none => rw [hg] at he; simp only at he; omega
    | some u =>
      rw [hg] at he h
      simp only at he h ⊢
      split at he
      · omega
      split at he
      · omega
      exact asS_snoc h2 (by rw [asE_set h1]; exact he) h
theorem asN_snoc {s : ByteArray} {v : Gv} : ∀ {r : List ByteArray} {A : TA}, r.Nodup → asE A r = 0 → aget (asS A r) s = some v → asN A (r ++ [s]) = asN A r ++ [v.h + 1]
  | [], A, _, _, h => by
    have h : aget A s = some v := h
    show (match aget A s with | some v => (v.h + 1) :: asN (aset A s (nxG v)) [] | none => []) = _
    rw [h]; rfl
  | t :: r, A, hn, he, h => by
    obtain ⟨h1, h2⟩ := List.nodup_cons.1 hn
    unfold asE at he
    unfold asS at h
    show (match aget A t with | some v => (v.h + 1) :: asN (aset A t (nxG v)) (r ++ [s]) | none => []) = (match aget A t with | some v => (v.h + 1) :: asN (aset A t (nxG v)) r | none => []) ++ _
    cases hg : aget A t with
    | none => rw [hg] at he; simp only at he; omega
    | some u =>
      rw [hg] at he h
      simp only at he h ⊢
      split at he
      · omega
      split at he
      · omega
      rw [asN_snoc h2 (by rw [asE_set h1]; exact he) h]; rfl
theorem asE_snoc {A : TA} {s : ByteArray} : ∀ {r : List ByteArray}, asE A r = 0 → asE A (r ++ [s]) = match aget A s with | some v => if v.c = true then 10 else if 2147483646 ≤ v.h then 9 else 0 | none => 8
  | [], _ => rfl
  | t :: r, he => by
    unfold asE at he
    show (match aget A t with | some v => if v.c = true then 10 else if 2147483646 ≤ v.h then 9 else asE A (r ++ [s]) | none => 8) = _
    cases hg : aget A t with
    | none => rw [hg] at he; simp only at he; omega
    | some u =>
      rw [hg] at he
      simp only at he ⊢
      split at he
      · omega
      split at he
      · omega
      rename_i h1 h2
      rw [if_neg h1, if_neg h2]
      exact asE_snoc he
theorem asE_app {A : TA} : ∀ {r q : List ByteArray}, asE A r ≠ 0 → asE A (r ++ q) = asE A r
  | [], _, h => absurd rfl h
  | t :: r, q, h => by
    unfold asE at h
    show (match aget A t with | some v => if v.c = true then 10 else if 2147483646 ≤ v.h then 9 else asE A (r ++ q) | none => 8) = (match aget A t with | some v => if v.c = true then 10 else if 2147483646 ≤ v.h then 9 else asE A r | none => 8)
    cases hg : aget A t with
    | none => rfl
    | some u =>
      rw [hg] at h
      simp only at h ⊢
      split
      · rfl
      split
      · rfl
      rename_i h1 h2
      rw [if_neg h1, if_neg h2] at h
      exact asE_app h
theorem asE_take {A : TA} {l : List ByteArray} (h : asE A l = 0) (i : Nat) : asE A (l.take i) = 0 := by
  by_cases e : asE A (l.take i) = 0
  · exact e
  · have := asE_app (q := l.drop i) e
    rw [List.take_append_drop, h] at this
    exact absurd this.symm e
/-- Low, and how many numbers there are. -/
def lowI (v : Gv) : Int := match v.l with | x :: _ => x.a | [] => v.h + 1
theorem asS_at : ∀ {r : List ByteArray} {A : TA}, r.Nodup → asE A r = 0 → ∀ {i : Nat} {s : ByteArray}, r[i]? = some s → ∃ v, aget A s = some v ∧ v.c = false ∧ v.h < 2147483646 ∧ aget (asS A r) s = some (nxG v) ∧ (asN A r)[i]? = some (v.h + 1)
  | [], _, _, _, i, s, h => by simp at h
  | t :: r, A, hn, he, i, s, h => by
    obtain ⟨h1, h2⟩ := List.nodup_cons.1 hn
    unfold asE at he
    have e1 : asS A (t :: r) = (match aget A t with | some v => asS (aset A t (nxG v)) r | none => A) := by rw [asS]
    have e2 : asN A (t :: r) = (match aget A t with | some v => (v.h + 1) :: asN (aset A t (nxG v)) r | none => []) := by rw [asN]
    cases hg : aget A t with
    | none => rw [hg] at he; simp only at he; omega
    | some u =>
      rw [hg] at he e1 e2
      simp only at he e1 e2
      split at he
      · omega
      split at he
      · omega
      rename_i c1 c2
      rw [e1, e2]
      cases i with
      | zero =>
        have e : t = s := by simpa using h
        subst e
        exact ⟨u, hg, by simpa using c1, by omega, by rw [asS_get h1, aget_aset, if_pos rfl], rfl⟩
      | succ i =>
        have h : r[i]? = some s := by simpa using h
        obtain ⟨v, g1, g2, g3, g4, g5⟩ := asS_at (A := aset A t (nxG u)) h2 (by rw [asE_set h1]; exact he) h
        have hts : t ≠ s := fun e => h1 (by rw [e]; exact List.mem_of_getElem? h)
        rw [aget_aset, if_neg hts] at g1
        exact ⟨v, g1, g2, g3, g4, by simpa using g5⟩
theorem asN_len : ∀ {r : List ByteArray} {A : TA}, r.Nodup → asE A r = 0 → (asN A r).length = r.length
  | [], _, _, _ => rfl
  | t :: r, A, hn, he => by
    obtain ⟨h1, h2⟩ := List.nodup_cons.1 hn
    unfold asE at he
    have e2 : asN A (t :: r) = (match aget A t with | some v => (v.h + 1) :: asN (aset A t (nxG v)) r | none => []) := by rw [asN]
    cases hg : aget A t with
    | none => rw [hg] at he; simp only at he; omega
    | some u =>
      rw [hg] at he e2
      simp only at he e2
      split at he
      · omega
      split at he
      · omega
      rw [e2, List.length_cons, asN_len h2 (by rw [asE_set h1]; exact he), List.length_cons]
/-- Two tables that say the same of each name are the same. -/
theorem ksort_ext {A B : TA} (hA : KSort gnC A) (hB : KSort gnC B) (h : ∀ s, aget A s = aget B s) : A = B := by
  have dA := hA.dis gnC_ord
  have dB := hB.dis gnC_ord
  have hp : A.Perm B := (List.perm_ext_iff_of_nodup (perm_nodup dA) (perm_nodup dB)).2 fun x => by
    constructor
    · intro hx
      have := aget_at dA (show (x.1, x.2) ∈ A from hx)
      rw [h] at this
      exact aget_mem this
    · intro hx
      have := aget_at dB (show (x.1, x.2) ∈ B from hx)
      rw [← h] at this
      exact aget_mem this
  exact hp.eq_of_pairwise (fun a b _ _ h1 h2 => by
    have := gnC_ord.tlt _ _ _ h1 h2
    rw [gnC_ord.self] at this
    omega) hA hB
theorem aget_ins {A : TA} {s t : ByteArray} {v : Gv} (hd : A.Pairwise fun p q => p.1 ≠ q.1) (hs : aget A s = none) : aget (insA gnC A s v) t = if s = t then some v else aget A t := by
  have hp : (A ++ [(s, v)]).Perm (insA gnC A s v) := (insA_perm A s v).symm
  rw [← aset_new (aget_none.1 hs)] at hp
  rw [← aget_perm hp (aset_dis hd s v), aget_aset]
/-- What an operation on one name does to that name. -/
def opG (s : ByteArray) (full : Prop) [Decidable full] : Option Gv → Option Gv
  | some v => if gnE s ≠ 0 then some v else if v.c = false then some v else some ⟨v.h, false, v.l⟩
  | none => if gnE s ≠ 0 then none else if full then none else some ⟨0, false, []⟩
theorem opA_get {A : TA} (h : WF A) (s t : ByteArray) : aget (opA A s).1 t = if s = t then opG s (4096 ≤ A.length) (aget A s) else aget A t := by
  unfold opA
  by_cases he : gnE s ≠ 0
  · rw [if_pos he]
    split
    · rename_i e; subst e
      unfold opG
      cases aget A s with
      | none => simp only [if_pos he]
      | some v => simp only [if_pos he]
    · rfl
  · rw [if_neg he]
    cases hg : aget A s with
    | none =>
      simp only [opG]
      rw [if_neg he]
      split
      · split
        · rename_i e; subst e; exact hg
        · rfl
      · rw [aget_ins h.dis hg]
    | some v =>
      simp only [opG]
      rw [if_neg he]
      split
      · split
        · rename_i e; subst e; exact hg
        · rfl
      · rw [aget_aset]
def clG : Option Gv → Option Gv
  | some v => some ⟨v.h, true, v.l⟩
  | none => none
theorem clA_get {A : TA} (s t : ByteArray) : aget (clA A s).1 t = if s = t then clG (aget A s) else aget A t := by
  unfold clA
  cases hg : aget A s with
  | none =>
    simp only [clG]
    split
    · rename_i e; subst e; exact hg
    · rfl
  | some v =>
    simp only [clG]
    split
    · split
      · rename_i hc e; subst e; rw [hg, ← hc]
      · rfl
    · rw [aget_aset]
def rmG (n : Int) : Option Gv → Option Gv
  | some v => if hasI v.l n = true then some ⟨v.h, v.c, remI v.l n⟩ else some v
  | none => none
theorem rmA_get {A : TA} (s t : ByteArray) (n : Int) : aget (rmA A s n).1 t = if s = t then rmG n (aget A s) else aget A t := by
  unfold rmA
  cases hg : aget A s with
  | none =>
    simp only [rmG]
    split
    · rename_i e; subst e; exact hg
    · rfl
  | some v =>
    simp only [rmG]
    split
    · rw [aget_aset]
    · split
      · rename_i e; subst e; exact hg
      · rfl

end Go.Proofs.YtgmmoghagpmpfaaGreatDoor
