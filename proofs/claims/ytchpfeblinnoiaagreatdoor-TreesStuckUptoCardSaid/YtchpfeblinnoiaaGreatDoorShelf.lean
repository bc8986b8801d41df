import Derived.Shelf.Strings.Builder1
import Derived.Shelf.Strings.Builder2
import Derived.Shelf.Strings.Trim
import Derived.Shelf.Small.Utf8
import Derived.Shelf.Small.Strs
import Derived.Shelf.Small.Wraps
import Derived.Shelf.Strings.BuilderF
import Derived.Shelf.Strings.BuilderK
import Derived.Shelf.Utf8.RuneCount
import Derived.Shelf.Strings.Builder2Cap
import Derived.Shelf.Strings.Search1
import Derived.Shelf.Strings.Search2
import Derived.Shelf.Strings.Search3
import Derived.Shelf.Strings.Cut
import Derived.Shelf.Strings.Count
import Derived.Shelf.LaysM
import Derived.Shelf.Strings.Shaped
import Derived.Shelf.Strings.Prefix
import Derived.Shelf.Strings.Split
import Derived.Shelf.Unicode.Decode
import Derived.Shelf.Strings.Runes
import Derived.Shelf.Strings.RuneCount
import Derived.Shelf.Strings.IndexAny
import Derived.Shelf.Strings.AsciiSet
import Derived.Shelf.Strings.IndexAnyAll
import Derived.Shelf.Unicode.DecodeSlow
import Derived.Shelf.Unicode.DecodeAny
import Derived.Shelf.Unicode.DecodeLast
import Derived.Shelf.Strings.BuilderCap
import Derived.Test.YtchpfeblinnoiaaGreatDoorProg
/-
  DERIVED: THE SHELF's CONTRACTS AT THIS DUMP, IN PLAIN WORDS (tools/lay-plain.mjs out of 'YtchpfeblinnoiaaGreatDoorShelf.lean', which tools/lay-shelf.mjs wrote): THE SAME DECLARATIONS UNDER THE SAME NAMES: 'import', 'namespace', 'open', 'def', 'theorem' AND NOTHING ELSE: no command of the shelf's: FOR A HAND-IN. Each laying: the table of numbers ('.._ren') and one theorem, a field a fact of the dump's own or the kernel's comparison; each contract: ONE APPLICATION.
-/
namespace Go.Proofs
open Go.Shelf
def Tryz.lays169_ren : Go.Shelf.Ren := ⟨fun | 169 => 34 | n => n, fun | 70 => 70 | 9 => 9 | 0 => 0 | 72 => 73 | 37 => 71 | 127 => 95 | 3 => 3 | 5 => 5 | n => n, fun | n => n⟩
theorem Tryz.lays169 : Go.Proofs.Lays.n169 Tryz.prog Tryz.lays169_ren := {
  mixed := by kernel_rfl
  f169 := Tryz.func34.trans (congrArg some (by kernel_rfl))
  t0 := Tryz.underlying0
  a0 := Tryz.isAgg0
  z0 := Tryz.sizeOf0
  v0 := Tryz.zeroValue0
  t3 := Tryz.underlying3
  a3 := Tryz.isAgg3
  z3 := Tryz.sizeOf3
  v3 := Tryz.zeroValue3
  t9 := Tryz.underlying9
  a9 := Tryz.isAgg9
  z9 := Tryz.sizeOf9
  v9 := Tryz.zeroValue9
  t37 := Tryz.underlying71
  a37 := Tryz.isAgg71
  z37 := Tryz.sizeOf71
  v37 := Tryz.zeroValue71
  t70 := Tryz.underlying70
  a70 := Tryz.isAgg70
  z70 := Tryz.sizeOf70
  v70 := Tryz.zeroValue70
  t72 := Tryz.underlying73
  a72 := Tryz.isAgg73
  z72 := Tryz.sizeOf73
  v72 := Tryz.zeroValue73
  t127 := Tryz.underlying95
  a127 := Tryz.isAgg95
  z127 := Tryz.sizeOf95
  v127 := Tryz.zeroValue95 }
theorem Tryz.Builder_Extra_169 : Builder.Extra Tryz.prog Tryz.lays169_ren := {
  sizeBuilder := by kernel_rfl
  liesBuilder := by kernel_rfl
  t5 := Tryz.underlying5
  a5 := Tryz.isAgg5
  z5 := Tryz.sizeOf5
  v5 := Tryz.zeroValue5
  infoByte := by kernel_rfl
  cellsByte := by kernel_rfl
  sizeByte := by kernel_rfl
  neB5 := by decide }
open Go.RowKit in
theorem Tryz.Builder_String_any (B b : Nat) (l : List UInt8) (w : World) (h : Lib.IsBuilder 73 5 B b (Lib.byteCells l) w) (hBw : B ≤ w.heap.size) :
    Calls Tryz.prog 34 #[.pointer (some ⟨b, 0, none⟩)] w fun e w' => e = .returned (.string ⟨l.toArray⟩) ∧ Below B w w' := Any.Builder_String_any Tryz.lays169 Tryz.Builder_Extra_169 B b l w h hBw
def Tryz.lays161_ren : Go.Shelf.Ren := ⟨fun | 161 => 98 | 231 => 73 | 227 => 75 | 233 => 76 | 235 => 78 | 228 => 88 | 197 => 89 | 151 => 90 | 260 => 108 | 152 => 109 | 137 => 122 | 119 => 123 | 224 => 124 | 225 => 125 | 217 => 137 | 266 => 146 | n => n, fun | 9 => 9 | 4 => 4 | 3 => 3 | 5 => 5 | 117 => 132 | 116 => 131 | 0 => 0 | 124 => 135 | 105 => 145 | 21 => 21 | 119 => 138 | 46 => 46 | 139 => 141 | 138 => 140 | n => n, fun | 3 => 0 | 4 => 1 | n => n⟩
theorem Tryz.lays161 : Go.Proofs.Lays.n161 Tryz.prog Tryz.lays161_ren := {
  mixed := by kernel_rfl
  f119 := Tryz.func123.trans (congrArg some (by kernel_rfl))
  f137 := Tryz.func122.trans (congrArg some (by kernel_rfl))
  f151 := Tryz.func90.trans (congrArg some (by kernel_rfl))
  f152 := Tryz.func109.trans (congrArg some (by kernel_rfl))
  f161 := Tryz.func98.trans (congrArg some (by kernel_rfl))
  f197 := Tryz.func89.trans (congrArg some (by kernel_rfl))
  f217 := Tryz.func137.trans (congrArg some (by kernel_rfl))
  f224 := Tryz.func124.trans (congrArg some (by kernel_rfl))
  f225 := Tryz.func125.trans (congrArg some (by kernel_rfl))
  f227 := Tryz.func75.trans (congrArg some (by kernel_rfl))
  f228 := Tryz.func88.trans (congrArg some (by kernel_rfl))
  f231 := Tryz.func73.trans (congrArg some (by kernel_rfl))
  f233 := Tryz.func76.trans (congrArg some (by kernel_rfl))
  f235 := Tryz.func78.trans (congrArg some (by kernel_rfl))
  f260 := Tryz.func108.trans (congrArg some (by kernel_rfl))
  f266 := Tryz.func146.trans (congrArg some (by kernel_rfl))
  t0 := Tryz.underlying0
  a0 := Tryz.isAgg0
  z0 := Tryz.sizeOf0
  v0 := Tryz.zeroValue0
  t3 := Tryz.underlying3
  a3 := Tryz.isAgg3
  z3 := Tryz.sizeOf3
  v3 := Tryz.zeroValue3
  t4 := Tryz.underlying4
  a4 := Tryz.isAgg4
  z4 := Tryz.sizeOf4
  v4 := Tryz.zeroValue4
  t5 := Tryz.underlying5
  a5 := Tryz.isAgg5
  z5 := Tryz.sizeOf5
  v5 := Tryz.zeroValue5
  t9 := Tryz.underlying9
  a9 := Tryz.isAgg9
  z9 := Tryz.sizeOf9
  v9 := Tryz.zeroValue9
  t21 := Tryz.underlying21
  a21 := Tryz.isAgg21
  z21 := Tryz.sizeOf21
  v21 := Tryz.zeroValue21
  t46 := Tryz.underlying46
  a46 := Tryz.isAgg46
  z46 := Tryz.sizeOf46
  v46 := Tryz.zeroValue46
  t105 := Tryz.underlying145
  a105 := Tryz.isAgg145
  z105 := Tryz.sizeOf145
  v105 := Tryz.zeroValue145
  t116 := Tryz.underlying131
  a116 := Tryz.isAgg131
  z116 := Tryz.sizeOf131
  t117 := Tryz.underlying132
  a117 := Tryz.isAgg132
  z117 := Tryz.sizeOf132
  v117 := Tryz.zeroValue132
  t119 := Tryz.underlying138
  a119 := Tryz.isAgg138
  z119 := Tryz.sizeOf138
  t124 := Tryz.underlying135
  a124 := Tryz.isAgg135
  z124 := Tryz.sizeOf135
  v124 := Tryz.zeroValue135
  t138 := Tryz.underlying140
  a138 := Tryz.isAgg140
  z138 := Tryz.sizeOf140
  v138 := Tryz.zeroValue140
  t139 := Tryz.underlying141
  a139 := Tryz.isAgg141
  z139 := Tryz.sizeOf141
  v139 := Tryz.zeroValue141
  g3 := by kernel_rfl
  g4 := by kernel_rfl }
def Tryz.lays162_ren : Go.Shelf.Ren := ⟨fun | 162 => 96 | 232 => 74 | 227 => 75 | 234 => 77 | 236 => 79 | 228 => 88 | 271 => 91 | 151 => 90 | 120 => 110 | 197 => 89 | 152 => 109 | 260 => 108 | 137 => 122 | 119 => 123 | 224 => 124 | 225 => 125 | 217 => 137 | 266 => 146 | n => n, fun | 9 => 9 | 4 => 4 | 3 => 3 | 5 => 5 | 117 => 132 | 116 => 131 | 0 => 0 | 124 => 135 | 21 => 21 | 105 => 145 | 46 => 46 | 119 => 138 | 139 => 141 | 138 => 140 | n => n, fun | 3 => 0 | 4 => 1 | n => n⟩
theorem Tryz.lays162 : Go.Proofs.Lays.n162 Tryz.prog Tryz.lays162_ren := {
  mixed := by kernel_rfl
  f119 := Tryz.func123.trans (congrArg some (by kernel_rfl))
  f120 := Tryz.func110.trans (congrArg some (by kernel_rfl))
  f137 := Tryz.func122.trans (congrArg some (by kernel_rfl))
  f151 := Tryz.func90.trans (congrArg some (by kernel_rfl))
  f152 := Tryz.func109.trans (congrArg some (by kernel_rfl))
  f162 := Tryz.func96.trans (congrArg some (by kernel_rfl))
  f197 := Tryz.func89.trans (congrArg some (by kernel_rfl))
  f217 := Tryz.func137.trans (congrArg some (by kernel_rfl))
  f224 := Tryz.func124.trans (congrArg some (by kernel_rfl))
  f225 := Tryz.func125.trans (congrArg some (by kernel_rfl))
  f227 := Tryz.func75.trans (congrArg some (by kernel_rfl))
  f228 := Tryz.func88.trans (congrArg some (by kernel_rfl))
  f232 := Tryz.func74.trans (congrArg some (by kernel_rfl))
  f234 := Tryz.func77.trans (congrArg some (by kernel_rfl))
  f236 := Tryz.func79.trans (congrArg some (by kernel_rfl))
  f260 := Tryz.func108.trans (congrArg some (by kernel_rfl))
  f266 := Tryz.func146.trans (congrArg some (by kernel_rfl))
  f271 := Tryz.func91.trans (congrArg some (by kernel_rfl))
  t0 := Tryz.underlying0
  a0 := Tryz.isAgg0
  z0 := Tryz.sizeOf0
  v0 := Tryz.zeroValue0
  t3 := Tryz.underlying3
  a3 := Tryz.isAgg3
  z3 := Tryz.sizeOf3
  v3 := Tryz.zeroValue3
  t4 := Tryz.underlying4
  a4 := Tryz.isAgg4
  z4 := Tryz.sizeOf4
  v4 := Tryz.zeroValue4
  t5 := Tryz.underlying5
  a5 := Tryz.isAgg5
  z5 := Tryz.sizeOf5
  v5 := Tryz.zeroValue5
  t9 := Tryz.underlying9
  a9 := Tryz.isAgg9
  z9 := Tryz.sizeOf9
  v9 := Tryz.zeroValue9
  t21 := Tryz.underlying21
  a21 := Tryz.isAgg21
  z21 := Tryz.sizeOf21
  v21 := Tryz.zeroValue21
  t46 := Tryz.underlying46
  a46 := Tryz.isAgg46
  z46 := Tryz.sizeOf46
  v46 := Tryz.zeroValue46
  t105 := Tryz.underlying145
  a105 := Tryz.isAgg145
  z105 := Tryz.sizeOf145
  v105 := Tryz.zeroValue145
  t116 := Tryz.underlying131
  a116 := Tryz.isAgg131
  z116 := Tryz.sizeOf131
  t117 := Tryz.underlying132
  a117 := Tryz.isAgg132
  z117 := Tryz.sizeOf132
  v117 := Tryz.zeroValue132
  t119 := Tryz.underlying138
  a119 := Tryz.isAgg138
  z119 := Tryz.sizeOf138
  t124 := Tryz.underlying135
  a124 := Tryz.isAgg135
  z124 := Tryz.sizeOf135
  v124 := Tryz.zeroValue135
  t138 := Tryz.underlying140
  a138 := Tryz.isAgg140
  z138 := Tryz.sizeOf140
  v138 := Tryz.zeroValue140
  t139 := Tryz.underlying141
  a139 := Tryz.isAgg141
  z139 := Tryz.sizeOf141
  v139 := Tryz.zeroValue141
  g3 := by kernel_rfl
  g4 := by kernel_rfl }
def Tryz.lays160_ren : Go.Shelf.Ren := ⟨fun | 160 => 61 | 232 => 74 | 231 => 73 | 227 => 75 | 234 => 77 | 233 => 76 | 236 => 79 | 235 => 78 | 228 => 88 | 271 => 91 | 151 => 90 | 197 => 89 | 120 => 110 | 152 => 109 | 260 => 108 | 137 => 122 | 119 => 123 | 224 => 124 | 225 => 125 | 217 => 137 | 266 => 146 | n => n, fun | 9 => 9 | 4 => 4 | 3 => 3 | 5 => 5 | 117 => 132 | 116 => 131 | 0 => 0 | 124 => 135 | 21 => 21 | 105 => 145 | 46 => 46 | 119 => 138 | 139 => 141 | 138 => 140 | n => n, fun | 3 => 0 | 4 => 1 | n => n⟩
theorem Tryz.lays160 : Go.Proofs.Lays.n160 Tryz.prog Tryz.lays160_ren := {
  mixed := by kernel_rfl
  f119 := Tryz.func123.trans (congrArg some (by kernel_rfl))
  f120 := Tryz.func110.trans (congrArg some (by kernel_rfl))
  f137 := Tryz.func122.trans (congrArg some (by kernel_rfl))
  f151 := Tryz.func90.trans (congrArg some (by kernel_rfl))
  f152 := Tryz.func109.trans (congrArg some (by kernel_rfl))
  f160 := Tryz.func61.trans (congrArg some (by kernel_rfl))
  f197 := Tryz.func89.trans (congrArg some (by kernel_rfl))
  f217 := Tryz.func137.trans (congrArg some (by kernel_rfl))
  f224 := Tryz.func124.trans (congrArg some (by kernel_rfl))
  f225 := Tryz.func125.trans (congrArg some (by kernel_rfl))
  f227 := Tryz.func75.trans (congrArg some (by kernel_rfl))
  f228 := Tryz.func88.trans (congrArg some (by kernel_rfl))
  f231 := Tryz.func73.trans (congrArg some (by kernel_rfl))
  f232 := Tryz.func74.trans (congrArg some (by kernel_rfl))
  f233 := Tryz.func76.trans (congrArg some (by kernel_rfl))
  f234 := Tryz.func77.trans (congrArg some (by kernel_rfl))
  f235 := Tryz.func78.trans (congrArg some (by kernel_rfl))
  f236 := Tryz.func79.trans (congrArg some (by kernel_rfl))
  f260 := Tryz.func108.trans (congrArg some (by kernel_rfl))
  f266 := Tryz.func146.trans (congrArg some (by kernel_rfl))
  f271 := Tryz.func91.trans (congrArg some (by kernel_rfl))
  t0 := Tryz.underlying0
  a0 := Tryz.isAgg0
  z0 := Tryz.sizeOf0
  v0 := Tryz.zeroValue0
  t3 := Tryz.underlying3
  a3 := Tryz.isAgg3
  z3 := Tryz.sizeOf3
  v3 := Tryz.zeroValue3
  t4 := Tryz.underlying4
  a4 := Tryz.isAgg4
  z4 := Tryz.sizeOf4
  v4 := Tryz.zeroValue4
  t5 := Tryz.underlying5
  a5 := Tryz.isAgg5
  z5 := Tryz.sizeOf5
  v5 := Tryz.zeroValue5
  t9 := Tryz.underlying9
  a9 := Tryz.isAgg9
  z9 := Tryz.sizeOf9
  v9 := Tryz.zeroValue9
  t21 := Tryz.underlying21
  a21 := Tryz.isAgg21
  z21 := Tryz.sizeOf21
  v21 := Tryz.zeroValue21
  t46 := Tryz.underlying46
  a46 := Tryz.isAgg46
  z46 := Tryz.sizeOf46
  v46 := Tryz.zeroValue46
  t105 := Tryz.underlying145
  a105 := Tryz.isAgg145
  z105 := Tryz.sizeOf145
  v105 := Tryz.zeroValue145
  t116 := Tryz.underlying131
  a116 := Tryz.isAgg131
  z116 := Tryz.sizeOf131
  t117 := Tryz.underlying132
  a117 := Tryz.isAgg132
  z117 := Tryz.sizeOf132
  v117 := Tryz.zeroValue132
  t119 := Tryz.underlying138
  a119 := Tryz.isAgg138
  z119 := Tryz.sizeOf138
  t124 := Tryz.underlying135
  a124 := Tryz.isAgg135
  z124 := Tryz.sizeOf135
  v124 := Tryz.zeroValue135
  t138 := Tryz.underlying140
  a138 := Tryz.isAgg140
  z138 := Tryz.sizeOf140
  v138 := Tryz.zeroValue140
  t139 := Tryz.underlying141
  a139 := Tryz.isAgg141
  z139 := Tryz.sizeOf141
  v139 := Tryz.zeroValue141
  g3 := by kernel_rfl
  g4 := by kernel_rfl }
def Tryz.lays119_ren : Go.Shelf.Ren := ⟨fun | 119 => 123 | n => n, fun | 21 => 21 | 4 => 4 | n => n, fun | n => n⟩
theorem Tryz.lays119 : Go.Proofs.Lays.n119 Tryz.prog Tryz.lays119_ren := {
  mixed := by kernel_rfl
  f119 := Tryz.func123.trans (congrArg some (by kernel_rfl))
  t4 := Tryz.underlying4
  a4 := Tryz.isAgg4
  z4 := Tryz.sizeOf4
  v4 := Tryz.zeroValue4
  t21 := Tryz.underlying21
  a21 := Tryz.isAgg21
  z21 := Tryz.sizeOf21
  v21 := Tryz.zeroValue21 }
theorem Tryz.utf8_ValidRune (r : Int) (w : World) :
    Calls Tryz.prog 123 #[.int .i32 r] w fun e w' => e = .returned (.bool (Lib.validRune r)) ∧ w' = w := Any.utf8_ValidRune Tryz.lays119 r w
def Tryz.lays137_ren : Go.Shelf.Ren := ⟨fun | 137 => 122 | 217 => 137 | 266 => 146 | n => n, fun | 9 => 9 | 5 => 5 | 3 => 3 | n => n, fun | n => n⟩
theorem Tryz.lays137 : Go.Proofs.Lays.n137 Tryz.prog Tryz.lays137_ren := {
  mixed := by kernel_rfl
  f137 := Tryz.func122.trans (congrArg some (by kernel_rfl))
  f217 := Tryz.func137.trans (congrArg some (by kernel_rfl))
  f266 := Tryz.func146.trans (congrArg some (by kernel_rfl))
  t3 := Tryz.underlying3
  a3 := Tryz.isAgg3
  z3 := Tryz.sizeOf3
  v3 := Tryz.zeroValue3
  t5 := Tryz.underlying5
  a5 := Tryz.isAgg5
  z5 := Tryz.sizeOf5
  v5 := Tryz.zeroValue5
  t9 := Tryz.underlying9
  a9 := Tryz.isAgg9
  z9 := Tryz.sizeOf9
  v9 := Tryz.zeroValue9 }
open Go.RowKit in
theorem Tryz.strings_IndexByte (s : ByteArray) (c : Int) (w : World) :
    Calls Tryz.prog 122 #[.string s, .int .u8 c] w fun e w' => e = .returned (.int .i64 (Lib.indexByte s.data.toList c.toNat.toUInt8)) ∧ w' = w := Any.strings_IndexByte Tryz.lays137 s c w
def Tryz.lays103_ren : Go.Shelf.Ren := ⟨fun | 103 => 81 | 210 => 95 | 206 => 113 | n => n, fun | 9 => 9 | 4 => 4 | 24 => 56 | 3 => 3 | n => n, fun | n => n⟩
theorem Tryz.lays103 : Go.Proofs.Lays.n103 Tryz.prog Tryz.lays103_ren := {
  mixed := by kernel_rfl
  f103 := Tryz.func81.trans (congrArg some (by kernel_rfl))
  f206 := Tryz.func113.trans (congrArg some (by kernel_rfl))
  f210 := Tryz.func95.trans (congrArg some (by kernel_rfl))
  t3 := Tryz.underlying3
  a3 := Tryz.isAgg3
  z3 := Tryz.sizeOf3
  v3 := Tryz.zeroValue3
  t4 := Tryz.underlying4
  a4 := Tryz.isAgg4
  z4 := Tryz.sizeOf4
  v4 := Tryz.zeroValue4
  t9 := Tryz.underlying9
  a9 := Tryz.isAgg9
  z9 := Tryz.sizeOf9
  v9 := Tryz.zeroValue9
  t24 := Tryz.underlying56
  a24 := Tryz.isAgg56
  z24 := Tryz.sizeOf56
  v24 := Tryz.zeroValue56 }
open Go.RowKit in
theorem Tryz.strings_CutPrefix (s p : ByteArray) (w : World) :
    Calls Tryz.prog 81 #[.string s, .string p] w fun e w' => e = .returned (.tuple #[.string ⟨(Lib.trimPrefix s.data.toList p.data.toList).toArray⟩, .bool (Lib.hasPrefix s.data.toList p.data.toList)]) ∧ w' = w := Any.strings_CutPrefix Tryz.lays103 s p w
def Tryz.lays219_ren : Go.Shelf.Ren := ⟨fun | 219 => 126 | 217 => 137 | 225 => 125 | 224 => 124 | 267 => 138 | 266 => 146 | 314 => 147 | n => n, fun | 9 => 9 | 3 => 3 | 4 => 4 | 5 => 5 | 46 => 46 | 146 => 202 | 51 => 112 | n => n, fun | 1 => 2 | n => n⟩
theorem Tryz.lays219 : Go.Proofs.Lays.n219 Tryz.prog Tryz.lays219_ren := {
  mixed := by kernel_rfl
  f217 := Tryz.func137.trans (congrArg some (by kernel_rfl))
  f219 := Tryz.func126.trans (congrArg some (by kernel_rfl))
  f224 := Tryz.func124.trans (congrArg some (by kernel_rfl))
  f225 := Tryz.func125.trans (congrArg some (by kernel_rfl))
  f266 := Tryz.func146.trans (congrArg some (by kernel_rfl))
  f267 := Tryz.func138.trans (congrArg some (by kernel_rfl))
  f314 := Tryz.func147.trans (congrArg some (by kernel_rfl))
  t3 := Tryz.underlying3
  a3 := Tryz.isAgg3
  z3 := Tryz.sizeOf3
  v3 := Tryz.zeroValue3
  t4 := Tryz.underlying4
  a4 := Tryz.isAgg4
  z4 := Tryz.sizeOf4
  v4 := Tryz.zeroValue4
  t5 := Tryz.underlying5
  a5 := Tryz.isAgg5
  z5 := Tryz.sizeOf5
  v5 := Tryz.zeroValue5
  t9 := Tryz.underlying9
  a9 := Tryz.isAgg9
  z9 := Tryz.sizeOf9
  v9 := Tryz.zeroValue9
  t46 := Tryz.underlying46
  a46 := Tryz.isAgg46
  z46 := Tryz.sizeOf46
  v46 := Tryz.zeroValue46
  t51 := Tryz.underlying112
  a51 := Tryz.isAgg112
  z51 := Tryz.sizeOf112
  v51 := Tryz.zeroValue112
  t146 := Tryz.underlying202
  a146 := Tryz.isAgg202
  z146 := Tryz.sizeOf202
  v146 := Tryz.zeroValue202
  g1 := by kernel_rfl }
open Go.RowKit Go.Lib in
theorem Tryz.stringslite_Index_one (s : ByteArray) (c : UInt8) (w : World) :
    Calls Tryz.prog 126 #[.string s, .string ⟨#[c]⟩] w fun e w' => e = .returned (.int .i64 (Lib.indexByte s.data.toList c)) ∧ w' = w := Any.stringslite_Index_one Tryz.lays219 s c w
def Tryz.lays144_ren : Go.Shelf.Ren := ⟨fun | 144 => 92 | 143 => 111 | 219 => 126 | 217 => 137 | 225 => 125 | 224 => 124 | 267 => 138 | 266 => 146 | 314 => 147 | n => n, fun | 9 => 9 | 4 => 4 | 3 => 3 | 5 => 5 | 46 => 46 | 146 => 202 | 51 => 112 | n => n, fun | 1 => 2 | n => n⟩
theorem Tryz.lays144 : Go.Proofs.Lays.n144 Tryz.prog Tryz.lays144_ren := {
  mixed := by kernel_rfl
  f143 := Tryz.func111.trans (congrArg some (by kernel_rfl))
  f144 := Tryz.func92.trans (congrArg some (by kernel_rfl))
  f217 := Tryz.func137.trans (congrArg some (by kernel_rfl))
  f219 := Tryz.func126.trans (congrArg some (by kernel_rfl))
  f224 := Tryz.func124.trans (congrArg some (by kernel_rfl))
  f225 := Tryz.func125.trans (congrArg some (by kernel_rfl))
  f266 := Tryz.func146.trans (congrArg some (by kernel_rfl))
  f267 := Tryz.func138.trans (congrArg some (by kernel_rfl))
  f314 := Tryz.func147.trans (congrArg some (by kernel_rfl))
  t3 := Tryz.underlying3
  a3 := Tryz.isAgg3
  z3 := Tryz.sizeOf3
  v3 := Tryz.zeroValue3
  t4 := Tryz.underlying4
  a4 := Tryz.isAgg4
  z4 := Tryz.sizeOf4
  v4 := Tryz.zeroValue4
  t5 := Tryz.underlying5
  a5 := Tryz.isAgg5
  z5 := Tryz.sizeOf5
  v5 := Tryz.zeroValue5
  t9 := Tryz.underlying9
  a9 := Tryz.isAgg9
  z9 := Tryz.sizeOf9
  v9 := Tryz.zeroValue9
  t46 := Tryz.underlying46
  a46 := Tryz.isAgg46
  z46 := Tryz.sizeOf46
  v46 := Tryz.zeroValue46
  t51 := Tryz.underlying112
  a51 := Tryz.isAgg112
  z51 := Tryz.sizeOf112
  v51 := Tryz.zeroValue112
  t146 := Tryz.underlying202
  a146 := Tryz.isAgg202
  z146 := Tryz.sizeOf202
  v146 := Tryz.zeroValue202
  g1 := by kernel_rfl }
open Go.RowKit Go.Lib in
theorem Tryz.strings_Contains_one (s : ByteArray) (c : UInt8) (w : World) :
    Calls Tryz.prog 92 #[.string s, .string ⟨#[c]⟩] w fun e w' => e = .returned (.bool (decide (0 ≤ Lib.indexByte s.data.toList c))) ∧ w' = w := Any.strings_Contains_one Tryz.lays144 s c w
def Tryz.lays152_ren : Go.Shelf.Ren := ⟨fun | 152 => 109 | 137 => 122 | 119 => 123 | 224 => 124 | 225 => 125 | 217 => 137 | 266 => 146 | n => n, fun | 9 => 9 | 21 => 21 | 3 => 3 | 4 => 4 | 5 => 5 | 0 => 0 | 46 => 46 | n => n, fun | n => n⟩
theorem Tryz.lays152 : Go.Proofs.Lays.n152 Tryz.prog Tryz.lays152_ren := {
  mixed := by kernel_rfl
  f119 := Tryz.func123.trans (congrArg some (by kernel_rfl))
  f137 := Tryz.func122.trans (congrArg some (by kernel_rfl))
  f152 := Tryz.func109.trans (congrArg some (by kernel_rfl))
  f217 := Tryz.func137.trans (congrArg some (by kernel_rfl))
  f224 := Tryz.func124.trans (congrArg some (by kernel_rfl))
  f225 := Tryz.func125.trans (congrArg some (by kernel_rfl))
  f266 := Tryz.func146.trans (congrArg some (by kernel_rfl))
  t0 := Tryz.underlying0
  a0 := Tryz.isAgg0
  z0 := Tryz.sizeOf0
  v0 := Tryz.zeroValue0
  t3 := Tryz.underlying3
  a3 := Tryz.isAgg3
  z3 := Tryz.sizeOf3
  v3 := Tryz.zeroValue3
  t4 := Tryz.underlying4
  a4 := Tryz.isAgg4
  z4 := Tryz.sizeOf4
  v4 := Tryz.zeroValue4
  t5 := Tryz.underlying5
  a5 := Tryz.isAgg5
  z5 := Tryz.sizeOf5
  v5 := Tryz.zeroValue5
  t9 := Tryz.underlying9
  a9 := Tryz.isAgg9
  z9 := Tryz.sizeOf9
  v9 := Tryz.zeroValue9
  t21 := Tryz.underlying21
  a21 := Tryz.isAgg21
  z21 := Tryz.sizeOf21
  v21 := Tryz.zeroValue21
  t46 := Tryz.underlying46
  a46 := Tryz.isAgg46
  z46 := Tryz.sizeOf46
  v46 := Tryz.zeroValue46 }
open Go.RowKit Go.Lib in
theorem Tryz.strings_IndexRune_ascii (s : ByteArray) (r : Int) (w : World) (h0 : 0 ≤ r) (h1 : r < 128) :
    Calls Tryz.prog 109 #[.string s, .int .i32 r] w fun e w' => e = .returned (.int .i64 (Lib.indexByte s.data.toList r.toNat.toUInt8)) ∧ w' = w := Any.strings_IndexRune_ascii Tryz.lays152 s r w h0 h1
def Tryz.lays226_ren : Go.Shelf.Ren := ⟨fun | 226 => 114 | n => n, fun | 3 => 3 | 4 => 4 | n => n, fun | n => n⟩
theorem Tryz.lays226 : Go.Proofs.Lays.n226 Tryz.prog Tryz.lays226_ren := {
  mixed := by kernel_rfl
  f226 := Tryz.func114.trans (congrArg some (by kernel_rfl))
  t3 := Tryz.underlying3
  a3 := Tryz.isAgg3
  z3 := Tryz.sizeOf3
  v3 := Tryz.zeroValue3
  t4 := Tryz.underlying4
  a4 := Tryz.isAgg4
  z4 := Tryz.sizeOf4
  v4 := Tryz.zeroValue4 }
open Go.RowKit Go.Lib in
theorem Tryz.strings_shouldUseASCIISet (n : Int) (w : World) :
    Calls Tryz.prog 114 #[.int .i64 n] w fun e w' => e = .returned (.bool (decide (8 < n))) ∧ w' = w := Any.strings_shouldUseASCIISet Tryz.lays226 n w
def Tryz.lays153_ren : Go.Shelf.Ren := ⟨fun | 153 => 97 | 152 => 109 | 226 => 114 | 227 => 75 | 228 => 88 | 137 => 122 | 119 => 123 | 224 => 124 | 225 => 125 | 217 => 137 | 266 => 146 | n => n, fun | 9 => 9 | 3 => 3 | 4 => 4 | 5 => 5 | 21 => 21 | 117 => 132 | 116 => 131 | 0 => 0 | 46 => 46 | 124 => 135 | n => n, fun | n => n⟩
theorem Tryz.lays153 : Go.Proofs.Lays.n153 Tryz.prog Tryz.lays153_ren := {
  mixed := by kernel_rfl
  f119 := Tryz.func123.trans (congrArg some (by kernel_rfl))
  f137 := Tryz.func122.trans (congrArg some (by kernel_rfl))
  f152 := Tryz.func109.trans (congrArg some (by kernel_rfl))
  f153 := Tryz.func97.trans (congrArg some (by kernel_rfl))
  f217 := Tryz.func137.trans (congrArg some (by kernel_rfl))
  f224 := Tryz.func124.trans (congrArg some (by kernel_rfl))
  f225 := Tryz.func125.trans (congrArg some (by kernel_rfl))
  f226 := Tryz.func114.trans (congrArg some (by kernel_rfl))
  f227 := Tryz.func75.trans (congrArg some (by kernel_rfl))
  f228 := Tryz.func88.trans (congrArg some (by kernel_rfl))
  f266 := Tryz.func146.trans (congrArg some (by kernel_rfl))
  t0 := Tryz.underlying0
  a0 := Tryz.isAgg0
  z0 := Tryz.sizeOf0
  v0 := Tryz.zeroValue0
  t3 := Tryz.underlying3
  a3 := Tryz.isAgg3
  z3 := Tryz.sizeOf3
  v3 := Tryz.zeroValue3
  t4 := Tryz.underlying4
  a4 := Tryz.isAgg4
  z4 := Tryz.sizeOf4
  v4 := Tryz.zeroValue4
  t5 := Tryz.underlying5
  a5 := Tryz.isAgg5
  z5 := Tryz.sizeOf5
  v5 := Tryz.zeroValue5
  t9 := Tryz.underlying9
  a9 := Tryz.isAgg9
  z9 := Tryz.sizeOf9
  v9 := Tryz.zeroValue9
  t21 := Tryz.underlying21
  a21 := Tryz.isAgg21
  z21 := Tryz.sizeOf21
  v21 := Tryz.zeroValue21
  t46 := Tryz.underlying46
  a46 := Tryz.isAgg46
  z46 := Tryz.sizeOf46
  v46 := Tryz.zeroValue46
  t116 := Tryz.underlying131
  a116 := Tryz.isAgg131
  z116 := Tryz.sizeOf131
  t117 := Tryz.underlying132
  a117 := Tryz.isAgg132
  z117 := Tryz.sizeOf132
  v117 := Tryz.zeroValue132
  t124 := Tryz.underlying135
  a124 := Tryz.isAgg135
  z124 := Tryz.sizeOf135
  v124 := Tryz.zeroValue135 }
open Go.RowKit Go.Lib in
theorem Tryz.strings_IndexAny_long (hv116 : ∀ w, (zeroValue 131).run Tryz.prog w = .ok (.agg (Array.replicate 256 (.bool false))) w) (s chars : ByteArray) (w : World) (h2 : 2 ≤ chars.size) (h8 : 8 < s.size) (hs : s.size < 4294967281) (hcs : chars.size < 4294967281) (hascii : ∀ (j : Nat) b, chars.data.toList[j]? = some b → b.toNat < 128) :
    Calls Tryz.prog 97 #[.string s, .string chars] w fun e w' => e = .returned (.int .i64 (Lib.indexAny s.data.toList chars.data.toList)) ∧ w' = ((w.alloc (.cells (Lib.setCells chars.data.toList) 131)).alloc (.cells (Lib.setCells chars.data.toList) 131)) := Any.strings_IndexAny_long Tryz.lays153 hv116 (by kernel_rfl) s chars w h2 h8 hs hcs hascii
end Go.Proofs
