import Derived.Shelf.Strings.Trim
import Derived.Shelf.Small.Utf8
import Derived.Shelf.Small.Bits
import Derived.Shelf.Small.Strs
import Derived.Shelf.Small.Wraps
import Derived.Shelf.Strconv.Itoa0
import Derived.Shelf.Strings.Search1
import Derived.Shelf.Sort.Plain
import Derived.Shelf.GgClosure.StringsIndexFunc
import Derived.Ground.GgwProg
import Derived.Shelf.GgClosure.StringsIndexFuncTop
import Derived.Shelf.GgClosure.StringsRunes
import Derived.Shelf.Unicode.Decode
import Derived.Shelf.Strings.Runes
import Derived.Shelf.Strings.AsciiSet
import Derived.Shelf.Unicode.DecodeSlow
import Derived.Shelf.Unicode.DecodeAny
import Derived.Shelf.Unicode.DecodeLast
import Derived.Shelf.Strings.FuncGrows
import Derived.Ground.Names2Prog
import Derived.Shelf.Slices.SearchI
import Derived.Shelf.Slices.In.SortNone
import Derived.Test.YtepkbbkfcnejmaaGreatDoorProg
/-
  DERIVED: THE SHELF's CONTRACTS AT THIS DUMP, IN PLAIN WORDS (tools/lay-plain.mjs out of 'YtepkbbkfcnejmaaGreatDoorShelf.lean', which tools/lay-shelf.mjs wrote): THE SAME DECLARATIONS UNDER THE SAME NAMES: 'import', 'namespace', 'open', 'def', 'theorem' AND NOTHING ELSE: no command of the shelf's: FOR A HAND-IN. Each laying: the table of numbers ('.._ren') and one theorem, a field a fact of the dump's own or the kernel's comparison; each contract: ONE APPLICATION.
-/
namespace Go.Proofs
open Go.Shelf
def Tryz.lays160_ren : Go.Shelf.Ren := ⟨fun | 160 => 31 | 232 => 50 | 231 => 49 | 227 => 51 | 234 => 53 | 233 => 52 | 236 => 55 | 235 => 54 | 228 => 73 | 271 => 75 | 151 => 34 | 197 => 74 | 120 => 89 | 152 => 57 | 260 => 88 | 137 => 77 | 119 => 78 | 224 => 79 | 225 => 80 | 217 => 90 | 266 => 101 | n => n, fun | 9 => 9 | 4 => 4 | 3 => 3 | 5 => 5 | 117 => 83 | 116 => 82 | 0 => 0 | 124 => 86 | 21 => 21 | 105 => 103 | 46 => 29 | 119 => 126 | 139 => 129 | 138 => 128 | n => n, fun | 3 => 1 | 4 => 2 | n => n⟩
theorem Tryz.lays160 : Go.Proofs.Lays.n160 Tryz.prog Tryz.lays160_ren := {
  mixed := by kernel_rfl
  f119 := Tryz.func78.trans (congrArg some (by kernel_rfl))
  f120 := Tryz.func89.trans (congrArg some (by kernel_rfl))
  f137 := Tryz.func77.trans (congrArg some (by kernel_rfl))
  f151 := Tryz.func34.trans (congrArg some (by kernel_rfl))
  f152 := Tryz.func57.trans (congrArg some (by kernel_rfl))
  f160 := Tryz.func31.trans (congrArg some (by kernel_rfl))
  f197 := Tryz.func74.trans (congrArg some (by kernel_rfl))
  f217 := Tryz.func90.trans (congrArg some (by kernel_rfl))
  f224 := Tryz.func79.trans (congrArg some (by kernel_rfl))
  f225 := Tryz.func80.trans (congrArg some (by kernel_rfl))
  f227 := Tryz.func51.trans (congrArg some (by kernel_rfl))
  f228 := Tryz.func73.trans (congrArg some (by kernel_rfl))
  f231 := Tryz.func49.trans (congrArg some (by kernel_rfl))
  f232 := Tryz.func50.trans (congrArg some (by kernel_rfl))
  f233 := Tryz.func52.trans (congrArg some (by kernel_rfl))
  f234 := Tryz.func53.trans (congrArg some (by kernel_rfl))
  f235 := Tryz.func54.trans (congrArg some (by kernel_rfl))
  f236 := Tryz.func55.trans (congrArg some (by kernel_rfl))
  f260 := Tryz.func88.trans (congrArg some (by kernel_rfl))
  f266 := Tryz.func101.trans (congrArg some (by kernel_rfl))
  f271 := Tryz.func75.trans (congrArg some (by kernel_rfl))
  t0 := Tryz.underlying0
  a0 := Tryz.isAgg0
  z0 := Tryz.sizeOf0
  v0 := Tryz.zeroValue0
  t3 := Tryz.underlying3
  a3 := Tryz.isAgg3
  z3 := Tryz.sizeOf3
  v3 := Tryz.zeroValue3
  t4 := Tryz.underlying4
  a4 := Tryz.isAgg4
  z4 := Tryz.sizeOf4
  v4 := Tryz.zeroValue4
  t5 := Tryz.underlying5
  a5 := Tryz.isAgg5
  z5 := Tryz.sizeOf5
  v5 := Tryz.zeroValue5
  t9 := Tryz.underlying9
  a9 := Tryz.isAgg9
  z9 := Tryz.sizeOf9
  v9 := Tryz.zeroValue9
  t21 := Tryz.underlying21
  a21 := Tryz.isAgg21
  z21 := Tryz.sizeOf21
  v21 := Tryz.zeroValue21
  t46 := Tryz.underlying29
  a46 := Tryz.isAgg29
  z46 := Tryz.sizeOf29
  v46 := Tryz.zeroValue29
  t105 := Tryz.underlying103
  a105 := Tryz.isAgg103
  z105 := Tryz.sizeOf103
  v105 := Tryz.zeroValue103
  t116 := Tryz.underlying82
  a116 := Tryz.isAgg82
  z116 := Tryz.sizeOf82
  t117 := Tryz.underlying83
  a117 := Tryz.isAgg83
  z117 := Tryz.sizeOf83
  v117 := Tryz.zeroValue83
  t119 := Tryz.underlying126
  a119 := Tryz.isAgg126
  z119 := Tryz.sizeOf126
  t124 := Tryz.underlying86
  a124 := Tryz.isAgg86
  z124 := Tryz.sizeOf86
  v124 := Tryz.zeroValue86
  t138 := Tryz.underlying128
  a138 := Tryz.isAgg128
  z138 := Tryz.sizeOf128
  v138 := Tryz.zeroValue128
  t139 := Tryz.underlying129
  a139 := Tryz.isAgg129
  z139 := Tryz.sizeOf129
  v139 := Tryz.zeroValue129
  g3 := by kernel_rfl
  g4 := by kernel_rfl }
def Tryz.lays189_ren : Go.Shelf.Ren := ⟨fun | 189 => 60 | 125 => 46 | 257 => 82 | 128 => 70 | 129 => 71 | 294 => 91 | 295 => 92 | 296 => 93 | 297 => 94 | 298 => 95 | 299 => 96 | 216 => 97 | 300 => 98 | 301 => 99 | 328 => 102 | 329 => 84 | 330 => 85 | 331 => 103 | 332 => 104 | 215 => 72 | 343 => 105 | n => n, fun | 28 => 34 | 3 => 3 | 46 => 29 | 0 => 0 | 51 => 99 | 53 => 101 | 4 => 4 | 183 => 93 | 182 => 92 | 131 => 46 | 5 => 5 | 9 => 9 | 218 => 111 | 222 => 115 | 228 => 123 | 229 => 124 | n => n, fun | n => n⟩
theorem Tryz.lays189 : Go.Proofs.Lays.n189 Tryz.prog Tryz.lays189_ren := {
  mixed := by kernel_rfl
  f125 := Tryz.func46.trans (congrArg some (by kernel_rfl))
  f128 := Tryz.func70.trans (congrArg some (by kernel_rfl))
  f129 := Tryz.func71.trans (congrArg some (by kernel_rfl))
  f189 := Tryz.func60.trans (congrArg some (by kernel_rfl))
  f215 := Tryz.func72.trans (congrArg some (by kernel_rfl))
  f216 := Tryz.func97.trans (congrArg some (by kernel_rfl))
  f257 := Tryz.func82.trans (congrArg some (by kernel_rfl))
  f294 := Tryz.func91.trans (congrArg some (by kernel_rfl))
  f295 := Tryz.func92.trans (congrArg some (by kernel_rfl))
  f296 := Tryz.func93.trans (congrArg some (by kernel_rfl))
  f297 := Tryz.func94.trans (congrArg some (by kernel_rfl))
  f298 := Tryz.func95.trans (congrArg some (by kernel_rfl))
  f299 := Tryz.func96.trans (congrArg some (by kernel_rfl))
  f300 := Tryz.func98.trans (congrArg some (by kernel_rfl))
  f301 := Tryz.func99.trans (congrArg some (by kernel_rfl))
  f328 := Tryz.func102.trans (congrArg some (by kernel_rfl))
  f329 := Tryz.func84.trans (congrArg some (by kernel_rfl))
  f330 := Tryz.func85.trans (congrArg some (by kernel_rfl))
  f331 := Tryz.func103.trans (congrArg some (by kernel_rfl))
  f332 := Tryz.func104.trans (congrArg some (by kernel_rfl))
  f343 := Tryz.func105.trans (congrArg some (by kernel_rfl))
  t0 := Tryz.underlying0
  a0 := Tryz.isAgg0
  z0 := Tryz.sizeOf0
  v0 := Tryz.zeroValue0
  t3 := Tryz.underlying3
  a3 := Tryz.isAgg3
  z3 := Tryz.sizeOf3
  v3 := Tryz.zeroValue3
  t4 := Tryz.underlying4
  a4 := Tryz.isAgg4
  z4 := Tryz.sizeOf4
  v4 := Tryz.zeroValue4
  t5 := Tryz.underlying5
  a5 := Tryz.isAgg5
  z5 := Tryz.sizeOf5
  v5 := Tryz.zeroValue5
  t9 := Tryz.underlying9
  a9 := Tryz.isAgg9
  z9 := Tryz.sizeOf9
  v9 := Tryz.zeroValue9
  t28 := Tryz.underlying34
  a28 := Tryz.isAgg34
  z28 := Tryz.sizeOf34
  v28 := Tryz.zeroValue34
  t46 := Tryz.underlying29
  a46 := Tryz.isAgg29
  z46 := Tryz.sizeOf29
  v46 := Tryz.zeroValue29
  t51 := Tryz.underlying99
  a51 := Tryz.isAgg99
  z51 := Tryz.sizeOf99
  v51 := Tryz.zeroValue99
  t53 := Tryz.underlying101
  a53 := Tryz.isAgg101
  z53 := Tryz.sizeOf101
  v53 := Tryz.zeroValue101
  t131 := Tryz.underlying46
  a131 := Tryz.isAgg46
  z131 := Tryz.sizeOf46
  v131 := Tryz.zeroValue46
  t182 := Tryz.underlying92
  a182 := Tryz.isAgg92
  z182 := Tryz.sizeOf92
  v182 := Tryz.zeroValue92
  t183 := Tryz.underlying93
  a183 := Tryz.isAgg93
  z183 := Tryz.sizeOf93
  v183 := Tryz.zeroValue93
  t218 := Tryz.underlying111
  a218 := Tryz.isAgg111
  z218 := Tryz.sizeOf111
  v218 := Tryz.zeroValue111
  t222 := Tryz.underlying115
  a222 := Tryz.isAgg115
  z222 := Tryz.sizeOf115
  v222 := Tryz.zeroValue115
  t228 := Tryz.underlying123
  a228 := Tryz.isAgg123
  z228 := Tryz.sizeOf123
  v228 := Tryz.zeroValue123
  t229 := Tryz.underlying124
  a229 := Tryz.isAgg124
  z229 := Tryz.sizeOf124
  v229 := Tryz.zeroValue124 }
open Go.Sort Go.RowKit in
theorem Tryz.slices_Sort_int (blk off cap : Nat) (zs : List Int) (w : World) (hH : Holds (Value.int .i64) w blk off zs.toArray) (hblk : blk < w.heap.size) (hsz : zs.length < 4611686018427387904) :
    Calls Tryz.prog 60 #[.slice (some ⟨blk, off, none⟩) zs.length cap] w fun e w' =>
      e = .returned (.tuple #[]) ∧ ∃ n os, w' = grow (putRow (Value.int .i64) (Sort.ahead w n) blk off (zs.mergeSort fun x y => decide (x ≤ y)).toArray) os := Any.slices_Sort_int Tryz.lays189 blk off cap zs w hH hblk hsz
def Tryz.lays315_ren : Go.Shelf.Ren := ⟨fun | 315 => 76 | n => n, fun | 9 => 9 | 40 => 67 | 4 => 4 | 3 => 3 | 0 => 0 | 21 => 21 | n => n, fun | n => n⟩
theorem Tryz.lays315 : Go.Proofs.Lays.n315 Tryz.prog Tryz.lays315_ren := {
  mixed := by kernel_rfl
  f315 := Tryz.func76.trans (congrArg some (by kernel_rfl))
  t0 := Tryz.underlying0
  a0 := Tryz.isAgg0
  z0 := Tryz.sizeOf0
  v0 := Tryz.zeroValue0
  t3 := Tryz.underlying3
  a3 := Tryz.isAgg3
  z3 := Tryz.sizeOf3
  v3 := Tryz.zeroValue3
  t4 := Tryz.underlying4
  a4 := Tryz.isAgg4
  z4 := Tryz.sizeOf4
  v4 := Tryz.zeroValue4
  t9 := Tryz.underlying9
  a9 := Tryz.isAgg9
  z9 := Tryz.sizeOf9
  v9 := Tryz.zeroValue9
  t21 := Tryz.underlying21
  a21 := Tryz.isAgg21
  z21 := Tryz.sizeOf21
  v21 := Tryz.zeroValue21
  t40 := Tryz.underlying67
  a40 := Tryz.isAgg67
  z40 := Tryz.sizeOf67
  v40 := Tryz.zeroValue67 }
def Tryz.lays151_ren : Go.Shelf.Ren := ⟨fun | 151 => 34 | 152 => 57 | 137 => 77 | 119 => 78 | 224 => 79 | 225 => 80 | 217 => 90 | 266 => 101 | n => n, fun | 9 => 9 | 21 => 21 | 4 => 4 | 3 => 3 | 5 => 5 | 0 => 0 | 46 => 29 | n => n, fun | n => n⟩
theorem Tryz.lays151 : Go.Proofs.Lays.n151 Tryz.prog Tryz.lays151_ren := {
  mixed := by kernel_rfl
  f119 := Tryz.func78.trans (congrArg some (by kernel_rfl))
  f137 := Tryz.func77.trans (congrArg some (by kernel_rfl))
  f151 := Tryz.func34.trans (congrArg some (by kernel_rfl))
  f152 := Tryz.func57.trans (congrArg some (by kernel_rfl))
  f217 := Tryz.func90.trans (congrArg some (by kernel_rfl))
  f224 := Tryz.func79.trans (congrArg some (by kernel_rfl))
  f225 := Tryz.func80.trans (congrArg some (by kernel_rfl))
  f266 := Tryz.func101.trans (congrArg some (by kernel_rfl))
  t0 := Tryz.underlying0
  a0 := Tryz.isAgg0
  z0 := Tryz.sizeOf0
  v0 := Tryz.zeroValue0
  t3 := Tryz.underlying3
  a3 := Tryz.isAgg3
  z3 := Tryz.sizeOf3
  v3 := Tryz.zeroValue3
  t4 := Tryz.underlying4
  a4 := Tryz.isAgg4
  z4 := Tryz.sizeOf4
  v4 := Tryz.zeroValue4
  t5 := Tryz.underlying5
  a5 := Tryz.isAgg5
  z5 := Tryz.sizeOf5
  v5 := Tryz.zeroValue5
  t9 := Tryz.underlying9
  a9 := Tryz.isAgg9
  z9 := Tryz.sizeOf9
  v9 := Tryz.zeroValue9
  t21 := Tryz.underlying21
  a21 := Tryz.isAgg21
  z21 := Tryz.sizeOf21
  v21 := Tryz.zeroValue21
  t46 := Tryz.underlying29
  a46 := Tryz.isAgg29
  z46 := Tryz.sizeOf29
  v46 := Tryz.zeroValue29 }
open Go.RowKit Go.Lib in
theorem Tryz.strings_ContainsRune_ascii (s : ByteArray) (r : Int) (w : World) (h0 : 0 ≤ r) (h1 : r < 128) :
    Calls Tryz.prog 34 #[.string s, .int .i32 r] w fun e w' => e = .returned (.bool (decide (0 ≤ Lib.indexByte s.data.toList r.toNat.toUInt8))) ∧ w' = w := Any.strings_ContainsRune_ascii Tryz.lays151 s r w h0 h1
open Go.RowKit Go.Sort in
theorem Tryz.slices_Sort_int_none (p : Option Addr) (cap : Nat) (w : World) :
    Calls Tryz.prog 60 #[.slice p 0 cap] w fun e w' => e = .returned (.tuple #[]) ∧ w' = w := Any.slices_Sort_int_none Tryz.lays189 p cap w
end Go.Proofs
