import Derived.Shelf.Strings.Trim
import Derived.Shelf.Small.Utf8
import Derived.Shelf.Small.Bits
import Derived.Shelf.Small.Strs
import Derived.Shelf.Small.Wraps
import Derived.Shelf.Strconv.Itoa0
import Derived.Shelf.Strings.Search1
import Derived.Shelf.Sort.Plain
import Derived.Shelf.GgClosure.StringsIndexFunc
import Derived.Ground.GgwProg
import Derived.Shelf.GgClosure.StringsIndexFuncTop
import Derived.Shelf.GgClosure.StringsRunes
import Derived.Shelf.Unicode.Decode
import Derived.Shelf.Strings.Runes
import Derived.Shelf.Strings.AsciiSet
import Derived.Shelf.Unicode.DecodeSlow
import Derived.Shelf.Unicode.DecodeAny
import Derived.Shelf.Unicode.DecodeLast
import Derived.Shelf.Strings.FuncGrows
import Derived.Ground.Names2Prog
import Derived.Shelf.Slices.SearchI
import Derived.Shelf.Slices.In.SortNone
import Derived.Test.YtepkbbkfcnejmaaDoorProg
/-
  DERIVED: THE SHELF's CONTRACTS AT THIS DUMP, IN PLAIN WORDS (tools/lay-plain.mjs out of 'YtepkbbkfcnejmaaDoorShelf.lean', which tools/lay-shelf.mjs wrote): THE SAME DECLARATIONS UNDER THE SAME NAMES: 'import', 'namespace', 'open', 'def', 'theorem' AND NOTHING ELSE: no command of the shelf's: FOR A HAND-IN. Each laying: the table of numbers ('.._ren') and one theorem, a field a fact of the dump's own or the kernel's comparison; each contract: ONE APPLICATION.
-/
namespace Go.Proofs
open Go.Shelf
def Tryd.lays160_ren : Go.Shelf.Ren := ⟨fun | 160 => 35 | 232 => 54 | 231 => 53 | 227 => 55 | 234 => 57 | 233 => 56 | 236 => 59 | 235 => 58 | 228 => 77 | 271 => 79 | 151 => 38 | 197 => 78 | 120 => 93 | 152 => 61 | 260 => 92 | 137 => 81 | 119 => 82 | 224 => 83 | 225 => 84 | 217 => 94 | 266 => 105 | n => n, fun | 9 => 9 | 4 => 4 | 3 => 3 | 5 => 5 | 117 => 89 | 116 => 88 | 0 => 0 | 124 => 92 | 21 => 21 | 105 => 109 | 46 => 25 | 119 => 132 | 139 => 135 | 138 => 134 | n => n, fun | 3 => 1 | 4 => 2 | n => n⟩
theorem Tryd.lays160 : Go.Proofs.Lays.n160 Tryd.prog Tryd.lays160_ren := {
  mixed := by kernel_rfl
  f119 := Tryd.func82.trans (congrArg some (by kernel_rfl))
  f120 := Tryd.func93.trans (congrArg some (by kernel_rfl))
  f137 := Tryd.func81.trans (congrArg some (by kernel_rfl))
  f151 := Tryd.func38.trans (congrArg some (by kernel_rfl))
  f152 := Tryd.func61.trans (congrArg some (by kernel_rfl))
  f160 := Tryd.func35.trans (congrArg some (by kernel_rfl))
  f197 := Tryd.func78.trans (congrArg some (by kernel_rfl))
  f217 := Tryd.func94.trans (congrArg some (by kernel_rfl))
  f224 := Tryd.func83.trans (congrArg some (by kernel_rfl))
  f225 := Tryd.func84.trans (congrArg some (by kernel_rfl))
  f227 := Tryd.func55.trans (congrArg some (by kernel_rfl))
  f228 := Tryd.func77.trans (congrArg some (by kernel_rfl))
  f231 := Tryd.func53.trans (congrArg some (by kernel_rfl))
  f232 := Tryd.func54.trans (congrArg some (by kernel_rfl))
  f233 := Tryd.func56.trans (congrArg some (by kernel_rfl))
  f234 := Tryd.func57.trans (congrArg some (by kernel_rfl))
  f235 := Tryd.func58.trans (congrArg some (by kernel_rfl))
  f236 := Tryd.func59.trans (congrArg some (by kernel_rfl))
  f260 := Tryd.func92.trans (congrArg some (by kernel_rfl))
  f266 := Tryd.func105.trans (congrArg some (by kernel_rfl))
  f271 := Tryd.func79.trans (congrArg some (by kernel_rfl))
  t0 := Tryd.underlying0
  a0 := Tryd.isAgg0
  z0 := Tryd.sizeOf0
  v0 := Tryd.zeroValue0
  t3 := Tryd.underlying3
  a3 := Tryd.isAgg3
  z3 := Tryd.sizeOf3
  v3 := Tryd.zeroValue3
  t4 := Tryd.underlying4
  a4 := Tryd.isAgg4
  z4 := Tryd.sizeOf4
  v4 := Tryd.zeroValue4
  t5 := Tryd.underlying5
  a5 := Tryd.isAgg5
  z5 := Tryd.sizeOf5
  v5 := Tryd.zeroValue5
  t9 := Tryd.underlying9
  a9 := Tryd.isAgg9
  z9 := Tryd.sizeOf9
  v9 := Tryd.zeroValue9
  t21 := Tryd.underlying21
  a21 := Tryd.isAgg21
  z21 := Tryd.sizeOf21
  v21 := Tryd.zeroValue21
  t46 := Tryd.underlying25
  a46 := Tryd.isAgg25
  z46 := Tryd.sizeOf25
  v46 := Tryd.zeroValue25
  t105 := Tryd.underlying109
  a105 := Tryd.isAgg109
  z105 := Tryd.sizeOf109
  v105 := Tryd.zeroValue109
  t116 := Tryd.underlying88
  a116 := Tryd.isAgg88
  z116 := Tryd.sizeOf88
  t117 := Tryd.underlying89
  a117 := Tryd.isAgg89
  z117 := Tryd.sizeOf89
  v117 := Tryd.zeroValue89
  t119 := Tryd.underlying132
  a119 := Tryd.isAgg132
  z119 := Tryd.sizeOf132
  t124 := Tryd.underlying92
  a124 := Tryd.isAgg92
  z124 := Tryd.sizeOf92
  v124 := Tryd.zeroValue92
  t138 := Tryd.underlying134
  a138 := Tryd.isAgg134
  z138 := Tryd.sizeOf134
  v138 := Tryd.zeroValue134
  t139 := Tryd.underlying135
  a139 := Tryd.isAgg135
  z139 := Tryd.sizeOf135
  v139 := Tryd.zeroValue135
  g3 := by kernel_rfl
  g4 := by kernel_rfl }
def Tryd.lays122_ren : Go.Shelf.Ren := ⟨fun | 122 => 52 | 215 => 76 | n => n, fun | 3 => 3 | 4 => 4 | n => n, fun | n => n⟩
theorem Tryd.lays122 : Go.Proofs.Lays.n122 Tryd.prog Tryd.lays122_ren := {
  mixed := by kernel_rfl
  f122 := Tryd.func52.trans (congrArg some (by kernel_rfl))
  f215 := Tryd.func76.trans (congrArg some (by kernel_rfl))
  t3 := Tryd.underlying3
  a3 := Tryd.isAgg3
  z3 := Tryd.sizeOf3
  v3 := Tryd.zeroValue3
  t4 := Tryd.underlying4
  a4 := Tryd.isAgg4
  z4 := Tryd.sizeOf4
  v4 := Tryd.zeroValue4 }
open Go.RowKit in
theorem Tryd.cmp_Compare_int (x y : Int) (w : World) :
    Calls Tryd.prog 52 #[.int .i64 x, .int .i64 y] w fun e w' => e = .returned (.int .i64 (Lib.compareInt x y)) ∧ w' = w := Any.cmp_Compare_int Tryd.lays122 x y w
def Tryd.lays189_ren : Go.Shelf.Ren := ⟨fun | 189 => 64 | 125 => 50 | 257 => 86 | 128 => 74 | 129 => 75 | 294 => 95 | 295 => 96 | 296 => 97 | 297 => 98 | 298 => 99 | 299 => 100 | 216 => 101 | 300 => 102 | 301 => 103 | 328 => 106 | 329 => 88 | 330 => 89 | 331 => 107 | 332 => 108 | 215 => 76 | 343 => 109 | n => n, fun | 28 => 23 | 3 => 3 | 46 => 25 | 0 => 0 | 51 => 105 | 53 => 107 | 4 => 4 | 183 => 99 | 182 => 98 | 131 => 53 | 5 => 5 | 9 => 9 | 218 => 117 | 222 => 121 | 228 => 129 | 229 => 130 | n => n, fun | n => n⟩
theorem Tryd.lays189 : Go.Proofs.Lays.n189 Tryd.prog Tryd.lays189_ren := {
  mixed := by kernel_rfl
  f125 := Tryd.func50.trans (congrArg some (by kernel_rfl))
  f128 := Tryd.func74.trans (congrArg some (by kernel_rfl))
  f129 := Tryd.func75.trans (congrArg some (by kernel_rfl))
  f189 := Tryd.func64.trans (congrArg some (by kernel_rfl))
  f215 := Tryd.func76.trans (congrArg some (by kernel_rfl))
  f216 := Tryd.func101.trans (congrArg some (by kernel_rfl))
  f257 := Tryd.func86.trans (congrArg some (by kernel_rfl))
  f294 := Tryd.func95.trans (congrArg some (by kernel_rfl))
  f295 := Tryd.func96.trans (congrArg some (by kernel_rfl))
  f296 := Tryd.func97.trans (congrArg some (by kernel_rfl))
  f297 := Tryd.func98.trans (congrArg some (by kernel_rfl))
  f298 := Tryd.func99.trans (congrArg some (by kernel_rfl))
  f299 := Tryd.func100.trans (congrArg some (by kernel_rfl))
  f300 := Tryd.func102.trans (congrArg some (by kernel_rfl))
  f301 := Tryd.func103.trans (congrArg some (by kernel_rfl))
  f328 := Tryd.func106.trans (congrArg some (by kernel_rfl))
  f329 := Tryd.func88.trans (congrArg some (by kernel_rfl))
  f330 := Tryd.func89.trans (congrArg some (by kernel_rfl))
  f331 := Tryd.func107.trans (congrArg some (by kernel_rfl))
  f332 := Tryd.func108.trans (congrArg some (by kernel_rfl))
  f343 := Tryd.func109.trans (congrArg some (by kernel_rfl))
  t0 := Tryd.underlying0
  a0 := Tryd.isAgg0
  z0 := Tryd.sizeOf0
  v0 := Tryd.zeroValue0
  t3 := Tryd.underlying3
  a3 := Tryd.isAgg3
  z3 := Tryd.sizeOf3
  v3 := Tryd.zeroValue3
  t4 := Tryd.underlying4
  a4 := Tryd.isAgg4
  z4 := Tryd.sizeOf4
  v4 := Tryd.zeroValue4
  t5 := Tryd.underlying5
  a5 := Tryd.isAgg5
  z5 := Tryd.sizeOf5
  v5 := Tryd.zeroValue5
  t9 := Tryd.underlying9
  a9 := Tryd.isAgg9
  z9 := Tryd.sizeOf9
  v9 := Tryd.zeroValue9
  t28 := Tryd.underlying23
  a28 := Tryd.isAgg23
  z28 := Tryd.sizeOf23
  v28 := Tryd.zeroValue23
  t46 := Tryd.underlying25
  a46 := Tryd.isAgg25
  z46 := Tryd.sizeOf25
  v46 := Tryd.zeroValue25
  t51 := Tryd.underlying105
  a51 := Tryd.isAgg105
  z51 := Tryd.sizeOf105
  v51 := Tryd.zeroValue105
  t53 := Tryd.underlying107
  a53 := Tryd.isAgg107
  z53 := Tryd.sizeOf107
  v53 := Tryd.zeroValue107
  t131 := Tryd.underlying53
  a131 := Tryd.isAgg53
  z131 := Tryd.sizeOf53
  v131 := Tryd.zeroValue53
  t182 := Tryd.underlying98
  a182 := Tryd.isAgg98
  z182 := Tryd.sizeOf98
  v182 := Tryd.zeroValue98
  t183 := Tryd.underlying99
  a183 := Tryd.isAgg99
  z183 := Tryd.sizeOf99
  v183 := Tryd.zeroValue99
  t218 := Tryd.underlying117
  a218 := Tryd.isAgg117
  z218 := Tryd.sizeOf117
  v218 := Tryd.zeroValue117
  t222 := Tryd.underlying121
  a222 := Tryd.isAgg121
  z222 := Tryd.sizeOf121
  v222 := Tryd.zeroValue121
  t228 := Tryd.underlying129
  a228 := Tryd.isAgg129
  z228 := Tryd.sizeOf129
  v228 := Tryd.zeroValue129
  t229 := Tryd.underlying130
  a229 := Tryd.isAgg130
  z229 := Tryd.sizeOf130
  v229 := Tryd.zeroValue130 }
open Go.Sort Go.RowKit in
theorem Tryd.slices_Sort_int (blk off cap : Nat) (zs : List Int) (w : World) (hH : Holds (Value.int .i64) w blk off zs.toArray) (hblk : blk < w.heap.size) (hsz : zs.length < 4611686018427387904) :
    Calls Tryd.prog 64 #[.slice (some ⟨blk, off, none⟩) zs.length cap] w fun e w' =>
      e = .returned (.tuple #[]) ∧ ∃ n os, w' = grow (putRow (Value.int .i64) (Sort.ahead w n) blk off (zs.mergeSort fun x y => decide (x ≤ y)).toArray) os := Any.slices_Sort_int Tryd.lays189 blk off cap zs w hH hblk hsz
def Tryd.lays315_ren : Go.Shelf.Ren := ⟨fun | 315 => 80 | n => n, fun | 9 => 9 | 40 => 73 | 4 => 4 | 3 => 3 | 0 => 0 | 21 => 21 | n => n, fun | n => n⟩
theorem Tryd.lays315 : Go.Proofs.Lays.n315 Tryd.prog Tryd.lays315_ren := {
  mixed := by kernel_rfl
  f315 := Tryd.func80.trans (congrArg some (by kernel_rfl))
  t0 := Tryd.underlying0
  a0 := Tryd.isAgg0
  z0 := Tryd.sizeOf0
  v0 := Tryd.zeroValue0
  t3 := Tryd.underlying3
  a3 := Tryd.isAgg3
  z3 := Tryd.sizeOf3
  v3 := Tryd.zeroValue3
  t4 := Tryd.underlying4
  a4 := Tryd.isAgg4
  z4 := Tryd.sizeOf4
  v4 := Tryd.zeroValue4
  t9 := Tryd.underlying9
  a9 := Tryd.isAgg9
  z9 := Tryd.sizeOf9
  v9 := Tryd.zeroValue9
  t21 := Tryd.underlying21
  a21 := Tryd.isAgg21
  z21 := Tryd.sizeOf21
  v21 := Tryd.zeroValue21
  t40 := Tryd.underlying73
  a40 := Tryd.isAgg73
  z40 := Tryd.sizeOf73
  v40 := Tryd.zeroValue73 }
def Tryd.lays151_ren : Go.Shelf.Ren := ⟨fun | 151 => 38 | 152 => 61 | 137 => 81 | 119 => 82 | 224 => 83 | 225 => 84 | 217 => 94 | 266 => 105 | n => n, fun | 9 => 9 | 21 => 21 | 4 => 4 | 3 => 3 | 5 => 5 | 0 => 0 | 46 => 25 | n => n, fun | n => n⟩
theorem Tryd.lays151 : Go.Proofs.Lays.n151 Tryd.prog Tryd.lays151_ren := {
  mixed := by kernel_rfl
  f119 := Tryd.func82.trans (congrArg some (by kernel_rfl))
  f137 := Tryd.func81.trans (congrArg some (by kernel_rfl))
  f151 := Tryd.func38.trans (congrArg some (by kernel_rfl))
  f152 := Tryd.func61.trans (congrArg some (by kernel_rfl))
  f217 := Tryd.func94.trans (congrArg some (by kernel_rfl))
  f224 := Tryd.func83.trans (congrArg some (by kernel_rfl))
  f225 := Tryd.func84.trans (congrArg some (by kernel_rfl))
  f266 := Tryd.func105.trans (congrArg some (by kernel_rfl))
  t0 := Tryd.underlying0
  a0 := Tryd.isAgg0
  z0 := Tryd.sizeOf0
  v0 := Tryd.zeroValue0
  t3 := Tryd.underlying3
  a3 := Tryd.isAgg3
  z3 := Tryd.sizeOf3
  v3 := Tryd.zeroValue3
  t4 := Tryd.underlying4
  a4 := Tryd.isAgg4
  z4 := Tryd.sizeOf4
  v4 := Tryd.zeroValue4
  t5 := Tryd.underlying5
  a5 := Tryd.isAgg5
  z5 := Tryd.sizeOf5
  v5 := Tryd.zeroValue5
  t9 := Tryd.underlying9
  a9 := Tryd.isAgg9
  z9 := Tryd.sizeOf9
  v9 := Tryd.zeroValue9
  t21 := Tryd.underlying21
  a21 := Tryd.isAgg21
  z21 := Tryd.sizeOf21
  v21 := Tryd.zeroValue21
  t46 := Tryd.underlying25
  a46 := Tryd.isAgg25
  z46 := Tryd.sizeOf25
  v46 := Tryd.zeroValue25 }
open Go.RowKit Go.Lib in
theorem Tryd.strings_ContainsRune_ascii (s : ByteArray) (r : Int) (w : World) (h0 : 0 ≤ r) (h1 : r < 128) :
    Calls Tryd.prog 38 #[.string s, .int .i32 r] w fun e w' => e = .returned (.bool (decide (0 ≤ Lib.indexByte s.data.toList r.toNat.toUInt8))) ∧ w' = w := Any.strings_ContainsRune_ascii Tryd.lays151 s r w h0 h1
open Go.RowKit Go.Sort in
theorem Tryd.slices_Sort_int_none (p : Option Addr) (cap : Nat) (w : World) :
    Calls Tryd.prog 64 #[.slice p 0 cap] w fun e w' => e = .returned (.tuple #[]) ∧ w' = w := Any.slices_Sort_int_none Tryd.lays189 p cap w
end Go.Proofs
