import Derived.Shelf.Strings.Trim
import Derived.Shelf.Small.Utf8
import Derived.Shelf.Small.Bits
import Derived.Shelf.Small.Strs
import Derived.Shelf.Small.Wraps
import Derived.Shelf.Strconv.Itoa0
import Derived.Shelf.Strings.Search1
import Derived.Shelf.Sort.Plain
import Derived.Shelf.GgClosure.StringsIndexFunc
import Derived.Ground.GgwProg
import Derived.Shelf.GgClosure.StringsIndexFuncTop
import Derived.Shelf.GgClosure.StringsRunes
import Derived.Shelf.Unicode.Decode
import Derived.Shelf.Strings.Runes
import Derived.Shelf.Strings.AsciiSet
import Derived.Shelf.Unicode.DecodeSlow
import Derived.Shelf.Unicode.DecodeAny
import Derived.Shelf.Unicode.DecodeLast
import Derived.Shelf.Strings.FuncGrows
import Derived.Ground.Names2Prog
import Derived.Shelf.Slices.SearchI
import Derived.Shelf.Slices.In.SortNone
import Derived.Test.YtepkbbkfcnejmaaDoorProg
/-
  DERIVED: THE SHELF's CONTRACTS AT THIS DUMP, IN PLAIN WORDS (tools/lay-plain.mjs out of 'YtepkbbkfcnejmaaDoorShelf.lean', which tools/lay-shelf.mjs wrote): THE SAME DECLARATIONS UNDER THE SAME NAMES: 'import', 'namespace', 'open', 'def', 'theorem' AND NOTHING ELSE: no command of the shelf's: FOR A HAND-IN. Each laying: the table of numbers ('.._ren') and one theorem, a field a fact of the dump's own or the kernel's comparison; each contract: ONE APPLICATION.
-/
namespace Go.Proofs
open Go.Shelf
def Tryd.lays160_ren : Go.Shelf.Ren := ⟨fun | 160 => 32 | 232 => 51 | 231 => 50 | 227 => 52 | 234 => 54 | 233 => 53 | 236 => 56 | 235 => 55 | 228 => 74 | 271 => 76 | 151 => 35 | 197 => 75 | 120 => 90 | 152 => 58 | 260 => 89 | 137 => 78 | 119 => 79 | 224 => 80 | 225 => 81 | 217 => 91 | 266 => 102 | n => n, fun | 9 => 9 | 4 => 4 | 3 => 3 | 5 => 5 | 117 => 85 | 116 => 84 | 0 => 0 | 124 => 88 | 21 => 21 | 105 => 106 | 46 => 25 | 119 => 129 | 139 => 132 | 138 => 131 | n => n, fun | 3 => 1 | 4 => 2 | n => n⟩
theorem Tryd.lays160 : Go.Proofs.Lays.n160 Tryd.prog Tryd.lays160_ren := {
  mixed := by kernel_rfl
  f119 := Tryd.func79.trans (congrArg some (by kernel_rfl))
  f120 := Tryd.func90.trans (congrArg some (by kernel_rfl))
  f137 := Tryd.func78.trans (congrArg some (by kernel_rfl))
  f151 := Tryd.func35.trans (congrArg some (by kernel_rfl))
  f152 := Tryd.func58.trans (congrArg some (by kernel_rfl))
  f160 := Tryd.func32.trans (congrArg some (by kernel_rfl))
  f197 := Tryd.func75.trans (congrArg some (by kernel_rfl))
  f217 := Tryd.func91.trans (congrArg some (by kernel_rfl))
  f224 := Tryd.func80.trans (congrArg some (by kernel_rfl))
  f225 := Tryd.func81.trans (congrArg some (by kernel_rfl))
  f227 := Tryd.func52.trans (congrArg some (by kernel_rfl))
  f228 := Tryd.func74.trans (congrArg some (by kernel_rfl))
  f231 := Tryd.func50.trans (congrArg some (by kernel_rfl))
  f232 := Tryd.func51.trans (congrArg some (by kernel_rfl))
  f233 := Tryd.func53.trans (congrArg some (by kernel_rfl))
  f234 := Tryd.func54.trans (congrArg some (by kernel_rfl))
  f235 := Tryd.func55.trans (congrArg some (by kernel_rfl))
  f236 := Tryd.func56.trans (congrArg some (by kernel_rfl))
  f260 := Tryd.func89.trans (congrArg some (by kernel_rfl))
  f266 := Tryd.func102.trans (congrArg some (by kernel_rfl))
  f271 := Tryd.func76.trans (congrArg some (by kernel_rfl))
  t0 := Tryd.underlying0
  a0 := Tryd.isAgg0
  z0 := Tryd.sizeOf0
  v0 := Tryd.zeroValue0
  t3 := Tryd.underlying3
  a3 := Tryd.isAgg3
  z3 := Tryd.sizeOf3
  v3 := Tryd.zeroValue3
  t4 := Tryd.underlying4
  a4 := Tryd.isAgg4
  z4 := Tryd.sizeOf4
  v4 := Tryd.zeroValue4
  t5 := Tryd.underlying5
  a5 := Tryd.isAgg5
  z5 := Tryd.sizeOf5
  v5 := Tryd.zeroValue5
  t9 := Tryd.underlying9
  a9 := Tryd.isAgg9
  z9 := Tryd.sizeOf9
  v9 := Tryd.zeroValue9
  t21 := Tryd.underlying21
  a21 := Tryd.isAgg21
  z21 := Tryd.sizeOf21
  v21 := Tryd.zeroValue21
  t46 := Tryd.underlying25
  a46 := Tryd.isAgg25
  z46 := Tryd.sizeOf25
  v46 := Tryd.zeroValue25
  t105 := Tryd.underlying106
  a105 := Tryd.isAgg106
  z105 := Tryd.sizeOf106
  v105 := Tryd.zeroValue106
  t116 := Tryd.underlying84
  a116 := Tryd.isAgg84
  z116 := Tryd.sizeOf84
  t117 := Tryd.underlying85
  a117 := Tryd.isAgg85
  z117 := Tryd.sizeOf85
  v117 := Tryd.zeroValue85
  t119 := Tryd.underlying129
  a119 := Tryd.isAgg129
  z119 := Tryd.sizeOf129
  t124 := Tryd.underlying88
  a124 := Tryd.isAgg88
  z124 := Tryd.sizeOf88
  v124 := Tryd.zeroValue88
  t138 := Tryd.underlying131
  a138 := Tryd.isAgg131
  z138 := Tryd.sizeOf131
  v138 := Tryd.zeroValue131
  t139 := Tryd.underlying132
  a139 := Tryd.isAgg132
  z139 := Tryd.sizeOf132
  v139 := Tryd.zeroValue132
  g3 := by kernel_rfl
  g4 := by kernel_rfl }
def Tryd.lays189_ren : Go.Shelf.Ren := ⟨fun | 189 => 61 | 125 => 47 | 257 => 83 | 128 => 71 | 129 => 72 | 294 => 92 | 295 => 93 | 296 => 94 | 297 => 95 | 298 => 96 | 299 => 97 | 216 => 98 | 300 => 99 | 301 => 100 | 328 => 103 | 329 => 85 | 330 => 86 | 331 => 104 | 332 => 105 | 215 => 73 | 343 => 106 | n => n, fun | 28 => 23 | 3 => 3 | 46 => 25 | 0 => 0 | 51 => 102 | 53 => 104 | 4 => 4 | 183 => 95 | 182 => 94 | 131 => 99 | 5 => 5 | 9 => 9 | 218 => 114 | 222 => 118 | 228 => 126 | 229 => 127 | n => n, fun | n => n⟩
theorem Tryd.lays189 : Go.Proofs.Lays.n189 Tryd.prog Tryd.lays189_ren := {
  mixed := by kernel_rfl
  f125 := Tryd.func47.trans (congrArg some (by kernel_rfl))
  f128 := Tryd.func71.trans (congrArg some (by kernel_rfl))
  f129 := Tryd.func72.trans (congrArg some (by kernel_rfl))
  f189 := Tryd.func61.trans (congrArg some (by kernel_rfl))
  f215 := Tryd.func73.trans (congrArg some (by kernel_rfl))
  f216 := Tryd.func98.trans (congrArg some (by kernel_rfl))
  f257 := Tryd.func83.trans (congrArg some (by kernel_rfl))
  f294 := Tryd.func92.trans (congrArg some (by kernel_rfl))
  f295 := Tryd.func93.trans (congrArg some (by kernel_rfl))
  f296 := Tryd.func94.trans (congrArg some (by kernel_rfl))
  f297 := Tryd.func95.trans (congrArg some (by kernel_rfl))
  f298 := Tryd.func96.trans (congrArg some (by kernel_rfl))
  f299 := Tryd.func97.trans (congrArg some (by kernel_rfl))
  f300 := Tryd.func99.trans (congrArg some (by kernel_rfl))
  f301 := Tryd.func100.trans (congrArg some (by kernel_rfl))
  f328 := Tryd.func103.trans (congrArg some (by kernel_rfl))
  f329 := Tryd.func85.trans (congrArg some (by kernel_rfl))
  f330 := Tryd.func86.trans (congrArg some (by kernel_rfl))
  f331 := Tryd.func104.trans (congrArg some (by kernel_rfl))
  f332 := Tryd.func105.trans (congrArg some (by kernel_rfl))
  f343 := Tryd.func106.trans (congrArg some (by kernel_rfl))
  t0 := Tryd.underlying0
  a0 := Tryd.isAgg0
  z0 := Tryd.sizeOf0
  v0 := Tryd.zeroValue0
  t3 := Tryd.underlying3
  a3 := Tryd.isAgg3
  z3 := Tryd.sizeOf3
  v3 := Tryd.zeroValue3
  t4 := Tryd.underlying4
  a4 := Tryd.isAgg4
  z4 := Tryd.sizeOf4
  v4 := Tryd.zeroValue4
  t5 := Tryd.underlying5
  a5 := Tryd.isAgg5
  z5 := Tryd.sizeOf5
  v5 := Tryd.zeroValue5
  t9 := Tryd.underlying9
  a9 := Tryd.isAgg9
  z9 := Tryd.sizeOf9
  v9 := Tryd.zeroValue9
  t28 := Tryd.underlying23
  a28 := Tryd.isAgg23
  z28 := Tryd.sizeOf23
  v28 := Tryd.zeroValue23
  t46 := Tryd.underlying25
  a46 := Tryd.isAgg25
  z46 := Tryd.sizeOf25
  v46 := Tryd.zeroValue25
  t51 := Tryd.underlying102
  a51 := Tryd.isAgg102
  z51 := Tryd.sizeOf102
  v51 := Tryd.zeroValue102
  t53 := Tryd.underlying104
  a53 := Tryd.isAgg104
  z53 := Tryd.sizeOf104
  v53 := Tryd.zeroValue104
  t131 := Tryd.underlying99
  a131 := Tryd.isAgg99
  z131 := Tryd.sizeOf99
  v131 := Tryd.zeroValue99
  t182 := Tryd.underlying94
  a182 := Tryd.isAgg94
  z182 := Tryd.sizeOf94
  v182 := Tryd.zeroValue94
  t183 := Tryd.underlying95
  a183 := Tryd.isAgg95
  z183 := Tryd.sizeOf95
  v183 := Tryd.zeroValue95
  t218 := Tryd.underlying114
  a218 := Tryd.isAgg114
  z218 := Tryd.sizeOf114
  v218 := Tryd.zeroValue114
  t222 := Tryd.underlying118
  a222 := Tryd.isAgg118
  z222 := Tryd.sizeOf118
  v222 := Tryd.zeroValue118
  t228 := Tryd.underlying126
  a228 := Tryd.isAgg126
  z228 := Tryd.sizeOf126
  v228 := Tryd.zeroValue126
  t229 := Tryd.underlying127
  a229 := Tryd.isAgg127
  z229 := Tryd.sizeOf127
  v229 := Tryd.zeroValue127 }
open Go.Sort Go.RowKit in
theorem Tryd.slices_Sort_int (blk off cap : Nat) (zs : List Int) (w : World) (hH : Holds (Value.int .i64) w blk off zs.toArray) (hblk : blk < w.heap.size) (hsz : zs.length < 4611686018427387904) :
    Calls Tryd.prog 61 #[.slice (some ⟨blk, off, none⟩) zs.length cap] w fun e w' =>
      e = .returned (.tuple #[]) ∧ ∃ n os, w' = grow (putRow (Value.int .i64) (Sort.ahead w n) blk off (zs.mergeSort fun x y => decide (x ≤ y)).toArray) os := Any.slices_Sort_int Tryd.lays189 blk off cap zs w hH hblk hsz
def Tryd.lays315_ren : Go.Shelf.Ren := ⟨fun | 315 => 77 | n => n, fun | 9 => 9 | 40 => 69 | 4 => 4 | 3 => 3 | 0 => 0 | 21 => 21 | n => n, fun | n => n⟩
theorem Tryd.lays315 : Go.Proofs.Lays.n315 Tryd.prog Tryd.lays315_ren := {
  mixed := by kernel_rfl
  f315 := Tryd.func77.trans (congrArg some (by kernel_rfl))
  t0 := Tryd.underlying0
  a0 := Tryd.isAgg0
  z0 := Tryd.sizeOf0
  v0 := Tryd.zeroValue0
  t3 := Tryd.underlying3
  a3 := Tryd.isAgg3
  z3 := Tryd.sizeOf3
  v3 := Tryd.zeroValue3
  t4 := Tryd.underlying4
  a4 := Tryd.isAgg4
  z4 := Tryd.sizeOf4
  v4 := Tryd.zeroValue4
  t9 := Tryd.underlying9
  a9 := Tryd.isAgg9
  z9 := Tryd.sizeOf9
  v9 := Tryd.zeroValue9
  t21 := Tryd.underlying21
  a21 := Tryd.isAgg21
  z21 := Tryd.sizeOf21
  v21 := Tryd.zeroValue21
  t40 := Tryd.underlying69
  a40 := Tryd.isAgg69
  z40 := Tryd.sizeOf69
  v40 := Tryd.zeroValue69 }
def Tryd.lays151_ren : Go.Shelf.Ren := ⟨fun | 151 => 35 | 152 => 58 | 137 => 78 | 119 => 79 | 224 => 80 | 225 => 81 | 217 => 91 | 266 => 102 | n => n, fun | 9 => 9 | 21 => 21 | 4 => 4 | 3 => 3 | 5 => 5 | 0 => 0 | 46 => 25 | n => n, fun | n => n⟩
theorem Tryd.lays151 : Go.Proofs.Lays.n151 Tryd.prog Tryd.lays151_ren := {
  mixed := by kernel_rfl
  f119 := Tryd.func79.trans (congrArg some (by kernel_rfl))
  f137 := Tryd.func78.trans (congrArg some (by kernel_rfl))
  f151 := Tryd.func35.trans (congrArg some (by kernel_rfl))
  f152 := Tryd.func58.trans (congrArg some (by kernel_rfl))
  f217 := Tryd.func91.trans (congrArg some (by kernel_rfl))
  f224 := Tryd.func80.trans (congrArg some (by kernel_rfl))
  f225 := Tryd.func81.trans (congrArg some (by kernel_rfl))
  f266 := Tryd.func102.trans (congrArg some (by kernel_rfl))
  t0 := Tryd.underlying0
  a0 := Tryd.isAgg0
  z0 := Tryd.sizeOf0
  v0 := Tryd.zeroValue0
  t3 := Tryd.underlying3
  a3 := Tryd.isAgg3
  z3 := Tryd.sizeOf3
  v3 := Tryd.zeroValue3
  t4 := Tryd.underlying4
  a4 := Tryd.isAgg4
  z4 := Tryd.sizeOf4
  v4 := Tryd.zeroValue4
  t5 := Tryd.underlying5
  a5 := Tryd.isAgg5
  z5 := Tryd.sizeOf5
  v5 := Tryd.zeroValue5
  t9 := Tryd.underlying9
  a9 := Tryd.isAgg9
  z9 := Tryd.sizeOf9
  v9 := Tryd.zeroValue9
  t21 := Tryd.underlying21
  a21 := Tryd.isAgg21
  z21 := Tryd.sizeOf21
  v21 := Tryd.zeroValue21
  t46 := Tryd.underlying25
  a46 := Tryd.isAgg25
  z46 := Tryd.sizeOf25
  v46 := Tryd.zeroValue25 }
open Go.RowKit Go.Lib in
theorem Tryd.strings_ContainsRune_ascii (s : ByteArray) (r : Int) (w : World) (h0 : 0 ≤ r) (h1 : r < 128) :
    Calls Tryd.prog 35 #[.string s, .int .i32 r] w fun e w' => e = .returned (.bool (decide (0 ≤ Lib.indexByte s.data.toList r.toNat.toUInt8))) ∧ w' = w := Any.strings_ContainsRune_ascii Tryd.lays151 s r w h0 h1
open Go.RowKit Go.Sort in
theorem Tryd.slices_Sort_int_none (p : Option Addr) (cap : Nat) (w : World) :
    Calls Tryd.prog 61 #[.slice p 0 cap] w fun e w' => e = .returned (.tuple #[]) ∧ w' = w := Any.slices_Sort_int_none Tryd.lays189 p cap w
end Go.Proofs
