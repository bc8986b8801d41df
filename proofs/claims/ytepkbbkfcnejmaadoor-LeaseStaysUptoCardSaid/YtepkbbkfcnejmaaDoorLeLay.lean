import Derived.WalkKit
import Derived.Shelf.SlIterI.Nil
import Derived.Shelf.SortM.Plain
import Derived.Shelf.SortM.SortNone
import Derived.Ground.GgzProg
import Derived.Ground.SlgmProg
import Derived.Test.YtepkbbkfcnejmaaDoorProg
/-
  DERIVED: THE SHELF's CONTRACTS AT THIS DUMP, IN PLAIN WORDS (tools/lay-plain.mjs out of 'YtepkbbkfcnejmaaDoorLeLay.lean', which tools/lay-shelf.mjs wrote): THE SAME DECLARATIONS UNDER THE SAME NAMES: 'import', 'namespace', 'open', 'def', 'theorem' AND NOTHING ELSE: no command of the shelf's: FOR A HAND-IN. Each laying: the table of numbers ('.._ren') and one theorem, a field a fact of the dump's own or the kernel's comparison; each contract: ONE APPLICATION.
-/
namespace Go.Proofs
open Go.Shelf
def Tryd.keysA_ren : Go.Shelf.Ren := ⟨fun | 7 => 48 | 10 => 65 | n => n, fun | 23 => 57 | 26 => 3 | 3 => 61 | 28 => 80 | 0 => 0 | 27 => 79 | 33 => 67 | 4 => 4 | n => n, fun | n => n⟩
theorem Tryd.keysA : Go.Proofs.SlLaysZI.n7 Tryd.prog Tryd.keysA_ren := {
  mixed := by kernel_rfl
  f7 := ⟨Tryd.f48.name, by decide, Tryd.func48.trans (congrArg some (by kernel_rfl))⟩
  f10 := ⟨Tryd.f65.name, by decide, Tryd.func65.trans (congrArg some (by kernel_rfl))⟩
  t0 := Tryd.underlying0
  a0 := Tryd.isAgg0
  z0 := Tryd.sizeOf0
  v0 := Tryd.zeroValue0
  t4 := Tryd.underlying4
  a4 := Tryd.isAgg4
  z4 := Tryd.sizeOf4
  v4 := Tryd.zeroValue4
  t23 := Tryd.underlying57
  a23 := Tryd.isAgg57
  z23 := Tryd.sizeOf57
  v23 := Tryd.zeroValue57
  t26 := Tryd.underlying3
  a26 := Tryd.isAgg3
  z26 := Tryd.sizeOf3
  v26 := Tryd.zeroValue3
  t27 := Tryd.underlying79
  a27 := Tryd.isAgg79
  z27 := Tryd.sizeOf79
  v27 := Tryd.zeroValue79
  t28 := Tryd.underlying80
  a28 := Tryd.isAgg80
  z28 := Tryd.sizeOf80
  v28 := Tryd.zeroValue80
  t33 := Tryd.underlying67
  a33 := Tryd.isAgg67
  z33 := Tryd.sizeOf67
  v33 := Tryd.zeroValue67 }
def Tryd.sortedA_ren : Go.Shelf.Ren := ⟨fun | 6 => 47 | 8 => 63 | 9 => 64 | 11 => 85 | 13 => 50 | 12 => 86 | 23 => 74 | 24 => 75 | 14 => 95 | 15 => 96 | 16 => 97 | 17 => 98 | 18 => 99 | 19 => 100 | 20 => 101 | 21 => 102 | 22 => 103 | 25 => 106 | 26 => 88 | 27 => 89 | 28 => 107 | 29 => 108 | 30 => 76 | 31 => 109 | n => n, fun | 26 => 3 | 28 => 80 | 24 => 23 | 0 => 0 | 3 => 3 | 37 => 25 | 48 => 105 | 50 => 107 | 4 => 4 | 40 => 99 | 39 => 98 | 45 => 53 | 5 => 5 | 9 => 9 | 51 => 117 | 55 => 121 | 57 => 129 | 58 => 130 | 33 => 67 | n => n, fun | n => n⟩
theorem Tryd.sortedA : Go.Proofs.SlLaysZI.n6 Tryd.prog Tryd.sortedA_ren := {
  mixed := by kernel_rfl
  f6 := ⟨Tryd.f47.name, by decide, Tryd.func47.trans (congrArg some (by kernel_rfl))⟩
  f8 := ⟨Tryd.f63.name, by decide, Tryd.func63.trans (congrArg some (by kernel_rfl))⟩
  f11 := ⟨Tryd.f85.name, by decide, Tryd.func85.trans (congrArg some (by kernel_rfl))⟩
  t0 := Tryd.underlying0
  a0 := Tryd.isAgg0
  z0 := Tryd.sizeOf0
  v0 := Tryd.zeroValue0
  t24 := Tryd.underlying23
  a24 := Tryd.isAgg23
  z24 := Tryd.sizeOf23
  v24 := Tryd.zeroValue23
  t26 := Tryd.underlying3
  a26 := Tryd.isAgg3
  z26 := Tryd.sizeOf3
  v26 := Tryd.zeroValue3
  t28 := Tryd.underlying80
  a28 := Tryd.isAgg80
  z28 := Tryd.sizeOf80
  v28 := Tryd.zeroValue80
  i26 := by kernel_rfl }
def Tryd.sortA_ren : Go.Shelf.Ren := ⟨fun | 5 => 64 | 8 => 50 | 7 => 86 | 19 => 74 | 20 => 75 | 10 => 95 | 11 => 96 | 12 => 97 | 13 => 98 | 14 => 99 | 15 => 100 | 16 => 101 | 17 => 102 | 18 => 103 | 30 => 106 | 31 => 88 | 32 => 89 | 33 => 107 | 34 => 108 | 35 => 76 | 40 => 109 | n => n, fun | 23 => 23 | 25 => 3 | 3 => 3 | 32 => 25 | 22 => 23 | 0 => 0 | 44 => 105 | 46 => 107 | 4 => 4 | 36 => 99 | 35 => 98 | 41 => 53 | 5 => 5 | 9 => 9 | 53 => 117 | 57 => 121 | 63 => 129 | 64 => 130 | n => n, fun | n => n⟩
theorem Tryd.sortA : Go.Proofs.SlLaysM.n5 Tryd.prog Tryd.sortA_ren := {
  mixed := by kernel_rfl
  f5 := ⟨Tryd.f64.name, by decide, Tryd.func64.trans (congrArg some (by kernel_rfl))⟩
  f7 := ⟨Tryd.f86.name, by decide, Tryd.func86.trans (congrArg some (by kernel_rfl))⟩
  f8 := Tryd.func50.trans (congrArg some (by kernel_rfl))
  f10 := ⟨Tryd.f95.name, by decide, Tryd.func95.trans (congrArg some (by kernel_rfl))⟩
  f11 := ⟨Tryd.f96.name, by decide, Tryd.func96.trans (congrArg some (by kernel_rfl))⟩
  f12 := ⟨Tryd.f97.name, by decide, Tryd.func97.trans (congrArg some (by kernel_rfl))⟩
  f13 := ⟨Tryd.f98.name, by decide, Tryd.func98.trans (congrArg some (by kernel_rfl))⟩
  f14 := ⟨Tryd.f99.name, by decide, Tryd.func99.trans (congrArg some (by kernel_rfl))⟩
  f15 := ⟨Tryd.f100.name, by decide, Tryd.func100.trans (congrArg some (by kernel_rfl))⟩
  f16 := ⟨Tryd.f101.name, by decide, Tryd.func101.trans (congrArg some (by kernel_rfl))⟩
  f17 := ⟨Tryd.f102.name, by decide, Tryd.func102.trans (congrArg some (by kernel_rfl))⟩
  f18 := ⟨Tryd.f103.name, by decide, Tryd.func103.trans (congrArg some (by kernel_rfl))⟩
  f19 := Tryd.func74.trans (congrArg some (by kernel_rfl))
  f20 := Tryd.func75.trans (congrArg some (by kernel_rfl))
  f30 := ⟨Tryd.f106.name, by decide, Tryd.func106.trans (congrArg some (by kernel_rfl))⟩
  f31 := Tryd.func88.trans (congrArg some (by kernel_rfl))
  f32 := Tryd.func89.trans (congrArg some (by kernel_rfl))
  f33 := ⟨Tryd.f107.name, by decide, Tryd.func107.trans (congrArg some (by kernel_rfl))⟩
  f34 := ⟨Tryd.f108.name, by decide, Tryd.func108.trans (congrArg some (by kernel_rfl))⟩
  f35 := ⟨Tryd.f76.name, by decide, Tryd.func76.trans (congrArg some (by kernel_rfl))⟩
  f40 := ⟨Tryd.f109.name, by decide, Tryd.func109.trans (congrArg some (by kernel_rfl))⟩
  t0 := Tryd.underlying0
  a0 := Tryd.isAgg0
  z0 := Tryd.sizeOf0
  v0 := Tryd.zeroValue0
  t3 := Tryd.underlying3
  a3 := Tryd.isAgg3
  z3 := Tryd.sizeOf3
  v3 := Tryd.zeroValue3
  t4 := Tryd.underlying4
  a4 := Tryd.isAgg4
  z4 := Tryd.sizeOf4
  v4 := Tryd.zeroValue4
  t5 := Tryd.underlying5
  a5 := Tryd.isAgg5
  z5 := Tryd.sizeOf5
  v5 := Tryd.zeroValue5
  t9 := Tryd.underlying9
  a9 := Tryd.isAgg9
  z9 := Tryd.sizeOf9
  v9 := Tryd.zeroValue9
  t22 := Tryd.underlying23
  a22 := Tryd.isAgg23
  z22 := Tryd.sizeOf23
  v22 := Tryd.zeroValue23
  t23 := Tryd.underlying23
  a23 := Tryd.isAgg23
  z23 := Tryd.sizeOf23
  v23 := Tryd.zeroValue23
  t25 := Tryd.underlying3
  a25 := Tryd.isAgg3
  z25 := Tryd.sizeOf3
  v25 := Tryd.zeroValue3
  t32 := Tryd.underlying25
  a32 := Tryd.isAgg25
  z32 := Tryd.sizeOf25
  v32 := Tryd.zeroValue25
  t35 := Tryd.underlying98
  a35 := Tryd.isAgg98
  z35 := Tryd.sizeOf98
  v35 := Tryd.zeroValue98
  t36 := Tryd.underlying99
  a36 := Tryd.isAgg99
  z36 := Tryd.sizeOf99
  v36 := Tryd.zeroValue99
  t41 := Tryd.underlying53
  a41 := Tryd.isAgg53
  z41 := Tryd.sizeOf53
  v41 := Tryd.zeroValue53
  t44 := Tryd.underlying105
  a44 := Tryd.isAgg105
  z44 := Tryd.sizeOf105
  v44 := Tryd.zeroValue105
  t46 := Tryd.underlying107
  a46 := Tryd.isAgg107
  z46 := Tryd.sizeOf107
  v46 := Tryd.zeroValue107
  t53 := Tryd.underlying117
  a53 := Tryd.isAgg117
  z53 := Tryd.sizeOf117
  v53 := Tryd.zeroValue117
  t57 := Tryd.underlying121
  a57 := Tryd.isAgg121
  z57 := Tryd.sizeOf121
  v57 := Tryd.zeroValue121
  t63 := Tryd.underlying129
  a63 := Tryd.isAgg129
  z63 := Tryd.sizeOf129
  v63 := Tryd.zeroValue129
  t64 := Tryd.underlying130
  a64 := Tryd.isAgg130
  z64 := Tryd.sizeOf130
  v64 := Tryd.zeroValue130 }
end Go.Proofs
