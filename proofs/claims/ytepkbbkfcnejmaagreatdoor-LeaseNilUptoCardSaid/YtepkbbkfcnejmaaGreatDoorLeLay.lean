import Derived.WalkKit
import Derived.Shelf.SlIterI.Nil
import Derived.Shelf.SortM.Plain
import Derived.Shelf.SortM.SortNone
import Derived.Ground.GgzProg
import Derived.Ground.SlgmProg
import Derived.Test.YtepkbbkfcnejmaaGreatDoorProg
/-
  DERIVED: THE SHELF's CONTRACTS AT THIS DUMP, IN PLAIN WORDS (tools/lay-plain.mjs out of 'YtepkbbkfcnejmaaGreatDoorLeLay.lean', which tools/lay-shelf.mjs wrote): THE SAME DECLARATIONS UNDER THE SAME NAMES: 'import', 'namespace', 'open', 'def', 'theorem' AND NOTHING ELSE: no command of the shelf's: FOR A HAND-IN. Each laying: the table of numbers ('.._ren') and one theorem, a field a fact of the dump's own or the kernel's comparison; each contract: ONE APPLICATION.
-/
namespace Go.Proofs
open Go.Shelf
def Tryz.keysA_ren : Go.Shelf.Ren := ⟨fun | 7 => 43 | 10 => 61 | n => n, fun | 23 => 51 | 26 => 3 | 3 => 55 | 28 => 74 | 0 => 0 | 27 => 73 | 33 => 61 | 4 => 4 | n => n, fun | n => n⟩
theorem Tryz.keysA : Go.Proofs.SlLaysZI.n7 Tryz.prog Tryz.keysA_ren := {
  mixed := by kernel_rfl
  f7 := ⟨Tryz.f43.name, by decide, Tryz.func43.trans (congrArg some (by kernel_rfl))⟩
  f10 := ⟨Tryz.f61.name, by decide, Tryz.func61.trans (congrArg some (by kernel_rfl))⟩
  t0 := Tryz.underlying0
  a0 := Tryz.isAgg0
  z0 := Tryz.sizeOf0
  v0 := Tryz.zeroValue0
  t4 := Tryz.underlying4
  a4 := Tryz.isAgg4
  z4 := Tryz.sizeOf4
  v4 := Tryz.zeroValue4
  t23 := Tryz.underlying51
  a23 := Tryz.isAgg51
  z23 := Tryz.sizeOf51
  v23 := Tryz.zeroValue51
  t26 := Tryz.underlying3
  a26 := Tryz.isAgg3
  z26 := Tryz.sizeOf3
  v26 := Tryz.zeroValue3
  t27 := Tryz.underlying73
  a27 := Tryz.isAgg73
  z27 := Tryz.sizeOf73
  v27 := Tryz.zeroValue73
  t28 := Tryz.underlying74
  a28 := Tryz.isAgg74
  z28 := Tryz.sizeOf74
  v28 := Tryz.zeroValue74
  t33 := Tryz.underlying61
  a33 := Tryz.isAgg61
  z33 := Tryz.sizeOf61
  v33 := Tryz.zeroValue61 }
def Tryz.sortedA_ren : Go.Shelf.Ren := ⟨fun | 6 => 42 | 8 => 59 | 9 => 60 | 11 => 81 | 13 => 46 | 12 => 82 | 23 => 70 | 24 => 71 | 14 => 91 | 15 => 92 | 16 => 93 | 17 => 94 | 18 => 95 | 19 => 96 | 20 => 97 | 21 => 98 | 22 => 99 | 25 => 102 | 26 => 84 | 27 => 85 | 28 => 103 | 29 => 104 | 30 => 72 | 31 => 105 | n => n, fun | 26 => 3 | 28 => 74 | 24 => 34 | 0 => 0 | 3 => 3 | 37 => 29 | 48 => 99 | 50 => 101 | 4 => 4 | 40 => 93 | 39 => 92 | 45 => 46 | 5 => 5 | 9 => 9 | 51 => 111 | 55 => 115 | 57 => 123 | 58 => 124 | 33 => 61 | n => n, fun | n => n⟩
theorem Tryz.sortedA : Go.Proofs.SlLaysZI.n6 Tryz.prog Tryz.sortedA_ren := {
  mixed := by kernel_rfl
  f6 := ⟨Tryz.f42.name, by decide, Tryz.func42.trans (congrArg some (by kernel_rfl))⟩
  f8 := ⟨Tryz.f59.name, by decide, Tryz.func59.trans (congrArg some (by kernel_rfl))⟩
  f11 := ⟨Tryz.f81.name, by decide, Tryz.func81.trans (congrArg some (by kernel_rfl))⟩
  t0 := Tryz.underlying0
  a0 := Tryz.isAgg0
  z0 := Tryz.sizeOf0
  v0 := Tryz.zeroValue0
  t24 := Tryz.underlying34
  a24 := Tryz.isAgg34
  z24 := Tryz.sizeOf34
  v24 := Tryz.zeroValue34
  t26 := Tryz.underlying3
  a26 := Tryz.isAgg3
  z26 := Tryz.sizeOf3
  v26 := Tryz.zeroValue3
  t28 := Tryz.underlying74
  a28 := Tryz.isAgg74
  z28 := Tryz.sizeOf74
  v28 := Tryz.zeroValue74
  i26 := by kernel_rfl }
def Tryz.sortA_ren : Go.Shelf.Ren := ⟨fun | 5 => 60 | 8 => 46 | 7 => 82 | 19 => 70 | 20 => 71 | 10 => 91 | 11 => 92 | 12 => 93 | 13 => 94 | 14 => 95 | 15 => 96 | 16 => 97 | 17 => 98 | 18 => 99 | 30 => 102 | 31 => 84 | 32 => 85 | 33 => 103 | 34 => 104 | 35 => 72 | 40 => 105 | n => n, fun | 23 => 34 | 25 => 3 | 3 => 3 | 32 => 29 | 22 => 34 | 0 => 0 | 44 => 99 | 46 => 101 | 4 => 4 | 36 => 93 | 35 => 92 | 41 => 46 | 5 => 5 | 9 => 9 | 53 => 111 | 57 => 115 | 63 => 123 | 64 => 124 | n => n, fun | n => n⟩
theorem Tryz.sortA : Go.Proofs.SlLaysM.n5 Tryz.prog Tryz.sortA_ren := {
  mixed := by kernel_rfl
  f5 := ⟨Tryz.f60.name, by decide, Tryz.func60.trans (congrArg some (by kernel_rfl))⟩
  f7 := ⟨Tryz.f82.name, by decide, Tryz.func82.trans (congrArg some (by kernel_rfl))⟩
  f8 := Tryz.func46.trans (congrArg some (by kernel_rfl))
  f10 := ⟨Tryz.f91.name, by decide, Tryz.func91.trans (congrArg some (by kernel_rfl))⟩
  f11 := ⟨Tryz.f92.name, by decide, Tryz.func92.trans (congrArg some (by kernel_rfl))⟩
  f12 := ⟨Tryz.f93.name, by decide, Tryz.func93.trans (congrArg some (by kernel_rfl))⟩
  f13 := ⟨Tryz.f94.name, by decide, Tryz.func94.trans (congrArg some (by kernel_rfl))⟩
  f14 := ⟨Tryz.f95.name, by decide, Tryz.func95.trans (congrArg some (by kernel_rfl))⟩
  f15 := ⟨Tryz.f96.name, by decide, Tryz.func96.trans (congrArg some (by kernel_rfl))⟩
  f16 := ⟨Tryz.f97.name, by decide, Tryz.func97.trans (congrArg some (by kernel_rfl))⟩
  f17 := ⟨Tryz.f98.name, by decide, Tryz.func98.trans (congrArg some (by kernel_rfl))⟩
  f18 := ⟨Tryz.f99.name, by decide, Tryz.func99.trans (congrArg some (by kernel_rfl))⟩
  f19 := Tryz.func70.trans (congrArg some (by kernel_rfl))
  f20 := Tryz.func71.trans (congrArg some (by kernel_rfl))
  f30 := ⟨Tryz.f102.name, by decide, Tryz.func102.trans (congrArg some (by kernel_rfl))⟩
  f31 := Tryz.func84.trans (congrArg some (by kernel_rfl))
  f32 := Tryz.func85.trans (congrArg some (by kernel_rfl))
  f33 := ⟨Tryz.f103.name, by decide, Tryz.func103.trans (congrArg some (by kernel_rfl))⟩
  f34 := ⟨Tryz.f104.name, by decide, Tryz.func104.trans (congrArg some (by kernel_rfl))⟩
  f35 := ⟨Tryz.f72.name, by decide, Tryz.func72.trans (congrArg some (by kernel_rfl))⟩
  f40 := ⟨Tryz.f105.name, by decide, Tryz.func105.trans (congrArg some (by kernel_rfl))⟩
  t0 := Tryz.underlying0
  a0 := Tryz.isAgg0
  z0 := Tryz.sizeOf0
  v0 := Tryz.zeroValue0
  t3 := Tryz.underlying3
  a3 := Tryz.isAgg3
  z3 := Tryz.sizeOf3
  v3 := Tryz.zeroValue3
  t4 := Tryz.underlying4
  a4 := Tryz.isAgg4
  z4 := Tryz.sizeOf4
  v4 := Tryz.zeroValue4
  t5 := Tryz.underlying5
  a5 := Tryz.isAgg5
  z5 := Tryz.sizeOf5
  v5 := Tryz.zeroValue5
  t9 := Tryz.underlying9
  a9 := Tryz.isAgg9
  z9 := Tryz.sizeOf9
  v9 := Tryz.zeroValue9
  t22 := Tryz.underlying34
  a22 := Tryz.isAgg34
  z22 := Tryz.sizeOf34
  v22 := Tryz.zeroValue34
  t23 := Tryz.underlying34
  a23 := Tryz.isAgg34
  z23 := Tryz.sizeOf34
  v23 := Tryz.zeroValue34
  t25 := Tryz.underlying3
  a25 := Tryz.isAgg3
  z25 := Tryz.sizeOf3
  v25 := Tryz.zeroValue3
  t32 := Tryz.underlying29
  a32 := Tryz.isAgg29
  z32 := Tryz.sizeOf29
  v32 := Tryz.zeroValue29
  t35 := Tryz.underlying92
  a35 := Tryz.isAgg92
  z35 := Tryz.sizeOf92
  v35 := Tryz.zeroValue92
  t36 := Tryz.underlying93
  a36 := Tryz.isAgg93
  z36 := Tryz.sizeOf93
  v36 := Tryz.zeroValue93
  t41 := Tryz.underlying46
  a41 := Tryz.isAgg46
  z41 := Tryz.sizeOf46
  v41 := Tryz.zeroValue46
  t44 := Tryz.underlying99
  a44 := Tryz.isAgg99
  z44 := Tryz.sizeOf99
  v44 := Tryz.zeroValue99
  t46 := Tryz.underlying101
  a46 := Tryz.isAgg101
  z46 := Tryz.sizeOf101
  v46 := Tryz.zeroValue101
  t53 := Tryz.underlying111
  a53 := Tryz.isAgg111
  z53 := Tryz.sizeOf111
  v53 := Tryz.zeroValue111
  t57 := Tryz.underlying115
  a57 := Tryz.isAgg115
  z57 := Tryz.sizeOf115
  v57 := Tryz.zeroValue115
  t63 := Tryz.underlying123
  a63 := Tryz.isAgg123
  z63 := Tryz.sizeOf123
  v63 := Tryz.zeroValue123
  t64 := Tryz.underlying124
  a64 := Tryz.isAgg124
  z64 := Tryz.sizeOf124
  v64 := Tryz.zeroValue124 }
end Go.Proofs
