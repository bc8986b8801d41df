import Derived.Test.YtchpfeblinnoiaaGreatDoorAmFn
import Derived.Test.YtchpfeblinnoiaaGreatDoorProg
import Derived.KernelRfl
set_option linter.unusedVariables false
namespace Go.Proofs
open Go Go.AM
def Tryz.tk1 : TK := ⟨false, 1, 8, [.d (.v (.nilFunc))], .func, false, false, false, []⟩
theorem Tryz.tok1 : TOk Tryz.prog 1 Tryz.tk1 := tok_mk (sz := 1) (bytes := 8) (z := .nilFunc) (fun h => by cases h) (by kernel_rfl) Tryz.underlying1 ⟨_, _, _, Tryz.underlying1⟩ rfl (by kernel_rfl) rfl
def Tryz.tk2 : TK := ⟨false, 1, 8, [.d (.v (.int .i64 0))], .int .i64, false, false, false, []⟩
theorem Tryz.tok2 : TOk Tryz.prog 2 Tryz.tk2 := tok_mk (sz := 1) (bytes := 8) (z := .int .i64 0) (fun h => by cases h) (by kernel_rfl) Tryz.underlying2 Tryz.underlying2 rfl (by kernel_rfl) rfl
def Tryz.tk3 : TK := ⟨false, 1, 8, [.d (.v (.int .i64 0))], .int .i64, false, false, false, []⟩
theorem Tryz.tok3 : TOk Tryz.prog 3 Tryz.tk3 := tok_mk (sz := 1) (bytes := 8) (z := .int .i64 0) (fun h => by cases h) (by kernel_rfl) Tryz.underlying3 Tryz.underlying3 rfl (by kernel_rfl) rfl
def Tryz.tk4 : TK := ⟨false, 1, 1, [.d (.v (.bool false))], .bool, false, false, false, []⟩
theorem Tryz.tok4 : TOk Tryz.prog 4 Tryz.tk4 := tok_mk (sz := 1) (bytes := 1) (z := .bool false) (fun h => by cases h) (by kernel_rfl) Tryz.underlying4 Tryz.underlying4 rfl (by kernel_rfl) rfl
def Tryz.tk5 : TK := ⟨false, 1, 1, [.d (.v (.int .u8 0))], .int .u8, false, false, false, []⟩
theorem Tryz.tok5 : TOk Tryz.prog 5 Tryz.tk5 := tok_mk (sz := 1) (bytes := 1) (z := .int .u8 0) (fun h => by cases h) (by kernel_rfl) Tryz.underlying5 Tryz.underlying5 rfl (by kernel_rfl) rfl
def Tryz.tk6 : TK := ⟨false, 1, 1, [.d (.v (.int .u8 0))], .int .u8, false, false, false, []⟩
theorem Tryz.tok6 : TOk Tryz.prog 6 Tryz.tk6 := tok_mk (sz := 1) (bytes := 1) (z := .int .u8 0) (fun h => by cases h) (by kernel_rfl) Tryz.underlying6 Tryz.underlying6 rfl (by kernel_rfl) rfl
def Tryz.tk7 : TK := ⟨true, 4, 24, [.d (.v (.int .i64 0)), .d (.v (.int .i64 0)), .d (.v (.bool false)), .d (.v (.int .u8 0))], .struct [(0, 2), (1, 3), (2, 4), (3, 6)], false, false, false, []⟩
theorem Tryz.tok7 : TOk Tryz.prog 7 Tryz.tk7 := tok_mk (sz := 4) (bytes := 24) (z := .agg #[.int .i64 0, .int .i64 0, .bool false, .int .u8 0]) (fun h => by cases h) (by kernel_rfl) Tryz.underlying7 ⟨_, Tryz.underlying7, by kernel_rfl⟩ rfl (by kernel_rfl) rfl
def Tryz.tk8 : TK := ⟨true, 4, 24, [.d (.v (.int .i64 0)), .d (.v (.int .i64 0)), .d (.v (.bool false)), .d (.v (.int .u8 0))], .struct [(0, 2), (1, 3), (2, 4), (3, 6)], false, false, false, []⟩
theorem Tryz.tok8 : TOk Tryz.prog 8 Tryz.tk8 := tok_mk (sz := 4) (bytes := 24) (z := .agg #[.int .i64 0, .int .i64 0, .bool false, .int .u8 0]) (fun h => by cases h) (by kernel_rfl) Tryz.underlying8 ⟨_, Tryz.underlying8, by kernel_rfl⟩ rfl (by kernel_rfl) rfl
def Tryz.tk9 : TK := ⟨false, 1, 16, [.d (.v (.string ⟨#[]⟩))], .str, false, false, false, []⟩
theorem Tryz.tok9 : TOk Tryz.prog 9 Tryz.tk9 := tok_mk (sz := 1) (bytes := 16) (z := .string ⟨#[]⟩) (fun h => by cases h) (by kernel_rfl) Tryz.underlying9 Tryz.underlying9 rfl (by kernel_rfl) rfl
def Tryz.tk10 : TK := ⟨false, 1, 16, [.d (.v (.string ⟨#[]⟩))], .str, false, false, false, []⟩
theorem Tryz.tok10 : TOk Tryz.prog 10 Tryz.tk10 := tok_mk (sz := 1) (bytes := 16) (z := .string ⟨#[]⟩) (fun h => by cases h) (by kernel_rfl) Tryz.underlying10 Tryz.underlying10 rfl (by kernel_rfl) rfl
def Tryz.tk11 : TK := ⟨false, 1, 16, [.d (.v (.string ⟨#[]⟩))], .str, false, false, false, []⟩
theorem Tryz.tok11 : TOk Tryz.prog 11 Tryz.tk11 := tok_mk (sz := 1) (bytes := 16) (z := .string ⟨#[]⟩) (fun h => by cases h) (by kernel_rfl) Tryz.underlying11 Tryz.underlying11 rfl (by kernel_rfl) rfl
def Tryz.tk12 : TK := ⟨false, 1, 8, [.d (.v (.int .u64 0))], .int .u64, false, false, false, []⟩
theorem Tryz.tok12 : TOk Tryz.prog 12 Tryz.tk12 := tok_mk (sz := 1) (bytes := 8) (z := .int .u64 0) (fun h => by cases h) (by kernel_rfl) Tryz.underlying12 Tryz.underlying12 rfl (by kernel_rfl) rfl
def Tryz.tk13 : TK := ⟨true, 2, 24, [.d (.v (.string ⟨#[]⟩)), .d (.v (.int .u64 0))], .struct [(0, 9), (1, 12)], false, false, false, []⟩
theorem Tryz.tok13 : TOk Tryz.prog 13 Tryz.tk13 := tok_mk (sz := 2) (bytes := 24) (z := .agg #[.string ⟨#[]⟩, .int .u64 0]) (fun h => by cases h) (by kernel_rfl) Tryz.underlying13 ⟨_, Tryz.underlying13, by kernel_rfl⟩ rfl (by kernel_rfl) rfl
def Tryz.tk14 : TK := ⟨true, 2, 24, [.d (.v (.string ⟨#[]⟩)), .d (.v (.int .u64 0))], .struct [(0, 9), (1, 12)], false, false, false, []⟩
theorem Tryz.tok14 : TOk Tryz.prog 14 Tryz.tk14 := tok_mk (sz := 2) (bytes := 24) (z := .agg #[.string ⟨#[]⟩, .int .u64 0]) (fun h => by cases h) (by kernel_rfl) Tryz.underlying14 ⟨_, Tryz.underlying14, by kernel_rfl⟩ rfl (by kernel_rfl) rfl
def Tryz.tk15 : TK := ⟨false, 1, 8, [.d (.v (.pointer none))], .ptr 205, false, false, false, []⟩
theorem Tryz.tok15 : TOk Tryz.prog 15 Tryz.tk15 := tok_mk (sz := 1) (bytes := 8) (z := .pointer none) (fun h => by cases h) (by kernel_rfl) Tryz.underlying15 Tryz.underlying15 rfl (by kernel_rfl) rfl
def Tryz.tk16 : TK := ⟨false, 1, 8, [.d (.v (.pointer none))], .ptr 208, false, false, false, []⟩
theorem Tryz.tok16 : TOk Tryz.prog 16 Tryz.tk16 := tok_mk (sz := 1) (bytes := 8) (z := .pointer none) (fun h => by cases h) (by kernel_rfl) Tryz.underlying16 Tryz.underlying16 rfl (by kernel_rfl) rfl
def Tryz.tk17 : TK := ⟨false, 1, 8, [.d (.v (.pointer none))], .ptr 215, false, false, false, []⟩
theorem Tryz.tok17 : TOk Tryz.prog 17 Tryz.tk17 := tok_mk (sz := 1) (bytes := 8) (z := .pointer none) (fun h => by cases h) (by kernel_rfl) Tryz.underlying17 Tryz.underlying17 rfl (by kernel_rfl) rfl
def Tryz.tk18 : TK := ⟨true, 1, 8, [.d (.v (.pointer none))], .struct [(0, 17)], false, false, false, []⟩
theorem Tryz.tok18 : TOk Tryz.prog 18 Tryz.tk18 := tok_mk (sz := 1) (bytes := 8) (z := .agg #[.pointer none]) (fun h => by cases h) (by kernel_rfl) Tryz.underlying18 ⟨_, Tryz.underlying18, by kernel_rfl⟩ rfl (by kernel_rfl) rfl
def Tryz.tk19 : TK := ⟨true, 1, 8, [.d (.v (.pointer none))], .struct [(0, 17)], false, false, false, []⟩
theorem Tryz.tok19 : TOk Tryz.prog 19 Tryz.tk19 := tok_mk (sz := 1) (bytes := 8) (z := .agg #[.pointer none]) (fun h => by cases h) (by kernel_rfl) Tryz.underlying19 ⟨_, Tryz.underlying19, by kernel_rfl⟩ rfl (by kernel_rfl) rfl
def Tryz.tk21 : TK := ⟨false, 1, 4, [.d (.v (.int .i32 0))], .int .i32, false, false, false, []⟩
theorem Tryz.tok21 : TOk Tryz.prog 21 Tryz.tk21 := tok_mk (sz := 1) (bytes := 4) (z := .int .i32 0) (fun h => by cases h) (by kernel_rfl) Tryz.underlying21 Tryz.underlying21 rfl (by kernel_rfl) rfl
def Tryz.tk22 : TK := ⟨false, 1, 24, [.nl], .slice 38, false, false, false, []⟩
theorem Tryz.tok22 : TOk Tryz.prog 22 Tryz.tk22 := tok_mk (sz := 1) (bytes := 24) (z := .slice none 0 0) (fun h => by cases h) (by kernel_rfl) Tryz.underlying22 Tryz.underlying22 rfl (by kernel_rfl) rfl
def Tryz.tk23 : TK := ⟨false, 1, 8, [.d (.v (.nilFunc))], .func, false, false, false, []⟩
theorem Tryz.tok23 : TOk Tryz.prog 23 Tryz.tk23 := tok_mk (sz := 1) (bytes := 8) (z := .nilFunc) (fun h => by cases h) (by kernel_rfl) Tryz.underlying23 ⟨_, _, _, Tryz.underlying23⟩ rfl (by kernel_rfl) rfl
def Tryz.tk24 : TK := ⟨false, 1, 8, [.d (.v (.nilFunc))], .func, false, false, false, []⟩
theorem Tryz.tok24 : TOk Tryz.prog 24 Tryz.tk24 := tok_mk (sz := 1) (bytes := 8) (z := .nilFunc) (fun h => by cases h) (by kernel_rfl) Tryz.underlying24 ⟨_, _, _, Tryz.underlying24⟩ rfl (by kernel_rfl) rfl
def Tryz.tk25 : TK := ⟨false, 1, 8, [.d (.v (.pointer none))], .ptr 61, false, false, false, []⟩
theorem Tryz.tok25 : TOk Tryz.prog 25 Tryz.tk25 := tok_mk (sz := 1) (bytes := 8) (z := .pointer none) (fun h => by cases h) (by kernel_rfl) Tryz.underlying25 Tryz.underlying25 rfl (by kernel_rfl) rfl
def Tryz.tk26 : TK := ⟨false, 1, 8, [.d (.v (.nilFunc))], .func, false, false, false, []⟩
theorem Tryz.tok26 : TOk Tryz.prog 26 Tryz.tk26 := tok_mk (sz := 1) (bytes := 8) (z := .nilFunc) (fun h => by cases h) (by kernel_rfl) Tryz.underlying26 ⟨_, _, _, Tryz.underlying26⟩ rfl (by kernel_rfl) rfl
def Tryz.tk27 : TK := ⟨false, 1, 24, [.nl], .slice 40, false, false, false, []⟩
theorem Tryz.tok27 : TOk Tryz.prog 27 Tryz.tk27 := tok_mk (sz := 1) (bytes := 24) (z := .slice none 0 0) (fun h => by cases h) (by kernel_rfl) Tryz.underlying27 Tryz.underlying27 rfl (by kernel_rfl) rfl
def Tryz.tk28 : TK := ⟨false, 1, 8, [.d (.v (.int .i64 0))], .int .i64, false, false, false, []⟩
theorem Tryz.tok28 : TOk Tryz.prog 28 Tryz.tk28 := tok_mk (sz := 1) (bytes := 8) (z := .int .i64 0) (fun h => by cases h) (by kernel_rfl) Tryz.underlying28 Tryz.underlying28 rfl (by kernel_rfl) rfl
def Tryz.tk29 : TK := ⟨false, 1, 24, [.nl], .slice 53, false, false, false, []⟩
theorem Tryz.tok29 : TOk Tryz.prog 29 Tryz.tk29 := tok_mk (sz := 1) (bytes := 24) (z := .slice none 0 0) (fun h => by cases h) (by kernel_rfl) Tryz.underlying29 Tryz.underlying29 rfl (by kernel_rfl) rfl
def Tryz.tk30 : TK := ⟨false, 1, 24, [.nl], .slice 32, false, false, false, []⟩
theorem Tryz.tok30 : TOk Tryz.prog 30 Tryz.tk30 := tok_mk (sz := 1) (bytes := 24) (z := .slice none 0 0) (fun h => by cases h) (by kernel_rfl) Tryz.underlying30 Tryz.underlying30 rfl (by kernel_rfl) rfl
def Tryz.tk31 : TK := ⟨true, 4, 80, [.d (.v (.string ⟨#[]⟩)), .nl, .d (.v (.string ⟨#[]⟩)), .nl], .struct [(0, 9), (1, 29), (2, 9), (3, 30)], false, false, false, []⟩
theorem Tryz.tok31 : TOk Tryz.prog 31 Tryz.tk31 := tok_mk (sz := 4) (bytes := 80) (z := .agg #[.string ⟨#[]⟩, .slice none 0 0, .string ⟨#[]⟩, .slice none 0 0]) (fun h => by cases h) (by kernel_rfl) Tryz.underlying31 ⟨_, Tryz.underlying31, by kernel_rfl⟩ rfl (by kernel_rfl) rfl
def Tryz.tk32 : TK := ⟨true, 4, 80, [.d (.v (.string ⟨#[]⟩)), .nl, .d (.v (.string ⟨#[]⟩)), .nl], .struct [(0, 9), (1, 29), (2, 9), (3, 30)], false, false, false, []⟩
theorem Tryz.tok32 : TOk Tryz.prog 32 Tryz.tk32 := tok_mk (sz := 4) (bytes := 80) (z := .agg #[.string ⟨#[]⟩, .slice none 0 0, .string ⟨#[]⟩, .slice none 0 0]) (fun h => by cases h) (by kernel_rfl) Tryz.underlying32 ⟨_, Tryz.underlying32, by kernel_rfl⟩ rfl (by kernel_rfl) rfl
def Tryz.tk33 : TK := ⟨true, 5, 88, [.d (.v (.int .i64 0)), .d (.v (.string ⟨#[]⟩)), .nl, .d (.v (.string ⟨#[]⟩)), .nl], .struct [(0, 3), (1, 32)], false, false, false, []⟩
theorem Tryz.tok33 : TOk Tryz.prog 33 Tryz.tk33 := tok_mk (sz := 5) (bytes := 88) (z := .agg #[.int .i64 0, .string ⟨#[]⟩, .slice none 0 0, .string ⟨#[]⟩, .slice none 0 0]) (fun h => by cases h) (by kernel_rfl) Tryz.underlying33 ⟨_, Tryz.underlying33, by kernel_rfl⟩ rfl (by kernel_rfl) rfl
def Tryz.tk34 : TK := ⟨true, 5, 88, [.d (.v (.int .i64 0)), .d (.v (.string ⟨#[]⟩)), .nl, .d (.v (.string ⟨#[]⟩)), .nl], .struct [(0, 3), (1, 32)], false, false, false, []⟩
theorem Tryz.tok34 : TOk Tryz.prog 34 Tryz.tk34 := tok_mk (sz := 5) (bytes := 88) (z := .agg #[.int .i64 0, .string ⟨#[]⟩, .slice none 0 0, .string ⟨#[]⟩, .slice none 0 0]) (fun h => by cases h) (by kernel_rfl) Tryz.underlying34 ⟨_, Tryz.underlying34, by kernel_rfl⟩ rfl (by kernel_rfl) rfl
def Tryz.tk36 : TK := ⟨false, 1, 8, [.d (.v (.nilFunc))], .func, false, false, false, []⟩
theorem Tryz.tok36 : TOk Tryz.prog 36 Tryz.tk36 := tok_mk (sz := 1) (bytes := 8) (z := .nilFunc) (fun h => by cases h) (by kernel_rfl) Tryz.underlying36 ⟨_, _, _, Tryz.underlying36⟩ rfl (by kernel_rfl) rfl
def Tryz.tk37 : TK := ⟨true, 4, 64, [.d (.v (.int .i64 0)), .d (.v (.string ⟨#[]⟩)), .nl, .d (.v (.string ⟨#[]⟩))], .struct [(0, 3), (1, 9), (2, 29), (3, 9)], false, false, false, []⟩
theorem Tryz.tok37 : TOk Tryz.prog 37 Tryz.tk37 := tok_mk (sz := 4) (bytes := 64) (z := .agg #[.int .i64 0, .string ⟨#[]⟩, .slice none 0 0, .string ⟨#[]⟩]) (fun h => by cases h) (by kernel_rfl) Tryz.underlying37 ⟨_, Tryz.underlying37, by kernel_rfl⟩ rfl (by kernel_rfl) rfl
def Tryz.tk38 : TK := ⟨true, 4, 64, [.d (.v (.int .i64 0)), .d (.v (.string ⟨#[]⟩)), .nl, .d (.v (.string ⟨#[]⟩))], .struct [(0, 3), (1, 9), (2, 29), (3, 9)], false, false, false, []⟩
theorem Tryz.tok38 : TOk Tryz.prog 38 Tryz.tk38 := tok_mk (sz := 4) (bytes := 64) (z := .agg #[.int .i64 0, .string ⟨#[]⟩, .slice none 0 0, .string ⟨#[]⟩]) (fun h => by cases h) (by kernel_rfl) Tryz.underlying38 ⟨_, Tryz.underlying38, by kernel_rfl⟩ rfl (by kernel_rfl) rfl
def Tryz.tk39 : TK := ⟨true, 4, 64, [.d (.v (.int .i64 0)), .d (.v (.string ⟨#[]⟩)), .nl, .d (.v (.string ⟨#[]⟩))], .struct [(0, 3), (1, 9), (2, 29), (3, 9)], false, false, false, []⟩
theorem Tryz.tok39 : TOk Tryz.prog 39 Tryz.tk39 := tok_mk (sz := 4) (bytes := 64) (z := .agg #[.int .i64 0, .string ⟨#[]⟩, .slice none 0 0, .string ⟨#[]⟩]) (fun h => by cases h) (by kernel_rfl) Tryz.underlying39 ⟨_, Tryz.underlying39, by kernel_rfl⟩ rfl (by kernel_rfl) rfl
def Tryz.tk40 : TK := ⟨true, 5, 88, [.d (.v (.int .i64 0)), .d (.v (.string ⟨#[]⟩)), .nl, .d (.v (.string ⟨#[]⟩)), .nl], .struct [(0, 3), (1, 32)], false, false, false, []⟩
theorem Tryz.tok40 : TOk Tryz.prog 40 Tryz.tk40 := tok_mk (sz := 5) (bytes := 88) (z := .agg #[.int .i64 0, .string ⟨#[]⟩, .slice none 0 0, .string ⟨#[]⟩, .slice none 0 0]) (fun h => by cases h) (by kernel_rfl) Tryz.underlying40 ⟨_, Tryz.underlying40, by kernel_rfl⟩ rfl (by kernel_rfl) rfl
def Tryz.tk42 : TK := ⟨false, 1, 8, [.d (.v (.nilFunc))], .func, false, false, false, []⟩
theorem Tryz.tok42 : TOk Tryz.prog 42 Tryz.tk42 := tok_mk (sz := 1) (bytes := 8) (z := .nilFunc) (fun h => by cases h) (by kernel_rfl) Tryz.underlying42 ⟨_, _, _, Tryz.underlying42⟩ rfl (by kernel_rfl) rfl
def Tryz.tk43 : TK := ⟨false, 1, 8, [.d (.v (.nilFunc))], .func, false, false, false, []⟩
theorem Tryz.tok43 : TOk Tryz.prog 43 Tryz.tk43 := tok_mk (sz := 1) (bytes := 8) (z := .nilFunc) (fun h => by cases h) (by kernel_rfl) Tryz.underlying43 ⟨_, _, _, Tryz.underlying43⟩ rfl (by kernel_rfl) rfl
def Tryz.tk44 : TK := ⟨false, 1, 8, [.d (.v (.nilFunc))], .func, false, false, false, []⟩
theorem Tryz.tok44 : TOk Tryz.prog 44 Tryz.tk44 := tok_mk (sz := 1) (bytes := 8) (z := .nilFunc) (fun h => by cases h) (by kernel_rfl) Tryz.underlying44 ⟨_, _, _, Tryz.underlying44⟩ rfl (by kernel_rfl) rfl
def Tryz.tk45 : TK := ⟨false, 1, 8, [.d (.v (.nilFunc))], .func, false, false, false, []⟩
theorem Tryz.tok45 : TOk Tryz.prog 45 Tryz.tk45 := tok_mk (sz := 1) (bytes := 8) (z := .nilFunc) (fun h => by cases h) (by kernel_rfl) Tryz.underlying45 ⟨_, _, _, Tryz.underlying45⟩ rfl (by kernel_rfl) rfl
def Tryz.tk46 : TK := ⟨false, 1, 8, [.d (.v (.int .u64 0))], .int .u64, false, false, false, []⟩
theorem Tryz.tok46 : TOk Tryz.prog 46 Tryz.tk46 := tok_mk (sz := 1) (bytes := 8) (z := .int .u64 0) (fun h => by cases h) (by kernel_rfl) Tryz.underlying46 Tryz.underlying46 rfl (by kernel_rfl) rfl
def Tryz.tk47 : TK := ⟨false, 1, 8, [.d (.v (.nilFunc))], .func, false, false, false, []⟩
theorem Tryz.tok47 : TOk Tryz.prog 47 Tryz.tk47 := tok_mk (sz := 1) (bytes := 8) (z := .nilFunc) (fun h => by cases h) (by kernel_rfl) Tryz.underlying47 ⟨_, _, _, Tryz.underlying47⟩ rfl (by kernel_rfl) rfl
def Tryz.tk48 : TK := ⟨false, 1, 8, [.d (.v (.nilFunc))], .func, false, false, false, []⟩
theorem Tryz.tok48 : TOk Tryz.prog 48 Tryz.tk48 := tok_mk (sz := 1) (bytes := 8) (z := .nilFunc) (fun h => by cases h) (by kernel_rfl) Tryz.underlying48 ⟨_, _, _, Tryz.underlying48⟩ rfl (by kernel_rfl) rfl
def Tryz.tk49 : TK := ⟨false, 1, 8, [.d (.v (.nilFunc))], .func, false, false, false, []⟩
theorem Tryz.tok49 : TOk Tryz.prog 49 Tryz.tk49 := tok_mk (sz := 1) (bytes := 8) (z := .nilFunc) (fun h => by cases h) (by kernel_rfl) Tryz.underlying49 ⟨_, _, _, Tryz.underlying49⟩ rfl (by kernel_rfl) rfl
def Tryz.tk51 : TK := ⟨false, 1, 8, [.d (.v (.nilFunc))], .func, false, false, false, []⟩
theorem Tryz.tok51 : TOk Tryz.prog 51 Tryz.tk51 := tok_mk (sz := 1) (bytes := 8) (z := .nilFunc) (fun h => by cases h) (by kernel_rfl) Tryz.underlying51 ⟨_, _, _, Tryz.underlying51⟩ rfl (by kernel_rfl) rfl
def Tryz.tk52 : TK := ⟨true, 2, 32, [.d (.v (.string ⟨#[]⟩)), .d (.v (.string ⟨#[]⟩))], .struct [(0, 9), (1, 9)], false, false, false, []⟩
theorem Tryz.tok52 : TOk Tryz.prog 52 Tryz.tk52 := tok_mk (sz := 2) (bytes := 32) (z := .agg #[.string ⟨#[]⟩, .string ⟨#[]⟩]) (fun h => by cases h) (by kernel_rfl) Tryz.underlying52 ⟨_, Tryz.underlying52, by kernel_rfl⟩ rfl (by kernel_rfl) rfl
def Tryz.tk53 : TK := ⟨true, 2, 32, [.d (.v (.string ⟨#[]⟩)), .d (.v (.string ⟨#[]⟩))], .struct [(0, 9), (1, 9)], true, false, false, []⟩
theorem Tryz.tok53 : TOk Tryz.prog 53 Tryz.tk53 := tok_mk (sz := 2) (bytes := 32) (z := .agg #[.string ⟨#[]⟩, .string ⟨#[]⟩]) (fun _ => by kernel_rfl) (by kernel_rfl) Tryz.underlying53 ⟨_, Tryz.underlying53, by kernel_rfl⟩ rfl (by kernel_rfl) rfl
def Tryz.tk54 : TK := ⟨false, 1, 8, [.d (.v (.nilFunc))], .func, false, false, false, []⟩
theorem Tryz.tok54 : TOk Tryz.prog 54 Tryz.tk54 := tok_mk (sz := 1) (bytes := 8) (z := .nilFunc) (fun h => by cases h) (by kernel_rfl) Tryz.underlying54 ⟨_, _, _, Tryz.underlying54⟩ rfl (by kernel_rfl) rfl
def Tryz.tk55 : TK := ⟨false, 1, 8, [.d (.v (.nilFunc))], .func, false, false, false, []⟩
theorem Tryz.tok55 : TOk Tryz.prog 55 Tryz.tk55 := tok_mk (sz := 1) (bytes := 8) (z := .nilFunc) (fun h => by cases h) (by kernel_rfl) Tryz.underlying55 ⟨_, _, _, Tryz.underlying55⟩ rfl (by kernel_rfl) rfl
def Tryz.tk57 : TK := ⟨false, 1, 8, [.d (.v (.nilFunc))], .func, false, false, false, []⟩
theorem Tryz.tok57 : TOk Tryz.prog 57 Tryz.tk57 := tok_mk (sz := 1) (bytes := 8) (z := .nilFunc) (fun h => by cases h) (by kernel_rfl) Tryz.underlying57 ⟨_, _, _, Tryz.underlying57⟩ rfl (by kernel_rfl) rfl
def Tryz.tk58 : TK := ⟨false, 1, 8, [.d (.v (.nilFunc))], .func, false, false, false, []⟩
theorem Tryz.tok58 : TOk Tryz.prog 58 Tryz.tk58 := tok_mk (sz := 1) (bytes := 8) (z := .nilFunc) (fun h => by cases h) (by kernel_rfl) Tryz.underlying58 ⟨_, _, _, Tryz.underlying58⟩ rfl (by kernel_rfl) rfl
def Tryz.tk59 : TK := ⟨false, 1, 24, [.nl], .slice 101, false, false, false, []⟩
theorem Tryz.tok59 : TOk Tryz.prog 59 Tryz.tk59 := tok_mk (sz := 1) (bytes := 24) (z := .slice none 0 0) (fun h => by cases h) (by kernel_rfl) Tryz.underlying59 Tryz.underlying59 rfl (by kernel_rfl) rfl
def Tryz.tk60 : TK := ⟨true, 4, 48, [.nl, .d (.v (.int .i64 0)), .d (.v (.bool false)), .d (.v (.int .i64 0))], .struct [(0, 59), (1, 3), (2, 4), (3, 28)], false, false, false, []⟩
theorem Tryz.tok60 : TOk Tryz.prog 60 Tryz.tk60 := tok_mk (sz := 4) (bytes := 48) (z := .agg #[.slice none 0 0, .int .i64 0, .bool false, .int .i64 0]) (fun h => by cases h) (by kernel_rfl) Tryz.underlying60 ⟨_, Tryz.underlying60, by kernel_rfl⟩ rfl (by kernel_rfl) rfl
def Tryz.tk61 : TK := ⟨true, 4, 48, [.nl, .d (.v (.int .i64 0)), .d (.v (.bool false)), .d (.v (.int .i64 0))], .struct [(0, 59), (1, 3), (2, 4), (3, 28)], false, false, false, []⟩
theorem Tryz.tok61 : TOk Tryz.prog 61 Tryz.tk61 := tok_mk (sz := 4) (bytes := 48) (z := .agg #[.slice none 0 0, .int .i64 0, .bool false, .int .i64 0]) (fun h => by cases h) (by kernel_rfl) Tryz.underlying61 ⟨_, Tryz.underlying61, by kernel_rfl⟩ rfl (by kernel_rfl) rfl
def Tryz.tk62 : TK := ⟨false, 1, 8, [.d (.v (.nilFunc))], .func, false, false, false, []⟩
theorem Tryz.tok62 : TOk Tryz.prog 62 Tryz.tk62 := tok_mk (sz := 1) (bytes := 8) (z := .nilFunc) (fun h => by cases h) (by kernel_rfl) Tryz.underlying62 ⟨_, _, _, Tryz.underlying62⟩ rfl (by kernel_rfl) rfl
def Tryz.tk63 : TK := ⟨false, 1, 8, [.d (.v (.nilFunc))], .func, false, false, false, []⟩
theorem Tryz.tok63 : TOk Tryz.prog 63 Tryz.tk63 := tok_mk (sz := 1) (bytes := 8) (z := .nilFunc) (fun h => by cases h) (by kernel_rfl) Tryz.underlying63 ⟨_, _, _, Tryz.underlying63⟩ rfl (by kernel_rfl) rfl
def Tryz.tk64 : TK := ⟨false, 1, 8, [.d (.v (.nilFunc))], .func, false, false, false, []⟩
theorem Tryz.tok64 : TOk Tryz.prog 64 Tryz.tk64 := tok_mk (sz := 1) (bytes := 8) (z := .nilFunc) (fun h => by cases h) (by kernel_rfl) Tryz.underlying64 ⟨_, _, _, Tryz.underlying64⟩ rfl (by kernel_rfl) rfl
def Tryz.tk65 : TK := ⟨false, 1, 8, [.d (.v (.pointer none))], .ptr 89, false, false, false, []⟩
theorem Tryz.tok65 : TOk Tryz.prog 65 Tryz.tk65 := tok_mk (sz := 1) (bytes := 8) (z := .pointer none) (fun h => by cases h) (by kernel_rfl) Tryz.underlying65 Tryz.underlying65 rfl (by kernel_rfl) rfl
def Tryz.tk66 : TK := ⟨false, 1, 8, [.d (.v (.nilFunc))], .func, false, false, false, []⟩
theorem Tryz.tok66 : TOk Tryz.prog 66 Tryz.tk66 := tok_mk (sz := 1) (bytes := 8) (z := .nilFunc) (fun h => by cases h) (by kernel_rfl) Tryz.underlying66 ⟨_, _, _, Tryz.underlying66⟩ rfl (by kernel_rfl) rfl
def Tryz.tk67 : TK := ⟨false, 1, 24, [.nl], .slice 39, false, false, false, []⟩
theorem Tryz.tok67 : TOk Tryz.prog 67 Tryz.tk67 := tok_mk (sz := 1) (bytes := 24) (z := .slice none 0 0) (fun h => by cases h) (by kernel_rfl) Tryz.underlying67 Tryz.underlying67 rfl (by kernel_rfl) rfl
def Tryz.tk69 : TK := ⟨false, 1, 8, [.d (.v (.nilFunc))], .func, false, false, false, []⟩
theorem Tryz.tok69 : TOk Tryz.prog 69 Tryz.tk69 := tok_mk (sz := 1) (bytes := 8) (z := .nilFunc) (fun h => by cases h) (by kernel_rfl) Tryz.underlying69 ⟨_, _, _, Tryz.underlying69⟩ rfl (by kernel_rfl) rfl
def Tryz.tk70 : TK := ⟨false, 1, 8, [.d (.v (.pointer none))], .ptr 73, false, false, false, []⟩
theorem Tryz.tok70 : TOk Tryz.prog 70 Tryz.tk70 := tok_mk (sz := 1) (bytes := 8) (z := .pointer none) (fun h => by cases h) (by kernel_rfl) Tryz.underlying70 Tryz.underlying70 rfl (by kernel_rfl) rfl
def Tryz.tk71 : TK := ⟨false, 1, 24, [.nl], .slice 5, false, false, false, []⟩
theorem Tryz.tok71 : TOk Tryz.prog 71 Tryz.tk71 := tok_mk (sz := 1) (bytes := 24) (z := .slice none 0 0) (fun h => by cases h) (by kernel_rfl) Tryz.underlying71 Tryz.underlying71 rfl (by kernel_rfl) rfl
def Tryz.tk72 : TK := ⟨true, 2, 32, [.d (.v (.pointer none)), .nl], .struct [(0, 70), (1, 71)], false, false, false, []⟩
theorem Tryz.tok72 : TOk Tryz.prog 72 Tryz.tk72 := tok_mk (sz := 2) (bytes := 32) (z := .agg #[.pointer none, .slice none 0 0]) (fun h => by cases h) (by kernel_rfl) Tryz.underlying72 ⟨_, Tryz.underlying72, by kernel_rfl⟩ rfl (by kernel_rfl) rfl
def Tryz.tk73 : TK := ⟨true, 2, 32, [.d (.v (.pointer none)), .nl], .struct [(0, 70), (1, 71)], false, false, false, []⟩
theorem Tryz.tok73 : TOk Tryz.prog 73 Tryz.tk73 := tok_mk (sz := 2) (bytes := 32) (z := .agg #[.pointer none, .slice none 0 0]) (fun h => by cases h) (by kernel_rfl) Tryz.underlying73 ⟨_, Tryz.underlying73, by kernel_rfl⟩ rfl (by kernel_rfl) rfl
def Tryz.tk74 : TK := ⟨false, 1, 8, [.d (.v (.nilFunc))], .func, false, false, false, []⟩
theorem Tryz.tok74 : TOk Tryz.prog 74 Tryz.tk74 := tok_mk (sz := 1) (bytes := 8) (z := .nilFunc) (fun h => by cases h) (by kernel_rfl) Tryz.underlying74 ⟨_, _, _, Tryz.underlying74⟩ rfl (by kernel_rfl) rfl
def Tryz.tk78 : TK := ⟨false, 1, 8, [.d (.v (.nilFunc))], .func, false, false, false, []⟩
theorem Tryz.tok78 : TOk Tryz.prog 78 Tryz.tk78 := tok_mk (sz := 1) (bytes := 8) (z := .nilFunc) (fun h => by cases h) (by kernel_rfl) Tryz.underlying78 ⟨_, _, _, Tryz.underlying78⟩ rfl (by kernel_rfl) rfl
def Tryz.tk79 : TK := ⟨false, 1, 8, [.d (.v (.nilFunc))], .func, false, false, false, []⟩
theorem Tryz.tok79 : TOk Tryz.prog 79 Tryz.tk79 := tok_mk (sz := 1) (bytes := 8) (z := .nilFunc) (fun h => by cases h) (by kernel_rfl) Tryz.underlying79 ⟨_, _, _, Tryz.underlying79⟩ rfl (by kernel_rfl) rfl
def Tryz.tk80 : TK := ⟨false, 1, 8, [.d (.v (.nilFunc))], .func, false, false, false, []⟩
theorem Tryz.tok80 : TOk Tryz.prog 80 Tryz.tk80 := tok_mk (sz := 1) (bytes := 8) (z := .nilFunc) (fun h => by cases h) (by kernel_rfl) Tryz.underlying80 ⟨_, _, _, Tryz.underlying80⟩ rfl (by kernel_rfl) rfl
def Tryz.tk81 : TK := ⟨false, 1, 8, [.d (.v (.nilFunc))], .func, false, false, false, []⟩
theorem Tryz.tok81 : TOk Tryz.prog 81 Tryz.tk81 := tok_mk (sz := 1) (bytes := 8) (z := .nilFunc) (fun h => by cases h) (by kernel_rfl) Tryz.underlying81 ⟨_, _, _, Tryz.underlying81⟩ rfl (by kernel_rfl) rfl
def Tryz.tk82 : TK := ⟨false, 1, 8, [.d (.v (.nilFunc))], .func, false, false, false, []⟩
theorem Tryz.tok82 : TOk Tryz.prog 82 Tryz.tk82 := tok_mk (sz := 1) (bytes := 8) (z := .nilFunc) (fun h => by cases h) (by kernel_rfl) Tryz.underlying82 ⟨_, _, _, Tryz.underlying82⟩ rfl (by kernel_rfl) rfl
def Tryz.tk83 : TK := ⟨false, 1, 8, [.d (.v (.nilFunc))], .func, false, false, false, []⟩
theorem Tryz.tok83 : TOk Tryz.prog 83 Tryz.tk83 := tok_mk (sz := 1) (bytes := 8) (z := .nilFunc) (fun h => by cases h) (by kernel_rfl) Tryz.underlying83 ⟨_, _, _, Tryz.underlying83⟩ rfl (by kernel_rfl) rfl
def Tryz.tk84 : TK := ⟨false, 1, 8, [.d (.v (.nilFunc))], .func, false, false, false, []⟩
theorem Tryz.tok84 : TOk Tryz.prog 84 Tryz.tk84 := tok_mk (sz := 1) (bytes := 8) (z := .nilFunc) (fun h => by cases h) (by kernel_rfl) Tryz.underlying84 ⟨_, _, _, Tryz.underlying84⟩ rfl (by kernel_rfl) rfl
def Tryz.tk85 : TK := ⟨false, 1, 8, [.d (.v (.nilFunc))], .func, false, false, false, []⟩
theorem Tryz.tok85 : TOk Tryz.prog 85 Tryz.tk85 := tok_mk (sz := 1) (bytes := 8) (z := .nilFunc) (fun h => by cases h) (by kernel_rfl) Tryz.underlying85 ⟨_, _, _, Tryz.underlying85⟩ rfl (by kernel_rfl) rfl
def Tryz.tk86 : TK := ⟨false, 1, 8, [.d (.v (.nilFunc))], .func, false, false, false, []⟩
theorem Tryz.tok86 : TOk Tryz.prog 86 Tryz.tk86 := tok_mk (sz := 1) (bytes := 8) (z := .nilFunc) (fun h => by cases h) (by kernel_rfl) Tryz.underlying86 ⟨_, _, _, Tryz.underlying86⟩ rfl (by kernel_rfl) rfl
def Tryz.tk87 : TK := ⟨false, 1, 8, [.d (.v (.nilFunc))], .func, false, false, false, []⟩
theorem Tryz.tok87 : TOk Tryz.prog 87 Tryz.tk87 := tok_mk (sz := 1) (bytes := 8) (z := .nilFunc) (fun h => by cases h) (by kernel_rfl) Tryz.underlying87 ⟨_, _, _, Tryz.underlying87⟩ rfl (by kernel_rfl) rfl
def Tryz.tk88 : TK := ⟨true, 3, 40, [.nl, .d (.v (.bool false)), .d (.v (.int .i64 0))], .struct [(0, 71), (1, 4), (2, 28)], false, false, false, []⟩
theorem Tryz.tok88 : TOk Tryz.prog 88 Tryz.tk88 := tok_mk (sz := 3) (bytes := 40) (z := .agg #[.slice none 0 0, .bool false, .int .i64 0]) (fun h => by cases h) (by kernel_rfl) Tryz.underlying88 ⟨_, Tryz.underlying88, by kernel_rfl⟩ rfl (by kernel_rfl) rfl
def Tryz.tk89 : TK := ⟨true, 3, 40, [.nl, .d (.v (.bool false)), .d (.v (.int .i64 0))], .struct [(0, 71), (1, 4), (2, 28)], false, false, false, []⟩
theorem Tryz.tok89 : TOk Tryz.prog 89 Tryz.tk89 := tok_mk (sz := 3) (bytes := 40) (z := .agg #[.slice none 0 0, .bool false, .int .i64 0]) (fun h => by cases h) (by kernel_rfl) Tryz.underlying89 ⟨_, Tryz.underlying89, by kernel_rfl⟩ rfl (by kernel_rfl) rfl
def Tryz.tk90 : TK := ⟨false, 1, 8, [.d (.v (.nilFunc))], .func, false, false, false, []⟩
theorem Tryz.tok90 : TOk Tryz.prog 90 Tryz.tk90 := tok_mk (sz := 1) (bytes := 8) (z := .nilFunc) (fun h => by cases h) (by kernel_rfl) Tryz.underlying90 ⟨_, _, _, Tryz.underlying90⟩ rfl (by kernel_rfl) rfl
def Tryz.tk91 : TK := ⟨false, 1, 8, [.d (.v (.nilFunc))], .func, false, false, false, []⟩
theorem Tryz.tok91 : TOk Tryz.prog 91 Tryz.tk91 := tok_mk (sz := 1) (bytes := 8) (z := .nilFunc) (fun h => by cases h) (by kernel_rfl) Tryz.underlying91 ⟨_, _, _, Tryz.underlying91⟩ rfl (by kernel_rfl) rfl
def Tryz.tk92 : TK := ⟨false, 1, 8, [.d (.v (.pointer none))], .ptr 125, false, false, false, []⟩
theorem Tryz.tok92 : TOk Tryz.prog 92 Tryz.tk92 := tok_mk (sz := 1) (bytes := 8) (z := .pointer none) (fun h => by cases h) (by kernel_rfl) Tryz.underlying92 Tryz.underlying92 rfl (by kernel_rfl) rfl
def Tryz.tk93 : TK := ⟨false, 1, 8, [.d (.v (.nilFunc))], .func, false, false, false, []⟩
theorem Tryz.tok93 : TOk Tryz.prog 93 Tryz.tk93 := tok_mk (sz := 1) (bytes := 8) (z := .nilFunc) (fun h => by cases h) (by kernel_rfl) Tryz.underlying93 ⟨_, _, _, Tryz.underlying93⟩ rfl (by kernel_rfl) rfl
def Tryz.tk94 : TK := ⟨false, 1, 8, [.d (.v (.nilFunc))], .func, false, false, false, []⟩
theorem Tryz.tok94 : TOk Tryz.prog 94 Tryz.tk94 := tok_mk (sz := 1) (bytes := 8) (z := .nilFunc) (fun h => by cases h) (by kernel_rfl) Tryz.underlying94 ⟨_, _, _, Tryz.underlying94⟩ rfl (by kernel_rfl) rfl
def Tryz.tk95 : TK := ⟨false, 1, 8, [.d (.v (.pointer none))], .ptr 5, false, false, false, []⟩
theorem Tryz.tok95 : TOk Tryz.prog 95 Tryz.tk95 := tok_mk (sz := 1) (bytes := 8) (z := .pointer none) (fun h => by cases h) (by kernel_rfl) Tryz.underlying95 Tryz.underlying95 rfl (by kernel_rfl) rfl
def Tryz.tk96 : TK := ⟨true, 2, 32, [.d (.v (.string ⟨#[]⟩)), .d (.v (.string ⟨#[]⟩))], .array 2 9, false, false, false, []⟩
theorem Tryz.tok96 : TOk Tryz.prog 96 Tryz.tk96 := tok_mk (sz := 2) (bytes := 32) (z := .agg #[.string ⟨#[]⟩, .string ⟨#[]⟩]) (fun h => by cases h) (by kernel_rfl) Tryz.underlying96 Tryz.underlying96 rfl (by kernel_rfl) rfl
def Tryz.tk97 : TK := ⟨true, 10, 160, [.d (.v (.string ⟨#[]⟩)), .d (.v (.string ⟨#[]⟩)), .d (.v (.string ⟨#[]⟩)), .d (.v (.string ⟨#[]⟩)), .d (.v (.string ⟨#[]⟩)), .d (.v (.string ⟨#[]⟩)), .d (.v (.string ⟨#[]⟩)), .d (.v (.string ⟨#[]⟩)), .d (.v (.string ⟨#[]⟩)), .d (.v (.string ⟨#[]⟩))], .array 5 96, false, false, false, []⟩
theorem Tryz.tok97 : TOk Tryz.prog 97 Tryz.tk97 := tok_mk (sz := 10) (bytes := 160) (z := .agg #[.string ⟨#[]⟩, .string ⟨#[]⟩, .string ⟨#[]⟩, .string ⟨#[]⟩, .string ⟨#[]⟩, .string ⟨#[]⟩, .string ⟨#[]⟩, .string ⟨#[]⟩, .string ⟨#[]⟩, .string ⟨#[]⟩]) (fun h => by cases h) (by kernel_rfl) Tryz.underlying97 Tryz.underlying97 rfl (by kernel_rfl) rfl
def Tryz.tk98 : TK := ⟨false, 1, 8, [.d (.v (.nilFunc))], .func, false, false, false, []⟩
theorem Tryz.tok98 : TOk Tryz.prog 98 Tryz.tk98 := tok_mk (sz := 1) (bytes := 8) (z := .nilFunc) (fun h => by cases h) (by kernel_rfl) Tryz.underlying98 ⟨_, _, _, Tryz.underlying98⟩ rfl (by kernel_rfl) rfl
def Tryz.tk99 : TK := ⟨false, 1, 8, [.d (.v (.map none))], .map 9 4, false, false, false, []⟩
theorem Tryz.tok99 : TOk Tryz.prog 99 Tryz.tk99 := tok_mk (sz := 1) (bytes := 8) (z := .map none) (fun h => by cases h) (by kernel_rfl) Tryz.underlying99 Tryz.underlying99 rfl (by kernel_rfl) rfl
def Tryz.tk100 : TK := ⟨false, 1, 8, [.d (.v (.nilFunc))], .func, false, false, false, []⟩
theorem Tryz.tok100 : TOk Tryz.prog 100 Tryz.tk100 := tok_mk (sz := 1) (bytes := 8) (z := .nilFunc) (fun h => by cases h) (by kernel_rfl) Tryz.underlying100 ⟨_, _, _, Tryz.underlying100⟩ rfl (by kernel_rfl) rfl
def Tryz.tk101 : TK := ⟨false, 1, 8, [.d (.v (.pointer none))], .ptr 32, false, false, false, []⟩
theorem Tryz.tok101 : TOk Tryz.prog 101 Tryz.tk101 := tok_mk (sz := 1) (bytes := 8) (z := .pointer none) (fun h => by cases h) (by kernel_rfl) Tryz.underlying101 Tryz.underlying101 rfl (by kernel_rfl) rfl
def Tryz.tk102 : TK := ⟨false, 1, 8, [.d (.v (.nilFunc))], .func, false, false, false, []⟩
theorem Tryz.tok102 : TOk Tryz.prog 102 Tryz.tk102 := tok_mk (sz := 1) (bytes := 8) (z := .nilFunc) (fun h => by cases h) (by kernel_rfl) Tryz.underlying102 ⟨_, _, _, Tryz.underlying102⟩ rfl (by kernel_rfl) rfl
def Tryz.tk103 : TK := ⟨false, 1, 8, [.d (.v (.nilFunc))], .func, false, false, false, []⟩
theorem Tryz.tok103 : TOk Tryz.prog 103 Tryz.tk103 := tok_mk (sz := 1) (bytes := 8) (z := .nilFunc) (fun h => by cases h) (by kernel_rfl) Tryz.underlying103 ⟨_, _, _, Tryz.underlying103⟩ rfl (by kernel_rfl) rfl
def Tryz.tk104 : TK := ⟨false, 1, 8, [.d (.v (.nilFunc))], .func, false, false, false, []⟩
theorem Tryz.tok104 : TOk Tryz.prog 104 Tryz.tk104 := tok_mk (sz := 1) (bytes := 8) (z := .nilFunc) (fun h => by cases h) (by kernel_rfl) Tryz.underlying104 ⟨_, _, _, Tryz.underlying104⟩ rfl (by kernel_rfl) rfl
def Tryz.tk106 : TK := ⟨false, 1, 8, [.d (.v (.nilFunc))], .func, false, false, false, []⟩
theorem Tryz.tok106 : TOk Tryz.prog 106 Tryz.tk106 := tok_mk (sz := 1) (bytes := 8) (z := .nilFunc) (fun h => by cases h) (by kernel_rfl) Tryz.underlying106 ⟨_, _, _, Tryz.underlying106⟩ rfl (by kernel_rfl) rfl
def Tryz.tk107 : TK := ⟨false, 1, 8, [.d (.v (.nilFunc))], .func, false, false, false, []⟩
theorem Tryz.tok107 : TOk Tryz.prog 107 Tryz.tk107 := tok_mk (sz := 1) (bytes := 8) (z := .nilFunc) (fun h => by cases h) (by kernel_rfl) Tryz.underlying107 ⟨_, _, _, Tryz.underlying107⟩ rfl (by kernel_rfl) rfl
def Tryz.tk108 : TK := ⟨false, 1, 8, [.d (.v (.nilFunc))], .func, false, false, false, []⟩
theorem Tryz.tok108 : TOk Tryz.prog 108 Tryz.tk108 := tok_mk (sz := 1) (bytes := 8) (z := .nilFunc) (fun h => by cases h) (by kernel_rfl) Tryz.underlying108 ⟨_, _, _, Tryz.underlying108⟩ rfl (by kernel_rfl) rfl
def Tryz.tk112 : TK := ⟨false, 1, 4, [.d (.v (.int .u32 0))], .int .u32, false, false, false, []⟩
theorem Tryz.tok112 : TOk Tryz.prog 112 Tryz.tk112 := tok_mk (sz := 1) (bytes := 4) (z := .int .u32 0) (fun h => by cases h) (by kernel_rfl) Tryz.underlying112 Tryz.underlying112 rfl (by kernel_rfl) rfl
def Tryz.tk113 : TK := ⟨true, 1, 4, [.d (.v (.int .u32 0))], .struct [(0, 111), (0, 112)], false, false, false, []⟩
theorem Tryz.tok113 : TOk Tryz.prog 113 Tryz.tk113 := tok_mk (sz := 1) (bytes := 4) (z := .agg #[.int .u32 0]) (fun h => by cases h) (by kernel_rfl) Tryz.underlying113 ⟨_, Tryz.underlying113, by kernel_rfl⟩ rfl (by kernel_rfl) rfl
def Tryz.tk114 : TK := ⟨true, 1, 4, [.d (.v (.int .u32 0))], .struct [(0, 111), (0, 112)], false, false, false, []⟩
theorem Tryz.tok114 : TOk Tryz.prog 114 Tryz.tk114 := tok_mk (sz := 1) (bytes := 4) (z := .agg #[.int .u32 0]) (fun h => by cases h) (by kernel_rfl) Tryz.underlying114 ⟨_, Tryz.underlying114, by kernel_rfl⟩ rfl (by kernel_rfl) rfl
def Tryz.tk115 : TK := ⟨true, 2, 8, [.d (.v (.int .i32 0)), .d (.v (.int .u32 0))], .struct [(0, 21), (1, 112)], false, false, false, []⟩
theorem Tryz.tok115 : TOk Tryz.prog 115 Tryz.tk115 := tok_mk (sz := 2) (bytes := 8) (z := .agg #[.int .i32 0, .int .u32 0]) (fun h => by cases h) (by kernel_rfl) Tryz.underlying115 ⟨_, Tryz.underlying115, by kernel_rfl⟩ rfl (by kernel_rfl) rfl
def Tryz.tk116 : TK := ⟨true, 2, 8, [.d (.v (.int .i32 0)), .d (.v (.int .u32 0))], .struct [(0, 21), (1, 112)], false, false, false, []⟩
theorem Tryz.tok116 : TOk Tryz.prog 116 Tryz.tk116 := tok_mk (sz := 2) (bytes := 8) (z := .agg #[.int .i32 0, .int .u32 0]) (fun h => by cases h) (by kernel_rfl) Tryz.underlying116 ⟨_, Tryz.underlying116, by kernel_rfl⟩ rfl (by kernel_rfl) rfl
def Tryz.tk117 : TK := ⟨true, 2, 8, [.d (.v (.int .i32 0)), .d (.v (.int .u32 0))], .struct [(0, 110), (0, 116)], false, false, false, []⟩
theorem Tryz.tok117 : TOk Tryz.prog 117 Tryz.tk117 := tok_mk (sz := 2) (bytes := 8) (z := .agg #[.int .i32 0, .int .u32 0]) (fun h => by cases h) (by kernel_rfl) Tryz.underlying117 ⟨_, Tryz.underlying117, by kernel_rfl⟩ rfl (by kernel_rfl) rfl
def Tryz.tk118 : TK := ⟨true, 2, 8, [.d (.v (.int .i32 0)), .d (.v (.int .u32 0))], .struct [(0, 110), (0, 116)], false, false, false, []⟩
theorem Tryz.tok118 : TOk Tryz.prog 118 Tryz.tk118 := tok_mk (sz := 2) (bytes := 8) (z := .agg #[.int .i32 0, .int .u32 0]) (fun h => by cases h) (by kernel_rfl) Tryz.underlying118 ⟨_, Tryz.underlying118, by kernel_rfl⟩ rfl (by kernel_rfl) rfl
def Tryz.tk119 : TK := ⟨true, 3, 12, [.d (.v (.int .u32 0)), .d (.v (.int .i32 0)), .d (.v (.int .u32 0))], .struct [(0, 110), (0, 114), (1, 118)], false, false, false, []⟩
theorem Tryz.tok119 : TOk Tryz.prog 119 Tryz.tk119 := tok_mk (sz := 3) (bytes := 12) (z := .agg #[.int .u32 0, .int .i32 0, .int .u32 0]) (fun h => by cases h) (by kernel_rfl) Tryz.underlying119 ⟨_, Tryz.underlying119, by kernel_rfl⟩ rfl (by kernel_rfl) rfl
def Tryz.tk120 : TK := ⟨true, 3, 12, [.d (.v (.int .u32 0)), .d (.v (.int .i32 0)), .d (.v (.int .u32 0))], .struct [(0, 110), (0, 114), (1, 118)], false, false, false, []⟩
theorem Tryz.tok120 : TOk Tryz.prog 120 Tryz.tk120 := tok_mk (sz := 3) (bytes := 12) (z := .agg #[.int .u32 0, .int .i32 0, .int .u32 0]) (fun h => by cases h) (by kernel_rfl) Tryz.underlying120 ⟨_, Tryz.underlying120, by kernel_rfl⟩ rfl (by kernel_rfl) rfl
def Tryz.tk123 : TK := ⟨false, 1, 24, [.nl], .slice 9, false, false, false, []⟩
theorem Tryz.tok123 : TOk Tryz.prog 123 Tryz.tk123 := tok_mk (sz := 1) (bytes := 24) (z := .slice none 0 0) (fun h => by cases h) (by kernel_rfl) Tryz.underlying123 Tryz.underlying123 rfl (by kernel_rfl) rfl
def Tryz.tk124 : TK := ⟨true, 5, 56, [.d (.v (.int .u32 0)), .d (.v (.int .i32 0)), .d (.v (.int .u32 0)), .d (.v (.nilIface)), .nl], .struct [(0, 120), (3, 122), (4, 123)], false, false, false, []⟩
theorem Tryz.tok124 : TOk Tryz.prog 124 Tryz.tk124 := tok_mk (sz := 5) (bytes := 56) (z := .agg #[.int .u32 0, .int .i32 0, .int .u32 0, .nilIface, .slice none 0 0]) (fun h => by cases h) (by kernel_rfl) Tryz.underlying124 ⟨_, Tryz.underlying124, by kernel_rfl⟩ rfl (by kernel_rfl) rfl
def Tryz.tk125 : TK := ⟨true, 5, 56, [.d (.v (.int .u32 0)), .d (.v (.int .i32 0)), .d (.v (.int .u32 0)), .d (.v (.nilIface)), .nl], .struct [(0, 120), (3, 122), (4, 123)], false, false, false, []⟩
theorem Tryz.tok125 : TOk Tryz.prog 125 Tryz.tk125 := tok_mk (sz := 5) (bytes := 56) (z := .agg #[.int .u32 0, .int .i32 0, .int .u32 0, .nilIface, .slice none 0 0]) (fun h => by cases h) (by kernel_rfl) Tryz.underlying125 ⟨_, Tryz.underlying125, by kernel_rfl⟩ rfl (by kernel_rfl) rfl
def Tryz.tk126 : TK := ⟨false, 1, 8, [.d (.v (.nilFunc))], .func, false, false, false, []⟩
theorem Tryz.tok126 : TOk Tryz.prog 126 Tryz.tk126 := tok_mk (sz := 1) (bytes := 8) (z := .nilFunc) (fun h => by cases h) (by kernel_rfl) Tryz.underlying126 ⟨_, _, _, Tryz.underlying126⟩ rfl (by kernel_rfl) rfl
def Tryz.tk128 : TK := ⟨false, 1, 8, [.d (.v (.nilFunc))], .func, false, false, false, []⟩
theorem Tryz.tok128 : TOk Tryz.prog 128 Tryz.tk128 := tok_mk (sz := 1) (bytes := 8) (z := .nilFunc) (fun h => by cases h) (by kernel_rfl) Tryz.underlying128 ⟨_, _, _, Tryz.underlying128⟩ rfl (by kernel_rfl) rfl
def Tryz.tk129 : TK := ⟨false, 1, 8, [.d (.v (.nilFunc))], .func, false, false, false, []⟩
theorem Tryz.tok129 : TOk Tryz.prog 129 Tryz.tk129 := tok_mk (sz := 1) (bytes := 8) (z := .nilFunc) (fun h => by cases h) (by kernel_rfl) Tryz.underlying129 ⟨_, _, _, Tryz.underlying129⟩ rfl (by kernel_rfl) rfl
def Tryz.tk133 : TK := ⟨false, 1, 8, [.d (.v (.nilFunc))], .func, false, false, false, []⟩
theorem Tryz.tok133 : TOk Tryz.prog 133 Tryz.tk133 := tok_mk (sz := 1) (bytes := 8) (z := .nilFunc) (fun h => by cases h) (by kernel_rfl) Tryz.underlying133 ⟨_, _, _, Tryz.underlying133⟩ rfl (by kernel_rfl) rfl
def Tryz.tk134 : TK := ⟨false, 1, 8, [.d (.v (.nilFunc))], .func, false, false, false, []⟩
theorem Tryz.tok134 : TOk Tryz.prog 134 Tryz.tk134 := tok_mk (sz := 1) (bytes := 8) (z := .nilFunc) (fun h => by cases h) (by kernel_rfl) Tryz.underlying134 ⟨_, _, _, Tryz.underlying134⟩ rfl (by kernel_rfl) rfl
def Tryz.tk135 : TK := ⟨false, 1, 8, [.d (.v (.pointer none))], .ptr 131, false, false, false, []⟩
theorem Tryz.tok135 : TOk Tryz.prog 135 Tryz.tk135 := tok_mk (sz := 1) (bytes := 8) (z := .pointer none) (fun h => by cases h) (by kernel_rfl) Tryz.underlying135 Tryz.underlying135 rfl (by kernel_rfl) rfl
def Tryz.tk136 : TK := ⟨false, 1, 8, [.d (.v (.nilFunc))], .func, false, false, false, []⟩
theorem Tryz.tok136 : TOk Tryz.prog 136 Tryz.tk136 := tok_mk (sz := 1) (bytes := 8) (z := .nilFunc) (fun h => by cases h) (by kernel_rfl) Tryz.underlying136 ⟨_, _, _, Tryz.underlying136⟩ rfl (by kernel_rfl) rfl
def Tryz.tk137 : TK := ⟨false, 1, 8, [.d (.v (.nilFunc))], .func, false, false, false, []⟩
theorem Tryz.tok137 : TOk Tryz.prog 137 Tryz.tk137 := tok_mk (sz := 1) (bytes := 8) (z := .nilFunc) (fun h => by cases h) (by kernel_rfl) Tryz.underlying137 ⟨_, _, _, Tryz.underlying137⟩ rfl (by kernel_rfl) rfl
def Tryz.tk139 : TK := ⟨true, 2, 2, [.d (.v (.int .u8 0)), .d (.v (.int .u8 0))], .struct [(0, 5), (1, 5)], false, false, false, []⟩
theorem Tryz.tok139 : TOk Tryz.prog 139 Tryz.tk139 := tok_mk (sz := 2) (bytes := 2) (z := .agg #[.int .u8 0, .int .u8 0]) (fun h => by cases h) (by kernel_rfl) Tryz.underlying139 ⟨_, Tryz.underlying139, by kernel_rfl⟩ rfl (by kernel_rfl) rfl
def Tryz.tk140 : TK := ⟨true, 2, 2, [.d (.v (.int .u8 0)), .d (.v (.int .u8 0))], .struct [(0, 5), (1, 5)], false, false, false, []⟩
theorem Tryz.tok140 : TOk Tryz.prog 140 Tryz.tk140 := tok_mk (sz := 2) (bytes := 2) (z := .agg #[.int .u8 0, .int .u8 0]) (fun h => by cases h) (by kernel_rfl) Tryz.underlying140 ⟨_, Tryz.underlying140, by kernel_rfl⟩ rfl (by kernel_rfl) rfl
def Tryz.tk141 : TK := ⟨true, 32, 32, [.d (.v (.int .u8 0)), .d (.v (.int .u8 0)), .d (.v (.int .u8 0)), .d (.v (.int .u8 0)), .d (.v (.int .u8 0)), .d (.v (.int .u8 0)), .d (.v (.int .u8 0)), .d (.v (.int .u8 0)), .d (.v (.int .u8 0)), .d (.v (.int .u8 0)), .d (.v (.int .u8 0)), .d (.v (.int .u8 0)), .d (.v (.int .u8 0)), .d (.v (.int .u8 0)), .d (.v (.int .u8 0)), .d (.v (.int .u8 0)), .d (.v (.int .u8 0)), .d (.v (.int .u8 0)), .d (.v (.int .u8 0)), .d (.v (.int .u8 0)), .d (.v (.int .u8 0)), .d (.v (.int .u8 0)), .d (.v (.int .u8 0)), .d (.v (.int .u8 0)), .d (.v (.int .u8 0)), .d (.v (.int .u8 0)), .d (.v (.int .u8 0)), .d (.v (.int .u8 0)), .d (.v (.int .u8 0)), .d (.v (.int .u8 0)), .d (.v (.int .u8 0)), .d (.v (.int .u8 0))], .array 16 140, false, false, false, []⟩
theorem Tryz.tok141 : TOk Tryz.prog 141 Tryz.tk141 := tok_mk (sz := 32) (bytes := 32) (z := .agg #[.int .u8 0, .int .u8 0, .int .u8 0, .int .u8 0, .int .u8 0, .int .u8 0, .int .u8 0, .int .u8 0, .int .u8 0, .int .u8 0, .int .u8 0, .int .u8 0, .int .u8 0, .int .u8 0, .int .u8 0, .int .u8 0, .int .u8 0, .int .u8 0, .int .u8 0, .int .u8 0, .int .u8 0, .int .u8 0, .int .u8 0, .int .u8 0, .int .u8 0, .int .u8 0, .int .u8 0, .int .u8 0, .int .u8 0, .int .u8 0, .int .u8 0, .int .u8 0]) (fun h => by cases h) (by kernel_rfl) Tryz.underlying141 Tryz.underlying141 rfl (by kernel_rfl) rfl
def Tryz.tk142 : TK := ⟨false, 1, 8, [.d (.v (.pointer none))], .ptr 120, false, false, false, []⟩
theorem Tryz.tok142 : TOk Tryz.prog 142 Tryz.tk142 := tok_mk (sz := 1) (bytes := 8) (z := .pointer none) (fun h => by cases h) (by kernel_rfl) Tryz.underlying142 Tryz.underlying142 rfl (by kernel_rfl) rfl
def Tryz.tk143 : TK := ⟨false, 1, 8, [.d (.v (.nilFunc))], .func, false, false, false, []⟩
theorem Tryz.tok143 : TOk Tryz.prog 143 Tryz.tk143 := tok_mk (sz := 1) (bytes := 8) (z := .nilFunc) (fun h => by cases h) (by kernel_rfl) Tryz.underlying143 ⟨_, _, _, Tryz.underlying143⟩ rfl (by kernel_rfl) rfl
def Tryz.tk144 : TK := ⟨false, 1, 8, [.d (.v (.nilFunc))], .func, false, false, false, []⟩
theorem Tryz.tok144 : TOk Tryz.prog 144 Tryz.tk144 := tok_mk (sz := 1) (bytes := 8) (z := .nilFunc) (fun h => by cases h) (by kernel_rfl) Tryz.underlying144 ⟨_, _, _, Tryz.underlying144⟩ rfl (by kernel_rfl) rfl
def Tryz.tk146 : TK := ⟨false, 1, 8, [.d (.v (.nilFunc))], .func, false, false, false, []⟩
theorem Tryz.tok146 : TOk Tryz.prog 146 Tryz.tk146 := tok_mk (sz := 1) (bytes := 8) (z := .nilFunc) (fun h => by cases h) (by kernel_rfl) Tryz.underlying146 ⟨_, _, _, Tryz.underlying146⟩ rfl (by kernel_rfl) rfl
def Tryz.tk147 : TK := ⟨false, 1, 8, [.d (.v (.nilFunc))], .func, false, false, false, []⟩
theorem Tryz.tok147 : TOk Tryz.prog 147 Tryz.tk147 := tok_mk (sz := 1) (bytes := 8) (z := .nilFunc) (fun h => by cases h) (by kernel_rfl) Tryz.underlying147 ⟨_, _, _, Tryz.underlying147⟩ rfl (by kernel_rfl) rfl
def Tryz.tk148 : TK := ⟨false, 1, 8, [.d (.v (.nilFunc))], .func, false, false, false, []⟩
theorem Tryz.tok148 : TOk Tryz.prog 148 Tryz.tk148 := tok_mk (sz := 1) (bytes := 8) (z := .nilFunc) (fun h => by cases h) (by kernel_rfl) Tryz.underlying148 ⟨_, _, _, Tryz.underlying148⟩ rfl (by kernel_rfl) rfl
def Tryz.tk150 : TK := ⟨false, 1, 8, [.d (.v (.nilFunc))], .func, false, false, false, []⟩
theorem Tryz.tok150 : TOk Tryz.prog 150 Tryz.tk150 := tok_mk (sz := 1) (bytes := 8) (z := .nilFunc) (fun h => by cases h) (by kernel_rfl) Tryz.underlying150 ⟨_, _, _, Tryz.underlying150⟩ rfl (by kernel_rfl) rfl
def Tryz.tk151 : TK := ⟨false, 1, 8, [.d (.v (.nilFunc))], .func, false, false, false, []⟩
theorem Tryz.tok151 : TOk Tryz.prog 151 Tryz.tk151 := tok_mk (sz := 1) (bytes := 8) (z := .nilFunc) (fun h => by cases h) (by kernel_rfl) Tryz.underlying151 ⟨_, _, _, Tryz.underlying151⟩ rfl (by kernel_rfl) rfl
def Tryz.tk152 : TK := ⟨false, 1, 8, [.d (.v (.nilFunc))], .func, false, false, false, []⟩
theorem Tryz.tok152 : TOk Tryz.prog 152 Tryz.tk152 := tok_mk (sz := 1) (bytes := 8) (z := .nilFunc) (fun h => by cases h) (by kernel_rfl) Tryz.underlying152 ⟨_, _, _, Tryz.underlying152⟩ rfl (by kernel_rfl) rfl
def Tryz.tk154 : TK := ⟨false, 1, 8, [.d (.v (.nilFunc))], .func, false, false, false, []⟩
theorem Tryz.tok154 : TOk Tryz.prog 154 Tryz.tk154 := tok_mk (sz := 1) (bytes := 8) (z := .nilFunc) (fun h => by cases h) (by kernel_rfl) Tryz.underlying154 ⟨_, _, _, Tryz.underlying154⟩ rfl (by kernel_rfl) rfl
def Tryz.tk155 : TK := ⟨false, 1, 8, [.d (.v (.nilFunc))], .func, false, false, false, []⟩
theorem Tryz.tok155 : TOk Tryz.prog 155 Tryz.tk155 := tok_mk (sz := 1) (bytes := 8) (z := .nilFunc) (fun h => by cases h) (by kernel_rfl) Tryz.underlying155 ⟨_, _, _, Tryz.underlying155⟩ rfl (by kernel_rfl) rfl
def Tryz.tk156 : TK := ⟨false, 1, 8, [.d (.v (.int .u64 0))], .int .u64, false, false, false, []⟩
theorem Tryz.tok156 : TOk Tryz.prog 156 Tryz.tk156 := tok_mk (sz := 1) (bytes := 8) (z := .int .u64 0) (fun h => by cases h) (by kernel_rfl) Tryz.underlying156 Tryz.underlying156 rfl (by kernel_rfl) rfl
def Tryz.tk157 : TK := ⟨false, 1, 8, [.d (.v (.pointer none))], .ptr 114, false, false, false, []⟩
theorem Tryz.tok157 : TOk Tryz.prog 157 Tryz.tk157 := tok_mk (sz := 1) (bytes := 8) (z := .pointer none) (fun h => by cases h) (by kernel_rfl) Tryz.underlying157 Tryz.underlying157 rfl (by kernel_rfl) rfl
def Tryz.tk158 : TK := ⟨false, 1, 8, [.d (.v (.nilFunc))], .func, false, false, false, []⟩
theorem Tryz.tok158 : TOk Tryz.prog 158 Tryz.tk158 := tok_mk (sz := 1) (bytes := 8) (z := .nilFunc) (fun h => by cases h) (by kernel_rfl) Tryz.underlying158 ⟨_, _, _, Tryz.underlying158⟩ rfl (by kernel_rfl) rfl
def Tryz.tk159 : TK := ⟨false, 1, 8, [.d (.v (.pointer none))], .ptr 112, false, false, false, []⟩
theorem Tryz.tok159 : TOk Tryz.prog 159 Tryz.tk159 := tok_mk (sz := 1) (bytes := 8) (z := .pointer none) (fun h => by cases h) (by kernel_rfl) Tryz.underlying159 Tryz.underlying159 rfl (by kernel_rfl) rfl
def Tryz.tk160 : TK := ⟨false, 1, 8, [.d (.v (.nilFunc))], .func, false, false, false, []⟩
theorem Tryz.tok160 : TOk Tryz.prog 160 Tryz.tk160 := tok_mk (sz := 1) (bytes := 8) (z := .nilFunc) (fun h => by cases h) (by kernel_rfl) Tryz.underlying160 ⟨_, _, _, Tryz.underlying160⟩ rfl (by kernel_rfl) rfl
def Tryz.tk161 : TK := ⟨false, 1, 8, [.d (.v (.pointer none))], .ptr 179, false, false, false, []⟩
theorem Tryz.tok161 : TOk Tryz.prog 161 Tryz.tk161 := tok_mk (sz := 1) (bytes := 8) (z := .pointer none) (fun h => by cases h) (by kernel_rfl) Tryz.underlying161 Tryz.underlying161 rfl (by kernel_rfl) rfl
def Tryz.tk162 : TK := ⟨false, 1, 8, [.d (.v (.nilFunc))], .func, false, false, false, []⟩
theorem Tryz.tok162 : TOk Tryz.prog 162 Tryz.tk162 := tok_mk (sz := 1) (bytes := 8) (z := .nilFunc) (fun h => by cases h) (by kernel_rfl) Tryz.underlying162 ⟨_, _, _, Tryz.underlying162⟩ rfl (by kernel_rfl) rfl
def Tryz.tk163 : TK := ⟨false, 1, 8, [.d (.v (.pointer none))], .ptr 185, false, false, false, []⟩
theorem Tryz.tok163 : TOk Tryz.prog 163 Tryz.tk163 := tok_mk (sz := 1) (bytes := 8) (z := .pointer none) (fun h => by cases h) (by kernel_rfl) Tryz.underlying163 Tryz.underlying163 rfl (by kernel_rfl) rfl
def Tryz.tk164 : TK := ⟨false, 1, 8, [.d (.v (.nilFunc))], .func, false, false, false, []⟩
theorem Tryz.tok164 : TOk Tryz.prog 164 Tryz.tk164 := tok_mk (sz := 1) (bytes := 8) (z := .nilFunc) (fun h => by cases h) (by kernel_rfl) Tryz.underlying164 ⟨_, _, _, Tryz.underlying164⟩ rfl (by kernel_rfl) rfl
def Tryz.tk166 : TK := ⟨false, 1, 8, [.d (.v (.pointer none))], .ptr 165, false, false, false, []⟩
theorem Tryz.tok166 : TOk Tryz.prog 166 Tryz.tk166 := tok_mk (sz := 1) (bytes := 8) (z := .pointer none) (fun h => by cases h) (by kernel_rfl) Tryz.underlying166 Tryz.underlying166 rfl (by kernel_rfl) rfl
def Tryz.tk170 : TK := ⟨false, 1, 8, [.d (.v (.pointer none))], .ptr 169, false, false, false, []⟩
theorem Tryz.tok170 : TOk Tryz.prog 170 Tryz.tk170 := tok_mk (sz := 1) (bytes := 8) (z := .pointer none) (fun h => by cases h) (by kernel_rfl) Tryz.underlying170 Tryz.underlying170 rfl (by kernel_rfl) rfl
def Tryz.tk171 : TK := ⟨false, 1, 8, [.d (.v (.nilFunc))], .func, false, false, false, []⟩
theorem Tryz.tok171 : TOk Tryz.prog 171 Tryz.tk171 := tok_mk (sz := 1) (bytes := 8) (z := .nilFunc) (fun h => by cases h) (by kernel_rfl) Tryz.underlying171 ⟨_, _, _, Tryz.underlying171⟩ rfl (by kernel_rfl) rfl
def Tryz.tk172 : TK := ⟨false, 1, 8, [.d (.v (.nilFunc))], .func, false, false, false, []⟩
theorem Tryz.tok172 : TOk Tryz.prog 172 Tryz.tk172 := tok_mk (sz := 1) (bytes := 8) (z := .nilFunc) (fun h => by cases h) (by kernel_rfl) Tryz.underlying172 ⟨_, _, _, Tryz.underlying172⟩ rfl (by kernel_rfl) rfl
def Tryz.tk173 : TK := ⟨false, 1, 8, [.d (.v (.pointer none))], .ptr 118, false, false, false, []⟩
theorem Tryz.tok173 : TOk Tryz.prog 173 Tryz.tk173 := tok_mk (sz := 1) (bytes := 8) (z := .pointer none) (fun h => by cases h) (by kernel_rfl) Tryz.underlying173 Tryz.underlying173 rfl (by kernel_rfl) rfl
def Tryz.tk174 : TK := ⟨false, 1, 8, [.d (.v (.nilFunc))], .func, false, false, false, []⟩
theorem Tryz.tok174 : TOk Tryz.prog 174 Tryz.tk174 := tok_mk (sz := 1) (bytes := 8) (z := .nilFunc) (fun h => by cases h) (by kernel_rfl) Tryz.underlying174 ⟨_, _, _, Tryz.underlying174⟩ rfl (by kernel_rfl) rfl
def Tryz.tk175 : TK := ⟨false, 1, 8, [.d (.v (.nilFunc))], .func, false, false, false, []⟩
theorem Tryz.tok175 : TOk Tryz.prog 175 Tryz.tk175 := tok_mk (sz := 1) (bytes := 8) (z := .nilFunc) (fun h => by cases h) (by kernel_rfl) Tryz.underlying175 ⟨_, _, _, Tryz.underlying175⟩ rfl (by kernel_rfl) rfl
def Tryz.tk176 : TK := ⟨false, 1, 8, [.d (.v (.pointer none))], .ptr 198, false, false, false, []⟩
theorem Tryz.tok176 : TOk Tryz.prog 176 Tryz.tk176 := tok_mk (sz := 1) (bytes := 8) (z := .pointer none) (fun h => by cases h) (by kernel_rfl) Tryz.underlying176 Tryz.underlying176 rfl (by kernel_rfl) rfl
def Tryz.tk177 : TK := ⟨false, 1, 8, [.d (.v (.nilFunc))], .func, false, false, false, []⟩
theorem Tryz.tok177 : TOk Tryz.prog 177 Tryz.tk177 := tok_mk (sz := 1) (bytes := 8) (z := .nilFunc) (fun h => by cases h) (by kernel_rfl) Tryz.underlying177 ⟨_, _, _, Tryz.underlying177⟩ rfl (by kernel_rfl) rfl
def Tryz.tk178 : TK := ⟨true, 2, 24, [.d (.v (.pointer none)), .d (.v (.string ⟨#[]⟩))], .struct [(0, 176), (1, 9)], false, false, false, []⟩
theorem Tryz.tok178 : TOk Tryz.prog 178 Tryz.tk178 := tok_mk (sz := 2) (bytes := 24) (z := .agg #[.pointer none, .string ⟨#[]⟩]) (fun h => by cases h) (by kernel_rfl) Tryz.underlying178 ⟨_, Tryz.underlying178, by kernel_rfl⟩ rfl (by kernel_rfl) rfl
def Tryz.tk179 : TK := ⟨true, 2, 24, [.d (.v (.pointer none)), .d (.v (.string ⟨#[]⟩))], .struct [(0, 176), (1, 9)], false, false, false, []⟩
theorem Tryz.tok179 : TOk Tryz.prog 179 Tryz.tk179 := tok_mk (sz := 2) (bytes := 24) (z := .agg #[.pointer none, .string ⟨#[]⟩]) (fun h => by cases h) (by kernel_rfl) Tryz.underlying179 ⟨_, Tryz.underlying179, by kernel_rfl⟩ rfl (by kernel_rfl) rfl
def Tryz.tk180 : TK := ⟨false, 1, 8, [.d (.v (.pointer none))], .ptr 183, false, false, false, []⟩
theorem Tryz.tok180 : TOk Tryz.prog 180 Tryz.tk180 := tok_mk (sz := 1) (bytes := 8) (z := .pointer none) (fun h => by cases h) (by kernel_rfl) Tryz.underlying180 Tryz.underlying180 rfl (by kernel_rfl) rfl
def Tryz.tk181 : TK := ⟨false, 1, 24, [.nl], .slice 180, false, false, false, []⟩
theorem Tryz.tok181 : TOk Tryz.prog 181 Tryz.tk181 := tok_mk (sz := 1) (bytes := 24) (z := .slice none 0 0) (fun h => by cases h) (by kernel_rfl) Tryz.underlying181 Tryz.underlying181 rfl (by kernel_rfl) rfl
def Tryz.tk182 : TK := ⟨true, 5, 72, [.d (.v (.string ⟨#[]⟩)), .d (.v (.int .i64 0)), .d (.v (.string ⟨#[]⟩)), .d (.v (.pointer none)), .nl], .struct [(0, 9), (1, 3), (2, 9), (3, 180), (4, 181)], false, false, false, []⟩
theorem Tryz.tok182 : TOk Tryz.prog 182 Tryz.tk182 := tok_mk (sz := 5) (bytes := 72) (z := .agg #[.string ⟨#[]⟩, .int .i64 0, .string ⟨#[]⟩, .pointer none, .slice none 0 0]) (fun h => by cases h) (by kernel_rfl) Tryz.underlying182 ⟨_, Tryz.underlying182, by kernel_rfl⟩ rfl (by kernel_rfl) rfl
def Tryz.tk183 : TK := ⟨true, 5, 72, [.d (.v (.string ⟨#[]⟩)), .d (.v (.int .i64 0)), .d (.v (.string ⟨#[]⟩)), .d (.v (.pointer none)), .nl], .struct [(0, 9), (1, 3), (2, 9), (3, 180), (4, 181)], false, false, false, []⟩
theorem Tryz.tok183 : TOk Tryz.prog 183 Tryz.tk183 := tok_mk (sz := 5) (bytes := 72) (z := .agg #[.string ⟨#[]⟩, .int .i64 0, .string ⟨#[]⟩, .pointer none, .slice none 0 0]) (fun h => by cases h) (by kernel_rfl) Tryz.underlying183 ⟨_, Tryz.underlying183, by kernel_rfl⟩ rfl (by kernel_rfl) rfl
def Tryz.tk186 : TK := ⟨false, 1, 8, [.d (.v (.nilFunc))], .func, false, false, false, []⟩
theorem Tryz.tok186 : TOk Tryz.prog 186 Tryz.tk186 := tok_mk (sz := 1) (bytes := 8) (z := .nilFunc) (fun h => by cases h) (by kernel_rfl) Tryz.underlying186 ⟨_, _, _, Tryz.underlying186⟩ rfl (by kernel_rfl) rfl
def Tryz.tk187 : TK := ⟨false, 1, 8, [.d (.v (.nilFunc))], .func, false, false, false, []⟩
theorem Tryz.tok187 : TOk Tryz.prog 187 Tryz.tk187 := tok_mk (sz := 1) (bytes := 8) (z := .nilFunc) (fun h => by cases h) (by kernel_rfl) Tryz.underlying187 ⟨_, _, _, Tryz.underlying187⟩ rfl (by kernel_rfl) rfl
def Tryz.tk188 : TK := ⟨false, 1, 8, [.d (.v (.nilFunc))], .func, false, false, false, []⟩
theorem Tryz.tok188 : TOk Tryz.prog 188 Tryz.tk188 := tok_mk (sz := 1) (bytes := 8) (z := .nilFunc) (fun h => by cases h) (by kernel_rfl) Tryz.underlying188 ⟨_, _, _, Tryz.underlying188⟩ rfl (by kernel_rfl) rfl
def Tryz.tk189 : TK := ⟨false, 1, 8, [.d (.v (.pointer none))], .ptr 116, false, false, false, []⟩
theorem Tryz.tok189 : TOk Tryz.prog 189 Tryz.tk189 := tok_mk (sz := 1) (bytes := 8) (z := .pointer none) (fun h => by cases h) (by kernel_rfl) Tryz.underlying189 Tryz.underlying189 rfl (by kernel_rfl) rfl
def Tryz.tk190 : TK := ⟨false, 1, 8, [.d (.v (.nilFunc))], .func, false, false, false, []⟩
theorem Tryz.tok190 : TOk Tryz.prog 190 Tryz.tk190 := tok_mk (sz := 1) (bytes := 8) (z := .nilFunc) (fun h => by cases h) (by kernel_rfl) Tryz.underlying190 ⟨_, _, _, Tryz.underlying190⟩ rfl (by kernel_rfl) rfl
def Tryz.tk191 : TK := ⟨false, 1, 8, [.d (.v (.pointer none))], .ptr 21, false, false, false, []⟩
theorem Tryz.tok191 : TOk Tryz.prog 191 Tryz.tk191 := tok_mk (sz := 1) (bytes := 8) (z := .pointer none) (fun h => by cases h) (by kernel_rfl) Tryz.underlying191 Tryz.underlying191 rfl (by kernel_rfl) rfl
def Tryz.tk192 : TK := ⟨false, 1, 8, [.d (.v (.nilFunc))], .func, false, false, false, []⟩
theorem Tryz.tok192 : TOk Tryz.prog 192 Tryz.tk192 := tok_mk (sz := 1) (bytes := 8) (z := .nilFunc) (fun h => by cases h) (by kernel_rfl) Tryz.underlying192 ⟨_, _, _, Tryz.underlying192⟩ rfl (by kernel_rfl) rfl
def Tryz.tk193 : TK := ⟨false, 1, 8, [.d (.v (.nilFunc))], .func, false, false, false, []⟩
theorem Tryz.tok193 : TOk Tryz.prog 193 Tryz.tk193 := tok_mk (sz := 1) (bytes := 8) (z := .nilFunc) (fun h => by cases h) (by kernel_rfl) Tryz.underlying193 ⟨_, _, _, Tryz.underlying193⟩ rfl (by kernel_rfl) rfl
def Tryz.tk194 : TK := ⟨false, 1, 8, [.d (.v (.nilFunc))], .func, false, false, false, []⟩
theorem Tryz.tok194 : TOk Tryz.prog 194 Tryz.tk194 := tok_mk (sz := 1) (bytes := 8) (z := .nilFunc) (fun h => by cases h) (by kernel_rfl) Tryz.underlying194 ⟨_, _, _, Tryz.underlying194⟩ rfl (by kernel_rfl) rfl
def Tryz.tk195 : TK := ⟨false, 1, 24, [.nl], .slice 3, false, false, false, []⟩
theorem Tryz.tok195 : TOk Tryz.prog 195 Tryz.tk195 := tok_mk (sz := 1) (bytes := 24) (z := .slice none 0 0) (fun h => by cases h) (by kernel_rfl) Tryz.underlying195 Tryz.underlying195 rfl (by kernel_rfl) rfl
def Tryz.tk199 : TK := ⟨false, 1, 8, [.d (.v (.nilFunc))], .func, false, false, false, []⟩
theorem Tryz.tok199 : TOk Tryz.prog 199 Tryz.tk199 := tok_mk (sz := 1) (bytes := 8) (z := .nilFunc) (fun h => by cases h) (by kernel_rfl) Tryz.underlying199 ⟨_, _, _, Tryz.underlying199⟩ rfl (by kernel_rfl) rfl
def Tryz.tk200 : TK := ⟨false, 1, 8, [.d (.v (.nilFunc))], .func, false, false, false, []⟩
theorem Tryz.tok200 : TOk Tryz.prog 200 Tryz.tk200 := tok_mk (sz := 1) (bytes := 8) (z := .nilFunc) (fun h => by cases h) (by kernel_rfl) Tryz.underlying200 ⟨_, _, _, Tryz.underlying200⟩ rfl (by kernel_rfl) rfl
def Tryz.tk201 : TK := ⟨false, 1, 8, [.d (.v (.nilFunc))], .func, false, false, false, []⟩
theorem Tryz.tok201 : TOk Tryz.prog 201 Tryz.tk201 := tok_mk (sz := 1) (bytes := 8) (z := .nilFunc) (fun h => by cases h) (by kernel_rfl) Tryz.underlying201 ⟨_, _, _, Tryz.underlying201⟩ rfl (by kernel_rfl) rfl
def Tryz.tk203 : TK := ⟨false, 1, 8, [.d (.v (.nilFunc))], .func, false, false, false, []⟩
theorem Tryz.tok203 : TOk Tryz.prog 203 Tryz.tk203 := tok_mk (sz := 1) (bytes := 8) (z := .nilFunc) (fun h => by cases h) (by kernel_rfl) Tryz.underlying203 ⟨_, _, _, Tryz.underlying203⟩ rfl (by kernel_rfl) rfl
def Tryz.tk204 : TK := ⟨true, 4, 40, [.d (.v (.pointer none)), .d (.v (.pointer none)), .d (.v (.pointer none)), .d (.v (.string ⟨#[]⟩))], .struct [(0, 17), (1, 17), (2, 17), (3, 9)], false, false, false, []⟩
theorem Tryz.tok204 : TOk Tryz.prog 204 Tryz.tk204 := tok_mk (sz := 4) (bytes := 40) (z := .agg #[.pointer none, .pointer none, .pointer none, .string ⟨#[]⟩]) (fun h => by cases h) (by kernel_rfl) Tryz.underlying204 ⟨_, Tryz.underlying204, by kernel_rfl⟩ rfl (by kernel_rfl) rfl
def Tryz.tk205 : TK := ⟨true, 4, 40, [.d (.v (.pointer none)), .d (.v (.pointer none)), .d (.v (.pointer none)), .d (.v (.string ⟨#[]⟩))], .struct [(0, 17), (1, 17), (2, 17), (3, 9)], false, false, false, []⟩
theorem Tryz.tok205 : TOk Tryz.prog 205 Tryz.tk205 := tok_mk (sz := 4) (bytes := 40) (z := .agg #[.pointer none, .pointer none, .pointer none, .string ⟨#[]⟩]) (fun h => by cases h) (by kernel_rfl) Tryz.underlying205 ⟨_, Tryz.underlying205, by kernel_rfl⟩ rfl (by kernel_rfl) rfl
def Tryz.tk209 : TK := ⟨false, 1, 1, [.d (.v (.int .u8 0))], .int .u8, false, false, false, []⟩
theorem Tryz.tok209 : TOk Tryz.prog 209 Tryz.tk209 := tok_mk (sz := 1) (bytes := 1) (z := .int .u8 0) (fun h => by cases h) (by kernel_rfl) Tryz.underlying209 Tryz.underlying209 rfl (by kernel_rfl) rfl
def Tryz.tk210 : TK := ⟨false, 1, 1, [.d (.v (.int .u8 0))], .int .u8, false, false, false, []⟩
theorem Tryz.tok210 : TOk Tryz.prog 210 Tryz.tk210 := tok_mk (sz := 1) (bytes := 1) (z := .int .u8 0) (fun h => by cases h) (by kernel_rfl) Tryz.underlying210 Tryz.underlying210 rfl (by kernel_rfl) rfl
def Tryz.tk211 : TK := ⟨false, 1, 8, [.d (.v (.nilFunc))], .func, false, false, false, []⟩
theorem Tryz.tok211 : TOk Tryz.prog 211 Tryz.tk211 := tok_mk (sz := 1) (bytes := 8) (z := .nilFunc) (fun h => by cases h) (by kernel_rfl) Tryz.underlying211 ⟨_, _, _, Tryz.underlying211⟩ rfl (by kernel_rfl) rfl
def Tryz.tk212 : TK := ⟨false, 1, 4, [.d (.v (.int .i32 0))], .int .i32, false, false, false, []⟩
theorem Tryz.tok212 : TOk Tryz.prog 212 Tryz.tk212 := tok_mk (sz := 1) (bytes := 4) (z := .int .i32 0) (fun h => by cases h) (by kernel_rfl) Tryz.underlying212 Tryz.underlying212 rfl (by kernel_rfl) rfl
def Tryz.tk213 : TK := ⟨false, 1, 4, [.d (.v (.int .i32 0))], .int .i32, false, false, false, []⟩
theorem Tryz.tok213 : TOk Tryz.prog 213 Tryz.tk213 := tok_mk (sz := 1) (bytes := 4) (z := .int .i32 0) (fun h => by cases h) (by kernel_rfl) Tryz.underlying213 Tryz.underlying213 rfl (by kernel_rfl) rfl
def Tryz.tk214 : TK := ⟨true, 11, 48, [.d (.v (.int .u64 0)), .d (.v (.int .u64 0)), .d (.v (.int .u32 0)), .d (.v (.int .u8 0)), .d (.v (.int .u8 0)), .d (.v (.int .u8 0)), .d (.v (.int .u8 0)), .d (.v (.nilFunc)), .d (.v (.pointer none)), .d (.v (.int .i32 0)), .d (.v (.int .i32 0))], .struct [(0, 12), (1, 12), (2, 112), (3, 209), (4, 5), (5, 5), (6, 210), (7, 211), (8, 95), (9, 212), (10, 213)], false, false, false, []⟩
theorem Tryz.tok214 : TOk Tryz.prog 214 Tryz.tk214 := tok_mk (sz := 11) (bytes := 48) (z := .agg #[.int .u64 0, .int .u64 0, .int .u32 0, .int .u8 0, .int .u8 0, .int .u8 0, .int .u8 0, .nilFunc, .pointer none, .int .i32 0, .int .i32 0]) (fun h => by cases h) (by kernel_rfl) Tryz.underlying214 ⟨_, Tryz.underlying214, by kernel_rfl⟩ rfl (by kernel_rfl) rfl
def Tryz.tk215 : TK := ⟨true, 11, 48, [.d (.v (.int .u64 0)), .d (.v (.int .u64 0)), .d (.v (.int .u32 0)), .d (.v (.int .u8 0)), .d (.v (.int .u8 0)), .d (.v (.int .u8 0)), .d (.v (.int .u8 0)), .d (.v (.nilFunc)), .d (.v (.pointer none)), .d (.v (.int .i32 0)), .d (.v (.int .i32 0))], .struct [(0, 12), (1, 12), (2, 112), (3, 209), (4, 5), (5, 5), (6, 210), (7, 211), (8, 95), (9, 212), (10, 213)], false, false, false, []⟩
theorem Tryz.tok215 : TOk Tryz.prog 215 Tryz.tk215 := tok_mk (sz := 11) (bytes := 48) (z := .agg #[.int .u64 0, .int .u64 0, .int .u32 0, .int .u8 0, .int .u8 0, .int .u8 0, .int .u8 0, .nilFunc, .pointer none, .int .i32 0, .int .i32 0]) (fun h => by cases h) (by kernel_rfl) Tryz.underlying215 ⟨_, Tryz.underlying215, by kernel_rfl⟩ rfl (by kernel_rfl) rfl
def Tryz.tk216 : TK := ⟨false, 1, 8, [.d (.v (.nilFunc))], .func, false, false, false, []⟩
theorem Tryz.tok216 : TOk Tryz.prog 216 Tryz.tk216 := tok_mk (sz := 1) (bytes := 8) (z := .nilFunc) (fun h => by cases h) (by kernel_rfl) Tryz.underlying216 ⟨_, _, _, Tryz.underlying216⟩ rfl (by kernel_rfl) rfl
def Tryz.tk217 : TK := ⟨false, 1, 8, [.d (.v (.nilFunc))], .func, false, false, false, []⟩
theorem Tryz.tok217 : TOk Tryz.prog 217 Tryz.tk217 := tok_mk (sz := 1) (bytes := 8) (z := .nilFunc) (fun h => by cases h) (by kernel_rfl) Tryz.underlying217 ⟨_, _, _, Tryz.underlying217⟩ rfl (by kernel_rfl) rfl
def Tryz.tk218 : TK := ⟨false, 1, 8, [.d (.v (.nilFunc))], .func, false, false, false, []⟩
theorem Tryz.tok218 : TOk Tryz.prog 218 Tryz.tk218 := tok_mk (sz := 1) (bytes := 8) (z := .nilFunc) (fun h => by cases h) (by kernel_rfl) Tryz.underlying218 ⟨_, _, _, Tryz.underlying218⟩ rfl (by kernel_rfl) rfl
def Tryz.tk219 : TK := ⟨false, 1, 8, [.d (.v (.nilFunc))], .func, false, false, false, []⟩
theorem Tryz.tok219 : TOk Tryz.prog 219 Tryz.tk219 := tok_mk (sz := 1) (bytes := 8) (z := .nilFunc) (fun h => by cases h) (by kernel_rfl) Tryz.underlying219 ⟨_, _, _, Tryz.underlying219⟩ rfl (by kernel_rfl) rfl
def Tryz.tk220 : TK := ⟨false, 1, 24, [.nl], .slice 5, false, false, false, []⟩
theorem Tryz.tok220 : TOk Tryz.prog 220 Tryz.tk220 := tok_mk (sz := 1) (bytes := 24) (z := .slice none 0 0) (fun h => by cases h) (by kernel_rfl) Tryz.underlying220 Tryz.underlying220 rfl (by kernel_rfl) rfl
def Tryz.tk221 : TK := ⟨false, 1, 8, [.d (.v (.pointer none))], .ptr 220, false, false, false, []⟩
theorem Tryz.tok221 : TOk Tryz.prog 221 Tryz.tk221 := tok_mk (sz := 1) (bytes := 8) (z := .pointer none) (fun h => by cases h) (by kernel_rfl) Tryz.underlying221 Tryz.underlying221 rfl (by kernel_rfl) rfl
def Tryz.tk226 : TK := ⟨false, 1, 8, [.d (.v (.nilFunc))], .func, false, false, false, []⟩
theorem Tryz.tok226 : TOk Tryz.prog 226 Tryz.tk226 := tok_mk (sz := 1) (bytes := 8) (z := .nilFunc) (fun h => by cases h) (by kernel_rfl) Tryz.underlying226 ⟨_, _, _, Tryz.underlying226⟩ rfl (by kernel_rfl) rfl
def Tryz.tk228 : TK := ⟨false, 1, 8, [.d (.v (.nilFunc))], .func, false, false, false, []⟩
theorem Tryz.tok228 : TOk Tryz.prog 228 Tryz.tk228 := tok_mk (sz := 1) (bytes := 8) (z := .nilFunc) (fun h => by cases h) (by kernel_rfl) Tryz.underlying228 ⟨_, _, _, Tryz.underlying228⟩ rfl (by kernel_rfl) rfl
def Tryz.tk230 : TK := ⟨true, 1, 16, [.d (.v (.nilIface))], .struct [(0, 223)], false, false, false, []⟩
theorem Tryz.tok230 : TOk Tryz.prog 230 Tryz.tk230 := tok_mk (sz := 1) (bytes := 16) (z := .agg #[.nilIface]) (fun h => by cases h) (by kernel_rfl) Tryz.underlying230 ⟨_, Tryz.underlying230, by kernel_rfl⟩ rfl (by kernel_rfl) rfl
def Tryz.tk231 : TK := ⟨true, 1, 16, [.d (.v (.nilIface))], .struct [(0, 223)], false, false, false, []⟩
theorem Tryz.tok231 : TOk Tryz.prog 231 Tryz.tk231 := tok_mk (sz := 1) (bytes := 16) (z := .agg #[.nilIface]) (fun h => by cases h) (by kernel_rfl) Tryz.underlying231 ⟨_, Tryz.underlying231, by kernel_rfl⟩ rfl (by kernel_rfl) rfl
def Tryz.tk232 : TK := ⟨false, 1, 8, [.d (.v (.nilFunc))], .func, false, false, false, []⟩
theorem Tryz.tok232 : TOk Tryz.prog 232 Tryz.tk232 := tok_mk (sz := 1) (bytes := 8) (z := .nilFunc) (fun h => by cases h) (by kernel_rfl) Tryz.underlying232 ⟨_, _, _, Tryz.underlying232⟩ rfl (by kernel_rfl) rfl
def Tryz.Ks : List (TypeId × TK) := [(1, Tryz.tk1), (2, Tryz.tk2), (3, Tryz.tk3), (4, Tryz.tk4), (5, Tryz.tk5), (6, Tryz.tk6), (7, Tryz.tk7), (8, Tryz.tk8), (9, Tryz.tk9), (10, Tryz.tk10), (11, Tryz.tk11), (12, Tryz.tk12), (13, Tryz.tk13), (14, Tryz.tk14), (15, Tryz.tk15), (16, Tryz.tk16), (17, Tryz.tk17), (18, Tryz.tk18), (19, Tryz.tk19), (21, Tryz.tk21), (22, Tryz.tk22), (23, Tryz.tk23), (24, Tryz.tk24), (25, Tryz.tk25), (26, Tryz.tk26), (27, Tryz.tk27), (28, Tryz.tk28), (29, Tryz.tk29), (30, Tryz.tk30), (31, Tryz.tk31), (32, Tryz.tk32), (33, Tryz.tk33), (34, Tryz.tk34), (36, Tryz.tk36), (37, Tryz.tk37), (38, Tryz.tk38), (39, Tryz.tk39), (40, Tryz.tk40), (42, Tryz.tk42), (43, Tryz.tk43), (44, Tryz.tk44), (45, Tryz.tk45), (46, Tryz.tk46), (47, Tryz.tk47), (48, Tryz.tk48), (49, Tryz.tk49), (51, Tryz.tk51), (52, Tryz.tk52), (53, Tryz.tk53), (54, Tryz.tk54), (55, Tryz.tk55), (57, Tryz.tk57), (58, Tryz.tk58), (59, Tryz.tk59), (60, Tryz.tk60), (61, Tryz.tk61), (62, Tryz.tk62), (63, Tryz.tk63), (64, Tryz.tk64), (65, Tryz.tk65), (66, Tryz.tk66), (67, Tryz.tk67), (69, Tryz.tk69), (70, Tryz.tk70), (71, Tryz.tk71), (72, Tryz.tk72), (73, Tryz.tk73), (74, Tryz.tk74), (78, Tryz.tk78), (79, Tryz.tk79), (80, Tryz.tk80), (81, Tryz.tk81), (82, Tryz.tk82), (83, Tryz.tk83), (84, Tryz.tk84), (85, Tryz.tk85), (86, Tryz.tk86), (87, Tryz.tk87), (88, Tryz.tk88), (89, Tryz.tk89), (90, Tryz.tk90), (91, Tryz.tk91), (92, Tryz.tk92), (93, Tryz.tk93), (94, Tryz.tk94), (95, Tryz.tk95), (96, Tryz.tk96), (97, Tryz.tk97), (98, Tryz.tk98), (99, Tryz.tk99), (100, Tryz.tk100), (101, Tryz.tk101), (102, Tryz.tk102), (103, Tryz.tk103), (104, Tryz.tk104), (106, Tryz.tk106), (107, Tryz.tk107), (108, Tryz.tk108), (112, Tryz.tk112), (113, Tryz.tk113), (114, Tryz.tk114), (115, Tryz.tk115), (116, Tryz.tk116), (117, Tryz.tk117), (118, Tryz.tk118), (119, Tryz.tk119), (120, Tryz.tk120), (123, Tryz.tk123), (124, Tryz.tk124), (125, Tryz.tk125), (126, Tryz.tk126), (128, Tryz.tk128), (129, Tryz.tk129), (133, Tryz.tk133), (134, Tryz.tk134), (135, Tryz.tk135), (136, Tryz.tk136), (137, Tryz.tk137), (139, Tryz.tk139), (140, Tryz.tk140), (141, Tryz.tk141), (142, Tryz.tk142), (143, Tryz.tk143), (144, Tryz.tk144), (146, Tryz.tk146), (147, Tryz.tk147), (148, Tryz.tk148), (150, Tryz.tk150), (151, Tryz.tk151), (152, Tryz.tk152), (154, Tryz.tk154), (155, Tryz.tk155), (156, Tryz.tk156), (157, Tryz.tk157), (158, Tryz.tk158), (159, Tryz.tk159), (160, Tryz.tk160), (161, Tryz.tk161), (162, Tryz.tk162), (163, Tryz.tk163), (164, Tryz.tk164), (166, Tryz.tk166), (170, Tryz.tk170), (171, Tryz.tk171), (172, Tryz.tk172), (173, Tryz.tk173), (174, Tryz.tk174), (175, Tryz.tk175), (176, Tryz.tk176), (177, Tryz.tk177), (178, Tryz.tk178), (179, Tryz.tk179), (180, Tryz.tk180), (181, Tryz.tk181), (182, Tryz.tk182), (183, Tryz.tk183), (186, Tryz.tk186), (187, Tryz.tk187), (188, Tryz.tk188), (189, Tryz.tk189), (190, Tryz.tk190), (191, Tryz.tk191), (192, Tryz.tk192), (193, Tryz.tk193), (194, Tryz.tk194), (195, Tryz.tk195), (199, Tryz.tk199), (200, Tryz.tk200), (201, Tryz.tk201), (203, Tryz.tk203), (204, Tryz.tk204), (205, Tryz.tk205), (209, Tryz.tk209), (210, Tryz.tk210), (211, Tryz.tk211), (212, Tryz.tk212), (213, Tryz.tk213), (214, Tryz.tk214), (215, Tryz.tk215), (216, Tryz.tk216), (217, Tryz.tk217), (218, Tryz.tk218), (219, Tryz.tk219), (220, Tryz.tk220), (221, Tryz.tk221), (226, Tryz.tk226), (228, Tryz.tk228), (230, Tryz.tk230), (231, Tryz.tk231), (232, Tryz.tk232)]
def Tryz.K : TypeId → Option TK := lkT Tryz.Ks
theorem Tryz.K_ok : KOk Tryz.prog Tryz.K := kok_cons Tryz.tok1 ( kok_cons Tryz.tok2 ( kok_cons Tryz.tok3 ( kok_cons Tryz.tok4 ( kok_cons Tryz.tok5 ( kok_cons Tryz.tok6 ( kok_cons Tryz.tok7 ( kok_cons Tryz.tok8 ( kok_cons Tryz.tok9 ( kok_cons Tryz.tok10 ( kok_cons Tryz.tok11 ( kok_cons Tryz.tok12 ( kok_cons Tryz.tok13 ( kok_cons Tryz.tok14 ( kok_cons Tryz.tok15 ( kok_cons Tryz.tok16 ( kok_cons Tryz.tok17 ( kok_cons Tryz.tok18 ( kok_cons Tryz.tok19 ( kok_cons Tryz.tok21 ( kok_cons Tryz.tok22 ( kok_cons Tryz.tok23 ( kok_cons Tryz.tok24 ( kok_cons Tryz.tok25 ( kok_cons Tryz.tok26 ( kok_cons Tryz.tok27 ( kok_cons Tryz.tok28 ( kok_cons Tryz.tok29 ( kok_cons Tryz.tok30 ( kok_cons Tryz.tok31 ( kok_cons Tryz.tok32 ( kok_cons Tryz.tok33 ( kok_cons Tryz.tok34 ( kok_cons Tryz.tok36 ( kok_cons Tryz.tok37 ( kok_cons Tryz.tok38 ( kok_cons Tryz.tok39 ( kok_cons Tryz.tok40 ( kok_cons Tryz.tok42 ( kok_cons Tryz.tok43 ( kok_cons Tryz.tok44 ( kok_cons Tryz.tok45 ( kok_cons Tryz.tok46 ( kok_cons Tryz.tok47 ( kok_cons Tryz.tok48 ( kok_cons Tryz.tok49 ( kok_cons Tryz.tok51 ( kok_cons Tryz.tok52 ( kok_cons Tryz.tok53 ( kok_cons Tryz.tok54 ( kok_cons Tryz.tok55 ( kok_cons Tryz.tok57 ( kok_cons Tryz.tok58 ( kok_cons Tryz.tok59 ( kok_cons Tryz.tok60 ( kok_cons Tryz.tok61 ( kok_cons Tryz.tok62 ( kok_cons Tryz.tok63 ( kok_cons Tryz.tok64 ( kok_cons Tryz.tok65 ( kok_cons Tryz.tok66 ( kok_cons Tryz.tok67 ( kok_cons Tryz.tok69 ( kok_cons Tryz.tok70 ( kok_cons Tryz.tok71 ( kok_cons Tryz.tok72 ( kok_cons Tryz.tok73 ( kok_cons Tryz.tok74 ( kok_cons Tryz.tok78 ( kok_cons Tryz.tok79 ( kok_cons Tryz.tok80 ( kok_cons Tryz.tok81 ( kok_cons Tryz.tok82 ( kok_cons Tryz.tok83 ( kok_cons Tryz.tok84 ( kok_cons Tryz.tok85 ( kok_cons Tryz.tok86 ( kok_cons Tryz.tok87 ( kok_cons Tryz.tok88 ( kok_cons Tryz.tok89 ( kok_cons Tryz.tok90 ( kok_cons Tryz.tok91 ( kok_cons Tryz.tok92 ( kok_cons Tryz.tok93 ( kok_cons Tryz.tok94 ( kok_cons Tryz.tok95 ( kok_cons Tryz.tok96 ( kok_cons Tryz.tok97 ( kok_cons Tryz.tok98 ( kok_cons Tryz.tok99 ( kok_cons Tryz.tok100 ( kok_cons Tryz.tok101 ( kok_cons Tryz.tok102 ( kok_cons Tryz.tok103 ( kok_cons Tryz.tok104 ( kok_cons Tryz.tok106 ( kok_cons Tryz.tok107 ( kok_cons Tryz.tok108 ( kok_cons Tryz.tok112 ( kok_cons Tryz.tok113 ( kok_cons Tryz.tok114 ( kok_cons Tryz.tok115 ( kok_cons Tryz.tok116 ( kok_cons Tryz.tok117 ( kok_cons Tryz.tok118 ( kok_cons Tryz.tok119 ( kok_cons Tryz.tok120 ( kok_cons Tryz.tok123 ( kok_cons Tryz.tok124 ( kok_cons Tryz.tok125 ( kok_cons Tryz.tok126 ( kok_cons Tryz.tok128 ( kok_cons Tryz.tok129 ( kok_cons Tryz.tok133 ( kok_cons Tryz.tok134 ( kok_cons Tryz.tok135 ( kok_cons Tryz.tok136 ( kok_cons Tryz.tok137 ( kok_cons Tryz.tok139 ( kok_cons Tryz.tok140 ( kok_cons Tryz.tok141 ( kok_cons Tryz.tok142 ( kok_cons Tryz.tok143 ( kok_cons Tryz.tok144 ( kok_cons Tryz.tok146 ( kok_cons Tryz.tok147 ( kok_cons Tryz.tok148 ( kok_cons Tryz.tok150 ( kok_cons Tryz.tok151 ( kok_cons Tryz.tok152 ( kok_cons Tryz.tok154 ( kok_cons Tryz.tok155 ( kok_cons Tryz.tok156 ( kok_cons Tryz.tok157 ( kok_cons Tryz.tok158 ( kok_cons Tryz.tok159 ( kok_cons Tryz.tok160 ( kok_cons Tryz.tok161 ( kok_cons Tryz.tok162 ( kok_cons Tryz.tok163 ( kok_cons Tryz.tok164 ( kok_cons Tryz.tok166 ( kok_cons Tryz.tok170 ( kok_cons Tryz.tok171 ( kok_cons Tryz.tok172 ( kok_cons Tryz.tok173 ( kok_cons Tryz.tok174 ( kok_cons Tryz.tok175 ( kok_cons Tryz.tok176 ( kok_cons Tryz.tok177 ( kok_cons Tryz.tok178 ( kok_cons Tryz.tok179 ( kok_cons Tryz.tok180 ( kok_cons Tryz.tok181 ( kok_cons Tryz.tok182 ( kok_cons Tryz.tok183 ( kok_cons Tryz.tok186 ( kok_cons Tryz.tok187 ( kok_cons Tryz.tok188 ( kok_cons Tryz.tok189 ( kok_cons Tryz.tok190 ( kok_cons Tryz.tok191 ( kok_cons Tryz.tok192 ( kok_cons Tryz.tok193 ( kok_cons Tryz.tok194 ( kok_cons Tryz.tok195 ( kok_cons Tryz.tok199 ( kok_cons Tryz.tok200 ( kok_cons Tryz.tok201 ( kok_cons Tryz.tok203 ( kok_cons Tryz.tok204 ( kok_cons Tryz.tok205 ( kok_cons Tryz.tok209 ( kok_cons Tryz.tok210 ( kok_cons Tryz.tok211 ( kok_cons Tryz.tok212 ( kok_cons Tryz.tok213 ( kok_cons Tryz.tok214 ( kok_cons Tryz.tok215 ( kok_cons Tryz.tok216 ( kok_cons Tryz.tok217 ( kok_cons Tryz.tok218 ( kok_cons Tryz.tok219 ( kok_cons Tryz.tok220 ( kok_cons Tryz.tok221 ( kok_cons Tryz.tok226 ( kok_cons Tryz.tok228 ( kok_cons Tryz.tok230 ( kok_cons Tryz.tok231 ( kok_cons Tryz.tok232 ( kok_nil))))))))))))))))))))))))))))))))))))))))))))))))))))))))))))))))))))))))))))))))))))))))))))))))))))))))))))))))))))))))))))))))))))))))))))))))))))))))))))))))))))))))))))))))))))))))))))))
noncomputable def Tryz.b0 : Code := Tryz.f0.body.getD .skip
noncomputable def Tryz.b1 : Code := Tryz.f1.body.getD .skip
noncomputable def Tryz.b2 : Code := Tryz.f2.body.getD .skip
noncomputable def Tryz.b3 : Code := Tryz.f3.body.getD .skip
noncomputable def Tryz.b4 : Code := Tryz.f4.body.getD .skip
noncomputable def Tryz.b8 : Code := Tryz.f8.body.getD .skip
noncomputable def Tryz.b9 : Code := Tryz.f9.body.getD .skip
noncomputable def Tryz.b10 : Code := Tryz.f10.body.getD .skip
noncomputable def Tryz.b11 : Code := Tryz.f11.body.getD .skip
noncomputable def Tryz.b14 : Code := Tryz.f14.body.getD .skip
noncomputable def Tryz.b15 : Code := Tryz.f15.body.getD .skip
noncomputable def Tryz.b21 : Code := Tryz.f21.body.getD .skip
noncomputable def Tryz.b24 : Code := Tryz.f24.body.getD .skip
noncomputable def Tryz.b29 : Code := Tryz.f29.body.getD .skip
noncomputable def Tryz.b30 : Code := Tryz.f30.body.getD .skip
noncomputable def Tryz.b38 : Code := Tryz.f38.body.getD .skip
noncomputable def Tryz.b40 : Code := Tryz.f40.body.getD .skip
noncomputable def Tryz.b41 : Code := Tryz.f41.body.getD .skip
noncomputable def Tryz.b42 : Code := Tryz.f42.body.getD .skip
noncomputable def Tryz.b43 : Code := Tryz.f43.body.getD .skip
noncomputable def Tryz.b45 : Code := Tryz.f45.body.getD .skip
noncomputable def Tryz.b46 : Code := Tryz.f46.body.getD .skip
noncomputable def Tryz.b47 : Code := Tryz.f47.body.getD .skip
noncomputable def Tryz.b48 : Code := Tryz.f48.body.getD .skip
noncomputable def Tryz.b49 : Code := Tryz.f49.body.getD .skip
noncomputable def Tryz.b56 : Code := Tryz.f56.body.getD .skip
noncomputable def Tryz.b57 : Code := Tryz.f57.body.getD .skip
noncomputable def Tryz.b60 : Code := Tryz.f60.body.getD .skip
noncomputable def Tryz.b62 : Code := Tryz.f62.body.getD .skip
noncomputable def Tryz.b63 : Code := Tryz.f63.body.getD .skip
noncomputable def Tryz.b64 : Code := Tryz.f64.body.getD .skip
noncomputable def Tryz.b67 : Code := Tryz.f67.body.getD .skip
noncomputable def Tryz.b82 : Code := Tryz.f82.body.getD .skip
noncomputable def Tryz.b83 : Code := Tryz.f83.body.getD .skip
noncomputable def Tryz.b93 : Code := Tryz.f93.body.getD .skip
noncomputable def Tryz.b94 : Code := Tryz.f94.body.getD .skip
noncomputable def Tryz.b99 : Code := Tryz.f99.body.getD .skip
noncomputable def Tryz.b100 : Code := Tryz.f100.body.getD .skip
noncomputable def Tryz.b101 : Code := Tryz.f101.body.getD .skip
noncomputable def Tryz.b109 : Code := Tryz.f109.body.getD .skip
noncomputable def Tryz.b112 : Code := Tryz.f112.body.getD .skip
noncomputable def Tryz.b115 : Code := Tryz.f115.body.getD .skip
end Go.Proofs
