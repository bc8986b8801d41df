import Derived.Test.YtepkbbkfcnejmaaGreatDoorAmFn
import Derived.Test.YtepkbbkfcnejmaaGreatDoorProg
import Derived.KernelRfl
set_option linter.unusedVariables false
namespace Go.Proofs
open Go Go.AM
def Tryz.tk1 : TK := ⟨false, 1, 8, [.d (.v (.nilFunc))], .func, false, false, false, []⟩
theorem Tryz.tok1 : TOk Tryz.prog 1 Tryz.tk1 := tok_mk (sz := 1) (bytes := 8) (z := .nilFunc) (fun h => by cases h) (by kernel_rfl) Tryz.underlying1 ⟨_, _, _, Tryz.underlying1⟩ rfl (by kernel_rfl) rfl
def Tryz.tk2 : TK := ⟨false, 1, 8, [.d (.v (.int .i64 0))], .int .i64, false, false, false, []⟩
theorem Tryz.tok2 : TOk Tryz.prog 2 Tryz.tk2 := tok_mk (sz := 1) (bytes := 8) (z := .int .i64 0) (fun h => by cases h) (by kernel_rfl) Tryz.underlying2 Tryz.underlying2 rfl (by kernel_rfl) rfl
def Tryz.tk3 : TK := ⟨false, 1, 8, [.d (.v (.int .i64 0))], .int .i64, false, false, false, []⟩
theorem Tryz.tok3 : TOk Tryz.prog 3 Tryz.tk3 := tok_mk (sz := 1) (bytes := 8) (z := .int .i64 0) (fun h => by cases h) (by kernel_rfl) Tryz.underlying3 Tryz.underlying3 rfl (by kernel_rfl) rfl
def Tryz.tk4 : TK := ⟨false, 1, 1, [.d (.v (.bool false))], .bool, false, false, false, []⟩
theorem Tryz.tok4 : TOk Tryz.prog 4 Tryz.tk4 := tok_mk (sz := 1) (bytes := 1) (z := .bool false) (fun h => by cases h) (by kernel_rfl) Tryz.underlying4 Tryz.underlying4 rfl (by kernel_rfl) rfl
def Tryz.tk5 : TK := ⟨false, 1, 1, [.d (.v (.int .u8 0))], .int .u8, false, false, false, []⟩
theorem Tryz.tok5 : TOk Tryz.prog 5 Tryz.tk5 := tok_mk (sz := 1) (bytes := 1) (z := .int .u8 0) (fun h => by cases h) (by kernel_rfl) Tryz.underlying5 Tryz.underlying5 rfl (by kernel_rfl) rfl
def Tryz.tk6 : TK := ⟨false, 1, 1, [.d (.v (.int .u8 0))], .int .u8, false, false, false, []⟩
theorem Tryz.tok6 : TOk Tryz.prog 6 Tryz.tk6 := tok_mk (sz := 1) (bytes := 1) (z := .int .u8 0) (fun h => by cases h) (by kernel_rfl) Tryz.underlying6 Tryz.underlying6 rfl (by kernel_rfl) rfl
def Tryz.tk7 : TK := ⟨true, 4, 24, [.d (.v (.int .i64 0)), .d (.v (.int .i64 0)), .d (.v (.bool false)), .d (.v (.int .u8 0))], .struct [(0, 2), (1, 3), (2, 4), (3, 6)], false, false, false, []⟩
theorem Tryz.tok7 : TOk Tryz.prog 7 Tryz.tk7 := tok_mk (sz := 4) (bytes := 24) (z := .agg #[.int .i64 0, .int .i64 0, .bool false, .int .u8 0]) (fun h => by cases h) (by kernel_rfl) Tryz.underlying7 ⟨_, Tryz.underlying7, by kernel_rfl⟩ rfl (by kernel_rfl) rfl
def Tryz.tk8 : TK := ⟨true, 4, 24, [.d (.v (.int .i64 0)), .d (.v (.int .i64 0)), .d (.v (.bool false)), .d (.v (.int .u8 0))], .struct [(0, 2), (1, 3), (2, 4), (3, 6)], false, false, false, []⟩
theorem Tryz.tok8 : TOk Tryz.prog 8 Tryz.tk8 := tok_mk (sz := 4) (bytes := 24) (z := .agg #[.int .i64 0, .int .i64 0, .bool false, .int .u8 0]) (fun h => by cases h) (by kernel_rfl) Tryz.underlying8 ⟨_, Tryz.underlying8, by kernel_rfl⟩ rfl (by kernel_rfl) rfl
def Tryz.tk9 : TK := ⟨false, 1, 16, [.d (.v (.string ⟨#[]⟩))], .str, false, false, false, []⟩
theorem Tryz.tok9 : TOk Tryz.prog 9 Tryz.tk9 := tok_mk (sz := 1) (bytes := 16) (z := .string ⟨#[]⟩) (fun h => by cases h) (by kernel_rfl) Tryz.underlying9 Tryz.underlying9 rfl (by kernel_rfl) rfl
def Tryz.tk10 : TK := ⟨false, 1, 16, [.d (.v (.string ⟨#[]⟩))], .str, false, false, false, []⟩
theorem Tryz.tok10 : TOk Tryz.prog 10 Tryz.tk10 := tok_mk (sz := 1) (bytes := 16) (z := .string ⟨#[]⟩) (fun h => by cases h) (by kernel_rfl) Tryz.underlying10 Tryz.underlying10 rfl (by kernel_rfl) rfl
def Tryz.tk11 : TK := ⟨false, 1, 16, [.d (.v (.string ⟨#[]⟩))], .str, false, false, false, []⟩
theorem Tryz.tok11 : TOk Tryz.prog 11 Tryz.tk11 := tok_mk (sz := 1) (bytes := 16) (z := .string ⟨#[]⟩) (fun h => by cases h) (by kernel_rfl) Tryz.underlying11 Tryz.underlying11 rfl (by kernel_rfl) rfl
def Tryz.tk12 : TK := ⟨false, 1, 8, [.d (.v (.int .u64 0))], .int .u64, false, false, false, []⟩
theorem Tryz.tok12 : TOk Tryz.prog 12 Tryz.tk12 := tok_mk (sz := 1) (bytes := 8) (z := .int .u64 0) (fun h => by cases h) (by kernel_rfl) Tryz.underlying12 Tryz.underlying12 rfl (by kernel_rfl) rfl
def Tryz.tk13 : TK := ⟨true, 2, 24, [.d (.v (.string ⟨#[]⟩)), .d (.v (.int .u64 0))], .struct [(0, 9), (1, 12)], false, false, false, []⟩
theorem Tryz.tok13 : TOk Tryz.prog 13 Tryz.tk13 := tok_mk (sz := 2) (bytes := 24) (z := .agg #[.string ⟨#[]⟩, .int .u64 0]) (fun h => by cases h) (by kernel_rfl) Tryz.underlying13 ⟨_, Tryz.underlying13, by kernel_rfl⟩ rfl (by kernel_rfl) rfl
def Tryz.tk14 : TK := ⟨true, 2, 24, [.d (.v (.string ⟨#[]⟩)), .d (.v (.int .u64 0))], .struct [(0, 9), (1, 12)], false, false, false, []⟩
theorem Tryz.tok14 : TOk Tryz.prog 14 Tryz.tk14 := tok_mk (sz := 2) (bytes := 24) (z := .agg #[.string ⟨#[]⟩, .int .u64 0]) (fun h => by cases h) (by kernel_rfl) Tryz.underlying14 ⟨_, Tryz.underlying14, by kernel_rfl⟩ rfl (by kernel_rfl) rfl
def Tryz.tk15 : TK := ⟨false, 1, 8, [.d (.v (.pointer none))], .ptr 135, false, false, false, []⟩
theorem Tryz.tok15 : TOk Tryz.prog 15 Tryz.tk15 := tok_mk (sz := 1) (bytes := 8) (z := .pointer none) (fun h => by cases h) (by kernel_rfl) Tryz.underlying15 Tryz.underlying15 rfl (by kernel_rfl) rfl
def Tryz.tk16 : TK := ⟨false, 1, 8, [.d (.v (.pointer none))], .ptr 138, false, false, false, []⟩
theorem Tryz.tok16 : TOk Tryz.prog 16 Tryz.tk16 := tok_mk (sz := 1) (bytes := 8) (z := .pointer none) (fun h => by cases h) (by kernel_rfl) Tryz.underlying16 Tryz.underlying16 rfl (by kernel_rfl) rfl
def Tryz.tk17 : TK := ⟨false, 1, 8, [.d (.v (.pointer none))], .ptr 146, false, false, false, []⟩
theorem Tryz.tok17 : TOk Tryz.prog 17 Tryz.tk17 := tok_mk (sz := 1) (bytes := 8) (z := .pointer none) (fun h => by cases h) (by kernel_rfl) Tryz.underlying17 Tryz.underlying17 rfl (by kernel_rfl) rfl
def Tryz.tk18 : TK := ⟨true, 1, 8, [.d (.v (.pointer none))], .struct [(0, 17)], false, false, false, []⟩
theorem Tryz.tok18 : TOk Tryz.prog 18 Tryz.tk18 := tok_mk (sz := 1) (bytes := 8) (z := .agg #[.pointer none]) (fun h => by cases h) (by kernel_rfl) Tryz.underlying18 ⟨_, Tryz.underlying18, by kernel_rfl⟩ rfl (by kernel_rfl) rfl
def Tryz.tk19 : TK := ⟨true, 1, 8, [.d (.v (.pointer none))], .struct [(0, 17)], false, false, false, []⟩
theorem Tryz.tok19 : TOk Tryz.prog 19 Tryz.tk19 := tok_mk (sz := 1) (bytes := 8) (z := .agg #[.pointer none]) (fun h => by cases h) (by kernel_rfl) Tryz.underlying19 ⟨_, Tryz.underlying19, by kernel_rfl⟩ rfl (by kernel_rfl) rfl
def Tryz.tk21 : TK := ⟨false, 1, 4, [.d (.v (.int .i32 0))], .int .i32, false, false, false, []⟩
theorem Tryz.tok21 : TOk Tryz.prog 21 Tryz.tk21 := tok_mk (sz := 1) (bytes := 4) (z := .int .i32 0) (fun h => by cases h) (by kernel_rfl) Tryz.underlying21 Tryz.underlying21 rfl (by kernel_rfl) rfl
def Tryz.tk22 : TK := ⟨false, 1, 24, [.nl], .slice 28, false, false, false, []⟩
theorem Tryz.tok22 : TOk Tryz.prog 22 Tryz.tk22 := tok_mk (sz := 1) (bytes := 24) (z := .slice none 0 0) (fun h => by cases h) (by kernel_rfl) Tryz.underlying22 Tryz.underlying22 rfl (by kernel_rfl) rfl
def Tryz.tk23 : TK := ⟨false, 1, 8, [.d (.v (.nilFunc))], .func, false, false, false, []⟩
theorem Tryz.tok23 : TOk Tryz.prog 23 Tryz.tk23 := tok_mk (sz := 1) (bytes := 8) (z := .nilFunc) (fun h => by cases h) (by kernel_rfl) Tryz.underlying23 ⟨_, _, _, Tryz.underlying23⟩ rfl (by kernel_rfl) rfl
def Tryz.tk24 : TK := ⟨false, 1, 8, [.d (.v (.pointer none))], .ptr 53, false, false, false, []⟩
theorem Tryz.tok24 : TOk Tryz.prog 24 Tryz.tk24 := tok_mk (sz := 1) (bytes := 8) (z := .pointer none) (fun h => by cases h) (by kernel_rfl) Tryz.underlying24 Tryz.underlying24 rfl (by kernel_rfl) rfl
def Tryz.tk25 : TK := ⟨false, 1, 8, [.d (.v (.nilFunc))], .func, false, false, false, []⟩
theorem Tryz.tok25 : TOk Tryz.prog 25 Tryz.tk25 := tok_mk (sz := 1) (bytes := 8) (z := .nilFunc) (fun h => by cases h) (by kernel_rfl) Tryz.underlying25 ⟨_, _, _, Tryz.underlying25⟩ rfl (by kernel_rfl) rfl
def Tryz.tk26 : TK := ⟨false, 1, 8, [.d (.v (.nilFunc))], .func, false, false, false, []⟩
theorem Tryz.tok26 : TOk Tryz.prog 26 Tryz.tk26 := tok_mk (sz := 1) (bytes := 8) (z := .nilFunc) (fun h => by cases h) (by kernel_rfl) Tryz.underlying26 ⟨_, _, _, Tryz.underlying26⟩ rfl (by kernel_rfl) rfl
def Tryz.tk27 : TK := ⟨true, 7, 80, [.d (.v (.int .i64 0)), .d (.v (.int .i64 0)), .d (.v (.int .i64 0)), .d (.v (.int .i64 0)), .d (.v (.string ⟨#[]⟩)), .d (.v (.string ⟨#[]⟩)), .d (.v (.string ⟨#[]⟩))], .struct [(0, 3), (1, 3), (2, 3), (3, 3), (4, 9), (5, 9), (6, 9)], false, false, false, []⟩
theorem Tryz.tok27 : TOk Tryz.prog 27 Tryz.tk27 := tok_mk (sz := 7) (bytes := 80) (z := .agg #[.int .i64 0, .int .i64 0, .int .i64 0, .int .i64 0, .string ⟨#[]⟩, .string ⟨#[]⟩, .string ⟨#[]⟩]) (fun h => by cases h) (by kernel_rfl) Tryz.underlying27 ⟨_, Tryz.underlying27, by kernel_rfl⟩ rfl (by kernel_rfl) rfl
def Tryz.tk28 : TK := ⟨true, 7, 80, [.d (.v (.int .i64 0)), .d (.v (.int .i64 0)), .d (.v (.int .i64 0)), .d (.v (.int .i64 0)), .d (.v (.string ⟨#[]⟩)), .d (.v (.string ⟨#[]⟩)), .d (.v (.string ⟨#[]⟩))], .struct [(0, 3), (1, 3), (2, 3), (3, 3), (4, 9), (5, 9), (6, 9)], true, false, false, []⟩
theorem Tryz.tok28 : TOk Tryz.prog 28 Tryz.tk28 := tok_mk (sz := 7) (bytes := 80) (z := .agg #[.int .i64 0, .int .i64 0, .int .i64 0, .int .i64 0, .string ⟨#[]⟩, .string ⟨#[]⟩, .string ⟨#[]⟩]) (fun _ => by kernel_rfl) (by kernel_rfl) Tryz.underlying28 ⟨_, Tryz.underlying28, by kernel_rfl⟩ rfl (by kernel_rfl) rfl
def Tryz.tk29 : TK := ⟨false, 1, 8, [.d (.v (.int .u64 0))], .int .u64, false, false, false, []⟩
theorem Tryz.tok29 : TOk Tryz.prog 29 Tryz.tk29 := tok_mk (sz := 1) (bytes := 8) (z := .int .u64 0) (fun h => by cases h) (by kernel_rfl) Tryz.underlying29 Tryz.underlying29 rfl (by kernel_rfl) rfl
def Tryz.tk30 : TK := ⟨false, 1, 8, [.d (.v (.nilFunc))], .func, false, false, false, []⟩
theorem Tryz.tok30 : TOk Tryz.prog 30 Tryz.tk30 := tok_mk (sz := 1) (bytes := 8) (z := .nilFunc) (fun h => by cases h) (by kernel_rfl) Tryz.underlying30 ⟨_, _, _, Tryz.underlying30⟩ rfl (by kernel_rfl) rfl
def Tryz.tk31 : TK := ⟨false, 1, 8, [.d (.v (.int .i64 0))], .int .i64, false, false, false, []⟩
theorem Tryz.tok31 : TOk Tryz.prog 31 Tryz.tk31 := tok_mk (sz := 1) (bytes := 8) (z := .int .i64 0) (fun h => by cases h) (by kernel_rfl) Tryz.underlying31 Tryz.underlying31 rfl (by kernel_rfl) rfl
def Tryz.tk33 : TK := ⟨false, 1, 8, [.d (.v (.nilFunc))], .func, false, false, false, []⟩
theorem Tryz.tok33 : TOk Tryz.prog 33 Tryz.tk33 := tok_mk (sz := 1) (bytes := 8) (z := .nilFunc) (fun h => by cases h) (by kernel_rfl) Tryz.underlying33 ⟨_, _, _, Tryz.underlying33⟩ rfl (by kernel_rfl) rfl
def Tryz.tk34 : TK := ⟨false, 1, 24, [.nl], .slice 3, false, false, false, []⟩
theorem Tryz.tok34 : TOk Tryz.prog 34 Tryz.tk34 := tok_mk (sz := 1) (bytes := 24) (z := .slice none 0 0) (fun h => by cases h) (by kernel_rfl) Tryz.underlying34 Tryz.underlying34 rfl (by kernel_rfl) rfl
def Tryz.tk35 : TK := ⟨false, 1, 8, [.d (.v (.nilFunc))], .func, false, false, false, []⟩
theorem Tryz.tok35 : TOk Tryz.prog 35 Tryz.tk35 := tok_mk (sz := 1) (bytes := 8) (z := .nilFunc) (fun h => by cases h) (by kernel_rfl) Tryz.underlying35 ⟨_, _, _, Tryz.underlying35⟩ rfl (by kernel_rfl) rfl
def Tryz.tk36 : TK := ⟨false, 1, 8, [.d (.v (.nilFunc))], .func, false, false, false, []⟩
theorem Tryz.tok36 : TOk Tryz.prog 36 Tryz.tk36 := tok_mk (sz := 1) (bytes := 8) (z := .nilFunc) (fun h => by cases h) (by kernel_rfl) Tryz.underlying36 ⟨_, _, _, Tryz.underlying36⟩ rfl (by kernel_rfl) rfl
def Tryz.tk38 : TK := ⟨false, 1, 8, [.d (.v (.nilFunc))], .func, false, false, false, []⟩
theorem Tryz.tok38 : TOk Tryz.prog 38 Tryz.tk38 := tok_mk (sz := 1) (bytes := 8) (z := .nilFunc) (fun h => by cases h) (by kernel_rfl) Tryz.underlying38 ⟨_, _, _, Tryz.underlying38⟩ rfl (by kernel_rfl) rfl
def Tryz.tk39 : TK := ⟨false, 1, 8, [.d (.v (.nilFunc))], .func, false, false, false, []⟩
theorem Tryz.tok39 : TOk Tryz.prog 39 Tryz.tk39 := tok_mk (sz := 1) (bytes := 8) (z := .nilFunc) (fun h => by cases h) (by kernel_rfl) Tryz.underlying39 ⟨_, _, _, Tryz.underlying39⟩ rfl (by kernel_rfl) rfl
def Tryz.tk40 : TK := ⟨true, 6, 72, [.d (.v (.int .i64 0)), .d (.v (.string ⟨#[]⟩)), .d (.v (.string ⟨#[]⟩)), .d (.v (.string ⟨#[]⟩)), .d (.v (.int .i64 0)), .d (.v (.int .i64 0))], .struct [(0, 3), (1, 9), (2, 9), (3, 9), (4, 3), (5, 3)], false, false, false, []⟩
theorem Tryz.tok40 : TOk Tryz.prog 40 Tryz.tk40 := tok_mk (sz := 6) (bytes := 72) (z := .agg #[.int .i64 0, .string ⟨#[]⟩, .string ⟨#[]⟩, .string ⟨#[]⟩, .int .i64 0, .int .i64 0]) (fun h => by cases h) (by kernel_rfl) Tryz.underlying40 ⟨_, Tryz.underlying40, by kernel_rfl⟩ rfl (by kernel_rfl) rfl
def Tryz.tk41 : TK := ⟨true, 6, 72, [.d (.v (.int .i64 0)), .d (.v (.string ⟨#[]⟩)), .d (.v (.string ⟨#[]⟩)), .d (.v (.string ⟨#[]⟩)), .d (.v (.int .i64 0)), .d (.v (.int .i64 0))], .struct [(0, 3), (1, 9), (2, 9), (3, 9), (4, 3), (5, 3)], true, false, false, []⟩
theorem Tryz.tok41 : TOk Tryz.prog 41 Tryz.tk41 := tok_mk (sz := 6) (bytes := 72) (z := .agg #[.int .i64 0, .string ⟨#[]⟩, .string ⟨#[]⟩, .string ⟨#[]⟩, .int .i64 0, .int .i64 0]) (fun _ => by kernel_rfl) (by kernel_rfl) Tryz.underlying41 ⟨_, Tryz.underlying41, by kernel_rfl⟩ rfl (by kernel_rfl) rfl
def Tryz.tk43 : TK := ⟨false, 1, 8, [.d (.v (.nilFunc))], .func, false, false, false, []⟩
theorem Tryz.tok43 : TOk Tryz.prog 43 Tryz.tk43 := tok_mk (sz := 1) (bytes := 8) (z := .nilFunc) (fun h => by cases h) (by kernel_rfl) Tryz.underlying43 ⟨_, _, _, Tryz.underlying43⟩ rfl (by kernel_rfl) rfl
def Tryz.tk44 : TK := ⟨false, 1, 24, [.nl], .slice 41, false, false, false, []⟩
theorem Tryz.tok44 : TOk Tryz.prog 44 Tryz.tk44 := tok_mk (sz := 1) (bytes := 24) (z := .slice none 0 0) (fun h => by cases h) (by kernel_rfl) Tryz.underlying44 Tryz.underlying44 rfl (by kernel_rfl) rfl
def Tryz.tk45 : TK := ⟨false, 1, 8, [.d (.v (.nilFunc))], .func, false, false, false, []⟩
theorem Tryz.tok45 : TOk Tryz.prog 45 Tryz.tk45 := tok_mk (sz := 1) (bytes := 8) (z := .nilFunc) (fun h => by cases h) (by kernel_rfl) Tryz.underlying45 ⟨_, _, _, Tryz.underlying45⟩ rfl (by kernel_rfl) rfl
def Tryz.tk47 : TK := ⟨false, 1, 8, [.d (.v (.nilFunc))], .func, false, false, false, []⟩
theorem Tryz.tok47 : TOk Tryz.prog 47 Tryz.tk47 := tok_mk (sz := 1) (bytes := 8) (z := .nilFunc) (fun h => by cases h) (by kernel_rfl) Tryz.underlying47 ⟨_, _, _, Tryz.underlying47⟩ rfl (by kernel_rfl) rfl
def Tryz.tk48 : TK := ⟨false, 1, 8, [.d (.v (.nilFunc))], .func, false, false, false, []⟩
theorem Tryz.tok48 : TOk Tryz.prog 48 Tryz.tk48 := tok_mk (sz := 1) (bytes := 8) (z := .nilFunc) (fun h => by cases h) (by kernel_rfl) Tryz.underlying48 ⟨_, _, _, Tryz.underlying48⟩ rfl (by kernel_rfl) rfl
def Tryz.tk49 : TK := ⟨false, 1, 8, [.d (.v (.nilFunc))], .func, false, false, false, []⟩
theorem Tryz.tok49 : TOk Tryz.prog 49 Tryz.tk49 := tok_mk (sz := 1) (bytes := 8) (z := .nilFunc) (fun h => by cases h) (by kernel_rfl) Tryz.underlying49 ⟨_, _, _, Tryz.underlying49⟩ rfl (by kernel_rfl) rfl
def Tryz.tk50 : TK := ⟨false, 1, 8, [.d (.v (.nilFunc))], .func, false, false, false, []⟩
theorem Tryz.tok50 : TOk Tryz.prog 50 Tryz.tk50 := tok_mk (sz := 1) (bytes := 8) (z := .nilFunc) (fun h => by cases h) (by kernel_rfl) Tryz.underlying50 ⟨_, _, _, Tryz.underlying50⟩ rfl (by kernel_rfl) rfl
def Tryz.tk51 : TK := ⟨false, 1, 8, [.d (.v (.map none))], .map 3 55, false, false, false, []⟩
theorem Tryz.tok51 : TOk Tryz.prog 51 Tryz.tk51 := tok_mk (sz := 1) (bytes := 8) (z := .map none) (fun h => by cases h) (by kernel_rfl) Tryz.underlying51 Tryz.underlying51 rfl (by kernel_rfl) rfl
def Tryz.tk52 : TK := ⟨true, 4, 32, [.d (.v (.map none)), .d (.v (.int .i64 0)), .d (.v (.int .i64 0)), .d (.v (.int .i64 0))], .struct [(0, 51), (1, 3), (2, 3), (3, 3)], false, false, false, []⟩
theorem Tryz.tok52 : TOk Tryz.prog 52 Tryz.tk52 := tok_mk (sz := 4) (bytes := 32) (z := .agg #[.map none, .int .i64 0, .int .i64 0, .int .i64 0]) (fun h => by cases h) (by kernel_rfl) Tryz.underlying52 ⟨_, Tryz.underlying52, by kernel_rfl⟩ rfl (by kernel_rfl) rfl
def Tryz.tk53 : TK := ⟨true, 4, 32, [.d (.v (.map none)), .d (.v (.int .i64 0)), .d (.v (.int .i64 0)), .d (.v (.int .i64 0))], .struct [(0, 51), (1, 3), (2, 3), (3, 3)], false, false, false, []⟩
theorem Tryz.tok53 : TOk Tryz.prog 53 Tryz.tk53 := tok_mk (sz := 4) (bytes := 32) (z := .agg #[.map none, .int .i64 0, .int .i64 0, .int .i64 0]) (fun h => by cases h) (by kernel_rfl) Tryz.underlying53 ⟨_, Tryz.underlying53, by kernel_rfl⟩ rfl (by kernel_rfl) rfl
def Tryz.tk54 : TK := ⟨false, 1, 8, [.d (.v (.nilFunc))], .func, false, false, false, []⟩
theorem Tryz.tok54 : TOk Tryz.prog 54 Tryz.tk54 := tok_mk (sz := 1) (bytes := 8) (z := .nilFunc) (fun h => by cases h) (by kernel_rfl) Tryz.underlying54 ⟨_, _, _, Tryz.underlying54⟩ rfl (by kernel_rfl) rfl
def Tryz.tk55 : TK := ⟨false, 1, 8, [.d (.v (.pointer none))], .ptr 41, false, false, false, []⟩
theorem Tryz.tok55 : TOk Tryz.prog 55 Tryz.tk55 := tok_mk (sz := 1) (bytes := 8) (z := .pointer none) (fun h => by cases h) (by kernel_rfl) Tryz.underlying55 Tryz.underlying55 rfl (by kernel_rfl) rfl
def Tryz.tk56 : TK := ⟨false, 1, 8, [.d (.v (.nilFunc))], .func, false, false, false, []⟩
theorem Tryz.tok56 : TOk Tryz.prog 56 Tryz.tk56 := tok_mk (sz := 1) (bytes := 8) (z := .nilFunc) (fun h => by cases h) (by kernel_rfl) Tryz.underlying56 ⟨_, _, _, Tryz.underlying56⟩ rfl (by kernel_rfl) rfl
def Tryz.tk57 : TK := ⟨false, 1, 8, [.d (.v (.nilFunc))], .func, false, false, false, []⟩
theorem Tryz.tok57 : TOk Tryz.prog 57 Tryz.tk57 := tok_mk (sz := 1) (bytes := 8) (z := .nilFunc) (fun h => by cases h) (by kernel_rfl) Tryz.underlying57 ⟨_, _, _, Tryz.underlying57⟩ rfl (by kernel_rfl) rfl
def Tryz.tk58 : TK := ⟨false, 1, 24, [.nl], .slice 55, false, false, false, []⟩
theorem Tryz.tok58 : TOk Tryz.prog 58 Tryz.tk58 := tok_mk (sz := 1) (bytes := 24) (z := .slice none 0 0) (fun h => by cases h) (by kernel_rfl) Tryz.underlying58 Tryz.underlying58 rfl (by kernel_rfl) rfl
def Tryz.tk59 : TK := ⟨false, 1, 8, [.d (.v (.nilFunc))], .func, false, false, false, []⟩
theorem Tryz.tok59 : TOk Tryz.prog 59 Tryz.tk59 := tok_mk (sz := 1) (bytes := 8) (z := .nilFunc) (fun h => by cases h) (by kernel_rfl) Tryz.underlying59 ⟨_, _, _, Tryz.underlying59⟩ rfl (by kernel_rfl) rfl
def Tryz.tk60 : TK := ⟨false, 1, 8, [.d (.v (.nilFunc))], .func, false, false, false, []⟩
theorem Tryz.tok60 : TOk Tryz.prog 60 Tryz.tk60 := tok_mk (sz := 1) (bytes := 8) (z := .nilFunc) (fun h => by cases h) (by kernel_rfl) Tryz.underlying60 ⟨_, _, _, Tryz.underlying60⟩ rfl (by kernel_rfl) rfl
def Tryz.tk61 : TK := ⟨false, 1, 8, [.d (.v (.nilFunc))], .func, false, false, false, []⟩
theorem Tryz.tok61 : TOk Tryz.prog 61 Tryz.tk61 := tok_mk (sz := 1) (bytes := 8) (z := .nilFunc) (fun h => by cases h) (by kernel_rfl) Tryz.underlying61 ⟨_, _, _, Tryz.underlying61⟩ rfl (by kernel_rfl) rfl
def Tryz.tk62 : TK := ⟨false, 1, 8, [.d (.v (.nilFunc))], .func, false, false, false, []⟩
theorem Tryz.tok62 : TOk Tryz.prog 62 Tryz.tk62 := tok_mk (sz := 1) (bytes := 8) (z := .nilFunc) (fun h => by cases h) (by kernel_rfl) Tryz.underlying62 ⟨_, _, _, Tryz.underlying62⟩ rfl (by kernel_rfl) rfl
def Tryz.tk63 : TK := ⟨false, 1, 8, [.d (.v (.nilFunc))], .func, false, false, false, []⟩
theorem Tryz.tok63 : TOk Tryz.prog 63 Tryz.tk63 := tok_mk (sz := 1) (bytes := 8) (z := .nilFunc) (fun h => by cases h) (by kernel_rfl) Tryz.underlying63 ⟨_, _, _, Tryz.underlying63⟩ rfl (by kernel_rfl) rfl
def Tryz.tk64 : TK := ⟨false, 1, 8, [.d (.v (.nilFunc))], .func, false, false, false, []⟩
theorem Tryz.tok64 : TOk Tryz.prog 64 Tryz.tk64 := tok_mk (sz := 1) (bytes := 8) (z := .nilFunc) (fun h => by cases h) (by kernel_rfl) Tryz.underlying64 ⟨_, _, _, Tryz.underlying64⟩ rfl (by kernel_rfl) rfl
def Tryz.tk65 : TK := ⟨false, 1, 8, [.d (.v (.nilFunc))], .func, false, false, false, []⟩
theorem Tryz.tok65 : TOk Tryz.prog 65 Tryz.tk65 := tok_mk (sz := 1) (bytes := 8) (z := .nilFunc) (fun h => by cases h) (by kernel_rfl) Tryz.underlying65 ⟨_, _, _, Tryz.underlying65⟩ rfl (by kernel_rfl) rfl
def Tryz.tk66 : TK := ⟨false, 1, 8, [.d (.v (.nilFunc))], .func, false, false, false, []⟩
theorem Tryz.tok66 : TOk Tryz.prog 66 Tryz.tk66 := tok_mk (sz := 1) (bytes := 8) (z := .nilFunc) (fun h => by cases h) (by kernel_rfl) Tryz.underlying66 ⟨_, _, _, Tryz.underlying66⟩ rfl (by kernel_rfl) rfl
def Tryz.tk67 : TK := ⟨false, 1, 8, [.d (.v (.nilFunc))], .func, false, false, false, []⟩
theorem Tryz.tok67 : TOk Tryz.prog 67 Tryz.tk67 := tok_mk (sz := 1) (bytes := 8) (z := .nilFunc) (fun h => by cases h) (by kernel_rfl) Tryz.underlying67 ⟨_, _, _, Tryz.underlying67⟩ rfl (by kernel_rfl) rfl
def Tryz.tk68 : TK := ⟨false, 1, 8, [.d (.v (.nilFunc))], .func, false, false, false, []⟩
theorem Tryz.tok68 : TOk Tryz.prog 68 Tryz.tk68 := tok_mk (sz := 1) (bytes := 8) (z := .nilFunc) (fun h => by cases h) (by kernel_rfl) Tryz.underlying68 ⟨_, _, _, Tryz.underlying68⟩ rfl (by kernel_rfl) rfl
def Tryz.tk69 : TK := ⟨false, 1, 8, [.d (.v (.nilFunc))], .func, false, false, false, []⟩
theorem Tryz.tok69 : TOk Tryz.prog 69 Tryz.tk69 := tok_mk (sz := 1) (bytes := 8) (z := .nilFunc) (fun h => by cases h) (by kernel_rfl) Tryz.underlying69 ⟨_, _, _, Tryz.underlying69⟩ rfl (by kernel_rfl) rfl
def Tryz.tk70 : TK := ⟨false, 1, 8, [.d (.v (.nilFunc))], .func, false, false, false, []⟩
theorem Tryz.tok70 : TOk Tryz.prog 70 Tryz.tk70 := tok_mk (sz := 1) (bytes := 8) (z := .nilFunc) (fun h => by cases h) (by kernel_rfl) Tryz.underlying70 ⟨_, _, _, Tryz.underlying70⟩ rfl (by kernel_rfl) rfl
def Tryz.tk71 : TK := ⟨false, 1, 8, [.d (.v (.nilFunc))], .func, false, false, false, []⟩
theorem Tryz.tok71 : TOk Tryz.prog 71 Tryz.tk71 := tok_mk (sz := 1) (bytes := 8) (z := .nilFunc) (fun h => by cases h) (by kernel_rfl) Tryz.underlying71 ⟨_, _, _, Tryz.underlying71⟩ rfl (by kernel_rfl) rfl
def Tryz.tk72 : TK := ⟨false, 1, 8, [.d (.v (.nilFunc))], .func, false, false, false, []⟩
theorem Tryz.tok72 : TOk Tryz.prog 72 Tryz.tk72 := tok_mk (sz := 1) (bytes := 8) (z := .nilFunc) (fun h => by cases h) (by kernel_rfl) Tryz.underlying72 ⟨_, _, _, Tryz.underlying72⟩ rfl (by kernel_rfl) rfl
def Tryz.tk73 : TK := ⟨false, 1, 8, [.d (.v (.nilFunc))], .func, false, false, false, []⟩
theorem Tryz.tok73 : TOk Tryz.prog 73 Tryz.tk73 := tok_mk (sz := 1) (bytes := 8) (z := .nilFunc) (fun h => by cases h) (by kernel_rfl) Tryz.underlying73 ⟨_, _, _, Tryz.underlying73⟩ rfl (by kernel_rfl) rfl
def Tryz.tk74 : TK := ⟨false, 1, 8, [.d (.v (.nilFunc))], .func, false, false, false, []⟩
theorem Tryz.tok74 : TOk Tryz.prog 74 Tryz.tk74 := tok_mk (sz := 1) (bytes := 8) (z := .nilFunc) (fun h => by cases h) (by kernel_rfl) Tryz.underlying74 ⟨_, _, _, Tryz.underlying74⟩ rfl (by kernel_rfl) rfl
def Tryz.tk75 : TK := ⟨false, 1, 8, [.d (.v (.nilFunc))], .func, false, false, false, []⟩
theorem Tryz.tok75 : TOk Tryz.prog 75 Tryz.tk75 := tok_mk (sz := 1) (bytes := 8) (z := .nilFunc) (fun h => by cases h) (by kernel_rfl) Tryz.underlying75 ⟨_, _, _, Tryz.underlying75⟩ rfl (by kernel_rfl) rfl
def Tryz.tk76 : TK := ⟨false, 1, 8, [.d (.v (.nilFunc))], .func, false, false, false, []⟩
theorem Tryz.tok76 : TOk Tryz.prog 76 Tryz.tk76 := tok_mk (sz := 1) (bytes := 8) (z := .nilFunc) (fun h => by cases h) (by kernel_rfl) Tryz.underlying76 ⟨_, _, _, Tryz.underlying76⟩ rfl (by kernel_rfl) rfl
def Tryz.tk77 : TK := ⟨false, 1, 8, [.d (.v (.nilFunc))], .func, false, false, false, []⟩
theorem Tryz.tok77 : TOk Tryz.prog 77 Tryz.tk77 := tok_mk (sz := 1) (bytes := 8) (z := .nilFunc) (fun h => by cases h) (by kernel_rfl) Tryz.underlying77 ⟨_, _, _, Tryz.underlying77⟩ rfl (by kernel_rfl) rfl
def Tryz.tk78 : TK := ⟨false, 1, 8, [.d (.v (.nilFunc))], .func, false, false, false, []⟩
theorem Tryz.tok78 : TOk Tryz.prog 78 Tryz.tk78 := tok_mk (sz := 1) (bytes := 8) (z := .nilFunc) (fun h => by cases h) (by kernel_rfl) Tryz.underlying78 ⟨_, _, _, Tryz.underlying78⟩ rfl (by kernel_rfl) rfl
def Tryz.tk79 : TK := ⟨false, 1, 8, [.d (.v (.nilFunc))], .func, false, false, false, []⟩
theorem Tryz.tok79 : TOk Tryz.prog 79 Tryz.tk79 := tok_mk (sz := 1) (bytes := 8) (z := .nilFunc) (fun h => by cases h) (by kernel_rfl) Tryz.underlying79 ⟨_, _, _, Tryz.underlying79⟩ rfl (by kernel_rfl) rfl
def Tryz.tk80 : TK := ⟨false, 1, 8, [.d (.v (.nilFunc))], .func, false, false, false, []⟩
theorem Tryz.tok80 : TOk Tryz.prog 80 Tryz.tk80 := tok_mk (sz := 1) (bytes := 8) (z := .nilFunc) (fun h => by cases h) (by kernel_rfl) Tryz.underlying80 ⟨_, _, _, Tryz.underlying80⟩ rfl (by kernel_rfl) rfl
def Tryz.tk84 : TK := ⟨false, 1, 8, [.d (.v (.nilFunc))], .func, false, false, false, []⟩
theorem Tryz.tok84 : TOk Tryz.prog 84 Tryz.tk84 := tok_mk (sz := 1) (bytes := 8) (z := .nilFunc) (fun h => by cases h) (by kernel_rfl) Tryz.underlying84 ⟨_, _, _, Tryz.underlying84⟩ rfl (by kernel_rfl) rfl
def Tryz.tk85 : TK := ⟨false, 1, 8, [.d (.v (.nilFunc))], .func, false, false, false, []⟩
theorem Tryz.tok85 : TOk Tryz.prog 85 Tryz.tk85 := tok_mk (sz := 1) (bytes := 8) (z := .nilFunc) (fun h => by cases h) (by kernel_rfl) Tryz.underlying85 ⟨_, _, _, Tryz.underlying85⟩ rfl (by kernel_rfl) rfl
def Tryz.tk86 : TK := ⟨false, 1, 8, [.d (.v (.pointer none))], .ptr 82, false, false, false, []⟩
theorem Tryz.tok86 : TOk Tryz.prog 86 Tryz.tk86 := tok_mk (sz := 1) (bytes := 8) (z := .pointer none) (fun h => by cases h) (by kernel_rfl) Tryz.underlying86 Tryz.underlying86 rfl (by kernel_rfl) rfl
def Tryz.tk87 : TK := ⟨false, 1, 8, [.d (.v (.nilFunc))], .func, false, false, false, []⟩
theorem Tryz.tok87 : TOk Tryz.prog 87 Tryz.tk87 := tok_mk (sz := 1) (bytes := 8) (z := .nilFunc) (fun h => by cases h) (by kernel_rfl) Tryz.underlying87 ⟨_, _, _, Tryz.underlying87⟩ rfl (by kernel_rfl) rfl
def Tryz.tk88 : TK := ⟨false, 1, 8, [.d (.v (.nilFunc))], .func, false, false, false, []⟩
theorem Tryz.tok88 : TOk Tryz.prog 88 Tryz.tk88 := tok_mk (sz := 1) (bytes := 8) (z := .nilFunc) (fun h => by cases h) (by kernel_rfl) Tryz.underlying88 ⟨_, _, _, Tryz.underlying88⟩ rfl (by kernel_rfl) rfl
def Tryz.tk89 : TK := ⟨false, 1, 8, [.d (.v (.nilFunc))], .func, false, false, false, []⟩
theorem Tryz.tok89 : TOk Tryz.prog 89 Tryz.tk89 := tok_mk (sz := 1) (bytes := 8) (z := .nilFunc) (fun h => by cases h) (by kernel_rfl) Tryz.underlying89 ⟨_, _, _, Tryz.underlying89⟩ rfl (by kernel_rfl) rfl
def Tryz.tk90 : TK := ⟨false, 1, 8, [.d (.v (.nilFunc))], .func, false, false, false, []⟩
theorem Tryz.tok90 : TOk Tryz.prog 90 Tryz.tk90 := tok_mk (sz := 1) (bytes := 8) (z := .nilFunc) (fun h => by cases h) (by kernel_rfl) Tryz.underlying90 ⟨_, _, _, Tryz.underlying90⟩ rfl (by kernel_rfl) rfl
def Tryz.tk91 : TK := ⟨false, 1, 8, [.d (.v (.nilFunc))], .func, false, false, false, []⟩
theorem Tryz.tok91 : TOk Tryz.prog 91 Tryz.tk91 := tok_mk (sz := 1) (bytes := 8) (z := .nilFunc) (fun h => by cases h) (by kernel_rfl) Tryz.underlying91 ⟨_, _, _, Tryz.underlying91⟩ rfl (by kernel_rfl) rfl
def Tryz.tk92 : TK := ⟨false, 1, 8, [.d (.v (.int .i64 0))], .int .i64, false, false, false, []⟩
theorem Tryz.tok92 : TOk Tryz.prog 92 Tryz.tk92 := tok_mk (sz := 1) (bytes := 8) (z := .int .i64 0) (fun h => by cases h) (by kernel_rfl) Tryz.underlying92 Tryz.underlying92 rfl (by kernel_rfl) rfl
def Tryz.tk94 : TK := ⟨false, 1, 8, [.d (.v (.nilFunc))], .func, false, false, false, []⟩
theorem Tryz.tok94 : TOk Tryz.prog 94 Tryz.tk94 := tok_mk (sz := 1) (bytes := 8) (z := .nilFunc) (fun h => by cases h) (by kernel_rfl) Tryz.underlying94 ⟨_, _, _, Tryz.underlying94⟩ rfl (by kernel_rfl) rfl
def Tryz.tk95 : TK := ⟨false, 1, 8, [.d (.v (.nilFunc))], .func, false, false, false, []⟩
theorem Tryz.tok95 : TOk Tryz.prog 95 Tryz.tk95 := tok_mk (sz := 1) (bytes := 8) (z := .nilFunc) (fun h => by cases h) (by kernel_rfl) Tryz.underlying95 ⟨_, _, _, Tryz.underlying95⟩ rfl (by kernel_rfl) rfl
def Tryz.tk96 : TK := ⟨false, 1, 8, [.d (.v (.nilFunc))], .func, false, false, false, []⟩
theorem Tryz.tok96 : TOk Tryz.prog 96 Tryz.tk96 := tok_mk (sz := 1) (bytes := 8) (z := .nilFunc) (fun h => by cases h) (by kernel_rfl) Tryz.underlying96 ⟨_, _, _, Tryz.underlying96⟩ rfl (by kernel_rfl) rfl
def Tryz.tk97 : TK := ⟨false, 1, 8, [.d (.v (.nilFunc))], .func, false, false, false, []⟩
theorem Tryz.tok97 : TOk Tryz.prog 97 Tryz.tk97 := tok_mk (sz := 1) (bytes := 8) (z := .nilFunc) (fun h => by cases h) (by kernel_rfl) Tryz.underlying97 ⟨_, _, _, Tryz.underlying97⟩ rfl (by kernel_rfl) rfl
def Tryz.tk98 : TK := ⟨false, 1, 8, [.d (.v (.nilFunc))], .func, false, false, false, []⟩
theorem Tryz.tok98 : TOk Tryz.prog 98 Tryz.tk98 := tok_mk (sz := 1) (bytes := 8) (z := .nilFunc) (fun h => by cases h) (by kernel_rfl) Tryz.underlying98 ⟨_, _, _, Tryz.underlying98⟩ rfl (by kernel_rfl) rfl
def Tryz.tk99 : TK := ⟨false, 1, 4, [.d (.v (.int .u32 0))], .int .u32, false, false, false, []⟩
theorem Tryz.tok99 : TOk Tryz.prog 99 Tryz.tk99 := tok_mk (sz := 1) (bytes := 4) (z := .int .u32 0) (fun h => by cases h) (by kernel_rfl) Tryz.underlying99 Tryz.underlying99 rfl (by kernel_rfl) rfl
def Tryz.tk100 : TK := ⟨false, 1, 8, [.d (.v (.nilFunc))], .func, false, false, false, []⟩
theorem Tryz.tok100 : TOk Tryz.prog 100 Tryz.tk100 := tok_mk (sz := 1) (bytes := 8) (z := .nilFunc) (fun h => by cases h) (by kernel_rfl) Tryz.underlying100 ⟨_, _, _, Tryz.underlying100⟩ rfl (by kernel_rfl) rfl
def Tryz.tk101 : TK := ⟨false, 1, 8, [.d (.v (.int .u64 0))], .int .u64, false, false, false, []⟩
theorem Tryz.tok101 : TOk Tryz.prog 101 Tryz.tk101 := tok_mk (sz := 1) (bytes := 8) (z := .int .u64 0) (fun h => by cases h) (by kernel_rfl) Tryz.underlying101 Tryz.underlying101 rfl (by kernel_rfl) rfl
def Tryz.tk102 : TK := ⟨false, 1, 8, [.d (.v (.nilFunc))], .func, false, false, false, []⟩
theorem Tryz.tok102 : TOk Tryz.prog 102 Tryz.tk102 := tok_mk (sz := 1) (bytes := 8) (z := .nilFunc) (fun h => by cases h) (by kernel_rfl) Tryz.underlying102 ⟨_, _, _, Tryz.underlying102⟩ rfl (by kernel_rfl) rfl
def Tryz.tk104 : TK := ⟨false, 1, 8, [.d (.v (.nilFunc))], .func, false, false, false, []⟩
theorem Tryz.tok104 : TOk Tryz.prog 104 Tryz.tk104 := tok_mk (sz := 1) (bytes := 8) (z := .nilFunc) (fun h => by cases h) (by kernel_rfl) Tryz.underlying104 ⟨_, _, _, Tryz.underlying104⟩ rfl (by kernel_rfl) rfl
def Tryz.tk105 : TK := ⟨false, 1, 8, [.d (.v (.nilFunc))], .func, false, false, false, []⟩
theorem Tryz.tok105 : TOk Tryz.prog 105 Tryz.tk105 := tok_mk (sz := 1) (bytes := 8) (z := .nilFunc) (fun h => by cases h) (by kernel_rfl) Tryz.underlying105 ⟨_, _, _, Tryz.underlying105⟩ rfl (by kernel_rfl) rfl
def Tryz.tk106 : TK := ⟨false, 1, 8, [.d (.v (.nilFunc))], .func, false, false, false, []⟩
theorem Tryz.tok106 : TOk Tryz.prog 106 Tryz.tk106 := tok_mk (sz := 1) (bytes := 8) (z := .nilFunc) (fun h => by cases h) (by kernel_rfl) Tryz.underlying106 ⟨_, _, _, Tryz.underlying106⟩ rfl (by kernel_rfl) rfl
def Tryz.tk107 : TK := ⟨false, 1, 8, [.d (.v (.nilFunc))], .func, false, false, false, []⟩
theorem Tryz.tok107 : TOk Tryz.prog 107 Tryz.tk107 := tok_mk (sz := 1) (bytes := 8) (z := .nilFunc) (fun h => by cases h) (by kernel_rfl) Tryz.underlying107 ⟨_, _, _, Tryz.underlying107⟩ rfl (by kernel_rfl) rfl
def Tryz.tk108 : TK := ⟨false, 1, 8, [.d (.v (.nilFunc))], .func, false, false, false, []⟩
theorem Tryz.tok108 : TOk Tryz.prog 108 Tryz.tk108 := tok_mk (sz := 1) (bytes := 8) (z := .nilFunc) (fun h => by cases h) (by kernel_rfl) Tryz.underlying108 ⟨_, _, _, Tryz.underlying108⟩ rfl (by kernel_rfl) rfl
def Tryz.tk109 : TK := ⟨false, 1, 8, [.d (.v (.nilFunc))], .func, false, false, false, []⟩
theorem Tryz.tok109 : TOk Tryz.prog 109 Tryz.tk109 := tok_mk (sz := 1) (bytes := 8) (z := .nilFunc) (fun h => by cases h) (by kernel_rfl) Tryz.underlying109 ⟨_, _, _, Tryz.underlying109⟩ rfl (by kernel_rfl) rfl
def Tryz.tk110 : TK := ⟨false, 1, 8, [.d (.v (.nilFunc))], .func, false, false, false, []⟩
theorem Tryz.tok110 : TOk Tryz.prog 110 Tryz.tk110 := tok_mk (sz := 1) (bytes := 8) (z := .nilFunc) (fun h => by cases h) (by kernel_rfl) Tryz.underlying110 ⟨_, _, _, Tryz.underlying110⟩ rfl (by kernel_rfl) rfl
def Tryz.tk111 : TK := ⟨false, 1, 8, [.d (.v (.int .u64 0))], .int .u64, false, false, false, []⟩
theorem Tryz.tok111 : TOk Tryz.prog 111 Tryz.tk111 := tok_mk (sz := 1) (bytes := 8) (z := .int .u64 0) (fun h => by cases h) (by kernel_rfl) Tryz.underlying111 Tryz.underlying111 rfl (by kernel_rfl) rfl
def Tryz.tk112 : TK := ⟨false, 1, 8, [.d (.v (.nilFunc))], .func, false, false, false, []⟩
theorem Tryz.tok112 : TOk Tryz.prog 112 Tryz.tk112 := tok_mk (sz := 1) (bytes := 8) (z := .nilFunc) (fun h => by cases h) (by kernel_rfl) Tryz.underlying112 ⟨_, _, _, Tryz.underlying112⟩ rfl (by kernel_rfl) rfl
def Tryz.tk113 : TK := ⟨false, 1, 8, [.d (.v (.nilFunc))], .func, false, false, false, []⟩
theorem Tryz.tok113 : TOk Tryz.prog 113 Tryz.tk113 := tok_mk (sz := 1) (bytes := 8) (z := .nilFunc) (fun h => by cases h) (by kernel_rfl) Tryz.underlying113 ⟨_, _, _, Tryz.underlying113⟩ rfl (by kernel_rfl) rfl
def Tryz.tk114 : TK := ⟨false, 1, 8, [.d (.v (.nilFunc))], .func, false, false, false, []⟩
theorem Tryz.tok114 : TOk Tryz.prog 114 Tryz.tk114 := tok_mk (sz := 1) (bytes := 8) (z := .nilFunc) (fun h => by cases h) (by kernel_rfl) Tryz.underlying114 ⟨_, _, _, Tryz.underlying114⟩ rfl (by kernel_rfl) rfl
def Tryz.tk115 : TK := ⟨false, 1, 8, [.d (.v (.pointer none))], .ptr 3, false, false, false, []⟩
theorem Tryz.tok115 : TOk Tryz.prog 115 Tryz.tk115 := tok_mk (sz := 1) (bytes := 8) (z := .pointer none) (fun h => by cases h) (by kernel_rfl) Tryz.underlying115 Tryz.underlying115 rfl (by kernel_rfl) rfl
def Tryz.tk116 : TK := ⟨false, 1, 8, [.d (.v (.nilFunc))], .func, false, false, false, []⟩
theorem Tryz.tok116 : TOk Tryz.prog 116 Tryz.tk116 := tok_mk (sz := 1) (bytes := 8) (z := .nilFunc) (fun h => by cases h) (by kernel_rfl) Tryz.underlying116 ⟨_, _, _, Tryz.underlying116⟩ rfl (by kernel_rfl) rfl
def Tryz.tk117 : TK := ⟨false, 1, 8, [.d (.v (.nilFunc))], .func, false, false, false, []⟩
theorem Tryz.tok117 : TOk Tryz.prog 117 Tryz.tk117 := tok_mk (sz := 1) (bytes := 8) (z := .nilFunc) (fun h => by cases h) (by kernel_rfl) Tryz.underlying117 ⟨_, _, _, Tryz.underlying117⟩ rfl (by kernel_rfl) rfl
def Tryz.tk118 : TK := ⟨false, 1, 8, [.d (.v (.nilFunc))], .func, false, false, false, []⟩
theorem Tryz.tok118 : TOk Tryz.prog 118 Tryz.tk118 := tok_mk (sz := 1) (bytes := 8) (z := .nilFunc) (fun h => by cases h) (by kernel_rfl) Tryz.underlying118 ⟨_, _, _, Tryz.underlying118⟩ rfl (by kernel_rfl) rfl
def Tryz.tk119 : TK := ⟨false, 1, 8, [.d (.v (.nilFunc))], .func, false, false, false, []⟩
theorem Tryz.tok119 : TOk Tryz.prog 119 Tryz.tk119 := tok_mk (sz := 1) (bytes := 8) (z := .nilFunc) (fun h => by cases h) (by kernel_rfl) Tryz.underlying119 ⟨_, _, _, Tryz.underlying119⟩ rfl (by kernel_rfl) rfl
def Tryz.tk120 : TK := ⟨false, 1, 8, [.d (.v (.nilFunc))], .func, false, false, false, []⟩
theorem Tryz.tok120 : TOk Tryz.prog 120 Tryz.tk120 := tok_mk (sz := 1) (bytes := 8) (z := .nilFunc) (fun h => by cases h) (by kernel_rfl) Tryz.underlying120 ⟨_, _, _, Tryz.underlying120⟩ rfl (by kernel_rfl) rfl
def Tryz.tk121 : TK := ⟨false, 1, 8, [.d (.v (.nilFunc))], .func, false, false, false, []⟩
theorem Tryz.tok121 : TOk Tryz.prog 121 Tryz.tk121 := tok_mk (sz := 1) (bytes := 8) (z := .nilFunc) (fun h => by cases h) (by kernel_rfl) Tryz.underlying121 ⟨_, _, _, Tryz.underlying121⟩ rfl (by kernel_rfl) rfl
def Tryz.tk122 : TK := ⟨false, 1, 8, [.d (.v (.nilFunc))], .func, false, false, false, []⟩
theorem Tryz.tok122 : TOk Tryz.prog 122 Tryz.tk122 := tok_mk (sz := 1) (bytes := 8) (z := .nilFunc) (fun h => by cases h) (by kernel_rfl) Tryz.underlying122 ⟨_, _, _, Tryz.underlying122⟩ rfl (by kernel_rfl) rfl
def Tryz.tk123 : TK := ⟨false, 1, 8, [.d (.v (.pointer none))], .ptr 111, false, false, false, []⟩
theorem Tryz.tok123 : TOk Tryz.prog 123 Tryz.tk123 := tok_mk (sz := 1) (bytes := 8) (z := .pointer none) (fun h => by cases h) (by kernel_rfl) Tryz.underlying123 Tryz.underlying123 rfl (by kernel_rfl) rfl
def Tryz.tk125 : TK := ⟨false, 1, 8, [.d (.v (.nilFunc))], .func, false, false, false, []⟩
theorem Tryz.tok125 : TOk Tryz.prog 125 Tryz.tk125 := tok_mk (sz := 1) (bytes := 8) (z := .nilFunc) (fun h => by cases h) (by kernel_rfl) Tryz.underlying125 ⟨_, _, _, Tryz.underlying125⟩ rfl (by kernel_rfl) rfl
def Tryz.tk127 : TK := ⟨true, 2, 2, [.d (.v (.int .u8 0)), .d (.v (.int .u8 0))], .struct [(0, 5), (1, 5)], false, false, false, []⟩
theorem Tryz.tok127 : TOk Tryz.prog 127 Tryz.tk127 := tok_mk (sz := 2) (bytes := 2) (z := .agg #[.int .u8 0, .int .u8 0]) (fun h => by cases h) (by kernel_rfl) Tryz.underlying127 ⟨_, Tryz.underlying127, by kernel_rfl⟩ rfl (by kernel_rfl) rfl
def Tryz.tk128 : TK := ⟨true, 2, 2, [.d (.v (.int .u8 0)), .d (.v (.int .u8 0))], .struct [(0, 5), (1, 5)], false, false, false, []⟩
theorem Tryz.tok128 : TOk Tryz.prog 128 Tryz.tk128 := tok_mk (sz := 2) (bytes := 2) (z := .agg #[.int .u8 0, .int .u8 0]) (fun h => by cases h) (by kernel_rfl) Tryz.underlying128 ⟨_, Tryz.underlying128, by kernel_rfl⟩ rfl (by kernel_rfl) rfl
def Tryz.tk129 : TK := ⟨true, 32, 32, [.d (.v (.int .u8 0)), .d (.v (.int .u8 0)), .d (.v (.int .u8 0)), .d (.v (.int .u8 0)), .d (.v (.int .u8 0)), .d (.v (.int .u8 0)), .d (.v (.int .u8 0)), .d (.v (.int .u8 0)), .d (.v (.int .u8 0)), .d (.v (.int .u8 0)), .d (.v (.int .u8 0)), .d (.v (.int .u8 0)), .d (.v (.int .u8 0)), .d (.v (.int .u8 0)), .d (.v (.int .u8 0)), .d (.v (.int .u8 0)), .d (.v (.int .u8 0)), .d (.v (.int .u8 0)), .d (.v (.int .u8 0)), .d (.v (.int .u8 0)), .d (.v (.int .u8 0)), .d (.v (.int .u8 0)), .d (.v (.int .u8 0)), .d (.v (.int .u8 0)), .d (.v (.int .u8 0)), .d (.v (.int .u8 0)), .d (.v (.int .u8 0)), .d (.v (.int .u8 0)), .d (.v (.int .u8 0)), .d (.v (.int .u8 0)), .d (.v (.int .u8 0)), .d (.v (.int .u8 0))], .array 16 128, false, false, false, []⟩
theorem Tryz.tok129 : TOk Tryz.prog 129 Tryz.tk129 := tok_mk (sz := 32) (bytes := 32) (z := .agg #[.int .u8 0, .int .u8 0, .int .u8 0, .int .u8 0, .int .u8 0, .int .u8 0, .int .u8 0, .int .u8 0, .int .u8 0, .int .u8 0, .int .u8 0, .int .u8 0, .int .u8 0, .int .u8 0, .int .u8 0, .int .u8 0, .int .u8 0, .int .u8 0, .int .u8 0, .int .u8 0, .int .u8 0, .int .u8 0, .int .u8 0, .int .u8 0, .int .u8 0, .int .u8 0, .int .u8 0, .int .u8 0, .int .u8 0, .int .u8 0, .int .u8 0, .int .u8 0]) (fun h => by cases h) (by kernel_rfl) Tryz.underlying129 Tryz.underlying129 rfl (by kernel_rfl) rfl
def Tryz.tk130 : TK := ⟨false, 1, 8, [.d (.v (.nilFunc))], .func, false, false, false, []⟩
theorem Tryz.tok130 : TOk Tryz.prog 130 Tryz.tk130 := tok_mk (sz := 1) (bytes := 8) (z := .nilFunc) (fun h => by cases h) (by kernel_rfl) Tryz.underlying130 ⟨_, _, _, Tryz.underlying130⟩ rfl (by kernel_rfl) rfl
def Tryz.tk131 : TK := ⟨false, 1, 8, [.d (.v (.nilFunc))], .func, false, false, false, []⟩
theorem Tryz.tok131 : TOk Tryz.prog 131 Tryz.tk131 := tok_mk (sz := 1) (bytes := 8) (z := .nilFunc) (fun h => by cases h) (by kernel_rfl) Tryz.underlying131 ⟨_, _, _, Tryz.underlying131⟩ rfl (by kernel_rfl) rfl
def Tryz.tk132 : TK := ⟨false, 1, 8, [.d (.v (.nilFunc))], .func, false, false, false, []⟩
theorem Tryz.tok132 : TOk Tryz.prog 132 Tryz.tk132 := tok_mk (sz := 1) (bytes := 8) (z := .nilFunc) (fun h => by cases h) (by kernel_rfl) Tryz.underlying132 ⟨_, _, _, Tryz.underlying132⟩ rfl (by kernel_rfl) rfl
def Tryz.tk133 : TK := ⟨false, 1, 8, [.d (.v (.nilFunc))], .func, false, false, false, []⟩
theorem Tryz.tok133 : TOk Tryz.prog 133 Tryz.tk133 := tok_mk (sz := 1) (bytes := 8) (z := .nilFunc) (fun h => by cases h) (by kernel_rfl) Tryz.underlying133 ⟨_, _, _, Tryz.underlying133⟩ rfl (by kernel_rfl) rfl
def Tryz.tk134 : TK := ⟨true, 4, 40, [.d (.v (.pointer none)), .d (.v (.pointer none)), .d (.v (.pointer none)), .d (.v (.string ⟨#[]⟩))], .struct [(0, 17), (1, 17), (2, 17), (3, 9)], false, false, false, []⟩
theorem Tryz.tok134 : TOk Tryz.prog 134 Tryz.tk134 := tok_mk (sz := 4) (bytes := 40) (z := .agg #[.pointer none, .pointer none, .pointer none, .string ⟨#[]⟩]) (fun h => by cases h) (by kernel_rfl) Tryz.underlying134 ⟨_, Tryz.underlying134, by kernel_rfl⟩ rfl (by kernel_rfl) rfl
def Tryz.tk135 : TK := ⟨true, 4, 40, [.d (.v (.pointer none)), .d (.v (.pointer none)), .d (.v (.pointer none)), .d (.v (.string ⟨#[]⟩))], .struct [(0, 17), (1, 17), (2, 17), (3, 9)], false, false, false, []⟩
theorem Tryz.tok135 : TOk Tryz.prog 135 Tryz.tk135 := tok_mk (sz := 4) (bytes := 40) (z := .agg #[.pointer none, .pointer none, .pointer none, .string ⟨#[]⟩]) (fun h => by cases h) (by kernel_rfl) Tryz.underlying135 ⟨_, Tryz.underlying135, by kernel_rfl⟩ rfl (by kernel_rfl) rfl
def Tryz.tk139 : TK := ⟨false, 1, 1, [.d (.v (.int .u8 0))], .int .u8, false, false, false, []⟩
theorem Tryz.tok139 : TOk Tryz.prog 139 Tryz.tk139 := tok_mk (sz := 1) (bytes := 1) (z := .int .u8 0) (fun h => by cases h) (by kernel_rfl) Tryz.underlying139 Tryz.underlying139 rfl (by kernel_rfl) rfl
def Tryz.tk140 : TK := ⟨false, 1, 1, [.d (.v (.int .u8 0))], .int .u8, false, false, false, []⟩
theorem Tryz.tok140 : TOk Tryz.prog 140 Tryz.tk140 := tok_mk (sz := 1) (bytes := 1) (z := .int .u8 0) (fun h => by cases h) (by kernel_rfl) Tryz.underlying140 Tryz.underlying140 rfl (by kernel_rfl) rfl
def Tryz.tk141 : TK := ⟨false, 1, 8, [.d (.v (.nilFunc))], .func, false, false, false, []⟩
theorem Tryz.tok141 : TOk Tryz.prog 141 Tryz.tk141 := tok_mk (sz := 1) (bytes := 8) (z := .nilFunc) (fun h => by cases h) (by kernel_rfl) Tryz.underlying141 ⟨_, _, _, Tryz.underlying141⟩ rfl (by kernel_rfl) rfl
def Tryz.tk142 : TK := ⟨false, 1, 8, [.d (.v (.pointer none))], .ptr 5, false, false, false, []⟩
theorem Tryz.tok142 : TOk Tryz.prog 142 Tryz.tk142 := tok_mk (sz := 1) (bytes := 8) (z := .pointer none) (fun h => by cases h) (by kernel_rfl) Tryz.underlying142 Tryz.underlying142 rfl (by kernel_rfl) rfl
def Tryz.tk143 : TK := ⟨false, 1, 4, [.d (.v (.int .i32 0))], .int .i32, false, false, false, []⟩
theorem Tryz.tok143 : TOk Tryz.prog 143 Tryz.tk143 := tok_mk (sz := 1) (bytes := 4) (z := .int .i32 0) (fun h => by cases h) (by kernel_rfl) Tryz.underlying143 Tryz.underlying143 rfl (by kernel_rfl) rfl
def Tryz.tk144 : TK := ⟨false, 1, 4, [.d (.v (.int .i32 0))], .int .i32, false, false, false, []⟩
theorem Tryz.tok144 : TOk Tryz.prog 144 Tryz.tk144 := tok_mk (sz := 1) (bytes := 4) (z := .int .i32 0) (fun h => by cases h) (by kernel_rfl) Tryz.underlying144 Tryz.underlying144 rfl (by kernel_rfl) rfl
def Tryz.tk145 : TK := ⟨true, 11, 48, [.d (.v (.int .u64 0)), .d (.v (.int .u64 0)), .d (.v (.int .u32 0)), .d (.v (.int .u8 0)), .d (.v (.int .u8 0)), .d (.v (.int .u8 0)), .d (.v (.int .u8 0)), .d (.v (.nilFunc)), .d (.v (.pointer none)), .d (.v (.int .i32 0)), .d (.v (.int .i32 0))], .struct [(0, 12), (1, 12), (2, 99), (3, 139), (4, 5), (5, 5), (6, 140), (7, 141), (8, 142), (9, 143), (10, 144)], false, false, false, []⟩
theorem Tryz.tok145 : TOk Tryz.prog 145 Tryz.tk145 := tok_mk (sz := 11) (bytes := 48) (z := .agg #[.int .u64 0, .int .u64 0, .int .u32 0, .int .u8 0, .int .u8 0, .int .u8 0, .int .u8 0, .nilFunc, .pointer none, .int .i32 0, .int .i32 0]) (fun h => by cases h) (by kernel_rfl) Tryz.underlying145 ⟨_, Tryz.underlying145, by kernel_rfl⟩ rfl (by kernel_rfl) rfl
def Tryz.tk146 : TK := ⟨true, 11, 48, [.d (.v (.int .u64 0)), .d (.v (.int .u64 0)), .d (.v (.int .u32 0)), .d (.v (.int .u8 0)), .d (.v (.int .u8 0)), .d (.v (.int .u8 0)), .d (.v (.int .u8 0)), .d (.v (.nilFunc)), .d (.v (.pointer none)), .d (.v (.int .i32 0)), .d (.v (.int .i32 0))], .struct [(0, 12), (1, 12), (2, 99), (3, 139), (4, 5), (5, 5), (6, 140), (7, 141), (8, 142), (9, 143), (10, 144)], false, false, false, []⟩
theorem Tryz.tok146 : TOk Tryz.prog 146 Tryz.tk146 := tok_mk (sz := 11) (bytes := 48) (z := .agg #[.int .u64 0, .int .u64 0, .int .u32 0, .int .u8 0, .int .u8 0, .int .u8 0, .int .u8 0, .nilFunc, .pointer none, .int .i32 0, .int .i32 0]) (fun h => by cases h) (by kernel_rfl) Tryz.underlying146 ⟨_, Tryz.underlying146, by kernel_rfl⟩ rfl (by kernel_rfl) rfl
def Tryz.Ks : List (TypeId × TK) := [(1, Tryz.tk1), (2, Tryz.tk2), (3, Tryz.tk3), (4, Tryz.tk4), (5, Tryz.tk5), (6, Tryz.tk6), (7, Tryz.tk7), (8, Tryz.tk8), (9, Tryz.tk9), (10, Tryz.tk10), (11, Tryz.tk11), (12, Tryz.tk12), (13, Tryz.tk13), (14, Tryz.tk14), (15, Tryz.tk15), (16, Tryz.tk16), (17, Tryz.tk17), (18, Tryz.tk18), (19, Tryz.tk19), (21, Tryz.tk21), (22, Tryz.tk22), (23, Tryz.tk23), (24, Tryz.tk24), (25, Tryz.tk25), (26, Tryz.tk26), (27, Tryz.tk27), (28, Tryz.tk28), (29, Tryz.tk29), (30, Tryz.tk30), (31, Tryz.tk31), (33, Tryz.tk33), (34, Tryz.tk34), (35, Tryz.tk35), (36, Tryz.tk36), (38, Tryz.tk38), (39, Tryz.tk39), (40, Tryz.tk40), (41, Tryz.tk41), (43, Tryz.tk43), (44, Tryz.tk44), (45, Tryz.tk45), (47, Tryz.tk47), (48, Tryz.tk48), (49, Tryz.tk49), (50, Tryz.tk50), (51, Tryz.tk51), (52, Tryz.tk52), (53, Tryz.tk53), (54, Tryz.tk54), (55, Tryz.tk55), (56, Tryz.tk56), (57, Tryz.tk57), (58, Tryz.tk58), (59, Tryz.tk59), (60, Tryz.tk60), (61, Tryz.tk61), (62, Tryz.tk62), (63, Tryz.tk63), (64, Tryz.tk64), (65, Tryz.tk65), (66, Tryz.tk66), (67, Tryz.tk67), (68, Tryz.tk68), (69, Tryz.tk69), (70, Tryz.tk70), (71, Tryz.tk71), (72, Tryz.tk72), (73, Tryz.tk73), (74, Tryz.tk74), (75, Tryz.tk75), (76, Tryz.tk76), (77, Tryz.tk77), (78, Tryz.tk78), (79, Tryz.tk79), (80, Tryz.tk80), (84, Tryz.tk84), (85, Tryz.tk85), (86, Tryz.tk86), (87, Tryz.tk87), (88, Tryz.tk88), (89, Tryz.tk89), (90, Tryz.tk90), (91, Tryz.tk91), (92, Tryz.tk92), (94, Tryz.tk94), (95, Tryz.tk95), (96, Tryz.tk96), (97, Tryz.tk97), (98, Tryz.tk98), (99, Tryz.tk99), (100, Tryz.tk100), (101, Tryz.tk101), (102, Tryz.tk102), (104, Tryz.tk104), (105, Tryz.tk105), (106, Tryz.tk106), (107, Tryz.tk107), (108, Tryz.tk108), (109, Tryz.tk109), (110, Tryz.tk110), (111, Tryz.tk111), (112, Tryz.tk112), (113, Tryz.tk113), (114, Tryz.tk114), (115, Tryz.tk115), (116, Tryz.tk116), (117, Tryz.tk117), (118, Tryz.tk118), (119, Tryz.tk119), (120, Tryz.tk120), (121, Tryz.tk121), (122, Tryz.tk122), (123, Tryz.tk123), (125, Tryz.tk125), (127, Tryz.tk127), (128, Tryz.tk128), (129, Tryz.tk129), (130, Tryz.tk130), (131, Tryz.tk131), (132, Tryz.tk132), (133, Tryz.tk133), (134, Tryz.tk134), (135, Tryz.tk135), (139, Tryz.tk139), (140, Tryz.tk140), (141, Tryz.tk141), (142, Tryz.tk142), (143, Tryz.tk143), (144, Tryz.tk144), (145, Tryz.tk145), (146, Tryz.tk146)]
def Tryz.K : TypeId → Option TK := lkT Tryz.Ks
theorem Tryz.K_ok : KOk Tryz.prog Tryz.K := kok_cons Tryz.tok1 ( kok_cons Tryz.tok2 ( kok_cons Tryz.tok3 ( kok_cons Tryz.tok4 ( kok_cons Tryz.tok5 ( kok_cons Tryz.tok6 ( kok_cons Tryz.tok7 ( kok_cons Tryz.tok8 ( kok_cons Tryz.tok9 ( kok_cons Tryz.tok10 ( kok_cons Tryz.tok11 ( kok_cons Tryz.tok12 ( kok_cons Tryz.tok13 ( kok_cons Tryz.tok14 ( kok_cons Tryz.tok15 ( kok_cons Tryz.tok16 ( kok_cons Tryz.tok17 ( kok_cons Tryz.tok18 ( kok_cons Tryz.tok19 ( kok_cons Tryz.tok21 ( kok_cons Tryz.tok22 ( kok_cons Tryz.tok23 ( kok_cons Tryz.tok24 ( kok_cons Tryz.tok25 ( kok_cons Tryz.tok26 ( kok_cons Tryz.tok27 ( kok_cons Tryz.tok28 ( kok_cons Tryz.tok29 ( kok_cons Tryz.tok30 ( kok_cons Tryz.tok31 ( kok_cons Tryz.tok33 ( kok_cons Tryz.tok34 ( kok_cons Tryz.tok35 ( kok_cons Tryz.tok36 ( kok_cons Tryz.tok38 ( kok_cons Tryz.tok39 ( kok_cons Tryz.tok40 ( kok_cons Tryz.tok41 ( kok_cons Tryz.tok43 ( kok_cons Tryz.tok44 ( kok_cons Tryz.tok45 ( kok_cons Tryz.tok47 ( kok_cons Tryz.tok48 ( kok_cons Tryz.tok49 ( kok_cons Tryz.tok50 ( kok_cons Tryz.tok51 ( kok_cons Tryz.tok52 ( kok_cons Tryz.tok53 ( kok_cons Tryz.tok54 ( kok_cons Tryz.tok55 ( kok_cons Tryz.tok56 ( kok_cons Tryz.tok57 ( kok_cons Tryz.tok58 ( kok_cons Tryz.tok59 ( kok_cons Tryz.tok60 ( kok_cons Tryz.tok61 ( kok_cons Tryz.tok62 ( kok_cons Tryz.tok63 ( kok_cons Tryz.tok64 ( kok_cons Tryz.tok65 ( kok_cons Tryz.tok66 ( kok_cons Tryz.tok67 ( kok_cons Tryz.tok68 ( kok_cons Tryz.tok69 ( kok_cons Tryz.tok70 ( kok_cons Tryz.tok71 ( kok_cons Tryz.tok72 ( kok_cons Tryz.tok73 ( kok_cons Tryz.tok74 ( kok_cons Tryz.tok75 ( kok_cons Tryz.tok76 ( kok_cons Tryz.tok77 ( kok_cons Tryz.tok78 ( kok_cons Tryz.tok79 ( kok_cons Tryz.tok80 ( kok_cons Tryz.tok84 ( kok_cons Tryz.tok85 ( kok_cons Tryz.tok86 ( kok_cons Tryz.tok87 ( kok_cons Tryz.tok88 ( kok_cons Tryz.tok89 ( kok_cons Tryz.tok90 ( kok_cons Tryz.tok91 ( kok_cons Tryz.tok92 ( kok_cons Tryz.tok94 ( kok_cons Tryz.tok95 ( kok_cons Tryz.tok96 ( kok_cons Tryz.tok97 ( kok_cons Tryz.tok98 ( kok_cons Tryz.tok99 ( kok_cons Tryz.tok100 ( kok_cons Tryz.tok101 ( kok_cons Tryz.tok102 ( kok_cons Tryz.tok104 ( kok_cons Tryz.tok105 ( kok_cons Tryz.tok106 ( kok_cons Tryz.tok107 ( kok_cons Tryz.tok108 ( kok_cons Tryz.tok109 ( kok_cons Tryz.tok110 ( kok_cons Tryz.tok111 ( kok_cons Tryz.tok112 ( kok_cons Tryz.tok113 ( kok_cons Tryz.tok114 ( kok_cons Tryz.tok115 ( kok_cons Tryz.tok116 ( kok_cons Tryz.tok117 ( kok_cons Tryz.tok118 ( kok_cons Tryz.tok119 ( kok_cons Tryz.tok120 ( kok_cons Tryz.tok121 ( kok_cons Tryz.tok122 ( kok_cons Tryz.tok123 ( kok_cons Tryz.tok125 ( kok_cons Tryz.tok127 ( kok_cons Tryz.tok128 ( kok_cons Tryz.tok129 ( kok_cons Tryz.tok130 ( kok_cons Tryz.tok131 ( kok_cons Tryz.tok132 ( kok_cons Tryz.tok133 ( kok_cons Tryz.tok134 ( kok_cons Tryz.tok135 ( kok_cons Tryz.tok139 ( kok_cons Tryz.tok140 ( kok_cons Tryz.tok141 ( kok_cons Tryz.tok142 ( kok_cons Tryz.tok143 ( kok_cons Tryz.tok144 ( kok_cons Tryz.tok145 ( kok_cons Tryz.tok146 ( kok_nil)))))))))))))))))))))))))))))))))))))))))))))))))))))))))))))))))))))))))))))))))))))))))))))))))))))))))))))))))))))))))))))))))))
noncomputable def Tryz.b1 : Code := Tryz.f1.body.getD .skip
noncomputable def Tryz.b2 : Code := Tryz.f2.body.getD .skip
noncomputable def Tryz.b3 : Code := Tryz.f3.body.getD .skip
noncomputable def Tryz.b4 : Code := Tryz.f4.body.getD .skip
noncomputable def Tryz.b5 : Code := Tryz.f5.body.getD .skip
noncomputable def Tryz.b6 : Code := Tryz.f6.body.getD .skip
noncomputable def Tryz.b9 : Code := Tryz.f9.body.getD .skip
noncomputable def Tryz.b10 : Code := Tryz.f10.body.getD .skip
noncomputable def Tryz.b11 : Code := Tryz.f11.body.getD .skip
noncomputable def Tryz.b12 : Code := Tryz.f12.body.getD .skip
noncomputable def Tryz.b13 : Code := Tryz.f13.body.getD .skip
noncomputable def Tryz.b14 : Code := Tryz.f14.body.getD .skip
noncomputable def Tryz.b15 : Code := Tryz.f15.body.getD .skip
noncomputable def Tryz.b16 : Code := Tryz.f16.body.getD .skip
noncomputable def Tryz.b17 : Code := Tryz.f17.body.getD .skip
noncomputable def Tryz.b18 : Code := Tryz.f18.body.getD .skip
noncomputable def Tryz.b19 : Code := Tryz.f19.body.getD .skip
noncomputable def Tryz.b20 : Code := Tryz.f20.body.getD .skip
noncomputable def Tryz.b21 : Code := Tryz.f21.body.getD .skip
noncomputable def Tryz.b22 : Code := Tryz.f22.body.getD .skip
noncomputable def Tryz.b23 : Code := Tryz.f23.body.getD .skip
noncomputable def Tryz.b24 : Code := Tryz.f24.body.getD .skip
noncomputable def Tryz.b25 : Code := Tryz.f25.body.getD .skip
noncomputable def Tryz.b26 : Code := Tryz.f26.body.getD .skip
noncomputable def Tryz.b27 : Code := Tryz.f27.body.getD .skip
noncomputable def Tryz.b28 : Code := Tryz.f28.body.getD .skip
noncomputable def Tryz.b29 : Code := Tryz.f29.body.getD .skip
noncomputable def Tryz.b32 : Code := Tryz.f32.body.getD .skip
noncomputable def Tryz.b33 : Code := Tryz.f33.body.getD .skip
noncomputable def Tryz.b35 : Code := Tryz.f35.body.getD .skip
noncomputable def Tryz.b36 : Code := Tryz.f36.body.getD .skip
noncomputable def Tryz.b37 : Code := Tryz.f37.body.getD .skip
noncomputable def Tryz.b43 : Code := Tryz.f43.body.getD .skip
noncomputable def Tryz.b44 : Code := Tryz.f44.body.getD .skip
noncomputable def Tryz.b45 : Code := Tryz.f45.body.getD .skip
noncomputable def Tryz.b46 : Code := Tryz.f46.body.getD .skip
noncomputable def Tryz.b56 : Code := Tryz.f56.body.getD .skip
noncomputable def Tryz.b62 : Code := Tryz.f62.body.getD .skip
noncomputable def Tryz.b71 : Code := Tryz.f71.body.getD .skip
end Go.Proofs
