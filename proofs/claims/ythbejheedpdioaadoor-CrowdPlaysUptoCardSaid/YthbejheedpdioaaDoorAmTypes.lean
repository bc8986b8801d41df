import Derived.Test.YthbejheedpdioaaDoorAmFn
import Derived.Test.YthbejheedpdioaaDoorProg
import Derived.KernelRfl
set_option linter.unusedVariables false
namespace Go.Proofs
open Go Go.AM
def Tryd.tk1 : TK := ⟨false, 1, 8, [.d (.v (.nilFunc))], .func, false, false, false, []⟩
theorem Tryd.tok1 : TOk Tryd.prog 1 Tryd.tk1 := tok_mk (sz := 1) (bytes := 8) (z := .nilFunc) (fun h => by cases h) (by kernel_rfl) Tryd.underlying1 ⟨_, _, _, Tryd.underlying1⟩ rfl (by kernel_rfl) rfl
def Tryd.tk2 : TK := ⟨false, 1, 8, [.d (.v (.int .i64 0))], .int .i64, false, false, false, []⟩
theorem Tryd.tok2 : TOk Tryd.prog 2 Tryd.tk2 := tok_mk (sz := 1) (bytes := 8) (z := .int .i64 0) (fun h => by cases h) (by kernel_rfl) Tryd.underlying2 Tryd.underlying2 rfl (by kernel_rfl) rfl
def Tryd.tk3 : TK := ⟨false, 1, 8, [.d (.v (.int .i64 0))], .int .i64, false, false, false, []⟩
theorem Tryd.tok3 : TOk Tryd.prog 3 Tryd.tk3 := tok_mk (sz := 1) (bytes := 8) (z := .int .i64 0) (fun h => by cases h) (by kernel_rfl) Tryd.underlying3 Tryd.underlying3 rfl (by kernel_rfl) rfl
def Tryd.tk4 : TK := ⟨false, 1, 1, [.d (.v (.bool false))], .bool, false, false, false, []⟩
theorem Tryd.tok4 : TOk Tryd.prog 4 Tryd.tk4 := tok_mk (sz := 1) (bytes := 1) (z := .bool false) (fun h => by cases h) (by kernel_rfl) Tryd.underlying4 Tryd.underlying4 rfl (by kernel_rfl) rfl
def Tryd.tk5 : TK := ⟨false, 1, 1, [.d (.v (.int .u8 0))], .int .u8, false, false, false, []⟩
theorem Tryd.tok5 : TOk Tryd.prog 5 Tryd.tk5 := tok_mk (sz := 1) (bytes := 1) (z := .int .u8 0) (fun h => by cases h) (by kernel_rfl) Tryd.underlying5 Tryd.underlying5 rfl (by kernel_rfl) rfl
def Tryd.tk6 : TK := ⟨false, 1, 1, [.d (.v (.int .u8 0))], .int .u8, false, false, false, []⟩
theorem Tryd.tok6 : TOk Tryd.prog 6 Tryd.tk6 := tok_mk (sz := 1) (bytes := 1) (z := .int .u8 0) (fun h => by cases h) (by kernel_rfl) Tryd.underlying6 Tryd.underlying6 rfl (by kernel_rfl) rfl
def Tryd.tk7 : TK := ⟨true, 4, 24, [.d (.v (.int .i64 0)), .d (.v (.int .i64 0)), .d (.v (.bool false)), .d (.v (.int .u8 0))], .struct [(0, 2), (1, 3), (2, 4), (3, 6)], false, false, false, []⟩
theorem Tryd.tok7 : TOk Tryd.prog 7 Tryd.tk7 := tok_mk (sz := 4) (bytes := 24) (z := .agg #[.int .i64 0, .int .i64 0, .bool false, .int .u8 0]) (fun h => by cases h) (by kernel_rfl) Tryd.underlying7 ⟨_, Tryd.underlying7, by kernel_rfl⟩ rfl (by kernel_rfl) rfl
def Tryd.tk8 : TK := ⟨true, 4, 24, [.d (.v (.int .i64 0)), .d (.v (.int .i64 0)), .d (.v (.bool false)), .d (.v (.int .u8 0))], .struct [(0, 2), (1, 3), (2, 4), (3, 6)], false, false, false, []⟩
theorem Tryd.tok8 : TOk Tryd.prog 8 Tryd.tk8 := tok_mk (sz := 4) (bytes := 24) (z := .agg #[.int .i64 0, .int .i64 0, .bool false, .int .u8 0]) (fun h => by cases h) (by kernel_rfl) Tryd.underlying8 ⟨_, Tryd.underlying8, by kernel_rfl⟩ rfl (by kernel_rfl) rfl
def Tryd.tk9 : TK := ⟨false, 1, 16, [.d (.v (.string ⟨#[]⟩))], .str, false, false, false, []⟩
theorem Tryd.tok9 : TOk Tryd.prog 9 Tryd.tk9 := tok_mk (sz := 1) (bytes := 16) (z := .string ⟨#[]⟩) (fun h => by cases h) (by kernel_rfl) Tryd.underlying9 Tryd.underlying9 rfl (by kernel_rfl) rfl
def Tryd.tk10 : TK := ⟨false, 1, 16, [.d (.v (.string ⟨#[]⟩))], .str, false, false, false, []⟩
theorem Tryd.tok10 : TOk Tryd.prog 10 Tryd.tk10 := tok_mk (sz := 1) (bytes := 16) (z := .string ⟨#[]⟩) (fun h => by cases h) (by kernel_rfl) Tryd.underlying10 Tryd.underlying10 rfl (by kernel_rfl) rfl
def Tryd.tk11 : TK := ⟨false, 1, 16, [.d (.v (.string ⟨#[]⟩))], .str, false, false, false, []⟩
theorem Tryd.tok11 : TOk Tryd.prog 11 Tryd.tk11 := tok_mk (sz := 1) (bytes := 16) (z := .string ⟨#[]⟩) (fun h => by cases h) (by kernel_rfl) Tryd.underlying11 Tryd.underlying11 rfl (by kernel_rfl) rfl
def Tryd.tk12 : TK := ⟨false, 1, 8, [.d (.v (.int .u64 0))], .int .u64, false, false, false, []⟩
theorem Tryd.tok12 : TOk Tryd.prog 12 Tryd.tk12 := tok_mk (sz := 1) (bytes := 8) (z := .int .u64 0) (fun h => by cases h) (by kernel_rfl) Tryd.underlying12 Tryd.underlying12 rfl (by kernel_rfl) rfl
def Tryd.tk13 : TK := ⟨true, 2, 24, [.d (.v (.string ⟨#[]⟩)), .d (.v (.int .u64 0))], .struct [(0, 9), (1, 12)], false, false, false, []⟩
theorem Tryd.tok13 : TOk Tryd.prog 13 Tryd.tk13 := tok_mk (sz := 2) (bytes := 24) (z := .agg #[.string ⟨#[]⟩, .int .u64 0]) (fun h => by cases h) (by kernel_rfl) Tryd.underlying13 ⟨_, Tryd.underlying13, by kernel_rfl⟩ rfl (by kernel_rfl) rfl
def Tryd.tk14 : TK := ⟨true, 2, 24, [.d (.v (.string ⟨#[]⟩)), .d (.v (.int .u64 0))], .struct [(0, 9), (1, 12)], false, false, false, []⟩
theorem Tryd.tok14 : TOk Tryd.prog 14 Tryd.tk14 := tok_mk (sz := 2) (bytes := 24) (z := .agg #[.string ⟨#[]⟩, .int .u64 0]) (fun h => by cases h) (by kernel_rfl) Tryd.underlying14 ⟨_, Tryd.underlying14, by kernel_rfl⟩ rfl (by kernel_rfl) rfl
def Tryd.tk15 : TK := ⟨false, 1, 8, [.d (.v (.pointer none))], .ptr 133, false, false, false, []⟩
theorem Tryd.tok15 : TOk Tryd.prog 15 Tryd.tk15 := tok_mk (sz := 1) (bytes := 8) (z := .pointer none) (fun h => by cases h) (by kernel_rfl) Tryd.underlying15 Tryd.underlying15 rfl (by kernel_rfl) rfl
def Tryd.tk16 : TK := ⟨false, 1, 8, [.d (.v (.pointer none))], .ptr 136, false, false, false, []⟩
theorem Tryd.tok16 : TOk Tryd.prog 16 Tryd.tk16 := tok_mk (sz := 1) (bytes := 8) (z := .pointer none) (fun h => by cases h) (by kernel_rfl) Tryd.underlying16 Tryd.underlying16 rfl (by kernel_rfl) rfl
def Tryd.tk17 : TK := ⟨false, 1, 8, [.d (.v (.pointer none))], .ptr 144, false, false, false, []⟩
theorem Tryd.tok17 : TOk Tryd.prog 17 Tryd.tk17 := tok_mk (sz := 1) (bytes := 8) (z := .pointer none) (fun h => by cases h) (by kernel_rfl) Tryd.underlying17 Tryd.underlying17 rfl (by kernel_rfl) rfl
def Tryd.tk18 : TK := ⟨true, 1, 8, [.d (.v (.pointer none))], .struct [(0, 17)], false, false, false, []⟩
theorem Tryd.tok18 : TOk Tryd.prog 18 Tryd.tk18 := tok_mk (sz := 1) (bytes := 8) (z := .agg #[.pointer none]) (fun h => by cases h) (by kernel_rfl) Tryd.underlying18 ⟨_, Tryd.underlying18, by kernel_rfl⟩ rfl (by kernel_rfl) rfl
def Tryd.tk19 : TK := ⟨true, 1, 8, [.d (.v (.pointer none))], .struct [(0, 17)], false, false, false, []⟩
theorem Tryd.tok19 : TOk Tryd.prog 19 Tryd.tk19 := tok_mk (sz := 1) (bytes := 8) (z := .agg #[.pointer none]) (fun h => by cases h) (by kernel_rfl) Tryd.underlying19 ⟨_, Tryd.underlying19, by kernel_rfl⟩ rfl (by kernel_rfl) rfl
def Tryd.tk21 : TK := ⟨false, 1, 4, [.d (.v (.int .i32 0))], .int .i32, false, false, false, []⟩
theorem Tryd.tok21 : TOk Tryd.prog 21 Tryd.tk21 := tok_mk (sz := 1) (bytes := 4) (z := .int .i32 0) (fun h => by cases h) (by kernel_rfl) Tryd.underlying21 Tryd.underlying21 rfl (by kernel_rfl) rfl
def Tryd.tk22 : TK := ⟨false, 1, 24, [.nl], .slice 29, false, false, false, []⟩
theorem Tryd.tok22 : TOk Tryd.prog 22 Tryd.tk22 := tok_mk (sz := 1) (bytes := 24) (z := .slice none 0 0) (fun h => by cases h) (by kernel_rfl) Tryd.underlying22 Tryd.underlying22 rfl (by kernel_rfl) rfl
def Tryd.tk23 : TK := ⟨false, 1, 8, [.d (.v (.nilFunc))], .func, false, false, false, []⟩
theorem Tryd.tok23 : TOk Tryd.prog 23 Tryd.tk23 := tok_mk (sz := 1) (bytes := 8) (z := .nilFunc) (fun h => by cases h) (by kernel_rfl) Tryd.underlying23 ⟨_, _, _, Tryd.underlying23⟩ rfl (by kernel_rfl) rfl
def Tryd.tk24 : TK := ⟨false, 1, 8, [.d (.v (.pointer none))], .ptr 56, false, false, false, []⟩
theorem Tryd.tok24 : TOk Tryd.prog 24 Tryd.tk24 := tok_mk (sz := 1) (bytes := 8) (z := .pointer none) (fun h => by cases h) (by kernel_rfl) Tryd.underlying24 Tryd.underlying24 rfl (by kernel_rfl) rfl
def Tryd.tk25 : TK := ⟨false, 1, 8, [.d (.v (.nilFunc))], .func, false, false, false, []⟩
theorem Tryd.tok25 : TOk Tryd.prog 25 Tryd.tk25 := tok_mk (sz := 1) (bytes := 8) (z := .nilFunc) (fun h => by cases h) (by kernel_rfl) Tryd.underlying25 ⟨_, _, _, Tryd.underlying25⟩ rfl (by kernel_rfl) rfl
def Tryd.tk26 : TK := ⟨false, 1, 4, [.d (.v (.int .u32 0))], .int .u32, false, false, false, []⟩
theorem Tryd.tok26 : TOk Tryd.prog 26 Tryd.tk26 := tok_mk (sz := 1) (bytes := 4) (z := .int .u32 0) (fun h => by cases h) (by kernel_rfl) Tryd.underlying26 Tryd.underlying26 rfl (by kernel_rfl) rfl
def Tryd.tk27 : TK := ⟨false, 1, 24, [.nl], .slice 146, false, false, false, []⟩
theorem Tryd.tok27 : TOk Tryd.prog 27 Tryd.tk27 := tok_mk (sz := 1) (bytes := 24) (z := .slice none 0 0) (fun h => by cases h) (by kernel_rfl) Tryd.underlying27 Tryd.underlying27 rfl (by kernel_rfl) rfl
def Tryd.tk28 : TK := ⟨true, 12, 168, [.d (.v (.int .i64 0)), .d (.v (.string ⟨#[]⟩)), .d (.v (.string ⟨#[]⟩)), .d (.v (.string ⟨#[]⟩)), .d (.v (.string ⟨#[]⟩)), .d (.v (.string ⟨#[]⟩)), .d (.v (.string ⟨#[]⟩)), .d (.v (.string ⟨#[]⟩)), .d (.v (.int .u32 0)), .d (.v (.int .i64 0)), .d (.v (.bool false)), .nl], .struct [(0, 3), (1, 9), (2, 9), (3, 9), (4, 9), (5, 9), (6, 9), (7, 9), (8, 26), (9, 3), (10, 4), (11, 27)], false, false, false, []⟩
theorem Tryd.tok28 : TOk Tryd.prog 28 Tryd.tk28 := tok_mk (sz := 12) (bytes := 168) (z := .agg #[.int .i64 0, .string ⟨#[]⟩, .string ⟨#[]⟩, .string ⟨#[]⟩, .string ⟨#[]⟩, .string ⟨#[]⟩, .string ⟨#[]⟩, .string ⟨#[]⟩, .int .u32 0, .int .i64 0, .bool false, .slice none 0 0]) (fun h => by cases h) (by kernel_rfl) Tryd.underlying28 ⟨_, Tryd.underlying28, by kernel_rfl⟩ rfl (by kernel_rfl) rfl
def Tryd.tk29 : TK := ⟨true, 12, 168, [.d (.v (.int .i64 0)), .d (.v (.string ⟨#[]⟩)), .d (.v (.string ⟨#[]⟩)), .d (.v (.string ⟨#[]⟩)), .d (.v (.string ⟨#[]⟩)), .d (.v (.string ⟨#[]⟩)), .d (.v (.string ⟨#[]⟩)), .d (.v (.string ⟨#[]⟩)), .d (.v (.int .u32 0)), .d (.v (.int .i64 0)), .d (.v (.bool false)), .nl], .struct [(0, 3), (1, 9), (2, 9), (3, 9), (4, 9), (5, 9), (6, 9), (7, 9), (8, 26), (9, 3), (10, 4), (11, 27)], false, false, false, []⟩
theorem Tryd.tok29 : TOk Tryd.prog 29 Tryd.tk29 := tok_mk (sz := 12) (bytes := 168) (z := .agg #[.int .i64 0, .string ⟨#[]⟩, .string ⟨#[]⟩, .string ⟨#[]⟩, .string ⟨#[]⟩, .string ⟨#[]⟩, .string ⟨#[]⟩, .string ⟨#[]⟩, .int .u32 0, .int .i64 0, .bool false, .slice none 0 0]) (fun h => by cases h) (by kernel_rfl) Tryd.underlying29 ⟨_, Tryd.underlying29, by kernel_rfl⟩ rfl (by kernel_rfl) rfl
def Tryd.tk30 : TK := ⟨false, 1, 8, [.d (.v (.int .i64 0))], .int .i64, false, false, false, []⟩
theorem Tryd.tok30 : TOk Tryd.prog 30 Tryd.tk30 := tok_mk (sz := 1) (bytes := 8) (z := .int .i64 0) (fun h => by cases h) (by kernel_rfl) Tryd.underlying30 Tryd.underlying30 rfl (by kernel_rfl) rfl
def Tryd.tk31 : TK := ⟨false, 1, 8, [.d (.v (.nilFunc))], .func, false, false, false, []⟩
theorem Tryd.tok31 : TOk Tryd.prog 31 Tryd.tk31 := tok_mk (sz := 1) (bytes := 8) (z := .nilFunc) (fun h => by cases h) (by kernel_rfl) Tryd.underlying31 ⟨_, _, _, Tryd.underlying31⟩ rfl (by kernel_rfl) rfl
def Tryd.tk33 : TK := ⟨false, 1, 8, [.d (.v (.nilFunc))], .func, false, false, false, []⟩
theorem Tryd.tok33 : TOk Tryd.prog 33 Tryd.tk33 := tok_mk (sz := 1) (bytes := 8) (z := .nilFunc) (fun h => by cases h) (by kernel_rfl) Tryd.underlying33 ⟨_, _, _, Tryd.underlying33⟩ rfl (by kernel_rfl) rfl
def Tryd.tk34 : TK := ⟨false, 1, 24, [.nl], .slice 9, false, false, false, []⟩
theorem Tryd.tok34 : TOk Tryd.prog 34 Tryd.tk34 := tok_mk (sz := 1) (bytes := 24) (z := .slice none 0 0) (fun h => by cases h) (by kernel_rfl) Tryd.underlying34 Tryd.underlying34 rfl (by kernel_rfl) rfl
def Tryd.tk35 : TK := ⟨false, 1, 8, [.d (.v (.nilFunc))], .func, false, false, false, []⟩
theorem Tryd.tok35 : TOk Tryd.prog 35 Tryd.tk35 := tok_mk (sz := 1) (bytes := 8) (z := .nilFunc) (fun h => by cases h) (by kernel_rfl) Tryd.underlying35 ⟨_, _, _, Tryd.underlying35⟩ rfl (by kernel_rfl) rfl
def Tryd.tk36 : TK := ⟨false, 1, 8, [.d (.v (.nilFunc))], .func, false, false, false, []⟩
theorem Tryd.tok36 : TOk Tryd.prog 36 Tryd.tk36 := tok_mk (sz := 1) (bytes := 8) (z := .nilFunc) (fun h => by cases h) (by kernel_rfl) Tryd.underlying36 ⟨_, _, _, Tryd.underlying36⟩ rfl (by kernel_rfl) rfl
def Tryd.tk37 : TK := ⟨false, 1, 8, [.d (.v (.nilFunc))], .func, false, false, false, []⟩
theorem Tryd.tok37 : TOk Tryd.prog 37 Tryd.tk37 := tok_mk (sz := 1) (bytes := 8) (z := .nilFunc) (fun h => by cases h) (by kernel_rfl) Tryd.underlying37 ⟨_, _, _, Tryd.underlying37⟩ rfl (by kernel_rfl) rfl
def Tryd.tk38 : TK := ⟨false, 1, 8, [.d (.v (.nilFunc))], .func, false, false, false, []⟩
theorem Tryd.tok38 : TOk Tryd.prog 38 Tryd.tk38 := tok_mk (sz := 1) (bytes := 8) (z := .nilFunc) (fun h => by cases h) (by kernel_rfl) Tryd.underlying38 ⟨_, _, _, Tryd.underlying38⟩ rfl (by kernel_rfl) rfl
def Tryd.tk39 : TK := ⟨false, 1, 8, [.d (.v (.map none))], .map 9 3, false, false, false, []⟩
theorem Tryd.tok39 : TOk Tryd.prog 39 Tryd.tk39 := tok_mk (sz := 1) (bytes := 8) (z := .map none) (fun h => by cases h) (by kernel_rfl) Tryd.underlying39 Tryd.underlying39 rfl (by kernel_rfl) rfl
def Tryd.tk40 : TK := ⟨false, 1, 8, [.d (.v (.nilFunc))], .func, false, false, false, []⟩
theorem Tryd.tok40 : TOk Tryd.prog 40 Tryd.tk40 := tok_mk (sz := 1) (bytes := 8) (z := .nilFunc) (fun h => by cases h) (by kernel_rfl) Tryd.underlying40 ⟨_, _, _, Tryd.underlying40⟩ rfl (by kernel_rfl) rfl
def Tryd.tk41 : TK := ⟨false, 1, 8, [.d (.v (.nilFunc))], .func, false, false, false, []⟩
theorem Tryd.tok41 : TOk Tryd.prog 41 Tryd.tk41 := tok_mk (sz := 1) (bytes := 8) (z := .nilFunc) (fun h => by cases h) (by kernel_rfl) Tryd.underlying41 ⟨_, _, _, Tryd.underlying41⟩ rfl (by kernel_rfl) rfl
def Tryd.tk42 : TK := ⟨false, 1, 8, [.d (.v (.nilFunc))], .func, false, false, false, []⟩
theorem Tryd.tok42 : TOk Tryd.prog 42 Tryd.tk42 := tok_mk (sz := 1) (bytes := 8) (z := .nilFunc) (fun h => by cases h) (by kernel_rfl) Tryd.underlying42 ⟨_, _, _, Tryd.underlying42⟩ rfl (by kernel_rfl) rfl
def Tryd.tk43 : TK := ⟨false, 1, 8, [.d (.v (.nilFunc))], .func, false, false, false, []⟩
theorem Tryd.tok43 : TOk Tryd.prog 43 Tryd.tk43 := tok_mk (sz := 1) (bytes := 8) (z := .nilFunc) (fun h => by cases h) (by kernel_rfl) Tryd.underlying43 ⟨_, _, _, Tryd.underlying43⟩ rfl (by kernel_rfl) rfl
def Tryd.tk44 : TK := ⟨false, 1, 24, [.nl], .slice 50, false, false, false, []⟩
theorem Tryd.tok44 : TOk Tryd.prog 44 Tryd.tk44 := tok_mk (sz := 1) (bytes := 24) (z := .slice none 0 0) (fun h => by cases h) (by kernel_rfl) Tryd.underlying44 Tryd.underlying44 rfl (by kernel_rfl) rfl
def Tryd.tk45 : TK := ⟨false, 1, 8, [.d (.v (.pointer none))], .ptr 48, false, false, false, []⟩
theorem Tryd.tok45 : TOk Tryd.prog 45 Tryd.tk45 := tok_mk (sz := 1) (bytes := 8) (z := .pointer none) (fun h => by cases h) (by kernel_rfl) Tryd.underlying45 Tryd.underlying45 rfl (by kernel_rfl) rfl
def Tryd.tk46 : TK := ⟨false, 1, 24, [.nl], .slice 71, false, false, false, []⟩
theorem Tryd.tok46 : TOk Tryd.prog 46 Tryd.tk46 := tok_mk (sz := 1) (bytes := 24) (z := .slice none 0 0) (fun h => by cases h) (by kernel_rfl) Tryd.underlying46 Tryd.underlying46 rfl (by kernel_rfl) rfl
def Tryd.tk47 : TK := ⟨true, 1, 24, [.nl], .struct [(0, 46)], false, false, false, []⟩
theorem Tryd.tok47 : TOk Tryd.prog 47 Tryd.tk47 := tok_mk (sz := 1) (bytes := 24) (z := .agg #[.slice none 0 0]) (fun h => by cases h) (by kernel_rfl) Tryd.underlying47 ⟨_, Tryd.underlying47, by kernel_rfl⟩ rfl (by kernel_rfl) rfl
def Tryd.tk48 : TK := ⟨true, 1, 24, [.nl], .struct [(0, 46)], false, false, false, []⟩
theorem Tryd.tok48 : TOk Tryd.prog 48 Tryd.tk48 := tok_mk (sz := 1) (bytes := 24) (z := .agg #[.slice none 0 0]) (fun h => by cases h) (by kernel_rfl) Tryd.underlying48 ⟨_, Tryd.underlying48, by kernel_rfl⟩ rfl (by kernel_rfl) rfl
def Tryd.tk49 : TK := ⟨true, 14, 200, [.d (.v (.int .i64 0)), .d (.v (.string ⟨#[]⟩)), .d (.v (.string ⟨#[]⟩)), .d (.v (.string ⟨#[]⟩)), .d (.v (.string ⟨#[]⟩)), .d (.v (.string ⟨#[]⟩)), .d (.v (.string ⟨#[]⟩)), .d (.v (.string ⟨#[]⟩)), .d (.v (.int .u32 0)), .d (.v (.int .i64 0)), .d (.v (.bool false)), .nl, .d (.v (.bool false)), .nl], .struct [(0, 29), (12, 4), (13, 34)], false, false, false, []⟩
theorem Tryd.tok49 : TOk Tryd.prog 49 Tryd.tk49 := tok_mk (sz := 14) (bytes := 200) (z := .agg #[.int .i64 0, .string ⟨#[]⟩, .string ⟨#[]⟩, .string ⟨#[]⟩, .string ⟨#[]⟩, .string ⟨#[]⟩, .string ⟨#[]⟩, .string ⟨#[]⟩, .int .u32 0, .int .i64 0, .bool false, .slice none 0 0, .bool false, .slice none 0 0]) (fun h => by cases h) (by kernel_rfl) Tryd.underlying49 ⟨_, Tryd.underlying49, by kernel_rfl⟩ rfl (by kernel_rfl) rfl
def Tryd.tk50 : TK := ⟨true, 14, 200, [.d (.v (.int .i64 0)), .d (.v (.string ⟨#[]⟩)), .d (.v (.string ⟨#[]⟩)), .d (.v (.string ⟨#[]⟩)), .d (.v (.string ⟨#[]⟩)), .d (.v (.string ⟨#[]⟩)), .d (.v (.string ⟨#[]⟩)), .d (.v (.string ⟨#[]⟩)), .d (.v (.int .u32 0)), .d (.v (.int .i64 0)), .d (.v (.bool false)), .nl, .d (.v (.bool false)), .nl], .struct [(0, 29), (12, 4), (13, 34)], false, false, false, []⟩
theorem Tryd.tok50 : TOk Tryd.prog 50 Tryd.tk50 := tok_mk (sz := 14) (bytes := 200) (z := .agg #[.int .i64 0, .string ⟨#[]⟩, .string ⟨#[]⟩, .string ⟨#[]⟩, .string ⟨#[]⟩, .string ⟨#[]⟩, .string ⟨#[]⟩, .string ⟨#[]⟩, .int .u32 0, .int .i64 0, .bool false, .slice none 0 0, .bool false, .slice none 0 0]) (fun h => by cases h) (by kernel_rfl) Tryd.underlying50 ⟨_, Tryd.underlying50, by kernel_rfl⟩ rfl (by kernel_rfl) rfl
def Tryd.tk51 : TK := ⟨false, 1, 8, [.d (.v (.nilFunc))], .func, false, false, false, []⟩
theorem Tryd.tok51 : TOk Tryd.prog 51 Tryd.tk51 := tok_mk (sz := 1) (bytes := 8) (z := .nilFunc) (fun h => by cases h) (by kernel_rfl) Tryd.underlying51 ⟨_, _, _, Tryd.underlying51⟩ rfl (by kernel_rfl) rfl
def Tryd.tk52 : TK := ⟨false, 1, 8, [.d (.v (.nilFunc))], .func, false, false, false, []⟩
theorem Tryd.tok52 : TOk Tryd.prog 52 Tryd.tk52 := tok_mk (sz := 1) (bytes := 8) (z := .nilFunc) (fun h => by cases h) (by kernel_rfl) Tryd.underlying52 ⟨_, _, _, Tryd.underlying52⟩ rfl (by kernel_rfl) rfl
def Tryd.tk53 : TK := ⟨false, 1, 8, [.d (.v (.nilFunc))], .func, false, false, false, []⟩
theorem Tryd.tok53 : TOk Tryd.prog 53 Tryd.tk53 := tok_mk (sz := 1) (bytes := 8) (z := .nilFunc) (fun h => by cases h) (by kernel_rfl) Tryd.underlying53 ⟨_, _, _, Tryd.underlying53⟩ rfl (by kernel_rfl) rfl
def Tryd.tk54 : TK := ⟨false, 1, 8, [.d (.v (.map none))], .map 9 60, false, false, false, []⟩
theorem Tryd.tok54 : TOk Tryd.prog 54 Tryd.tk54 := tok_mk (sz := 1) (bytes := 8) (z := .map none) (fun h => by cases h) (by kernel_rfl) Tryd.underlying54 Tryd.underlying54 rfl (by kernel_rfl) rfl
def Tryd.tk55 : TK := ⟨true, 1, 8, [.d (.v (.map none))], .struct [(0, 54)], false, false, false, []⟩
theorem Tryd.tok55 : TOk Tryd.prog 55 Tryd.tk55 := tok_mk (sz := 1) (bytes := 8) (z := .agg #[.map none]) (fun h => by cases h) (by kernel_rfl) Tryd.underlying55 ⟨_, Tryd.underlying55, by kernel_rfl⟩ rfl (by kernel_rfl) rfl
def Tryd.tk56 : TK := ⟨true, 1, 8, [.d (.v (.map none))], .struct [(0, 54)], false, false, false, []⟩
theorem Tryd.tok56 : TOk Tryd.prog 56 Tryd.tk56 := tok_mk (sz := 1) (bytes := 8) (z := .agg #[.map none]) (fun h => by cases h) (by kernel_rfl) Tryd.underlying56 ⟨_, Tryd.underlying56, by kernel_rfl⟩ rfl (by kernel_rfl) rfl
def Tryd.tk58 : TK := ⟨false, 1, 8, [.d (.v (.nilFunc))], .func, false, false, false, []⟩
theorem Tryd.tok58 : TOk Tryd.prog 58 Tryd.tk58 := tok_mk (sz := 1) (bytes := 8) (z := .nilFunc) (fun h => by cases h) (by kernel_rfl) Tryd.underlying58 ⟨_, _, _, Tryd.underlying58⟩ rfl (by kernel_rfl) rfl
def Tryd.tk59 : TK := ⟨false, 1, 8, [.d (.v (.nilFunc))], .func, false, false, false, []⟩
theorem Tryd.tok59 : TOk Tryd.prog 59 Tryd.tk59 := tok_mk (sz := 1) (bytes := 8) (z := .nilFunc) (fun h => by cases h) (by kernel_rfl) Tryd.underlying59 ⟨_, _, _, Tryd.underlying59⟩ rfl (by kernel_rfl) rfl
def Tryd.tk60 : TK := ⟨false, 1, 8, [.d (.v (.map none))], .map 9 9, false, false, false, []⟩
theorem Tryd.tok60 : TOk Tryd.prog 60 Tryd.tk60 := tok_mk (sz := 1) (bytes := 8) (z := .map none) (fun h => by cases h) (by kernel_rfl) Tryd.underlying60 Tryd.underlying60 rfl (by kernel_rfl) rfl
def Tryd.tk61 : TK := ⟨false, 1, 8, [.d (.v (.nilFunc))], .func, false, false, false, []⟩
theorem Tryd.tok61 : TOk Tryd.prog 61 Tryd.tk61 := tok_mk (sz := 1) (bytes := 8) (z := .nilFunc) (fun h => by cases h) (by kernel_rfl) Tryd.underlying61 ⟨_, _, _, Tryd.underlying61⟩ rfl (by kernel_rfl) rfl
def Tryd.tk62 : TK := ⟨false, 1, 8, [.d (.v (.nilFunc))], .func, false, false, false, []⟩
theorem Tryd.tok62 : TOk Tryd.prog 62 Tryd.tk62 := tok_mk (sz := 1) (bytes := 8) (z := .nilFunc) (fun h => by cases h) (by kernel_rfl) Tryd.underlying62 ⟨_, _, _, Tryd.underlying62⟩ rfl (by kernel_rfl) rfl
def Tryd.tk63 : TK := ⟨false, 1, 8, [.d (.v (.nilFunc))], .func, false, false, false, []⟩
theorem Tryd.tok63 : TOk Tryd.prog 63 Tryd.tk63 := tok_mk (sz := 1) (bytes := 8) (z := .nilFunc) (fun h => by cases h) (by kernel_rfl) Tryd.underlying63 ⟨_, _, _, Tryd.underlying63⟩ rfl (by kernel_rfl) rfl
def Tryd.tk64 : TK := ⟨false, 1, 8, [.d (.v (.nilFunc))], .func, false, false, false, []⟩
theorem Tryd.tok64 : TOk Tryd.prog 64 Tryd.tk64 := tok_mk (sz := 1) (bytes := 8) (z := .nilFunc) (fun h => by cases h) (by kernel_rfl) Tryd.underlying64 ⟨_, _, _, Tryd.underlying64⟩ rfl (by kernel_rfl) rfl
def Tryd.tk65 : TK := ⟨false, 1, 8, [.d (.v (.nilFunc))], .func, false, false, false, []⟩
theorem Tryd.tok65 : TOk Tryd.prog 65 Tryd.tk65 := tok_mk (sz := 1) (bytes := 8) (z := .nilFunc) (fun h => by cases h) (by kernel_rfl) Tryd.underlying65 ⟨_, _, _, Tryd.underlying65⟩ rfl (by kernel_rfl) rfl
def Tryd.tk66 : TK := ⟨false, 1, 8, [.d (.v (.nilFunc))], .func, false, false, false, []⟩
theorem Tryd.tok66 : TOk Tryd.prog 66 Tryd.tk66 := tok_mk (sz := 1) (bytes := 8) (z := .nilFunc) (fun h => by cases h) (by kernel_rfl) Tryd.underlying66 ⟨_, _, _, Tryd.underlying66⟩ rfl (by kernel_rfl) rfl
def Tryd.tk67 : TK := ⟨false, 1, 8, [.d (.v (.nilFunc))], .func, false, false, false, []⟩
theorem Tryd.tok67 : TOk Tryd.prog 67 Tryd.tk67 := tok_mk (sz := 1) (bytes := 8) (z := .nilFunc) (fun h => by cases h) (by kernel_rfl) Tryd.underlying67 ⟨_, _, _, Tryd.underlying67⟩ rfl (by kernel_rfl) rfl
def Tryd.tk68 : TK := ⟨false, 1, 8, [.d (.v (.nilFunc))], .func, false, false, false, []⟩
theorem Tryd.tok68 : TOk Tryd.prog 68 Tryd.tk68 := tok_mk (sz := 1) (bytes := 8) (z := .nilFunc) (fun h => by cases h) (by kernel_rfl) Tryd.underlying68 ⟨_, _, _, Tryd.underlying68⟩ rfl (by kernel_rfl) rfl
def Tryd.tk69 : TK := ⟨false, 1, 8, [.d (.v (.nilFunc))], .func, false, false, false, []⟩
theorem Tryd.tok69 : TOk Tryd.prog 69 Tryd.tk69 := tok_mk (sz := 1) (bytes := 8) (z := .nilFunc) (fun h => by cases h) (by kernel_rfl) Tryd.underlying69 ⟨_, _, _, Tryd.underlying69⟩ rfl (by kernel_rfl) rfl
def Tryd.tk70 : TK := ⟨true, 3, 48, [.d (.v (.string ⟨#[]⟩)), .d (.v (.string ⟨#[]⟩)), .d (.v (.string ⟨#[]⟩))], .struct [(0, 9), (1, 9), (2, 9)], false, false, false, []⟩
theorem Tryd.tok70 : TOk Tryd.prog 70 Tryd.tk70 := tok_mk (sz := 3) (bytes := 48) (z := .agg #[.string ⟨#[]⟩, .string ⟨#[]⟩, .string ⟨#[]⟩]) (fun h => by cases h) (by kernel_rfl) Tryd.underlying70 ⟨_, Tryd.underlying70, by kernel_rfl⟩ rfl (by kernel_rfl) rfl
def Tryd.tk71 : TK := ⟨true, 3, 48, [.d (.v (.string ⟨#[]⟩)), .d (.v (.string ⟨#[]⟩)), .d (.v (.string ⟨#[]⟩))], .struct [(0, 9), (1, 9), (2, 9)], true, false, false, []⟩
theorem Tryd.tok71 : TOk Tryd.prog 71 Tryd.tk71 := tok_mk (sz := 3) (bytes := 48) (z := .agg #[.string ⟨#[]⟩, .string ⟨#[]⟩, .string ⟨#[]⟩]) (fun _ => by kernel_rfl) (by kernel_rfl) Tryd.underlying71 ⟨_, Tryd.underlying71, by kernel_rfl⟩ rfl (by kernel_rfl) rfl
def Tryd.tk72 : TK := ⟨false, 1, 8, [.d (.v (.nilFunc))], .func, false, false, false, []⟩
theorem Tryd.tok72 : TOk Tryd.prog 72 Tryd.tk72 := tok_mk (sz := 1) (bytes := 8) (z := .nilFunc) (fun h => by cases h) (by kernel_rfl) Tryd.underlying72 ⟨_, _, _, Tryd.underlying72⟩ rfl (by kernel_rfl) rfl
def Tryd.tk74 : TK := ⟨false, 1, 8, [.d (.v (.nilFunc))], .func, false, false, false, []⟩
theorem Tryd.tok74 : TOk Tryd.prog 74 Tryd.tk74 := tok_mk (sz := 1) (bytes := 8) (z := .nilFunc) (fun h => by cases h) (by kernel_rfl) Tryd.underlying74 ⟨_, _, _, Tryd.underlying74⟩ rfl (by kernel_rfl) rfl
def Tryd.tk75 : TK := ⟨false, 1, 8, [.d (.v (.nilFunc))], .func, false, false, false, []⟩
theorem Tryd.tok75 : TOk Tryd.prog 75 Tryd.tk75 := tok_mk (sz := 1) (bytes := 8) (z := .nilFunc) (fun h => by cases h) (by kernel_rfl) Tryd.underlying75 ⟨_, _, _, Tryd.underlying75⟩ rfl (by kernel_rfl) rfl
def Tryd.tk76 : TK := ⟨false, 1, 8, [.d (.v (.nilFunc))], .func, false, false, false, []⟩
theorem Tryd.tok76 : TOk Tryd.prog 76 Tryd.tk76 := tok_mk (sz := 1) (bytes := 8) (z := .nilFunc) (fun h => by cases h) (by kernel_rfl) Tryd.underlying76 ⟨_, _, _, Tryd.underlying76⟩ rfl (by kernel_rfl) rfl
def Tryd.tk77 : TK := ⟨false, 1, 8, [.d (.v (.nilFunc))], .func, false, false, false, []⟩
theorem Tryd.tok77 : TOk Tryd.prog 77 Tryd.tk77 := tok_mk (sz := 1) (bytes := 8) (z := .nilFunc) (fun h => by cases h) (by kernel_rfl) Tryd.underlying77 ⟨_, _, _, Tryd.underlying77⟩ rfl (by kernel_rfl) rfl
def Tryd.tk78 : TK := ⟨false, 1, 8, [.d (.v (.nilFunc))], .func, false, false, false, []⟩
theorem Tryd.tok78 : TOk Tryd.prog 78 Tryd.tk78 := tok_mk (sz := 1) (bytes := 8) (z := .nilFunc) (fun h => by cases h) (by kernel_rfl) Tryd.underlying78 ⟨_, _, _, Tryd.underlying78⟩ rfl (by kernel_rfl) rfl
def Tryd.tk79 : TK := ⟨false, 1, 8, [.d (.v (.nilFunc))], .func, false, false, false, []⟩
theorem Tryd.tok79 : TOk Tryd.prog 79 Tryd.tk79 := tok_mk (sz := 1) (bytes := 8) (z := .nilFunc) (fun h => by cases h) (by kernel_rfl) Tryd.underlying79 ⟨_, _, _, Tryd.underlying79⟩ rfl (by kernel_rfl) rfl
def Tryd.tk80 : TK := ⟨false, 1, 8, [.d (.v (.nilFunc))], .func, false, false, false, []⟩
theorem Tryd.tok80 : TOk Tryd.prog 80 Tryd.tk80 := tok_mk (sz := 1) (bytes := 8) (z := .nilFunc) (fun h => by cases h) (by kernel_rfl) Tryd.underlying80 ⟨_, _, _, Tryd.underlying80⟩ rfl (by kernel_rfl) rfl
def Tryd.tk81 : TK := ⟨false, 1, 8, [.d (.v (.nilFunc))], .func, false, false, false, []⟩
theorem Tryd.tok81 : TOk Tryd.prog 81 Tryd.tk81 := tok_mk (sz := 1) (bytes := 8) (z := .nilFunc) (fun h => by cases h) (by kernel_rfl) Tryd.underlying81 ⟨_, _, _, Tryd.underlying81⟩ rfl (by kernel_rfl) rfl
def Tryd.tk82 : TK := ⟨false, 1, 8, [.d (.v (.nilFunc))], .func, false, false, false, []⟩
theorem Tryd.tok82 : TOk Tryd.prog 82 Tryd.tk82 := tok_mk (sz := 1) (bytes := 8) (z := .nilFunc) (fun h => by cases h) (by kernel_rfl) Tryd.underlying82 ⟨_, _, _, Tryd.underlying82⟩ rfl (by kernel_rfl) rfl
def Tryd.tk83 : TK := ⟨false, 1, 8, [.d (.v (.nilFunc))], .func, false, false, false, []⟩
theorem Tryd.tok83 : TOk Tryd.prog 83 Tryd.tk83 := tok_mk (sz := 1) (bytes := 8) (z := .nilFunc) (fun h => by cases h) (by kernel_rfl) Tryd.underlying83 ⟨_, _, _, Tryd.underlying83⟩ rfl (by kernel_rfl) rfl
def Tryd.tk84 : TK := ⟨false, 1, 8, [.d (.v (.nilFunc))], .func, false, false, false, []⟩
theorem Tryd.tok84 : TOk Tryd.prog 84 Tryd.tk84 := tok_mk (sz := 1) (bytes := 8) (z := .nilFunc) (fun h => by cases h) (by kernel_rfl) Tryd.underlying84 ⟨_, _, _, Tryd.underlying84⟩ rfl (by kernel_rfl) rfl
def Tryd.tk85 : TK := ⟨false, 1, 8, [.d (.v (.nilFunc))], .func, false, false, false, []⟩
theorem Tryd.tok85 : TOk Tryd.prog 85 Tryd.tk85 := tok_mk (sz := 1) (bytes := 8) (z := .nilFunc) (fun h => by cases h) (by kernel_rfl) Tryd.underlying85 ⟨_, _, _, Tryd.underlying85⟩ rfl (by kernel_rfl) rfl
def Tryd.tk86 : TK := ⟨false, 1, 8, [.d (.v (.nilFunc))], .func, false, false, false, []⟩
theorem Tryd.tok86 : TOk Tryd.prog 86 Tryd.tk86 := tok_mk (sz := 1) (bytes := 8) (z := .nilFunc) (fun h => by cases h) (by kernel_rfl) Tryd.underlying86 ⟨_, _, _, Tryd.underlying86⟩ rfl (by kernel_rfl) rfl
def Tryd.tk87 : TK := ⟨false, 1, 8, [.d (.v (.nilFunc))], .func, false, false, false, []⟩
theorem Tryd.tok87 : TOk Tryd.prog 87 Tryd.tk87 := tok_mk (sz := 1) (bytes := 8) (z := .nilFunc) (fun h => by cases h) (by kernel_rfl) Tryd.underlying87 ⟨_, _, _, Tryd.underlying87⟩ rfl (by kernel_rfl) rfl
def Tryd.tk88 : TK := ⟨false, 1, 8, [.d (.v (.int .u64 0))], .int .u64, false, false, false, []⟩
theorem Tryd.tok88 : TOk Tryd.prog 88 Tryd.tk88 := tok_mk (sz := 1) (bytes := 8) (z := .int .u64 0) (fun h => by cases h) (by kernel_rfl) Tryd.underlying88 Tryd.underlying88 rfl (by kernel_rfl) rfl
def Tryd.tk90 : TK := ⟨false, 1, 8, [.d (.v (.nilFunc))], .func, false, false, false, []⟩
theorem Tryd.tok90 : TOk Tryd.prog 90 Tryd.tk90 := tok_mk (sz := 1) (bytes := 8) (z := .nilFunc) (fun h => by cases h) (by kernel_rfl) Tryd.underlying90 ⟨_, _, _, Tryd.underlying90⟩ rfl (by kernel_rfl) rfl
def Tryd.tk91 : TK := ⟨false, 1, 8, [.d (.v (.nilFunc))], .func, false, false, false, []⟩
theorem Tryd.tok91 : TOk Tryd.prog 91 Tryd.tk91 := tok_mk (sz := 1) (bytes := 8) (z := .nilFunc) (fun h => by cases h) (by kernel_rfl) Tryd.underlying91 ⟨_, _, _, Tryd.underlying91⟩ rfl (by kernel_rfl) rfl
def Tryd.tk95 : TK := ⟨false, 1, 8, [.d (.v (.nilFunc))], .func, false, false, false, []⟩
theorem Tryd.tok95 : TOk Tryd.prog 95 Tryd.tk95 := tok_mk (sz := 1) (bytes := 8) (z := .nilFunc) (fun h => by cases h) (by kernel_rfl) Tryd.underlying95 ⟨_, _, _, Tryd.underlying95⟩ rfl (by kernel_rfl) rfl
def Tryd.tk96 : TK := ⟨false, 1, 8, [.d (.v (.nilFunc))], .func, false, false, false, []⟩
theorem Tryd.tok96 : TOk Tryd.prog 96 Tryd.tk96 := tok_mk (sz := 1) (bytes := 8) (z := .nilFunc) (fun h => by cases h) (by kernel_rfl) Tryd.underlying96 ⟨_, _, _, Tryd.underlying96⟩ rfl (by kernel_rfl) rfl
def Tryd.tk97 : TK := ⟨false, 1, 8, [.d (.v (.pointer none))], .ptr 93, false, false, false, []⟩
theorem Tryd.tok97 : TOk Tryd.prog 97 Tryd.tk97 := tok_mk (sz := 1) (bytes := 8) (z := .pointer none) (fun h => by cases h) (by kernel_rfl) Tryd.underlying97 Tryd.underlying97 rfl (by kernel_rfl) rfl
def Tryd.tk98 : TK := ⟨false, 1, 8, [.d (.v (.nilFunc))], .func, false, false, false, []⟩
theorem Tryd.tok98 : TOk Tryd.prog 98 Tryd.tk98 := tok_mk (sz := 1) (bytes := 8) (z := .nilFunc) (fun h => by cases h) (by kernel_rfl) Tryd.underlying98 ⟨_, _, _, Tryd.underlying98⟩ rfl (by kernel_rfl) rfl
def Tryd.tk99 : TK := ⟨false, 1, 8, [.d (.v (.nilFunc))], .func, false, false, false, []⟩
theorem Tryd.tok99 : TOk Tryd.prog 99 Tryd.tk99 := tok_mk (sz := 1) (bytes := 8) (z := .nilFunc) (fun h => by cases h) (by kernel_rfl) Tryd.underlying99 ⟨_, _, _, Tryd.underlying99⟩ rfl (by kernel_rfl) rfl
def Tryd.tk100 : TK := ⟨false, 1, 8, [.d (.v (.nilFunc))], .func, false, false, false, []⟩
theorem Tryd.tok100 : TOk Tryd.prog 100 Tryd.tk100 := tok_mk (sz := 1) (bytes := 8) (z := .nilFunc) (fun h => by cases h) (by kernel_rfl) Tryd.underlying100 ⟨_, _, _, Tryd.underlying100⟩ rfl (by kernel_rfl) rfl
def Tryd.tk101 : TK := ⟨false, 1, 8, [.d (.v (.int .i64 0))], .int .i64, false, false, false, []⟩
theorem Tryd.tok101 : TOk Tryd.prog 101 Tryd.tk101 := tok_mk (sz := 1) (bytes := 8) (z := .int .i64 0) (fun h => by cases h) (by kernel_rfl) Tryd.underlying101 Tryd.underlying101 rfl (by kernel_rfl) rfl
def Tryd.tk103 : TK := ⟨false, 1, 8, [.d (.v (.nilFunc))], .func, false, false, false, []⟩
theorem Tryd.tok103 : TOk Tryd.prog 103 Tryd.tk103 := tok_mk (sz := 1) (bytes := 8) (z := .nilFunc) (fun h => by cases h) (by kernel_rfl) Tryd.underlying103 ⟨_, _, _, Tryd.underlying103⟩ rfl (by kernel_rfl) rfl
def Tryd.tk104 : TK := ⟨false, 1, 8, [.d (.v (.nilFunc))], .func, false, false, false, []⟩
theorem Tryd.tok104 : TOk Tryd.prog 104 Tryd.tk104 := tok_mk (sz := 1) (bytes := 8) (z := .nilFunc) (fun h => by cases h) (by kernel_rfl) Tryd.underlying104 ⟨_, _, _, Tryd.underlying104⟩ rfl (by kernel_rfl) rfl
def Tryd.tk105 : TK := ⟨false, 1, 8, [.d (.v (.nilFunc))], .func, false, false, false, []⟩
theorem Tryd.tok105 : TOk Tryd.prog 105 Tryd.tk105 := tok_mk (sz := 1) (bytes := 8) (z := .nilFunc) (fun h => by cases h) (by kernel_rfl) Tryd.underlying105 ⟨_, _, _, Tryd.underlying105⟩ rfl (by kernel_rfl) rfl
def Tryd.tk106 : TK := ⟨false, 1, 8, [.d (.v (.nilFunc))], .func, false, false, false, []⟩
theorem Tryd.tok106 : TOk Tryd.prog 106 Tryd.tk106 := tok_mk (sz := 1) (bytes := 8) (z := .nilFunc) (fun h => by cases h) (by kernel_rfl) Tryd.underlying106 ⟨_, _, _, Tryd.underlying106⟩ rfl (by kernel_rfl) rfl
def Tryd.tk107 : TK := ⟨false, 1, 8, [.d (.v (.nilFunc))], .func, false, false, false, []⟩
theorem Tryd.tok107 : TOk Tryd.prog 107 Tryd.tk107 := tok_mk (sz := 1) (bytes := 8) (z := .nilFunc) (fun h => by cases h) (by kernel_rfl) Tryd.underlying107 ⟨_, _, _, Tryd.underlying107⟩ rfl (by kernel_rfl) rfl
def Tryd.tk108 : TK := ⟨false, 1, 8, [.d (.v (.nilFunc))], .func, false, false, false, []⟩
theorem Tryd.tok108 : TOk Tryd.prog 108 Tryd.tk108 := tok_mk (sz := 1) (bytes := 8) (z := .nilFunc) (fun h => by cases h) (by kernel_rfl) Tryd.underlying108 ⟨_, _, _, Tryd.underlying108⟩ rfl (by kernel_rfl) rfl
def Tryd.tk109 : TK := ⟨false, 1, 8, [.d (.v (.int .u64 0))], .int .u64, false, false, false, []⟩
theorem Tryd.tok109 : TOk Tryd.prog 109 Tryd.tk109 := tok_mk (sz := 1) (bytes := 8) (z := .int .u64 0) (fun h => by cases h) (by kernel_rfl) Tryd.underlying109 Tryd.underlying109 rfl (by kernel_rfl) rfl
def Tryd.tk110 : TK := ⟨false, 1, 8, [.d (.v (.nilFunc))], .func, false, false, false, []⟩
theorem Tryd.tok110 : TOk Tryd.prog 110 Tryd.tk110 := tok_mk (sz := 1) (bytes := 8) (z := .nilFunc) (fun h => by cases h) (by kernel_rfl) Tryd.underlying110 ⟨_, _, _, Tryd.underlying110⟩ rfl (by kernel_rfl) rfl
def Tryd.tk111 : TK := ⟨false, 1, 8, [.d (.v (.nilFunc))], .func, false, false, false, []⟩
theorem Tryd.tok111 : TOk Tryd.prog 111 Tryd.tk111 := tok_mk (sz := 1) (bytes := 8) (z := .nilFunc) (fun h => by cases h) (by kernel_rfl) Tryd.underlying111 ⟨_, _, _, Tryd.underlying111⟩ rfl (by kernel_rfl) rfl
def Tryd.tk112 : TK := ⟨false, 1, 8, [.d (.v (.nilFunc))], .func, false, false, false, []⟩
theorem Tryd.tok112 : TOk Tryd.prog 112 Tryd.tk112 := tok_mk (sz := 1) (bytes := 8) (z := .nilFunc) (fun h => by cases h) (by kernel_rfl) Tryd.underlying112 ⟨_, _, _, Tryd.underlying112⟩ rfl (by kernel_rfl) rfl
def Tryd.tk114 : TK := ⟨false, 1, 8, [.d (.v (.nilFunc))], .func, false, false, false, []⟩
theorem Tryd.tok114 : TOk Tryd.prog 114 Tryd.tk114 := tok_mk (sz := 1) (bytes := 8) (z := .nilFunc) (fun h => by cases h) (by kernel_rfl) Tryd.underlying114 ⟨_, _, _, Tryd.underlying114⟩ rfl (by kernel_rfl) rfl
def Tryd.tk115 : TK := ⟨false, 1, 8, [.d (.v (.nilFunc))], .func, false, false, false, []⟩
theorem Tryd.tok115 : TOk Tryd.prog 115 Tryd.tk115 := tok_mk (sz := 1) (bytes := 8) (z := .nilFunc) (fun h => by cases h) (by kernel_rfl) Tryd.underlying115 ⟨_, _, _, Tryd.underlying115⟩ rfl (by kernel_rfl) rfl
def Tryd.tk116 : TK := ⟨false, 1, 8, [.d (.v (.int .u64 0))], .int .u64, false, false, false, []⟩
theorem Tryd.tok116 : TOk Tryd.prog 116 Tryd.tk116 := tok_mk (sz := 1) (bytes := 8) (z := .int .u64 0) (fun h => by cases h) (by kernel_rfl) Tryd.underlying116 Tryd.underlying116 rfl (by kernel_rfl) rfl
def Tryd.tk117 : TK := ⟨false, 1, 8, [.d (.v (.nilFunc))], .func, false, false, false, []⟩
theorem Tryd.tok117 : TOk Tryd.prog 117 Tryd.tk117 := tok_mk (sz := 1) (bytes := 8) (z := .nilFunc) (fun h => by cases h) (by kernel_rfl) Tryd.underlying117 ⟨_, _, _, Tryd.underlying117⟩ rfl (by kernel_rfl) rfl
def Tryd.tk118 : TK := ⟨false, 1, 8, [.d (.v (.nilFunc))], .func, false, false, false, []⟩
theorem Tryd.tok118 : TOk Tryd.prog 118 Tryd.tk118 := tok_mk (sz := 1) (bytes := 8) (z := .nilFunc) (fun h => by cases h) (by kernel_rfl) Tryd.underlying118 ⟨_, _, _, Tryd.underlying118⟩ rfl (by kernel_rfl) rfl
def Tryd.tk119 : TK := ⟨false, 1, 8, [.d (.v (.nilFunc))], .func, false, false, false, []⟩
theorem Tryd.tok119 : TOk Tryd.prog 119 Tryd.tk119 := tok_mk (sz := 1) (bytes := 8) (z := .nilFunc) (fun h => by cases h) (by kernel_rfl) Tryd.underlying119 ⟨_, _, _, Tryd.underlying119⟩ rfl (by kernel_rfl) rfl
def Tryd.tk120 : TK := ⟨false, 1, 8, [.d (.v (.pointer none))], .ptr 3, false, false, false, []⟩
theorem Tryd.tok120 : TOk Tryd.prog 120 Tryd.tk120 := tok_mk (sz := 1) (bytes := 8) (z := .pointer none) (fun h => by cases h) (by kernel_rfl) Tryd.underlying120 Tryd.underlying120 rfl (by kernel_rfl) rfl
def Tryd.tk121 : TK := ⟨false, 1, 8, [.d (.v (.nilFunc))], .func, false, false, false, []⟩
theorem Tryd.tok121 : TOk Tryd.prog 121 Tryd.tk121 := tok_mk (sz := 1) (bytes := 8) (z := .nilFunc) (fun h => by cases h) (by kernel_rfl) Tryd.underlying121 ⟨_, _, _, Tryd.underlying121⟩ rfl (by kernel_rfl) rfl
def Tryd.tk123 : TK := ⟨false, 1, 8, [.d (.v (.nilFunc))], .func, false, false, false, []⟩
theorem Tryd.tok123 : TOk Tryd.prog 123 Tryd.tk123 := tok_mk (sz := 1) (bytes := 8) (z := .nilFunc) (fun h => by cases h) (by kernel_rfl) Tryd.underlying123 ⟨_, _, _, Tryd.underlying123⟩ rfl (by kernel_rfl) rfl
def Tryd.tk124 : TK := ⟨false, 1, 8, [.d (.v (.pointer none))], .ptr 116, false, false, false, []⟩
theorem Tryd.tok124 : TOk Tryd.prog 124 Tryd.tk124 := tok_mk (sz := 1) (bytes := 8) (z := .pointer none) (fun h => by cases h) (by kernel_rfl) Tryd.underlying124 Tryd.underlying124 rfl (by kernel_rfl) rfl
def Tryd.tk126 : TK := ⟨false, 1, 8, [.d (.v (.nilFunc))], .func, false, false, false, []⟩
theorem Tryd.tok126 : TOk Tryd.prog 126 Tryd.tk126 := tok_mk (sz := 1) (bytes := 8) (z := .nilFunc) (fun h => by cases h) (by kernel_rfl) Tryd.underlying126 ⟨_, _, _, Tryd.underlying126⟩ rfl (by kernel_rfl) rfl
def Tryd.tk128 : TK := ⟨true, 2, 2, [.d (.v (.int .u8 0)), .d (.v (.int .u8 0))], .struct [(0, 5), (1, 5)], false, false, false, []⟩
theorem Tryd.tok128 : TOk Tryd.prog 128 Tryd.tk128 := tok_mk (sz := 2) (bytes := 2) (z := .agg #[.int .u8 0, .int .u8 0]) (fun h => by cases h) (by kernel_rfl) Tryd.underlying128 ⟨_, Tryd.underlying128, by kernel_rfl⟩ rfl (by kernel_rfl) rfl
def Tryd.tk129 : TK := ⟨true, 2, 2, [.d (.v (.int .u8 0)), .d (.v (.int .u8 0))], .struct [(0, 5), (1, 5)], false, false, false, []⟩
theorem Tryd.tok129 : TOk Tryd.prog 129 Tryd.tk129 := tok_mk (sz := 2) (bytes := 2) (z := .agg #[.int .u8 0, .int .u8 0]) (fun h => by cases h) (by kernel_rfl) Tryd.underlying129 ⟨_, Tryd.underlying129, by kernel_rfl⟩ rfl (by kernel_rfl) rfl
def Tryd.tk130 : TK := ⟨true, 32, 32, [.d (.v (.int .u8 0)), .d (.v (.int .u8 0)), .d (.v (.int .u8 0)), .d (.v (.int .u8 0)), .d (.v (.int .u8 0)), .d (.v (.int .u8 0)), .d (.v (.int .u8 0)), .d (.v (.int .u8 0)), .d (.v (.int .u8 0)), .d (.v (.int .u8 0)), .d (.v (.int .u8 0)), .d (.v (.int .u8 0)), .d (.v (.int .u8 0)), .d (.v (.int .u8 0)), .d (.v (.int .u8 0)), .d (.v (.int .u8 0)), .d (.v (.int .u8 0)), .d (.v (.int .u8 0)), .d (.v (.int .u8 0)), .d (.v (.int .u8 0)), .d (.v (.int .u8 0)), .d (.v (.int .u8 0)), .d (.v (.int .u8 0)), .d (.v (.int .u8 0)), .d (.v (.int .u8 0)), .d (.v (.int .u8 0)), .d (.v (.int .u8 0)), .d (.v (.int .u8 0)), .d (.v (.int .u8 0)), .d (.v (.int .u8 0)), .d (.v (.int .u8 0)), .d (.v (.int .u8 0))], .array 16 129, false, false, false, []⟩
theorem Tryd.tok130 : TOk Tryd.prog 130 Tryd.tk130 := tok_mk (sz := 32) (bytes := 32) (z := .agg #[.int .u8 0, .int .u8 0, .int .u8 0, .int .u8 0, .int .u8 0, .int .u8 0, .int .u8 0, .int .u8 0, .int .u8 0, .int .u8 0, .int .u8 0, .int .u8 0, .int .u8 0, .int .u8 0, .int .u8 0, .int .u8 0, .int .u8 0, .int .u8 0, .int .u8 0, .int .u8 0, .int .u8 0, .int .u8 0, .int .u8 0, .int .u8 0, .int .u8 0, .int .u8 0, .int .u8 0, .int .u8 0, .int .u8 0, .int .u8 0, .int .u8 0, .int .u8 0]) (fun h => by cases h) (by kernel_rfl) Tryd.underlying130 Tryd.underlying130 rfl (by kernel_rfl) rfl
def Tryd.tk131 : TK := ⟨false, 1, 8, [.d (.v (.nilFunc))], .func, false, false, false, []⟩
theorem Tryd.tok131 : TOk Tryd.prog 131 Tryd.tk131 := tok_mk (sz := 1) (bytes := 8) (z := .nilFunc) (fun h => by cases h) (by kernel_rfl) Tryd.underlying131 ⟨_, _, _, Tryd.underlying131⟩ rfl (by kernel_rfl) rfl
def Tryd.tk132 : TK := ⟨true, 4, 40, [.d (.v (.pointer none)), .d (.v (.pointer none)), .d (.v (.pointer none)), .d (.v (.string ⟨#[]⟩))], .struct [(0, 17), (1, 17), (2, 17), (3, 9)], false, false, false, []⟩
theorem Tryd.tok132 : TOk Tryd.prog 132 Tryd.tk132 := tok_mk (sz := 4) (bytes := 40) (z := .agg #[.pointer none, .pointer none, .pointer none, .string ⟨#[]⟩]) (fun h => by cases h) (by kernel_rfl) Tryd.underlying132 ⟨_, Tryd.underlying132, by kernel_rfl⟩ rfl (by kernel_rfl) rfl
def Tryd.tk133 : TK := ⟨true, 4, 40, [.d (.v (.pointer none)), .d (.v (.pointer none)), .d (.v (.pointer none)), .d (.v (.string ⟨#[]⟩))], .struct [(0, 17), (1, 17), (2, 17), (3, 9)], false, false, false, []⟩
theorem Tryd.tok133 : TOk Tryd.prog 133 Tryd.tk133 := tok_mk (sz := 4) (bytes := 40) (z := .agg #[.pointer none, .pointer none, .pointer none, .string ⟨#[]⟩]) (fun h => by cases h) (by kernel_rfl) Tryd.underlying133 ⟨_, Tryd.underlying133, by kernel_rfl⟩ rfl (by kernel_rfl) rfl
def Tryd.tk137 : TK := ⟨false, 1, 1, [.d (.v (.int .u8 0))], .int .u8, false, false, false, []⟩
theorem Tryd.tok137 : TOk Tryd.prog 137 Tryd.tk137 := tok_mk (sz := 1) (bytes := 1) (z := .int .u8 0) (fun h => by cases h) (by kernel_rfl) Tryd.underlying137 Tryd.underlying137 rfl (by kernel_rfl) rfl
def Tryd.tk138 : TK := ⟨false, 1, 1, [.d (.v (.int .u8 0))], .int .u8, false, false, false, []⟩
theorem Tryd.tok138 : TOk Tryd.prog 138 Tryd.tk138 := tok_mk (sz := 1) (bytes := 1) (z := .int .u8 0) (fun h => by cases h) (by kernel_rfl) Tryd.underlying138 Tryd.underlying138 rfl (by kernel_rfl) rfl
def Tryd.tk139 : TK := ⟨false, 1, 8, [.d (.v (.nilFunc))], .func, false, false, false, []⟩
theorem Tryd.tok139 : TOk Tryd.prog 139 Tryd.tk139 := tok_mk (sz := 1) (bytes := 8) (z := .nilFunc) (fun h => by cases h) (by kernel_rfl) Tryd.underlying139 ⟨_, _, _, Tryd.underlying139⟩ rfl (by kernel_rfl) rfl
def Tryd.tk140 : TK := ⟨false, 1, 8, [.d (.v (.pointer none))], .ptr 5, false, false, false, []⟩
theorem Tryd.tok140 : TOk Tryd.prog 140 Tryd.tk140 := tok_mk (sz := 1) (bytes := 8) (z := .pointer none) (fun h => by cases h) (by kernel_rfl) Tryd.underlying140 Tryd.underlying140 rfl (by kernel_rfl) rfl
def Tryd.tk141 : TK := ⟨false, 1, 4, [.d (.v (.int .i32 0))], .int .i32, false, false, false, []⟩
theorem Tryd.tok141 : TOk Tryd.prog 141 Tryd.tk141 := tok_mk (sz := 1) (bytes := 4) (z := .int .i32 0) (fun h => by cases h) (by kernel_rfl) Tryd.underlying141 Tryd.underlying141 rfl (by kernel_rfl) rfl
def Tryd.tk142 : TK := ⟨false, 1, 4, [.d (.v (.int .i32 0))], .int .i32, false, false, false, []⟩
theorem Tryd.tok142 : TOk Tryd.prog 142 Tryd.tk142 := tok_mk (sz := 1) (bytes := 4) (z := .int .i32 0) (fun h => by cases h) (by kernel_rfl) Tryd.underlying142 Tryd.underlying142 rfl (by kernel_rfl) rfl
def Tryd.tk143 : TK := ⟨true, 11, 48, [.d (.v (.int .u64 0)), .d (.v (.int .u64 0)), .d (.v (.int .u32 0)), .d (.v (.int .u8 0)), .d (.v (.int .u8 0)), .d (.v (.int .u8 0)), .d (.v (.int .u8 0)), .d (.v (.nilFunc)), .d (.v (.pointer none)), .d (.v (.int .i32 0)), .d (.v (.int .i32 0))], .struct [(0, 12), (1, 12), (2, 26), (3, 137), (4, 5), (5, 5), (6, 138), (7, 139), (8, 140), (9, 141), (10, 142)], false, false, false, []⟩
theorem Tryd.tok143 : TOk Tryd.prog 143 Tryd.tk143 := tok_mk (sz := 11) (bytes := 48) (z := .agg #[.int .u64 0, .int .u64 0, .int .u32 0, .int .u8 0, .int .u8 0, .int .u8 0, .int .u8 0, .nilFunc, .pointer none, .int .i32 0, .int .i32 0]) (fun h => by cases h) (by kernel_rfl) Tryd.underlying143 ⟨_, Tryd.underlying143, by kernel_rfl⟩ rfl (by kernel_rfl) rfl
def Tryd.tk144 : TK := ⟨true, 11, 48, [.d (.v (.int .u64 0)), .d (.v (.int .u64 0)), .d (.v (.int .u32 0)), .d (.v (.int .u8 0)), .d (.v (.int .u8 0)), .d (.v (.int .u8 0)), .d (.v (.int .u8 0)), .d (.v (.nilFunc)), .d (.v (.pointer none)), .d (.v (.int .i32 0)), .d (.v (.int .i32 0))], .struct [(0, 12), (1, 12), (2, 26), (3, 137), (4, 5), (5, 5), (6, 138), (7, 139), (8, 140), (9, 141), (10, 142)], false, false, false, []⟩
theorem Tryd.tok144 : TOk Tryd.prog 144 Tryd.tk144 := tok_mk (sz := 11) (bytes := 48) (z := .agg #[.int .u64 0, .int .u64 0, .int .u32 0, .int .u8 0, .int .u8 0, .int .u8 0, .int .u8 0, .nilFunc, .pointer none, .int .i32 0, .int .i32 0]) (fun h => by cases h) (by kernel_rfl) Tryd.underlying144 ⟨_, Tryd.underlying144, by kernel_rfl⟩ rfl (by kernel_rfl) rfl
def Tryd.tk145 : TK := ⟨true, 4, 48, [.d (.v (.string ⟨#[]⟩)), .d (.v (.string ⟨#[]⟩)), .d (.v (.int .i64 0)), .d (.v (.bool false))], .struct [(0, 9), (1, 9), (2, 3), (3, 4)], false, false, false, []⟩
theorem Tryd.tok145 : TOk Tryd.prog 145 Tryd.tk145 := tok_mk (sz := 4) (bytes := 48) (z := .agg #[.string ⟨#[]⟩, .string ⟨#[]⟩, .int .i64 0, .bool false]) (fun h => by cases h) (by kernel_rfl) Tryd.underlying145 ⟨_, Tryd.underlying145, by kernel_rfl⟩ rfl (by kernel_rfl) rfl
def Tryd.tk146 : TK := ⟨true, 4, 48, [.d (.v (.string ⟨#[]⟩)), .d (.v (.string ⟨#[]⟩)), .d (.v (.int .i64 0)), .d (.v (.bool false))], .struct [(0, 9), (1, 9), (2, 3), (3, 4)], true, false, false, []⟩
theorem Tryd.tok146 : TOk Tryd.prog 146 Tryd.tk146 := tok_mk (sz := 4) (bytes := 48) (z := .agg #[.string ⟨#[]⟩, .string ⟨#[]⟩, .int .i64 0, .bool false]) (fun _ => by kernel_rfl) (by kernel_rfl) Tryd.underlying146 ⟨_, Tryd.underlying146, by kernel_rfl⟩ rfl (by kernel_rfl) rfl
def Tryd.Ks : List (TypeId × TK) := [(1, Tryd.tk1), (2, Tryd.tk2), (3, Tryd.tk3), (4, Tryd.tk4), (5, Tryd.tk5), (6, Tryd.tk6), (7, Tryd.tk7), (8, Tryd.tk8), (9, Tryd.tk9), (10, Tryd.tk10), (11, Tryd.tk11), (12, Tryd.tk12), (13, Tryd.tk13), (14, Tryd.tk14), (15, Tryd.tk15), (16, Tryd.tk16), (17, Tryd.tk17), (18, Tryd.tk18), (19, Tryd.tk19), (21, Tryd.tk21), (22, Tryd.tk22), (23, Tryd.tk23), (24, Tryd.tk24), (25, Tryd.tk25), (26, Tryd.tk26), (27, Tryd.tk27), (28, Tryd.tk28), (29, Tryd.tk29), (30, Tryd.tk30), (31, Tryd.tk31), (33, Tryd.tk33), (34, Tryd.tk34), (35, Tryd.tk35), (36, Tryd.tk36), (37, Tryd.tk37), (38, Tryd.tk38), (39, Tryd.tk39), (40, Tryd.tk40), (41, Tryd.tk41), (42, Tryd.tk42), (43, Tryd.tk43), (44, Tryd.tk44), (45, Tryd.tk45), (46, Tryd.tk46), (47, Tryd.tk47), (48, Tryd.tk48), (49, Tryd.tk49), (50, Tryd.tk50), (51, Tryd.tk51), (52, Tryd.tk52), (53, Tryd.tk53), (54, Tryd.tk54), (55, Tryd.tk55), (56, Tryd.tk56), (58, Tryd.tk58), (59, Tryd.tk59), (60, Tryd.tk60), (61, Tryd.tk61), (62, Tryd.tk62), (63, Tryd.tk63), (64, Tryd.tk64), (65, Tryd.tk65), (66, Tryd.tk66), (67, Tryd.tk67), (68, Tryd.tk68), (69, Tryd.tk69), (70, Tryd.tk70), (71, Tryd.tk71), (72, Tryd.tk72), (74, Tryd.tk74), (75, Tryd.tk75), (76, Tryd.tk76), (77, Tryd.tk77), (78, Tryd.tk78), (79, Tryd.tk79), (80, Tryd.tk80), (81, Tryd.tk81), (82, Tryd.tk82), (83, Tryd.tk83), (84, Tryd.tk84), (85, Tryd.tk85), (86, Tryd.tk86), (87, Tryd.tk87), (88, Tryd.tk88), (90, Tryd.tk90), (91, Tryd.tk91), (95, Tryd.tk95), (96, Tryd.tk96), (97, Tryd.tk97), (98, Tryd.tk98), (99, Tryd.tk99), (100, Tryd.tk100), (101, Tryd.tk101), (103, Tryd.tk103), (104, Tryd.tk104), (105, Tryd.tk105), (106, Tryd.tk106), (107, Tryd.tk107), (108, Tryd.tk108), (109, Tryd.tk109), (110, Tryd.tk110), (111, Tryd.tk111), (112, Tryd.tk112), (114, Tryd.tk114), (115, Tryd.tk115), (116, Tryd.tk116), (117, Tryd.tk117), (118, Tryd.tk118), (119, Tryd.tk119), (120, Tryd.tk120), (121, Tryd.tk121), (123, Tryd.tk123), (124, Tryd.tk124), (126, Tryd.tk126), (128, Tryd.tk128), (129, Tryd.tk129), (130, Tryd.tk130), (131, Tryd.tk131), (132, Tryd.tk132), (133, Tryd.tk133), (137, Tryd.tk137), (138, Tryd.tk138), (139, Tryd.tk139), (140, Tryd.tk140), (141, Tryd.tk141), (142, Tryd.tk142), (143, Tryd.tk143), (144, Tryd.tk144), (145, Tryd.tk145), (146, Tryd.tk146)]
def Tryd.K : TypeId → Option TK := lkT Tryd.Ks
theorem Tryd.K_ok : KOk Tryd.prog Tryd.K := kok_cons Tryd.tok1 ( kok_cons Tryd.tok2 ( kok_cons Tryd.tok3 ( kok_cons Tryd.tok4 ( kok_cons Tryd.tok5 ( kok_cons Tryd.tok6 ( kok_cons Tryd.tok7 ( kok_cons Tryd.tok8 ( kok_cons Tryd.tok9 ( kok_cons Tryd.tok10 ( kok_cons Tryd.tok11 ( kok_cons Tryd.tok12 ( kok_cons Tryd.tok13 ( kok_cons Tryd.tok14 ( kok_cons Tryd.tok15 ( kok_cons Tryd.tok16 ( kok_cons Tryd.tok17 ( kok_cons Tryd.tok18 ( kok_cons Tryd.tok19 ( kok_cons Tryd.tok21 ( kok_cons Tryd.tok22 ( kok_cons Tryd.tok23 ( kok_cons Tryd.tok24 ( kok_cons Tryd.tok25 ( kok_cons Tryd.tok26 ( kok_cons Tryd.tok27 ( kok_cons Tryd.tok28 ( kok_cons Tryd.tok29 ( kok_cons Tryd.tok30 ( kok_cons Tryd.tok31 ( kok_cons Tryd.tok33 ( kok_cons Tryd.tok34 ( kok_cons Tryd.tok35 ( kok_cons Tryd.tok36 ( kok_cons Tryd.tok37 ( kok_cons Tryd.tok38 ( kok_cons Tryd.tok39 ( kok_cons Tryd.tok40 ( kok_cons Tryd.tok41 ( kok_cons Tryd.tok42 ( kok_cons Tryd.tok43 ( kok_cons Tryd.tok44 ( kok_cons Tryd.tok45 ( kok_cons Tryd.tok46 ( kok_cons Tryd.tok47 ( kok_cons Tryd.tok48 ( kok_cons Tryd.tok49 ( kok_cons Tryd.tok50 ( kok_cons Tryd.tok51 ( kok_cons Tryd.tok52 ( kok_cons Tryd.tok53 ( kok_cons Tryd.tok54 ( kok_cons Tryd.tok55 ( kok_cons Tryd.tok56 ( kok_cons Tryd.tok58 ( kok_cons Tryd.tok59 ( kok_cons Tryd.tok60 ( kok_cons Tryd.tok61 ( kok_cons Tryd.tok62 ( kok_cons Tryd.tok63 ( kok_cons Tryd.tok64 ( kok_cons Tryd.tok65 ( kok_cons Tryd.tok66 ( kok_cons Tryd.tok67 ( kok_cons Tryd.tok68 ( kok_cons Tryd.tok69 ( kok_cons Tryd.tok70 ( kok_cons Tryd.tok71 ( kok_cons Tryd.tok72 ( kok_cons Tryd.tok74 ( kok_cons Tryd.tok75 ( kok_cons Tryd.tok76 ( kok_cons Tryd.tok77 ( kok_cons Tryd.tok78 ( kok_cons Tryd.tok79 ( kok_cons Tryd.tok80 ( kok_cons Tryd.tok81 ( kok_cons Tryd.tok82 ( kok_cons Tryd.tok83 ( kok_cons Tryd.tok84 ( kok_cons Tryd.tok85 ( kok_cons Tryd.tok86 ( kok_cons Tryd.tok87 ( kok_cons Tryd.tok88 ( kok_cons Tryd.tok90 ( kok_cons Tryd.tok91 ( kok_cons Tryd.tok95 ( kok_cons Tryd.tok96 ( kok_cons Tryd.tok97 ( kok_cons Tryd.tok98 ( kok_cons Tryd.tok99 ( kok_cons Tryd.tok100 ( kok_cons Tryd.tok101 ( kok_cons Tryd.tok103 ( kok_cons Tryd.tok104 ( kok_cons Tryd.tok105 ( kok_cons Tryd.tok106 ( kok_cons Tryd.tok107 ( kok_cons Tryd.tok108 ( kok_cons Tryd.tok109 ( kok_cons Tryd.tok110 ( kok_cons Tryd.tok111 ( kok_cons Tryd.tok112 ( kok_cons Tryd.tok114 ( kok_cons Tryd.tok115 ( kok_cons Tryd.tok116 ( kok_cons Tryd.tok117 ( kok_cons Tryd.tok118 ( kok_cons Tryd.tok119 ( kok_cons Tryd.tok120 ( kok_cons Tryd.tok121 ( kok_cons Tryd.tok123 ( kok_cons Tryd.tok124 ( kok_cons Tryd.tok126 ( kok_cons Tryd.tok128 ( kok_cons Tryd.tok129 ( kok_cons Tryd.tok130 ( kok_cons Tryd.tok131 ( kok_cons Tryd.tok132 ( kok_cons Tryd.tok133 ( kok_cons Tryd.tok137 ( kok_cons Tryd.tok138 ( kok_cons Tryd.tok139 ( kok_cons Tryd.tok140 ( kok_cons Tryd.tok141 ( kok_cons Tryd.tok142 ( kok_cons Tryd.tok143 ( kok_cons Tryd.tok144 ( kok_cons Tryd.tok145 ( kok_cons Tryd.tok146 ( kok_nil))))))))))))))))))))))))))))))))))))))))))))))))))))))))))))))))))))))))))))))))))))))))))))))))))))))))))))))))))))))))))))))))))
noncomputable def Tryd.b0 : Code := Tryd.f0.body.getD .skip
noncomputable def Tryd.b1 : Code := Tryd.f1.body.getD .skip
noncomputable def Tryd.b2 : Code := Tryd.f2.body.getD .skip
noncomputable def Tryd.b3 : Code := Tryd.f3.body.getD .skip
noncomputable def Tryd.b6 : Code := Tryd.f6.body.getD .skip
noncomputable def Tryd.b8 : Code := Tryd.f8.body.getD .skip
noncomputable def Tryd.b9 : Code := Tryd.f9.body.getD .skip
noncomputable def Tryd.b10 : Code := Tryd.f10.body.getD .skip
noncomputable def Tryd.b11 : Code := Tryd.f11.body.getD .skip
noncomputable def Tryd.b12 : Code := Tryd.f12.body.getD .skip
noncomputable def Tryd.b13 : Code := Tryd.f13.body.getD .skip
noncomputable def Tryd.b14 : Code := Tryd.f14.body.getD .skip
noncomputable def Tryd.b15 : Code := Tryd.f15.body.getD .skip
noncomputable def Tryd.b16 : Code := Tryd.f16.body.getD .skip
noncomputable def Tryd.b17 : Code := Tryd.f17.body.getD .skip
noncomputable def Tryd.b18 : Code := Tryd.f18.body.getD .skip
noncomputable def Tryd.b19 : Code := Tryd.f19.body.getD .skip
noncomputable def Tryd.b20 : Code := Tryd.f20.body.getD .skip
noncomputable def Tryd.b21 : Code := Tryd.f21.body.getD .skip
noncomputable def Tryd.b22 : Code := Tryd.f22.body.getD .skip
noncomputable def Tryd.b23 : Code := Tryd.f23.body.getD .skip
noncomputable def Tryd.b24 : Code := Tryd.f24.body.getD .skip
noncomputable def Tryd.b25 : Code := Tryd.f25.body.getD .skip
noncomputable def Tryd.b27 : Code := Tryd.f27.body.getD .skip
noncomputable def Tryd.b28 : Code := Tryd.f28.body.getD .skip
noncomputable def Tryd.b29 : Code := Tryd.f29.body.getD .skip
noncomputable def Tryd.b30 : Code := Tryd.f30.body.getD .skip
noncomputable def Tryd.b32 : Code := Tryd.f32.body.getD .skip
noncomputable def Tryd.b33 : Code := Tryd.f33.body.getD .skip
noncomputable def Tryd.b34 : Code := Tryd.f34.body.getD .skip
noncomputable def Tryd.b35 : Code := Tryd.f35.body.getD .skip
noncomputable def Tryd.b36 : Code := Tryd.f36.body.getD .skip
noncomputable def Tryd.b37 : Code := Tryd.f37.body.getD .skip
noncomputable def Tryd.b38 : Code := Tryd.f38.body.getD .skip
noncomputable def Tryd.b39 : Code := Tryd.f39.body.getD .skip
noncomputable def Tryd.b40 : Code := Tryd.f40.body.getD .skip
noncomputable def Tryd.b41 : Code := Tryd.f41.body.getD .skip
noncomputable def Tryd.b47 : Code := Tryd.f47.body.getD .skip
noncomputable def Tryd.b48 : Code := Tryd.f48.body.getD .skip
noncomputable def Tryd.b49 : Code := Tryd.f49.body.getD .skip
noncomputable def Tryd.b50 : Code := Tryd.f50.body.getD .skip
noncomputable def Tryd.b52 : Code := Tryd.f52.body.getD .skip
noncomputable def Tryd.b53 : Code := Tryd.f53.body.getD .skip
noncomputable def Tryd.b58 : Code := Tryd.f58.body.getD .skip
noncomputable def Tryd.b59 : Code := Tryd.f59.body.getD .skip
noncomputable def Tryd.b68 : Code := Tryd.f68.body.getD .skip
end Go.Proofs
