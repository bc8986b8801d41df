import Derived.Test.YtldcalmoboeeiaaDoorAmFn
import Derived.Test.YtldcalmoboeeiaaDoorProg
import Derived.KernelRfl
set_option linter.unusedVariables false
namespace Go.Proofs
open Go Go.AM
def Tryd.tk1 : TK := ⟨false, 1, 8, [.d (.v (.nilFunc))], .func, false, false, false, []⟩
theorem Tryd.tok1 : TOk Tryd.prog 1 Tryd.tk1 := tok_mk (sz := 1) (bytes := 8) (z := .nilFunc) (fun h => by cases h) (by kernel_rfl) Tryd.underlying1 ⟨_, _, _, Tryd.underlying1⟩ rfl (by kernel_rfl) rfl
def Tryd.tk2 : TK := ⟨false, 1, 8, [.d (.v (.int .i64 0))], .int .i64, false, false, false, []⟩
theorem Tryd.tok2 : TOk Tryd.prog 2 Tryd.tk2 := tok_mk (sz := 1) (bytes := 8) (z := .int .i64 0) (fun h => by cases h) (by kernel_rfl) Tryd.underlying2 Tryd.underlying2 rfl (by kernel_rfl) rfl
def Tryd.tk3 : TK := ⟨false, 1, 8, [.d (.v (.int .i64 0))], .int .i64, false, false, false, []⟩
theorem Tryd.tok3 : TOk Tryd.prog 3 Tryd.tk3 := tok_mk (sz := 1) (bytes := 8) (z := .int .i64 0) (fun h => by cases h) (by kernel_rfl) Tryd.underlying3 Tryd.underlying3 rfl (by kernel_rfl) rfl
def Tryd.tk4 : TK := ⟨false, 1, 1, [.d (.v (.bool false))], .bool, false, false, false, []⟩
theorem Tryd.tok4 : TOk Tryd.prog 4 Tryd.tk4 := tok_mk (sz := 1) (bytes := 1) (z := .bool false) (fun h => by cases h) (by kernel_rfl) Tryd.underlying4 Tryd.underlying4 rfl (by kernel_rfl) rfl
def Tryd.tk5 : TK := ⟨false, 1, 1, [.d (.v (.int .u8 0))], .int .u8, false, false, false, []⟩
theorem Tryd.tok5 : TOk Tryd.prog 5 Tryd.tk5 := tok_mk (sz := 1) (bytes := 1) (z := .int .u8 0) (fun h => by cases h) (by kernel_rfl) Tryd.underlying5 Tryd.underlying5 rfl (by kernel_rfl) rfl
def Tryd.tk6 : TK := ⟨false, 1, 1, [.d (.v (.int .u8 0))], .int .u8, false, false, false, []⟩
theorem Tryd.tok6 : TOk Tryd.prog 6 Tryd.tk6 := tok_mk (sz := 1) (bytes := 1) (z := .int .u8 0) (fun h => by cases h) (by kernel_rfl) Tryd.underlying6 Tryd.underlying6 rfl (by kernel_rfl) rfl
def Tryd.tk7 : TK := ⟨true, 4, 24, [.d (.v (.int .i64 0)), .d (.v (.int .i64 0)), .d (.v (.bool false)), .d (.v (.int .u8 0))], .struct [(0, 2), (1, 3), (2, 4), (3, 6)], false, false, false, []⟩
theorem Tryd.tok7 : TOk Tryd.prog 7 Tryd.tk7 := tok_mk (sz := 4) (bytes := 24) (z := .agg #[.int .i64 0, .int .i64 0, .bool false, .int .u8 0]) (fun h => by cases h) (by kernel_rfl) Tryd.underlying7 ⟨_, Tryd.underlying7, by kernel_rfl⟩ rfl (by kernel_rfl) rfl
def Tryd.tk8 : TK := ⟨true, 4, 24, [.d (.v (.int .i64 0)), .d (.v (.int .i64 0)), .d (.v (.bool false)), .d (.v (.int .u8 0))], .struct [(0, 2), (1, 3), (2, 4), (3, 6)], false, false, false, []⟩
theorem Tryd.tok8 : TOk Tryd.prog 8 Tryd.tk8 := tok_mk (sz := 4) (bytes := 24) (z := .agg #[.int .i64 0, .int .i64 0, .bool false, .int .u8 0]) (fun h => by cases h) (by kernel_rfl) Tryd.underlying8 ⟨_, Tryd.underlying8, by kernel_rfl⟩ rfl (by kernel_rfl) rfl
def Tryd.tk9 : TK := ⟨false, 1, 16, [.d (.v (.string ⟨#[]⟩))], .str, false, false, false, []⟩
theorem Tryd.tok9 : TOk Tryd.prog 9 Tryd.tk9 := tok_mk (sz := 1) (bytes := 16) (z := .string ⟨#[]⟩) (fun h => by cases h) (by kernel_rfl) Tryd.underlying9 Tryd.underlying9 rfl (by kernel_rfl) rfl
def Tryd.tk10 : TK := ⟨false, 1, 16, [.d (.v (.string ⟨#[]⟩))], .str, false, false, false, []⟩
theorem Tryd.tok10 : TOk Tryd.prog 10 Tryd.tk10 := tok_mk (sz := 1) (bytes := 16) (z := .string ⟨#[]⟩) (fun h => by cases h) (by kernel_rfl) Tryd.underlying10 Tryd.underlying10 rfl (by kernel_rfl) rfl
def Tryd.tk11 : TK := ⟨false, 1, 16, [.d (.v (.string ⟨#[]⟩))], .str, false, false, false, []⟩
theorem Tryd.tok11 : TOk Tryd.prog 11 Tryd.tk11 := tok_mk (sz := 1) (bytes := 16) (z := .string ⟨#[]⟩) (fun h => by cases h) (by kernel_rfl) Tryd.underlying11 Tryd.underlying11 rfl (by kernel_rfl) rfl
def Tryd.tk12 : TK := ⟨false, 1, 8, [.d (.v (.int .u64 0))], .int .u64, false, false, false, []⟩
theorem Tryd.tok12 : TOk Tryd.prog 12 Tryd.tk12 := tok_mk (sz := 1) (bytes := 8) (z := .int .u64 0) (fun h => by cases h) (by kernel_rfl) Tryd.underlying12 Tryd.underlying12 rfl (by kernel_rfl) rfl
def Tryd.tk13 : TK := ⟨true, 2, 24, [.d (.v (.string ⟨#[]⟩)), .d (.v (.int .u64 0))], .struct [(0, 9), (1, 12)], false, false, false, []⟩
theorem Tryd.tok13 : TOk Tryd.prog 13 Tryd.tk13 := tok_mk (sz := 2) (bytes := 24) (z := .agg #[.string ⟨#[]⟩, .int .u64 0]) (fun h => by cases h) (by kernel_rfl) Tryd.underlying13 ⟨_, Tryd.underlying13, by kernel_rfl⟩ rfl (by kernel_rfl) rfl
def Tryd.tk14 : TK := ⟨true, 2, 24, [.d (.v (.string ⟨#[]⟩)), .d (.v (.int .u64 0))], .struct [(0, 9), (1, 12)], false, false, false, []⟩
theorem Tryd.tok14 : TOk Tryd.prog 14 Tryd.tk14 := tok_mk (sz := 2) (bytes := 24) (z := .agg #[.string ⟨#[]⟩, .int .u64 0]) (fun h => by cases h) (by kernel_rfl) Tryd.underlying14 ⟨_, Tryd.underlying14, by kernel_rfl⟩ rfl (by kernel_rfl) rfl
def Tryd.tk15 : TK := ⟨false, 1, 8, [.d (.v (.pointer none))], .ptr 216, false, false, false, []⟩
theorem Tryd.tok15 : TOk Tryd.prog 15 Tryd.tk15 := tok_mk (sz := 1) (bytes := 8) (z := .pointer none) (fun h => by cases h) (by kernel_rfl) Tryd.underlying15 Tryd.underlying15 rfl (by kernel_rfl) rfl
def Tryd.tk16 : TK := ⟨false, 1, 8, [.d (.v (.pointer none))], .ptr 219, false, false, false, []⟩
theorem Tryd.tok16 : TOk Tryd.prog 16 Tryd.tk16 := tok_mk (sz := 1) (bytes := 8) (z := .pointer none) (fun h => by cases h) (by kernel_rfl) Tryd.underlying16 Tryd.underlying16 rfl (by kernel_rfl) rfl
def Tryd.tk17 : TK := ⟨false, 1, 8, [.d (.v (.pointer none))], .ptr 227, false, false, false, []⟩
theorem Tryd.tok17 : TOk Tryd.prog 17 Tryd.tk17 := tok_mk (sz := 1) (bytes := 8) (z := .pointer none) (fun h => by cases h) (by kernel_rfl) Tryd.underlying17 Tryd.underlying17 rfl (by kernel_rfl) rfl
def Tryd.tk18 : TK := ⟨true, 1, 8, [.d (.v (.pointer none))], .struct [(0, 17)], false, false, false, []⟩
theorem Tryd.tok18 : TOk Tryd.prog 18 Tryd.tk18 := tok_mk (sz := 1) (bytes := 8) (z := .agg #[.pointer none]) (fun h => by cases h) (by kernel_rfl) Tryd.underlying18 ⟨_, Tryd.underlying18, by kernel_rfl⟩ rfl (by kernel_rfl) rfl
def Tryd.tk19 : TK := ⟨true, 1, 8, [.d (.v (.pointer none))], .struct [(0, 17)], false, false, false, []⟩
theorem Tryd.tok19 : TOk Tryd.prog 19 Tryd.tk19 := tok_mk (sz := 1) (bytes := 8) (z := .agg #[.pointer none]) (fun h => by cases h) (by kernel_rfl) Tryd.underlying19 ⟨_, Tryd.underlying19, by kernel_rfl⟩ rfl (by kernel_rfl) rfl
def Tryd.tk21 : TK := ⟨false, 1, 4, [.d (.v (.int .i32 0))], .int .i32, false, false, false, []⟩
theorem Tryd.tok21 : TOk Tryd.prog 21 Tryd.tk21 := tok_mk (sz := 1) (bytes := 4) (z := .int .i32 0) (fun h => by cases h) (by kernel_rfl) Tryd.underlying21 Tryd.underlying21 rfl (by kernel_rfl) rfl
def Tryd.tk22 : TK := ⟨false, 1, 24, [.nl], .slice 41, false, false, false, []⟩
theorem Tryd.tok22 : TOk Tryd.prog 22 Tryd.tk22 := tok_mk (sz := 1) (bytes := 24) (z := .slice none 0 0) (fun h => by cases h) (by kernel_rfl) Tryd.underlying22 Tryd.underlying22 rfl (by kernel_rfl) rfl
def Tryd.tk23 : TK := ⟨false, 1, 8, [.d (.v (.nilFunc))], .func, false, false, false, []⟩
theorem Tryd.tok23 : TOk Tryd.prog 23 Tryd.tk23 := tok_mk (sz := 1) (bytes := 8) (z := .nilFunc) (fun h => by cases h) (by kernel_rfl) Tryd.underlying23 ⟨_, _, _, Tryd.underlying23⟩ rfl (by kernel_rfl) rfl
def Tryd.tk24 : TK := ⟨false, 1, 8, [.d (.v (.pointer none))], .ptr 95, false, false, false, []⟩
theorem Tryd.tok24 : TOk Tryd.prog 24 Tryd.tk24 := tok_mk (sz := 1) (bytes := 8) (z := .pointer none) (fun h => by cases h) (by kernel_rfl) Tryd.underlying24 Tryd.underlying24 rfl (by kernel_rfl) rfl
def Tryd.tk25 : TK := ⟨false, 1, 24, [.nl], .slice 9, false, false, false, []⟩
theorem Tryd.tok25 : TOk Tryd.prog 25 Tryd.tk25 := tok_mk (sz := 1) (bytes := 24) (z := .slice none 0 0) (fun h => by cases h) (by kernel_rfl) Tryd.underlying25 Tryd.underlying25 rfl (by kernel_rfl) rfl
def Tryd.tk27 : TK := ⟨false, 1, 8, [.d (.v (.nilFunc))], .func, false, false, false, []⟩
theorem Tryd.tok27 : TOk Tryd.prog 27 Tryd.tk27 := tok_mk (sz := 1) (bytes := 8) (z := .nilFunc) (fun h => by cases h) (by kernel_rfl) Tryd.underlying27 ⟨_, _, _, Tryd.underlying27⟩ rfl (by kernel_rfl) rfl
def Tryd.tk28 : TK := ⟨false, 1, 8, [.d (.v (.nilFunc))], .func, false, false, false, []⟩
theorem Tryd.tok28 : TOk Tryd.prog 28 Tryd.tk28 := tok_mk (sz := 1) (bytes := 8) (z := .nilFunc) (fun h => by cases h) (by kernel_rfl) Tryd.underlying28 ⟨_, _, _, Tryd.underlying28⟩ rfl (by kernel_rfl) rfl
def Tryd.tk29 : TK := ⟨false, 1, 24, [.nl], .slice 55, false, false, false, []⟩
theorem Tryd.tok29 : TOk Tryd.prog 29 Tryd.tk29 := tok_mk (sz := 1) (bytes := 24) (z := .slice none 0 0) (fun h => by cases h) (by kernel_rfl) Tryd.underlying29 Tryd.underlying29 rfl (by kernel_rfl) rfl
def Tryd.tk30 : TK := ⟨true, 5, 120, [.nl, .nl, .nl, .nl, .nl], .array 5 29, false, false, false, []⟩
theorem Tryd.tok30 : TOk Tryd.prog 30 Tryd.tk30 := tok_mk (sz := 5) (bytes := 120) (z := .agg #[.slice none 0 0, .slice none 0 0, .slice none 0 0, .slice none 0 0, .slice none 0 0]) (fun h => by cases h) (by kernel_rfl) Tryd.underlying30 Tryd.underlying30 rfl (by kernel_rfl) rfl
def Tryd.tk31 : TK := ⟨true, 5, 40, [.d (.v (.int .i64 0)), .d (.v (.int .i64 0)), .d (.v (.int .i64 0)), .d (.v (.int .i64 0)), .d (.v (.int .i64 0))], .array 5 3, false, false, false, []⟩
theorem Tryd.tok31 : TOk Tryd.prog 31 Tryd.tk31 := tok_mk (sz := 5) (bytes := 40) (z := .agg #[.int .i64 0, .int .i64 0, .int .i64 0, .int .i64 0, .int .i64 0]) (fun h => by cases h) (by kernel_rfl) Tryd.underlying31 Tryd.underlying31 rfl (by kernel_rfl) rfl
def Tryd.tk32 : TK := ⟨false, 1, 8, [.d (.v (.int .i64 0))], .int .i64, false, false, false, []⟩
theorem Tryd.tok32 : TOk Tryd.prog 32 Tryd.tk32 := tok_mk (sz := 1) (bytes := 8) (z := .int .i64 0) (fun h => by cases h) (by kernel_rfl) Tryd.underlying32 Tryd.underlying32 rfl (by kernel_rfl) rfl
def Tryd.tk34 : TK := ⟨false, 1, 8, [.d (.v (.nilFunc))], .func, false, false, false, []⟩
theorem Tryd.tok34 : TOk Tryd.prog 34 Tryd.tk34 := tok_mk (sz := 1) (bytes := 8) (z := .nilFunc) (fun h => by cases h) (by kernel_rfl) Tryd.underlying34 ⟨_, _, _, Tryd.underlying34⟩ rfl (by kernel_rfl) rfl
def Tryd.tk35 : TK := ⟨false, 1, 24, [.nl], .slice 45, false, false, false, []⟩
theorem Tryd.tok35 : TOk Tryd.prog 35 Tryd.tk35 := tok_mk (sz := 1) (bytes := 24) (z := .slice none 0 0) (fun h => by cases h) (by kernel_rfl) Tryd.underlying35 Tryd.underlying35 rfl (by kernel_rfl) rfl
def Tryd.tk36 : TK := ⟨true, 2, 48, [.nl, .nl], .struct [(0, 25), (1, 35)], false, false, false, []⟩
theorem Tryd.tok36 : TOk Tryd.prog 36 Tryd.tk36 := tok_mk (sz := 2) (bytes := 48) (z := .agg #[.slice none 0 0, .slice none 0 0]) (fun h => by cases h) (by kernel_rfl) Tryd.underlying36 ⟨_, Tryd.underlying36, by kernel_rfl⟩ rfl (by kernel_rfl) rfl
def Tryd.tk37 : TK := ⟨true, 2, 48, [.nl, .nl], .struct [(0, 25), (1, 35)], false, false, false, []⟩
theorem Tryd.tok37 : TOk Tryd.prog 37 Tryd.tk37 := tok_mk (sz := 2) (bytes := 48) (z := .agg #[.slice none 0 0, .slice none 0 0]) (fun h => by cases h) (by kernel_rfl) Tryd.underlying37 ⟨_, Tryd.underlying37, by kernel_rfl⟩ rfl (by kernel_rfl) rfl
def Tryd.tk39 : TK := ⟨false, 1, 8, [.d (.v (.nilFunc))], .func, false, false, false, []⟩
theorem Tryd.tok39 : TOk Tryd.prog 39 Tryd.tk39 := tok_mk (sz := 1) (bytes := 8) (z := .nilFunc) (fun h => by cases h) (by kernel_rfl) Tryd.underlying39 ⟨_, _, _, Tryd.underlying39⟩ rfl (by kernel_rfl) rfl
def Tryd.tk40 : TK := ⟨true, 5, 48, [.d (.v (.int .i64 0)), .d (.v (.int .i64 0)), .d (.v (.int .i64 0)), .d (.v (.int .i64 0)), .d (.v (.string ⟨#[]⟩))], .struct [(0, 3), (1, 3), (2, 3), (3, 3), (4, 9)], false, false, false, []⟩
theorem Tryd.tok40 : TOk Tryd.prog 40 Tryd.tk40 := tok_mk (sz := 5) (bytes := 48) (z := .agg #[.int .i64 0, .int .i64 0, .int .i64 0, .int .i64 0, .string ⟨#[]⟩]) (fun h => by cases h) (by kernel_rfl) Tryd.underlying40 ⟨_, Tryd.underlying40, by kernel_rfl⟩ rfl (by kernel_rfl) rfl
def Tryd.tk41 : TK := ⟨true, 5, 48, [.d (.v (.int .i64 0)), .d (.v (.int .i64 0)), .d (.v (.int .i64 0)), .d (.v (.int .i64 0)), .d (.v (.string ⟨#[]⟩))], .struct [(0, 3), (1, 3), (2, 3), (3, 3), (4, 9)], true, false, false, []⟩
theorem Tryd.tok41 : TOk Tryd.prog 41 Tryd.tk41 := tok_mk (sz := 5) (bytes := 48) (z := .agg #[.int .i64 0, .int .i64 0, .int .i64 0, .int .i64 0, .string ⟨#[]⟩]) (fun _ => by kernel_rfl) (by kernel_rfl) Tryd.underlying41 ⟨_, Tryd.underlying41, by kernel_rfl⟩ rfl (by kernel_rfl) rfl
def Tryd.tk42 : TK := ⟨false, 1, 8, [.d (.v (.nilFunc))], .func, false, false, false, []⟩
theorem Tryd.tok42 : TOk Tryd.prog 42 Tryd.tk42 := tok_mk (sz := 1) (bytes := 8) (z := .nilFunc) (fun h => by cases h) (by kernel_rfl) Tryd.underlying42 ⟨_, _, _, Tryd.underlying42⟩ rfl (by kernel_rfl) rfl
def Tryd.tk43 : TK := ⟨false, 1, 8, [.d (.v (.nilFunc))], .func, false, false, false, []⟩
theorem Tryd.tok43 : TOk Tryd.prog 43 Tryd.tk43 := tok_mk (sz := 1) (bytes := 8) (z := .nilFunc) (fun h => by cases h) (by kernel_rfl) Tryd.underlying43 ⟨_, _, _, Tryd.underlying43⟩ rfl (by kernel_rfl) rfl
def Tryd.tk44 : TK := ⟨true, 3, 40, [.d (.v (.string ⟨#[]⟩)), .d (.v (.string ⟨#[]⟩)), .d (.v (.int .i64 0))], .struct [(0, 9), (1, 9), (2, 3)], false, false, false, []⟩
theorem Tryd.tok44 : TOk Tryd.prog 44 Tryd.tk44 := tok_mk (sz := 3) (bytes := 40) (z := .agg #[.string ⟨#[]⟩, .string ⟨#[]⟩, .int .i64 0]) (fun h => by cases h) (by kernel_rfl) Tryd.underlying44 ⟨_, Tryd.underlying44, by kernel_rfl⟩ rfl (by kernel_rfl) rfl
def Tryd.tk45 : TK := ⟨true, 3, 40, [.d (.v (.string ⟨#[]⟩)), .d (.v (.string ⟨#[]⟩)), .d (.v (.int .i64 0))], .struct [(0, 9), (1, 9), (2, 3)], true, false, false, []⟩
theorem Tryd.tok45 : TOk Tryd.prog 45 Tryd.tk45 := tok_mk (sz := 3) (bytes := 40) (z := .agg #[.string ⟨#[]⟩, .string ⟨#[]⟩, .int .i64 0]) (fun _ => by kernel_rfl) (by kernel_rfl) Tryd.underlying45 ⟨_, Tryd.underlying45, by kernel_rfl⟩ rfl (by kernel_rfl) rfl
def Tryd.tk46 : TK := ⟨false, 1, 8, [.d (.v (.nilFunc))], .func, false, false, false, []⟩
theorem Tryd.tok46 : TOk Tryd.prog 46 Tryd.tk46 := tok_mk (sz := 1) (bytes := 8) (z := .nilFunc) (fun h => by cases h) (by kernel_rfl) Tryd.underlying46 ⟨_, _, _, Tryd.underlying46⟩ rfl (by kernel_rfl) rfl
def Tryd.tk47 : TK := ⟨false, 1, 8, [.d (.v (.nilFunc))], .func, false, false, false, []⟩
theorem Tryd.tok47 : TOk Tryd.prog 47 Tryd.tk47 := tok_mk (sz := 1) (bytes := 8) (z := .nilFunc) (fun h => by cases h) (by kernel_rfl) Tryd.underlying47 ⟨_, _, _, Tryd.underlying47⟩ rfl (by kernel_rfl) rfl
def Tryd.tk48 : TK := ⟨false, 1, 24, [.nl], .slice 4, false, false, false, []⟩
theorem Tryd.tok48 : TOk Tryd.prog 48 Tryd.tk48 := tok_mk (sz := 1) (bytes := 24) (z := .slice none 0 0) (fun h => by cases h) (by kernel_rfl) Tryd.underlying48 Tryd.underlying48 rfl (by kernel_rfl) rfl
def Tryd.tk49 : TK := ⟨false, 1, 8, [.d (.v (.nilFunc))], .func, false, false, false, []⟩
theorem Tryd.tok49 : TOk Tryd.prog 49 Tryd.tk49 := tok_mk (sz := 1) (bytes := 8) (z := .nilFunc) (fun h => by cases h) (by kernel_rfl) Tryd.underlying49 ⟨_, _, _, Tryd.underlying49⟩ rfl (by kernel_rfl) rfl
def Tryd.tk50 : TK := ⟨false, 1, 8, [.d (.v (.nilFunc))], .func, false, false, false, []⟩
theorem Tryd.tok50 : TOk Tryd.prog 50 Tryd.tk50 := tok_mk (sz := 1) (bytes := 8) (z := .nilFunc) (fun h => by cases h) (by kernel_rfl) Tryd.underlying50 ⟨_, _, _, Tryd.underlying50⟩ rfl (by kernel_rfl) rfl
def Tryd.tk51 : TK := ⟨false, 1, 8, [.d (.v (.nilFunc))], .func, false, false, false, []⟩
theorem Tryd.tok51 : TOk Tryd.prog 51 Tryd.tk51 := tok_mk (sz := 1) (bytes := 8) (z := .nilFunc) (fun h => by cases h) (by kernel_rfl) Tryd.underlying51 ⟨_, _, _, Tryd.underlying51⟩ rfl (by kernel_rfl) rfl
def Tryd.tk52 : TK := ⟨false, 1, 8, [.d (.v (.int .u64 0))], .int .u64, false, false, false, []⟩
theorem Tryd.tok52 : TOk Tryd.prog 52 Tryd.tk52 := tok_mk (sz := 1) (bytes := 8) (z := .int .u64 0) (fun h => by cases h) (by kernel_rfl) Tryd.underlying52 Tryd.underlying52 rfl (by kernel_rfl) rfl
def Tryd.tk53 : TK := ⟨false, 1, 8, [.d (.v (.nilFunc))], .func, false, false, false, []⟩
theorem Tryd.tok53 : TOk Tryd.prog 53 Tryd.tk53 := tok_mk (sz := 1) (bytes := 8) (z := .nilFunc) (fun h => by cases h) (by kernel_rfl) Tryd.underlying53 ⟨_, _, _, Tryd.underlying53⟩ rfl (by kernel_rfl) rfl
def Tryd.tk54 : TK := ⟨true, 4, 48, [.d (.v (.string ⟨#[]⟩)), .d (.v (.string ⟨#[]⟩)), .d (.v (.int .i64 0)), .d (.v (.bool false))], .struct [(0, 9), (1, 9), (2, 3), (3, 4)], false, false, false, []⟩
theorem Tryd.tok54 : TOk Tryd.prog 54 Tryd.tk54 := tok_mk (sz := 4) (bytes := 48) (z := .agg #[.string ⟨#[]⟩, .string ⟨#[]⟩, .int .i64 0, .bool false]) (fun h => by cases h) (by kernel_rfl) Tryd.underlying54 ⟨_, Tryd.underlying54, by kernel_rfl⟩ rfl (by kernel_rfl) rfl
def Tryd.tk55 : TK := ⟨true, 4, 48, [.d (.v (.string ⟨#[]⟩)), .d (.v (.string ⟨#[]⟩)), .d (.v (.int .i64 0)), .d (.v (.bool false))], .struct [(0, 9), (1, 9), (2, 3), (3, 4)], true, false, false, []⟩
theorem Tryd.tok55 : TOk Tryd.prog 55 Tryd.tk55 := tok_mk (sz := 4) (bytes := 48) (z := .agg #[.string ⟨#[]⟩, .string ⟨#[]⟩, .int .i64 0, .bool false]) (fun _ => by kernel_rfl) (by kernel_rfl) Tryd.underlying55 ⟨_, Tryd.underlying55, by kernel_rfl⟩ rfl (by kernel_rfl) rfl
def Tryd.tk56 : TK := ⟨true, 3, 16, [.d (.v (.int .i64 0)), .d (.v (.bool false)), .d (.v (.bool false))], .struct [(0, 3), (1, 4), (2, 4)], false, false, false, []⟩
theorem Tryd.tok56 : TOk Tryd.prog 56 Tryd.tk56 := tok_mk (sz := 3) (bytes := 16) (z := .agg #[.int .i64 0, .bool false, .bool false]) (fun h => by cases h) (by kernel_rfl) Tryd.underlying56 ⟨_, Tryd.underlying56, by kernel_rfl⟩ rfl (by kernel_rfl) rfl
def Tryd.tk57 : TK := ⟨true, 3, 16, [.d (.v (.int .i64 0)), .d (.v (.bool false)), .d (.v (.bool false))], .struct [(0, 3), (1, 4), (2, 4)], true, false, false, []⟩
theorem Tryd.tok57 : TOk Tryd.prog 57 Tryd.tk57 := tok_mk (sz := 3) (bytes := 16) (z := .agg #[.int .i64 0, .bool false, .bool false]) (fun _ => by kernel_rfl) (by kernel_rfl) Tryd.underlying57 ⟨_, Tryd.underlying57, by kernel_rfl⟩ rfl (by kernel_rfl) rfl
def Tryd.tk58 : TK := ⟨false, 1, 8, [.d (.v (.nilFunc))], .func, false, false, false, []⟩
theorem Tryd.tok58 : TOk Tryd.prog 58 Tryd.tk58 := tok_mk (sz := 1) (bytes := 8) (z := .nilFunc) (fun h => by cases h) (by kernel_rfl) Tryd.underlying58 ⟨_, _, _, Tryd.underlying58⟩ rfl (by kernel_rfl) rfl
def Tryd.tk59 : TK := ⟨false, 1, 8, [.d (.v (.nilFunc))], .func, false, false, false, []⟩
theorem Tryd.tok59 : TOk Tryd.prog 59 Tryd.tk59 := tok_mk (sz := 1) (bytes := 8) (z := .nilFunc) (fun h => by cases h) (by kernel_rfl) Tryd.underlying59 ⟨_, _, _, Tryd.underlying59⟩ rfl (by kernel_rfl) rfl
def Tryd.tk60 : TK := ⟨true, 2, 16, [.d (.v (.int .i64 0)), .d (.v (.int .i64 0))], .array 2 3, false, false, false, []⟩
theorem Tryd.tok60 : TOk Tryd.prog 60 Tryd.tk60 := tok_mk (sz := 2) (bytes := 16) (z := .agg #[.int .i64 0, .int .i64 0]) (fun h => by cases h) (by kernel_rfl) Tryd.underlying60 Tryd.underlying60 rfl (by kernel_rfl) rfl
def Tryd.tk61 : TK := ⟨false, 1, 8, [.d (.v (.nilFunc))], .func, false, false, false, []⟩
theorem Tryd.tok61 : TOk Tryd.prog 61 Tryd.tk61 := tok_mk (sz := 1) (bytes := 8) (z := .nilFunc) (fun h => by cases h) (by kernel_rfl) Tryd.underlying61 ⟨_, _, _, Tryd.underlying61⟩ rfl (by kernel_rfl) rfl
def Tryd.tk62 : TK := ⟨false, 1, 8, [.d (.v (.nilFunc))], .func, false, false, false, []⟩
theorem Tryd.tok62 : TOk Tryd.prog 62 Tryd.tk62 := tok_mk (sz := 1) (bytes := 8) (z := .nilFunc) (fun h => by cases h) (by kernel_rfl) Tryd.underlying62 ⟨_, _, _, Tryd.underlying62⟩ rfl (by kernel_rfl) rfl
def Tryd.tk63 : TK := ⟨false, 1, 8, [.d (.v (.nilFunc))], .func, false, false, false, []⟩
theorem Tryd.tok63 : TOk Tryd.prog 63 Tryd.tk63 := tok_mk (sz := 1) (bytes := 8) (z := .nilFunc) (fun h => by cases h) (by kernel_rfl) Tryd.underlying63 ⟨_, _, _, Tryd.underlying63⟩ rfl (by kernel_rfl) rfl
def Tryd.tk64 : TK := ⟨false, 1, 8, [.d (.v (.nilFunc))], .func, false, false, false, []⟩
theorem Tryd.tok64 : TOk Tryd.prog 64 Tryd.tk64 := tok_mk (sz := 1) (bytes := 8) (z := .nilFunc) (fun h => by cases h) (by kernel_rfl) Tryd.underlying64 ⟨_, _, _, Tryd.underlying64⟩ rfl (by kernel_rfl) rfl
def Tryd.tk65 : TK := ⟨false, 1, 8, [.d (.v (.nilFunc))], .func, false, false, false, []⟩
theorem Tryd.tok65 : TOk Tryd.prog 65 Tryd.tk65 := tok_mk (sz := 1) (bytes := 8) (z := .nilFunc) (fun h => by cases h) (by kernel_rfl) Tryd.underlying65 ⟨_, _, _, Tryd.underlying65⟩ rfl (by kernel_rfl) rfl
def Tryd.tk66 : TK := ⟨false, 1, 8, [.d (.v (.nilFunc))], .func, false, false, false, []⟩
theorem Tryd.tok66 : TOk Tryd.prog 66 Tryd.tk66 := tok_mk (sz := 1) (bytes := 8) (z := .nilFunc) (fun h => by cases h) (by kernel_rfl) Tryd.underlying66 ⟨_, _, _, Tryd.underlying66⟩ rfl (by kernel_rfl) rfl
def Tryd.tk67 : TK := ⟨false, 1, 4, [.d (.v (.int .u32 0))], .int .u32, false, false, false, []⟩
theorem Tryd.tok67 : TOk Tryd.prog 67 Tryd.tk67 := tok_mk (sz := 1) (bytes := 4) (z := .int .u32 0) (fun h => by cases h) (by kernel_rfl) Tryd.underlying67 Tryd.underlying67 rfl (by kernel_rfl) rfl
def Tryd.tk68 : TK := ⟨true, 12, 168, [.d (.v (.int .i64 0)), .d (.v (.string ⟨#[]⟩)), .d (.v (.string ⟨#[]⟩)), .d (.v (.string ⟨#[]⟩)), .d (.v (.string ⟨#[]⟩)), .d (.v (.string ⟨#[]⟩)), .d (.v (.string ⟨#[]⟩)), .d (.v (.string ⟨#[]⟩)), .d (.v (.int .u32 0)), .d (.v (.int .i64 0)), .d (.v (.bool false)), .nl], .struct [(0, 3), (1, 9), (2, 9), (3, 9), (4, 9), (5, 9), (6, 9), (7, 9), (8, 67), (9, 3), (10, 4), (11, 29)], false, false, false, []⟩
theorem Tryd.tok68 : TOk Tryd.prog 68 Tryd.tk68 := tok_mk (sz := 12) (bytes := 168) (z := .agg #[.int .i64 0, .string ⟨#[]⟩, .string ⟨#[]⟩, .string ⟨#[]⟩, .string ⟨#[]⟩, .string ⟨#[]⟩, .string ⟨#[]⟩, .string ⟨#[]⟩, .int .u32 0, .int .i64 0, .bool false, .slice none 0 0]) (fun h => by cases h) (by kernel_rfl) Tryd.underlying68 ⟨_, Tryd.underlying68, by kernel_rfl⟩ rfl (by kernel_rfl) rfl
def Tryd.tk69 : TK := ⟨true, 12, 168, [.d (.v (.int .i64 0)), .d (.v (.string ⟨#[]⟩)), .d (.v (.string ⟨#[]⟩)), .d (.v (.string ⟨#[]⟩)), .d (.v (.string ⟨#[]⟩)), .d (.v (.string ⟨#[]⟩)), .d (.v (.string ⟨#[]⟩)), .d (.v (.string ⟨#[]⟩)), .d (.v (.int .u32 0)), .d (.v (.int .i64 0)), .d (.v (.bool false)), .nl], .struct [(0, 3), (1, 9), (2, 9), (3, 9), (4, 9), (5, 9), (6, 9), (7, 9), (8, 67), (9, 3), (10, 4), (11, 29)], false, false, false, []⟩
theorem Tryd.tok69 : TOk Tryd.prog 69 Tryd.tk69 := tok_mk (sz := 12) (bytes := 168) (z := .agg #[.int .i64 0, .string ⟨#[]⟩, .string ⟨#[]⟩, .string ⟨#[]⟩, .string ⟨#[]⟩, .string ⟨#[]⟩, .string ⟨#[]⟩, .string ⟨#[]⟩, .int .u32 0, .int .i64 0, .bool false, .slice none 0 0]) (fun h => by cases h) (by kernel_rfl) Tryd.underlying69 ⟨_, Tryd.underlying69, by kernel_rfl⟩ rfl (by kernel_rfl) rfl
def Tryd.tk70 : TK := ⟨false, 1, 24, [.nl], .slice 87, false, false, false, []⟩
theorem Tryd.tok70 : TOk Tryd.prog 70 Tryd.tk70 := tok_mk (sz := 1) (bytes := 24) (z := .slice none 0 0) (fun h => by cases h) (by kernel_rfl) Tryd.underlying70 Tryd.underlying70 rfl (by kernel_rfl) rfl
def Tryd.tk71 : TK := ⟨false, 1, 24, [.nl], .slice 73, false, false, false, []⟩
theorem Tryd.tok71 : TOk Tryd.prog 71 Tryd.tk71 := tok_mk (sz := 1) (bytes := 24) (z := .slice none 0 0) (fun h => by cases h) (by kernel_rfl) Tryd.underlying71 Tryd.underlying71 rfl (by kernel_rfl) rfl
def Tryd.tk72 : TK := ⟨true, 4, 80, [.d (.v (.string ⟨#[]⟩)), .nl, .d (.v (.string ⟨#[]⟩)), .nl], .struct [(0, 9), (1, 70), (2, 9), (3, 71)], false, false, false, []⟩
theorem Tryd.tok72 : TOk Tryd.prog 72 Tryd.tk72 := tok_mk (sz := 4) (bytes := 80) (z := .agg #[.string ⟨#[]⟩, .slice none 0 0, .string ⟨#[]⟩, .slice none 0 0]) (fun h => by cases h) (by kernel_rfl) Tryd.underlying72 ⟨_, Tryd.underlying72, by kernel_rfl⟩ rfl (by kernel_rfl) rfl
def Tryd.tk73 : TK := ⟨true, 4, 80, [.d (.v (.string ⟨#[]⟩)), .nl, .d (.v (.string ⟨#[]⟩)), .nl], .struct [(0, 9), (1, 70), (2, 9), (3, 71)], false, false, false, []⟩
theorem Tryd.tok73 : TOk Tryd.prog 73 Tryd.tk73 := tok_mk (sz := 4) (bytes := 80) (z := .agg #[.string ⟨#[]⟩, .slice none 0 0, .string ⟨#[]⟩, .slice none 0 0]) (fun h => by cases h) (by kernel_rfl) Tryd.underlying73 ⟨_, Tryd.underlying73, by kernel_rfl⟩ rfl (by kernel_rfl) rfl
def Tryd.tk75 : TK := ⟨false, 1, 8, [.d (.v (.nilFunc))], .func, false, false, false, []⟩
theorem Tryd.tok75 : TOk Tryd.prog 75 Tryd.tk75 := tok_mk (sz := 1) (bytes := 8) (z := .nilFunc) (fun h => by cases h) (by kernel_rfl) Tryd.underlying75 ⟨_, _, _, Tryd.underlying75⟩ rfl (by kernel_rfl) rfl
def Tryd.tk77 : TK := ⟨false, 1, 8, [.d (.v (.nilFunc))], .func, false, false, false, []⟩
theorem Tryd.tok77 : TOk Tryd.prog 77 Tryd.tk77 := tok_mk (sz := 1) (bytes := 8) (z := .nilFunc) (fun h => by cases h) (by kernel_rfl) Tryd.underlying77 ⟨_, _, _, Tryd.underlying77⟩ rfl (by kernel_rfl) rfl
def Tryd.tk78 : TK := ⟨false, 1, 8, [.d (.v (.nilFunc))], .func, false, false, false, []⟩
theorem Tryd.tok78 : TOk Tryd.prog 78 Tryd.tk78 := tok_mk (sz := 1) (bytes := 8) (z := .nilFunc) (fun h => by cases h) (by kernel_rfl) Tryd.underlying78 ⟨_, _, _, Tryd.underlying78⟩ rfl (by kernel_rfl) rfl
def Tryd.tk79 : TK := ⟨false, 1, 8, [.d (.v (.nilFunc))], .func, false, false, false, []⟩
theorem Tryd.tok79 : TOk Tryd.prog 79 Tryd.tk79 := tok_mk (sz := 1) (bytes := 8) (z := .nilFunc) (fun h => by cases h) (by kernel_rfl) Tryd.underlying79 ⟨_, _, _, Tryd.underlying79⟩ rfl (by kernel_rfl) rfl
def Tryd.tk80 : TK := ⟨false, 1, 8, [.d (.v (.nilFunc))], .func, false, false, false, []⟩
theorem Tryd.tok80 : TOk Tryd.prog 80 Tryd.tk80 := tok_mk (sz := 1) (bytes := 8) (z := .nilFunc) (fun h => by cases h) (by kernel_rfl) Tryd.underlying80 ⟨_, _, _, Tryd.underlying80⟩ rfl (by kernel_rfl) rfl
def Tryd.tk81 : TK := ⟨false, 1, 8, [.d (.v (.nilFunc))], .func, false, false, false, []⟩
theorem Tryd.tok81 : TOk Tryd.prog 81 Tryd.tk81 := tok_mk (sz := 1) (bytes := 8) (z := .nilFunc) (fun h => by cases h) (by kernel_rfl) Tryd.underlying81 ⟨_, _, _, Tryd.underlying81⟩ rfl (by kernel_rfl) rfl
def Tryd.tk83 : TK := ⟨false, 1, 8, [.d (.v (.nilFunc))], .func, false, false, false, []⟩
theorem Tryd.tok83 : TOk Tryd.prog 83 Tryd.tk83 := tok_mk (sz := 1) (bytes := 8) (z := .nilFunc) (fun h => by cases h) (by kernel_rfl) Tryd.underlying83 ⟨_, _, _, Tryd.underlying83⟩ rfl (by kernel_rfl) rfl
def Tryd.tk84 : TK := ⟨false, 1, 8, [.d (.v (.nilFunc))], .func, false, false, false, []⟩
theorem Tryd.tok84 : TOk Tryd.prog 84 Tryd.tk84 := tok_mk (sz := 1) (bytes := 8) (z := .nilFunc) (fun h => by cases h) (by kernel_rfl) Tryd.underlying84 ⟨_, _, _, Tryd.underlying84⟩ rfl (by kernel_rfl) rfl
def Tryd.tk85 : TK := ⟨false, 1, 8, [.d (.v (.nilFunc))], .func, false, false, false, []⟩
theorem Tryd.tok85 : TOk Tryd.prog 85 Tryd.tk85 := tok_mk (sz := 1) (bytes := 8) (z := .nilFunc) (fun h => by cases h) (by kernel_rfl) Tryd.underlying85 ⟨_, _, _, Tryd.underlying85⟩ rfl (by kernel_rfl) rfl
def Tryd.tk86 : TK := ⟨true, 2, 32, [.d (.v (.string ⟨#[]⟩)), .d (.v (.string ⟨#[]⟩))], .struct [(0, 9), (1, 9)], false, false, false, []⟩
theorem Tryd.tok86 : TOk Tryd.prog 86 Tryd.tk86 := tok_mk (sz := 2) (bytes := 32) (z := .agg #[.string ⟨#[]⟩, .string ⟨#[]⟩]) (fun h => by cases h) (by kernel_rfl) Tryd.underlying86 ⟨_, Tryd.underlying86, by kernel_rfl⟩ rfl (by kernel_rfl) rfl
def Tryd.tk87 : TK := ⟨true, 2, 32, [.d (.v (.string ⟨#[]⟩)), .d (.v (.string ⟨#[]⟩))], .struct [(0, 9), (1, 9)], true, false, false, []⟩
theorem Tryd.tok87 : TOk Tryd.prog 87 Tryd.tk87 := tok_mk (sz := 2) (bytes := 32) (z := .agg #[.string ⟨#[]⟩, .string ⟨#[]⟩]) (fun _ => by kernel_rfl) (by kernel_rfl) Tryd.underlying87 ⟨_, Tryd.underlying87, by kernel_rfl⟩ rfl (by kernel_rfl) rfl
def Tryd.tk88 : TK := ⟨false, 1, 8, [.d (.v (.nilFunc))], .func, false, false, false, []⟩
theorem Tryd.tok88 : TOk Tryd.prog 88 Tryd.tk88 := tok_mk (sz := 1) (bytes := 8) (z := .nilFunc) (fun h => by cases h) (by kernel_rfl) Tryd.underlying88 ⟨_, _, _, Tryd.underlying88⟩ rfl (by kernel_rfl) rfl
def Tryd.tk89 : TK := ⟨false, 1, 8, [.d (.v (.nilFunc))], .func, false, false, false, []⟩
theorem Tryd.tok89 : TOk Tryd.prog 89 Tryd.tk89 := tok_mk (sz := 1) (bytes := 8) (z := .nilFunc) (fun h => by cases h) (by kernel_rfl) Tryd.underlying89 ⟨_, _, _, Tryd.underlying89⟩ rfl (by kernel_rfl) rfl
def Tryd.tk90 : TK := ⟨false, 1, 8, [.d (.v (.nilFunc))], .func, false, false, false, []⟩
theorem Tryd.tok90 : TOk Tryd.prog 90 Tryd.tk90 := tok_mk (sz := 1) (bytes := 8) (z := .nilFunc) (fun h => by cases h) (by kernel_rfl) Tryd.underlying90 ⟨_, _, _, Tryd.underlying90⟩ rfl (by kernel_rfl) rfl
def Tryd.tk91 : TK := ⟨false, 1, 8, [.d (.v (.map none))], .map 103 57, false, false, false, []⟩
theorem Tryd.tok91 : TOk Tryd.prog 91 Tryd.tk91 := tok_mk (sz := 1) (bytes := 8) (z := .map none) (fun h => by cases h) (by kernel_rfl) Tryd.underlying91 Tryd.underlying91 rfl (by kernel_rfl) rfl
def Tryd.tk92 : TK := ⟨false, 1, 8, [.d (.v (.map none))], .map 103 9, false, false, false, []⟩
theorem Tryd.tok92 : TOk Tryd.prog 92 Tryd.tk92 := tok_mk (sz := 1) (bytes := 8) (z := .map none) (fun h => by cases h) (by kernel_rfl) Tryd.underlying92 Tryd.underlying92 rfl (by kernel_rfl) rfl
def Tryd.tk93 : TK := ⟨false, 1, 8, [.d (.v (.map none))], .map 9 3, false, false, false, []⟩
theorem Tryd.tok93 : TOk Tryd.prog 93 Tryd.tk93 := tok_mk (sz := 1) (bytes := 8) (z := .map none) (fun h => by cases h) (by kernel_rfl) Tryd.underlying93 Tryd.underlying93 rfl (by kernel_rfl) rfl
def Tryd.tk94 : TK := ⟨true, 4, 48, [.nl, .d (.v (.map none)), .d (.v (.map none)), .d (.v (.map none))], .struct [(0, 25), (1, 91), (2, 92), (3, 93)], false, false, false, []⟩
theorem Tryd.tok94 : TOk Tryd.prog 94 Tryd.tk94 := tok_mk (sz := 4) (bytes := 48) (z := .agg #[.slice none 0 0, .map none, .map none, .map none]) (fun h => by cases h) (by kernel_rfl) Tryd.underlying94 ⟨_, Tryd.underlying94, by kernel_rfl⟩ rfl (by kernel_rfl) rfl
def Tryd.tk95 : TK := ⟨true, 4, 48, [.nl, .d (.v (.map none)), .d (.v (.map none)), .d (.v (.map none))], .struct [(0, 25), (1, 91), (2, 92), (3, 93)], false, false, false, []⟩
theorem Tryd.tok95 : TOk Tryd.prog 95 Tryd.tk95 := tok_mk (sz := 4) (bytes := 48) (z := .agg #[.slice none 0 0, .map none, .map none, .map none]) (fun h => by cases h) (by kernel_rfl) Tryd.underlying95 ⟨_, Tryd.underlying95, by kernel_rfl⟩ rfl (by kernel_rfl) rfl
def Tryd.tk96 : TK := ⟨false, 1, 8, [.d (.v (.nilFunc))], .func, false, false, false, []⟩
theorem Tryd.tok96 : TOk Tryd.prog 96 Tryd.tk96 := tok_mk (sz := 1) (bytes := 8) (z := .nilFunc) (fun h => by cases h) (by kernel_rfl) Tryd.underlying96 ⟨_, _, _, Tryd.underlying96⟩ rfl (by kernel_rfl) rfl
def Tryd.tk97 : TK := ⟨false, 1, 8, [.d (.v (.nilFunc))], .func, false, false, false, []⟩
theorem Tryd.tok97 : TOk Tryd.prog 97 Tryd.tk97 := tok_mk (sz := 1) (bytes := 8) (z := .nilFunc) (fun h => by cases h) (by kernel_rfl) Tryd.underlying97 ⟨_, _, _, Tryd.underlying97⟩ rfl (by kernel_rfl) rfl
def Tryd.tk98 : TK := ⟨false, 1, 8, [.d (.v (.nilFunc))], .func, false, false, false, []⟩
theorem Tryd.tok98 : TOk Tryd.prog 98 Tryd.tk98 := tok_mk (sz := 1) (bytes := 8) (z := .nilFunc) (fun h => by cases h) (by kernel_rfl) Tryd.underlying98 ⟨_, _, _, Tryd.underlying98⟩ rfl (by kernel_rfl) rfl
def Tryd.tk99 : TK := ⟨false, 1, 8, [.d (.v (.nilFunc))], .func, false, false, false, []⟩
theorem Tryd.tok99 : TOk Tryd.prog 99 Tryd.tk99 := tok_mk (sz := 1) (bytes := 8) (z := .nilFunc) (fun h => by cases h) (by kernel_rfl) Tryd.underlying99 ⟨_, _, _, Tryd.underlying99⟩ rfl (by kernel_rfl) rfl
def Tryd.tk101 : TK := ⟨false, 1, 8, [.d (.v (.nilFunc))], .func, false, false, false, []⟩
theorem Tryd.tok101 : TOk Tryd.prog 101 Tryd.tk101 := tok_mk (sz := 1) (bytes := 8) (z := .nilFunc) (fun h => by cases h) (by kernel_rfl) Tryd.underlying101 ⟨_, _, _, Tryd.underlying101⟩ rfl (by kernel_rfl) rfl
def Tryd.tk102 : TK := ⟨true, 2, 32, [.d (.v (.string ⟨#[]⟩)), .d (.v (.string ⟨#[]⟩))], .array 2 9, false, false, false, []⟩
theorem Tryd.tok102 : TOk Tryd.prog 102 Tryd.tk102 := tok_mk (sz := 2) (bytes := 32) (z := .agg #[.string ⟨#[]⟩, .string ⟨#[]⟩]) (fun h => by cases h) (by kernel_rfl) Tryd.underlying102 Tryd.underlying102 rfl (by kernel_rfl) rfl
def Tryd.tk103 : TK := ⟨true, 2, 32, [.d (.v (.string ⟨#[]⟩)), .d (.v (.string ⟨#[]⟩))], .array 2 9, false, false, false, []⟩
theorem Tryd.tok103 : TOk Tryd.prog 103 Tryd.tk103 := tok_mk (sz := 2) (bytes := 32) (z := .agg #[.string ⟨#[]⟩, .string ⟨#[]⟩]) (fun h => by cases h) (by kernel_rfl) Tryd.underlying103 Tryd.underlying103 rfl (by kernel_rfl) rfl
def Tryd.tk104 : TK := ⟨false, 1, 8, [.d (.v (.nilFunc))], .func, false, false, false, []⟩
theorem Tryd.tok104 : TOk Tryd.prog 104 Tryd.tk104 := tok_mk (sz := 1) (bytes := 8) (z := .nilFunc) (fun h => by cases h) (by kernel_rfl) Tryd.underlying104 ⟨_, _, _, Tryd.underlying104⟩ rfl (by kernel_rfl) rfl
def Tryd.tk105 : TK := ⟨false, 1, 8, [.d (.v (.nilFunc))], .func, false, false, false, []⟩
theorem Tryd.tok105 : TOk Tryd.prog 105 Tryd.tk105 := tok_mk (sz := 1) (bytes := 8) (z := .nilFunc) (fun h => by cases h) (by kernel_rfl) Tryd.underlying105 ⟨_, _, _, Tryd.underlying105⟩ rfl (by kernel_rfl) rfl
def Tryd.tk106 : TK := ⟨false, 1, 8, [.d (.v (.nilFunc))], .func, false, false, false, []⟩
theorem Tryd.tok106 : TOk Tryd.prog 106 Tryd.tk106 := tok_mk (sz := 1) (bytes := 8) (z := .nilFunc) (fun h => by cases h) (by kernel_rfl) Tryd.underlying106 ⟨_, _, _, Tryd.underlying106⟩ rfl (by kernel_rfl) rfl
def Tryd.tk107 : TK := ⟨false, 1, 8, [.d (.v (.nilFunc))], .func, false, false, false, []⟩
theorem Tryd.tok107 : TOk Tryd.prog 107 Tryd.tk107 := tok_mk (sz := 1) (bytes := 8) (z := .nilFunc) (fun h => by cases h) (by kernel_rfl) Tryd.underlying107 ⟨_, _, _, Tryd.underlying107⟩ rfl (by kernel_rfl) rfl
def Tryd.tk108 : TK := ⟨false, 1, 8, [.d (.v (.nilFunc))], .func, false, false, false, []⟩
theorem Tryd.tok108 : TOk Tryd.prog 108 Tryd.tk108 := tok_mk (sz := 1) (bytes := 8) (z := .nilFunc) (fun h => by cases h) (by kernel_rfl) Tryd.underlying108 ⟨_, _, _, Tryd.underlying108⟩ rfl (by kernel_rfl) rfl
def Tryd.tk109 : TK := ⟨false, 1, 8, [.d (.v (.nilFunc))], .func, false, false, false, []⟩
theorem Tryd.tok109 : TOk Tryd.prog 109 Tryd.tk109 := tok_mk (sz := 1) (bytes := 8) (z := .nilFunc) (fun h => by cases h) (by kernel_rfl) Tryd.underlying109 ⟨_, _, _, Tryd.underlying109⟩ rfl (by kernel_rfl) rfl
def Tryd.tk110 : TK := ⟨false, 1, 8, [.d (.v (.nilFunc))], .func, false, false, false, []⟩
theorem Tryd.tok110 : TOk Tryd.prog 110 Tryd.tk110 := tok_mk (sz := 1) (bytes := 8) (z := .nilFunc) (fun h => by cases h) (by kernel_rfl) Tryd.underlying110 ⟨_, _, _, Tryd.underlying110⟩ rfl (by kernel_rfl) rfl
def Tryd.tk111 : TK := ⟨false, 1, 8, [.d (.v (.map none))], .map 9 84, false, false, false, []⟩
theorem Tryd.tok111 : TOk Tryd.prog 111 Tryd.tk111 := tok_mk (sz := 1) (bytes := 8) (z := .map none) (fun h => by cases h) (by kernel_rfl) Tryd.underlying111 Tryd.underlying111 rfl (by kernel_rfl) rfl
def Tryd.tk112 : TK := ⟨true, 2, 16, [.d (.v (.map none)), .d (.v (.map none))], .struct [(0, 111), (1, 111)], false, false, false, []⟩
theorem Tryd.tok112 : TOk Tryd.prog 112 Tryd.tk112 := tok_mk (sz := 2) (bytes := 16) (z := .agg #[.map none, .map none]) (fun h => by cases h) (by kernel_rfl) Tryd.underlying112 ⟨_, Tryd.underlying112, by kernel_rfl⟩ rfl (by kernel_rfl) rfl
def Tryd.tk113 : TK := ⟨true, 2, 16, [.d (.v (.map none)), .d (.v (.map none))], .struct [(0, 111), (1, 111)], false, false, false, []⟩
theorem Tryd.tok113 : TOk Tryd.prog 113 Tryd.tk113 := tok_mk (sz := 2) (bytes := 16) (z := .agg #[.map none, .map none]) (fun h => by cases h) (by kernel_rfl) Tryd.underlying113 ⟨_, Tryd.underlying113, by kernel_rfl⟩ rfl (by kernel_rfl) rfl
def Tryd.tk114 : TK := ⟨true, 3, 24, [.d (.v (.int .i64 0)), .d (.v (.map none)), .d (.v (.map none))], .struct [(0, 3), (1, 113)], false, false, false, []⟩
theorem Tryd.tok114 : TOk Tryd.prog 114 Tryd.tk114 := tok_mk (sz := 3) (bytes := 24) (z := .agg #[.int .i64 0, .map none, .map none]) (fun h => by cases h) (by kernel_rfl) Tryd.underlying114 ⟨_, Tryd.underlying114, by kernel_rfl⟩ rfl (by kernel_rfl) rfl
def Tryd.tk115 : TK := ⟨true, 3, 24, [.d (.v (.int .i64 0)), .d (.v (.map none)), .d (.v (.map none))], .struct [(0, 3), (1, 113)], false, false, false, []⟩
theorem Tryd.tok115 : TOk Tryd.prog 115 Tryd.tk115 := tok_mk (sz := 3) (bytes := 24) (z := .agg #[.int .i64 0, .map none, .map none]) (fun h => by cases h) (by kernel_rfl) Tryd.underlying115 ⟨_, Tryd.underlying115, by kernel_rfl⟩ rfl (by kernel_rfl) rfl
def Tryd.tk117 : TK := ⟨false, 1, 8, [.d (.v (.map none))], .map 9 115, false, false, false, []⟩
theorem Tryd.tok117 : TOk Tryd.prog 117 Tryd.tk117 := tok_mk (sz := 1) (bytes := 8) (z := .map none) (fun h => by cases h) (by kernel_rfl) Tryd.underlying117 Tryd.underlying117 rfl (by kernel_rfl) rfl
def Tryd.tk118 : TK := ⟨false, 1, 8, [.d (.v (.nilFunc))], .func, false, false, false, []⟩
theorem Tryd.tok118 : TOk Tryd.prog 118 Tryd.tk118 := tok_mk (sz := 1) (bytes := 8) (z := .nilFunc) (fun h => by cases h) (by kernel_rfl) Tryd.underlying118 ⟨_, _, _, Tryd.underlying118⟩ rfl (by kernel_rfl) rfl
def Tryd.tk119 : TK := ⟨false, 1, 8, [.d (.v (.nilFunc))], .func, false, false, false, []⟩
theorem Tryd.tok119 : TOk Tryd.prog 119 Tryd.tk119 := tok_mk (sz := 1) (bytes := 8) (z := .nilFunc) (fun h => by cases h) (by kernel_rfl) Tryd.underlying119 ⟨_, _, _, Tryd.underlying119⟩ rfl (by kernel_rfl) rfl
def Tryd.tk120 : TK := ⟨false, 1, 8, [.d (.v (.nilFunc))], .func, false, false, false, []⟩
theorem Tryd.tok120 : TOk Tryd.prog 120 Tryd.tk120 := tok_mk (sz := 1) (bytes := 8) (z := .nilFunc) (fun h => by cases h) (by kernel_rfl) Tryd.underlying120 ⟨_, _, _, Tryd.underlying120⟩ rfl (by kernel_rfl) rfl
def Tryd.tk121 : TK := ⟨false, 1, 8, [.d (.v (.nilFunc))], .func, false, false, false, []⟩
theorem Tryd.tok121 : TOk Tryd.prog 121 Tryd.tk121 := tok_mk (sz := 1) (bytes := 8) (z := .nilFunc) (fun h => by cases h) (by kernel_rfl) Tryd.underlying121 ⟨_, _, _, Tryd.underlying121⟩ rfl (by kernel_rfl) rfl
def Tryd.tk122 : TK := ⟨false, 1, 8, [.d (.v (.nilFunc))], .func, false, false, false, []⟩
theorem Tryd.tok122 : TOk Tryd.prog 122 Tryd.tk122 := tok_mk (sz := 1) (bytes := 8) (z := .nilFunc) (fun h => by cases h) (by kernel_rfl) Tryd.underlying122 ⟨_, _, _, Tryd.underlying122⟩ rfl (by kernel_rfl) rfl
def Tryd.tk123 : TK := ⟨false, 1, 8, [.d (.v (.nilFunc))], .func, false, false, false, []⟩
theorem Tryd.tok123 : TOk Tryd.prog 123 Tryd.tk123 := tok_mk (sz := 1) (bytes := 8) (z := .nilFunc) (fun h => by cases h) (by kernel_rfl) Tryd.underlying123 ⟨_, _, _, Tryd.underlying123⟩ rfl (by kernel_rfl) rfl
def Tryd.tk124 : TK := ⟨false, 1, 8, [.d (.v (.nilFunc))], .func, false, false, false, []⟩
theorem Tryd.tok124 : TOk Tryd.prog 124 Tryd.tk124 := tok_mk (sz := 1) (bytes := 8) (z := .nilFunc) (fun h => by cases h) (by kernel_rfl) Tryd.underlying124 ⟨_, _, _, Tryd.underlying124⟩ rfl (by kernel_rfl) rfl
def Tryd.tk125 : TK := ⟨false, 1, 8, [.d (.v (.nilFunc))], .func, false, false, false, []⟩
theorem Tryd.tok125 : TOk Tryd.prog 125 Tryd.tk125 := tok_mk (sz := 1) (bytes := 8) (z := .nilFunc) (fun h => by cases h) (by kernel_rfl) Tryd.underlying125 ⟨_, _, _, Tryd.underlying125⟩ rfl (by kernel_rfl) rfl
def Tryd.tk126 : TK := ⟨false, 1, 8, [.d (.v (.nilFunc))], .func, false, false, false, []⟩
theorem Tryd.tok126 : TOk Tryd.prog 126 Tryd.tk126 := tok_mk (sz := 1) (bytes := 8) (z := .nilFunc) (fun h => by cases h) (by kernel_rfl) Tryd.underlying126 ⟨_, _, _, Tryd.underlying126⟩ rfl (by kernel_rfl) rfl
def Tryd.tk127 : TK := ⟨false, 1, 8, [.d (.v (.map none))], .map 9 29, false, false, false, []⟩
theorem Tryd.tok127 : TOk Tryd.prog 127 Tryd.tk127 := tok_mk (sz := 1) (bytes := 8) (z := .map none) (fun h => by cases h) (by kernel_rfl) Tryd.underlying127 Tryd.underlying127 rfl (by kernel_rfl) rfl
def Tryd.tk128 : TK := ⟨true, 5, 24, [.d (.v (.int .i64 0)), .d (.v (.bool false)), .d (.v (.bool false)), .d (.v (.bool false)), .d (.v (.bool false))], .struct [(0, 57), (3, 4), (4, 4)], false, false, false, []⟩
theorem Tryd.tok128 : TOk Tryd.prog 128 Tryd.tk128 := tok_mk (sz := 5) (bytes := 24) (z := .agg #[.int .i64 0, .bool false, .bool false, .bool false, .bool false]) (fun h => by cases h) (by kernel_rfl) Tryd.underlying128 ⟨_, Tryd.underlying128, by kernel_rfl⟩ rfl (by kernel_rfl) rfl
def Tryd.tk129 : TK := ⟨true, 5, 24, [.d (.v (.int .i64 0)), .d (.v (.bool false)), .d (.v (.bool false)), .d (.v (.bool false)), .d (.v (.bool false))], .struct [(0, 57), (3, 4), (4, 4)], false, false, false, []⟩
theorem Tryd.tok129 : TOk Tryd.prog 129 Tryd.tk129 := tok_mk (sz := 5) (bytes := 24) (z := .agg #[.int .i64 0, .bool false, .bool false, .bool false, .bool false]) (fun h => by cases h) (by kernel_rfl) Tryd.underlying129 ⟨_, Tryd.underlying129, by kernel_rfl⟩ rfl (by kernel_rfl) rfl
def Tryd.tk131 : TK := ⟨false, 1, 8, [.d (.v (.nilFunc))], .func, false, false, false, []⟩
theorem Tryd.tok131 : TOk Tryd.prog 131 Tryd.tk131 := tok_mk (sz := 1) (bytes := 8) (z := .nilFunc) (fun h => by cases h) (by kernel_rfl) Tryd.underlying131 ⟨_, _, _, Tryd.underlying131⟩ rfl (by kernel_rfl) rfl
def Tryd.tk133 : TK := ⟨false, 1, 8, [.d (.v (.nilFunc))], .func, false, false, false, []⟩
theorem Tryd.tok133 : TOk Tryd.prog 133 Tryd.tk133 := tok_mk (sz := 1) (bytes := 8) (z := .nilFunc) (fun h => by cases h) (by kernel_rfl) Tryd.underlying133 ⟨_, _, _, Tryd.underlying133⟩ rfl (by kernel_rfl) rfl
def Tryd.tk134 : TK := ⟨false, 1, 8, [.d (.v (.nilFunc))], .func, false, false, false, []⟩
theorem Tryd.tok134 : TOk Tryd.prog 134 Tryd.tk134 := tok_mk (sz := 1) (bytes := 8) (z := .nilFunc) (fun h => by cases h) (by kernel_rfl) Tryd.underlying134 ⟨_, _, _, Tryd.underlying134⟩ rfl (by kernel_rfl) rfl
def Tryd.tk135 : TK := ⟨false, 1, 8, [.d (.v (.nilFunc))], .func, false, false, false, []⟩
theorem Tryd.tok135 : TOk Tryd.prog 135 Tryd.tk135 := tok_mk (sz := 1) (bytes := 8) (z := .nilFunc) (fun h => by cases h) (by kernel_rfl) Tryd.underlying135 ⟨_, _, _, Tryd.underlying135⟩ rfl (by kernel_rfl) rfl
def Tryd.tk136 : TK := ⟨false, 1, 8, [.d (.v (.nilFunc))], .func, false, false, false, []⟩
theorem Tryd.tok136 : TOk Tryd.prog 136 Tryd.tk136 := tok_mk (sz := 1) (bytes := 8) (z := .nilFunc) (fun h => by cases h) (by kernel_rfl) Tryd.underlying136 ⟨_, _, _, Tryd.underlying136⟩ rfl (by kernel_rfl) rfl
def Tryd.tk137 : TK := ⟨false, 1, 8, [.d (.v (.nilFunc))], .func, false, false, false, []⟩
theorem Tryd.tok137 : TOk Tryd.prog 137 Tryd.tk137 := tok_mk (sz := 1) (bytes := 8) (z := .nilFunc) (fun h => by cases h) (by kernel_rfl) Tryd.underlying137 ⟨_, _, _, Tryd.underlying137⟩ rfl (by kernel_rfl) rfl
def Tryd.tk140 : TK := ⟨false, 1, 8, [.d (.v (.nilFunc))], .func, false, false, false, []⟩
theorem Tryd.tok140 : TOk Tryd.prog 140 Tryd.tk140 := tok_mk (sz := 1) (bytes := 8) (z := .nilFunc) (fun h => by cases h) (by kernel_rfl) Tryd.underlying140 ⟨_, _, _, Tryd.underlying140⟩ rfl (by kernel_rfl) rfl
def Tryd.tk141 : TK := ⟨false, 1, 8, [.d (.v (.nilFunc))], .func, false, false, false, []⟩
theorem Tryd.tok141 : TOk Tryd.prog 141 Tryd.tk141 := tok_mk (sz := 1) (bytes := 8) (z := .nilFunc) (fun h => by cases h) (by kernel_rfl) Tryd.underlying141 ⟨_, _, _, Tryd.underlying141⟩ rfl (by kernel_rfl) rfl
def Tryd.tk142 : TK := ⟨false, 1, 8, [.d (.v (.nilFunc))], .func, false, false, false, []⟩
theorem Tryd.tok142 : TOk Tryd.prog 142 Tryd.tk142 := tok_mk (sz := 1) (bytes := 8) (z := .nilFunc) (fun h => by cases h) (by kernel_rfl) Tryd.underlying142 ⟨_, _, _, Tryd.underlying142⟩ rfl (by kernel_rfl) rfl
def Tryd.tk146 : TK := ⟨false, 1, 8, [.d (.v (.nilFunc))], .func, false, false, false, []⟩
theorem Tryd.tok146 : TOk Tryd.prog 146 Tryd.tk146 := tok_mk (sz := 1) (bytes := 8) (z := .nilFunc) (fun h => by cases h) (by kernel_rfl) Tryd.underlying146 ⟨_, _, _, Tryd.underlying146⟩ rfl (by kernel_rfl) rfl
def Tryd.tk147 : TK := ⟨false, 1, 8, [.d (.v (.nilFunc))], .func, false, false, false, []⟩
theorem Tryd.tok147 : TOk Tryd.prog 147 Tryd.tk147 := tok_mk (sz := 1) (bytes := 8) (z := .nilFunc) (fun h => by cases h) (by kernel_rfl) Tryd.underlying147 ⟨_, _, _, Tryd.underlying147⟩ rfl (by kernel_rfl) rfl
def Tryd.tk148 : TK := ⟨false, 1, 8, [.d (.v (.pointer none))], .ptr 144, false, false, false, []⟩
theorem Tryd.tok148 : TOk Tryd.prog 148 Tryd.tk148 := tok_mk (sz := 1) (bytes := 8) (z := .pointer none) (fun h => by cases h) (by kernel_rfl) Tryd.underlying148 Tryd.underlying148 rfl (by kernel_rfl) rfl
def Tryd.tk149 : TK := ⟨false, 1, 8, [.d (.v (.nilFunc))], .func, false, false, false, []⟩
theorem Tryd.tok149 : TOk Tryd.prog 149 Tryd.tk149 := tok_mk (sz := 1) (bytes := 8) (z := .nilFunc) (fun h => by cases h) (by kernel_rfl) Tryd.underlying149 ⟨_, _, _, Tryd.underlying149⟩ rfl (by kernel_rfl) rfl
def Tryd.tk150 : TK := ⟨false, 1, 8, [.d (.v (.nilFunc))], .func, false, false, false, []⟩
theorem Tryd.tok150 : TOk Tryd.prog 150 Tryd.tk150 := tok_mk (sz := 1) (bytes := 8) (z := .nilFunc) (fun h => by cases h) (by kernel_rfl) Tryd.underlying150 ⟨_, _, _, Tryd.underlying150⟩ rfl (by kernel_rfl) rfl
def Tryd.tk151 : TK := ⟨false, 1, 8, [.d (.v (.nilFunc))], .func, false, false, false, []⟩
theorem Tryd.tok151 : TOk Tryd.prog 151 Tryd.tk151 := tok_mk (sz := 1) (bytes := 8) (z := .nilFunc) (fun h => by cases h) (by kernel_rfl) Tryd.underlying151 ⟨_, _, _, Tryd.underlying151⟩ rfl (by kernel_rfl) rfl
def Tryd.tk152 : TK := ⟨false, 1, 8, [.d (.v (.nilFunc))], .func, false, false, false, []⟩
theorem Tryd.tok152 : TOk Tryd.prog 152 Tryd.tk152 := tok_mk (sz := 1) (bytes := 8) (z := .nilFunc) (fun h => by cases h) (by kernel_rfl) Tryd.underlying152 ⟨_, _, _, Tryd.underlying152⟩ rfl (by kernel_rfl) rfl
def Tryd.tk153 : TK := ⟨false, 1, 8, [.d (.v (.nilFunc))], .func, false, false, false, []⟩
theorem Tryd.tok153 : TOk Tryd.prog 153 Tryd.tk153 := tok_mk (sz := 1) (bytes := 8) (z := .nilFunc) (fun h => by cases h) (by kernel_rfl) Tryd.underlying153 ⟨_, _, _, Tryd.underlying153⟩ rfl (by kernel_rfl) rfl
def Tryd.tk154 : TK := ⟨false, 1, 8, [.d (.v (.nilFunc))], .func, false, false, false, []⟩
theorem Tryd.tok154 : TOk Tryd.prog 154 Tryd.tk154 := tok_mk (sz := 1) (bytes := 8) (z := .nilFunc) (fun h => by cases h) (by kernel_rfl) Tryd.underlying154 ⟨_, _, _, Tryd.underlying154⟩ rfl (by kernel_rfl) rfl
def Tryd.tk155 : TK := ⟨false, 1, 8, [.d (.v (.nilFunc))], .func, false, false, false, []⟩
theorem Tryd.tok155 : TOk Tryd.prog 155 Tryd.tk155 := tok_mk (sz := 1) (bytes := 8) (z := .nilFunc) (fun h => by cases h) (by kernel_rfl) Tryd.underlying155 ⟨_, _, _, Tryd.underlying155⟩ rfl (by kernel_rfl) rfl
def Tryd.tk156 : TK := ⟨false, 1, 8, [.d (.v (.nilFunc))], .func, false, false, false, []⟩
theorem Tryd.tok156 : TOk Tryd.prog 156 Tryd.tk156 := tok_mk (sz := 1) (bytes := 8) (z := .nilFunc) (fun h => by cases h) (by kernel_rfl) Tryd.underlying156 ⟨_, _, _, Tryd.underlying156⟩ rfl (by kernel_rfl) rfl
def Tryd.tk157 : TK := ⟨false, 1, 8, [.d (.v (.nilFunc))], .func, false, false, false, []⟩
theorem Tryd.tok157 : TOk Tryd.prog 157 Tryd.tk157 := tok_mk (sz := 1) (bytes := 8) (z := .nilFunc) (fun h => by cases h) (by kernel_rfl) Tryd.underlying157 ⟨_, _, _, Tryd.underlying157⟩ rfl (by kernel_rfl) rfl
def Tryd.tk159 : TK := ⟨true, 2, 2, [.d (.v (.int .u8 0)), .d (.v (.int .u8 0))], .struct [(0, 5), (1, 5)], false, false, false, []⟩
theorem Tryd.tok159 : TOk Tryd.prog 159 Tryd.tk159 := tok_mk (sz := 2) (bytes := 2) (z := .agg #[.int .u8 0, .int .u8 0]) (fun h => by cases h) (by kernel_rfl) Tryd.underlying159 ⟨_, Tryd.underlying159, by kernel_rfl⟩ rfl (by kernel_rfl) rfl
def Tryd.tk160 : TK := ⟨true, 2, 2, [.d (.v (.int .u8 0)), .d (.v (.int .u8 0))], .struct [(0, 5), (1, 5)], false, false, false, []⟩
theorem Tryd.tok160 : TOk Tryd.prog 160 Tryd.tk160 := tok_mk (sz := 2) (bytes := 2) (z := .agg #[.int .u8 0, .int .u8 0]) (fun h => by cases h) (by kernel_rfl) Tryd.underlying160 ⟨_, Tryd.underlying160, by kernel_rfl⟩ rfl (by kernel_rfl) rfl
def Tryd.tk161 : TK := ⟨true, 32, 32, [.d (.v (.int .u8 0)), .d (.v (.int .u8 0)), .d (.v (.int .u8 0)), .d (.v (.int .u8 0)), .d (.v (.int .u8 0)), .d (.v (.int .u8 0)), .d (.v (.int .u8 0)), .d (.v (.int .u8 0)), .d (.v (.int .u8 0)), .d (.v (.int .u8 0)), .d (.v (.int .u8 0)), .d (.v (.int .u8 0)), .d (.v (.int .u8 0)), .d (.v (.int .u8 0)), .d (.v (.int .u8 0)), .d (.v (.int .u8 0)), .d (.v (.int .u8 0)), .d (.v (.int .u8 0)), .d (.v (.int .u8 0)), .d (.v (.int .u8 0)), .d (.v (.int .u8 0)), .d (.v (.int .u8 0)), .d (.v (.int .u8 0)), .d (.v (.int .u8 0)), .d (.v (.int .u8 0)), .d (.v (.int .u8 0)), .d (.v (.int .u8 0)), .d (.v (.int .u8 0)), .d (.v (.int .u8 0)), .d (.v (.int .u8 0)), .d (.v (.int .u8 0)), .d (.v (.int .u8 0))], .array 16 160, false, false, false, []⟩
theorem Tryd.tok161 : TOk Tryd.prog 161 Tryd.tk161 := tok_mk (sz := 32) (bytes := 32) (z := .agg #[.int .u8 0, .int .u8 0, .int .u8 0, .int .u8 0, .int .u8 0, .int .u8 0, .int .u8 0, .int .u8 0, .int .u8 0, .int .u8 0, .int .u8 0, .int .u8 0, .int .u8 0, .int .u8 0, .int .u8 0, .int .u8 0, .int .u8 0, .int .u8 0, .int .u8 0, .int .u8 0, .int .u8 0, .int .u8 0, .int .u8 0, .int .u8 0, .int .u8 0, .int .u8 0, .int .u8 0, .int .u8 0, .int .u8 0, .int .u8 0, .int .u8 0, .int .u8 0]) (fun h => by cases h) (by kernel_rfl) Tryd.underlying161 Tryd.underlying161 rfl (by kernel_rfl) rfl
def Tryd.tk162 : TK := ⟨false, 1, 8, [.d (.v (.nilFunc))], .func, false, false, false, []⟩
theorem Tryd.tok162 : TOk Tryd.prog 162 Tryd.tk162 := tok_mk (sz := 1) (bytes := 8) (z := .nilFunc) (fun h => by cases h) (by kernel_rfl) Tryd.underlying162 ⟨_, _, _, Tryd.underlying162⟩ rfl (by kernel_rfl) rfl
def Tryd.tk163 : TK := ⟨false, 1, 8, [.d (.v (.int .u64 0))], .int .u64, false, false, false, []⟩
theorem Tryd.tok163 : TOk Tryd.prog 163 Tryd.tk163 := tok_mk (sz := 1) (bytes := 8) (z := .int .u64 0) (fun h => by cases h) (by kernel_rfl) Tryd.underlying163 Tryd.underlying163 rfl (by kernel_rfl) rfl
def Tryd.tk164 : TK := ⟨false, 1, 8, [.d (.v (.map none))], .map 9 4, false, false, false, []⟩
theorem Tryd.tok164 : TOk Tryd.prog 164 Tryd.tk164 := tok_mk (sz := 1) (bytes := 8) (z := .map none) (fun h => by cases h) (by kernel_rfl) Tryd.underlying164 Tryd.underlying164 rfl (by kernel_rfl) rfl
def Tryd.tk166 : TK := ⟨false, 1, 8, [.d (.v (.nilFunc))], .func, false, false, false, []⟩
theorem Tryd.tok166 : TOk Tryd.prog 166 Tryd.tk166 := tok_mk (sz := 1) (bytes := 8) (z := .nilFunc) (fun h => by cases h) (by kernel_rfl) Tryd.underlying166 ⟨_, _, _, Tryd.underlying166⟩ rfl (by kernel_rfl) rfl
def Tryd.tk168 : TK := ⟨false, 1, 8, [.d (.v (.nilFunc))], .func, false, false, false, []⟩
theorem Tryd.tok168 : TOk Tryd.prog 168 Tryd.tk168 := tok_mk (sz := 1) (bytes := 8) (z := .nilFunc) (fun h => by cases h) (by kernel_rfl) Tryd.underlying168 ⟨_, _, _, Tryd.underlying168⟩ rfl (by kernel_rfl) rfl
def Tryd.tk170 : TK := ⟨false, 1, 8, [.d (.v (.nilFunc))], .func, false, false, false, []⟩
theorem Tryd.tok170 : TOk Tryd.prog 170 Tryd.tk170 := tok_mk (sz := 1) (bytes := 8) (z := .nilFunc) (fun h => by cases h) (by kernel_rfl) Tryd.underlying170 ⟨_, _, _, Tryd.underlying170⟩ rfl (by kernel_rfl) rfl
def Tryd.tk172 : TK := ⟨false, 1, 8, [.d (.v (.nilFunc))], .func, false, false, false, []⟩
theorem Tryd.tok172 : TOk Tryd.prog 172 Tryd.tk172 := tok_mk (sz := 1) (bytes := 8) (z := .nilFunc) (fun h => by cases h) (by kernel_rfl) Tryd.underlying172 ⟨_, _, _, Tryd.underlying172⟩ rfl (by kernel_rfl) rfl
def Tryd.tk173 : TK := ⟨false, 1, 8, [.d (.v (.nilFunc))], .func, false, false, false, []⟩
theorem Tryd.tok173 : TOk Tryd.prog 173 Tryd.tk173 := tok_mk (sz := 1) (bytes := 8) (z := .nilFunc) (fun h => by cases h) (by kernel_rfl) Tryd.underlying173 ⟨_, _, _, Tryd.underlying173⟩ rfl (by kernel_rfl) rfl
def Tryd.tk174 : TK := ⟨false, 1, 8, [.d (.v (.nilFunc))], .func, false, false, false, []⟩
theorem Tryd.tok174 : TOk Tryd.prog 174 Tryd.tk174 := tok_mk (sz := 1) (bytes := 8) (z := .nilFunc) (fun h => by cases h) (by kernel_rfl) Tryd.underlying174 ⟨_, _, _, Tryd.underlying174⟩ rfl (by kernel_rfl) rfl
def Tryd.tk175 : TK := ⟨false, 1, 8, [.d (.v (.nilFunc))], .func, false, false, false, []⟩
theorem Tryd.tok175 : TOk Tryd.prog 175 Tryd.tk175 := tok_mk (sz := 1) (bytes := 8) (z := .nilFunc) (fun h => by cases h) (by kernel_rfl) Tryd.underlying175 ⟨_, _, _, Tryd.underlying175⟩ rfl (by kernel_rfl) rfl
def Tryd.tk177 : TK := ⟨false, 1, 8, [.d (.v (.nilFunc))], .func, false, false, false, []⟩
theorem Tryd.tok177 : TOk Tryd.prog 177 Tryd.tk177 := tok_mk (sz := 1) (bytes := 8) (z := .nilFunc) (fun h => by cases h) (by kernel_rfl) Tryd.underlying177 ⟨_, _, _, Tryd.underlying177⟩ rfl (by kernel_rfl) rfl
def Tryd.tk178 : TK := ⟨false, 1, 8, [.d (.v (.nilFunc))], .func, false, false, false, []⟩
theorem Tryd.tok178 : TOk Tryd.prog 178 Tryd.tk178 := tok_mk (sz := 1) (bytes := 8) (z := .nilFunc) (fun h => by cases h) (by kernel_rfl) Tryd.underlying178 ⟨_, _, _, Tryd.underlying178⟩ rfl (by kernel_rfl) rfl
def Tryd.tk179 : TK := ⟨false, 1, 8, [.d (.v (.nilFunc))], .func, false, false, false, []⟩
theorem Tryd.tok179 : TOk Tryd.prog 179 Tryd.tk179 := tok_mk (sz := 1) (bytes := 8) (z := .nilFunc) (fun h => by cases h) (by kernel_rfl) Tryd.underlying179 ⟨_, _, _, Tryd.underlying179⟩ rfl (by kernel_rfl) rfl
def Tryd.tk180 : TK := ⟨false, 1, 8, [.d (.v (.nilFunc))], .func, false, false, false, []⟩
theorem Tryd.tok180 : TOk Tryd.prog 180 Tryd.tk180 := tok_mk (sz := 1) (bytes := 8) (z := .nilFunc) (fun h => by cases h) (by kernel_rfl) Tryd.underlying180 ⟨_, _, _, Tryd.underlying180⟩ rfl (by kernel_rfl) rfl
def Tryd.tk181 : TK := ⟨false, 1, 8, [.d (.v (.nilFunc))], .func, false, false, false, []⟩
theorem Tryd.tok181 : TOk Tryd.prog 181 Tryd.tk181 := tok_mk (sz := 1) (bytes := 8) (z := .nilFunc) (fun h => by cases h) (by kernel_rfl) Tryd.underlying181 ⟨_, _, _, Tryd.underlying181⟩ rfl (by kernel_rfl) rfl
def Tryd.tk182 : TK := ⟨false, 1, 8, [.d (.v (.int .i64 0))], .int .i64, false, false, false, []⟩
theorem Tryd.tok182 : TOk Tryd.prog 182 Tryd.tk182 := tok_mk (sz := 1) (bytes := 8) (z := .int .i64 0) (fun h => by cases h) (by kernel_rfl) Tryd.underlying182 Tryd.underlying182 rfl (by kernel_rfl) rfl
def Tryd.tk184 : TK := ⟨false, 1, 8, [.d (.v (.nilFunc))], .func, false, false, false, []⟩
theorem Tryd.tok184 : TOk Tryd.prog 184 Tryd.tk184 := tok_mk (sz := 1) (bytes := 8) (z := .nilFunc) (fun h => by cases h) (by kernel_rfl) Tryd.underlying184 ⟨_, _, _, Tryd.underlying184⟩ rfl (by kernel_rfl) rfl
def Tryd.tk185 : TK := ⟨false, 1, 8, [.d (.v (.nilFunc))], .func, false, false, false, []⟩
theorem Tryd.tok185 : TOk Tryd.prog 185 Tryd.tk185 := tok_mk (sz := 1) (bytes := 8) (z := .nilFunc) (fun h => by cases h) (by kernel_rfl) Tryd.underlying185 ⟨_, _, _, Tryd.underlying185⟩ rfl (by kernel_rfl) rfl
def Tryd.tk186 : TK := ⟨false, 1, 8, [.d (.v (.nilFunc))], .func, false, false, false, []⟩
theorem Tryd.tok186 : TOk Tryd.prog 186 Tryd.tk186 := tok_mk (sz := 1) (bytes := 8) (z := .nilFunc) (fun h => by cases h) (by kernel_rfl) Tryd.underlying186 ⟨_, _, _, Tryd.underlying186⟩ rfl (by kernel_rfl) rfl
def Tryd.tk187 : TK := ⟨false, 1, 8, [.d (.v (.nilFunc))], .func, false, false, false, []⟩
theorem Tryd.tok187 : TOk Tryd.prog 187 Tryd.tk187 := tok_mk (sz := 1) (bytes := 8) (z := .nilFunc) (fun h => by cases h) (by kernel_rfl) Tryd.underlying187 ⟨_, _, _, Tryd.underlying187⟩ rfl (by kernel_rfl) rfl
def Tryd.tk188 : TK := ⟨false, 1, 8, [.d (.v (.nilFunc))], .func, false, false, false, []⟩
theorem Tryd.tok188 : TOk Tryd.prog 188 Tryd.tk188 := tok_mk (sz := 1) (bytes := 8) (z := .nilFunc) (fun h => by cases h) (by kernel_rfl) Tryd.underlying188 ⟨_, _, _, Tryd.underlying188⟩ rfl (by kernel_rfl) rfl
def Tryd.tk189 : TK := ⟨false, 1, 8, [.d (.v (.nilFunc))], .func, false, false, false, []⟩
theorem Tryd.tok189 : TOk Tryd.prog 189 Tryd.tk189 := tok_mk (sz := 1) (bytes := 8) (z := .nilFunc) (fun h => by cases h) (by kernel_rfl) Tryd.underlying189 ⟨_, _, _, Tryd.underlying189⟩ rfl (by kernel_rfl) rfl
def Tryd.tk190 : TK := ⟨false, 1, 8, [.d (.v (.nilFunc))], .func, false, false, false, []⟩
theorem Tryd.tok190 : TOk Tryd.prog 190 Tryd.tk190 := tok_mk (sz := 1) (bytes := 8) (z := .nilFunc) (fun h => by cases h) (by kernel_rfl) Tryd.underlying190 ⟨_, _, _, Tryd.underlying190⟩ rfl (by kernel_rfl) rfl
def Tryd.tk191 : TK := ⟨false, 1, 8, [.d (.v (.nilFunc))], .func, false, false, false, []⟩
theorem Tryd.tok191 : TOk Tryd.prog 191 Tryd.tk191 := tok_mk (sz := 1) (bytes := 8) (z := .nilFunc) (fun h => by cases h) (by kernel_rfl) Tryd.underlying191 ⟨_, _, _, Tryd.underlying191⟩ rfl (by kernel_rfl) rfl
def Tryd.tk192 : TK := ⟨false, 1, 8, [.d (.v (.nilFunc))], .func, false, false, false, []⟩
theorem Tryd.tok192 : TOk Tryd.prog 192 Tryd.tk192 := tok_mk (sz := 1) (bytes := 8) (z := .nilFunc) (fun h => by cases h) (by kernel_rfl) Tryd.underlying192 ⟨_, _, _, Tryd.underlying192⟩ rfl (by kernel_rfl) rfl
def Tryd.tk193 : TK := ⟨false, 1, 24, [.nl], .slice 5, false, false, false, []⟩
theorem Tryd.tok193 : TOk Tryd.prog 193 Tryd.tk193 := tok_mk (sz := 1) (bytes := 24) (z := .slice none 0 0) (fun h => by cases h) (by kernel_rfl) Tryd.underlying193 Tryd.underlying193 rfl (by kernel_rfl) rfl
def Tryd.tk194 : TK := ⟨false, 1, 8, [.d (.v (.nilFunc))], .func, false, false, false, []⟩
theorem Tryd.tok194 : TOk Tryd.prog 194 Tryd.tk194 := tok_mk (sz := 1) (bytes := 8) (z := .nilFunc) (fun h => by cases h) (by kernel_rfl) Tryd.underlying194 ⟨_, _, _, Tryd.underlying194⟩ rfl (by kernel_rfl) rfl
def Tryd.tk195 : TK := ⟨false, 1, 8, [.d (.v (.int .u64 0))], .int .u64, false, false, false, []⟩
theorem Tryd.tok195 : TOk Tryd.prog 195 Tryd.tk195 := tok_mk (sz := 1) (bytes := 8) (z := .int .u64 0) (fun h => by cases h) (by kernel_rfl) Tryd.underlying195 Tryd.underlying195 rfl (by kernel_rfl) rfl
def Tryd.tk196 : TK := ⟨false, 1, 8, [.d (.v (.nilFunc))], .func, false, false, false, []⟩
theorem Tryd.tok196 : TOk Tryd.prog 196 Tryd.tk196 := tok_mk (sz := 1) (bytes := 8) (z := .nilFunc) (fun h => by cases h) (by kernel_rfl) Tryd.underlying196 ⟨_, _, _, Tryd.underlying196⟩ rfl (by kernel_rfl) rfl
def Tryd.tk197 : TK := ⟨false, 1, 8, [.d (.v (.nilFunc))], .func, false, false, false, []⟩
theorem Tryd.tok197 : TOk Tryd.prog 197 Tryd.tk197 := tok_mk (sz := 1) (bytes := 8) (z := .nilFunc) (fun h => by cases h) (by kernel_rfl) Tryd.underlying197 ⟨_, _, _, Tryd.underlying197⟩ rfl (by kernel_rfl) rfl
def Tryd.tk198 : TK := ⟨false, 1, 8, [.d (.v (.nilFunc))], .func, false, false, false, []⟩
theorem Tryd.tok198 : TOk Tryd.prog 198 Tryd.tk198 := tok_mk (sz := 1) (bytes := 8) (z := .nilFunc) (fun h => by cases h) (by kernel_rfl) Tryd.underlying198 ⟨_, _, _, Tryd.underlying198⟩ rfl (by kernel_rfl) rfl
def Tryd.tk199 : TK := ⟨false, 1, 8, [.d (.v (.pointer none))], .ptr 3, false, false, false, []⟩
theorem Tryd.tok199 : TOk Tryd.prog 199 Tryd.tk199 := tok_mk (sz := 1) (bytes := 8) (z := .pointer none) (fun h => by cases h) (by kernel_rfl) Tryd.underlying199 Tryd.underlying199 rfl (by kernel_rfl) rfl
def Tryd.tk200 : TK := ⟨false, 1, 8, [.d (.v (.nilFunc))], .func, false, false, false, []⟩
theorem Tryd.tok200 : TOk Tryd.prog 200 Tryd.tk200 := tok_mk (sz := 1) (bytes := 8) (z := .nilFunc) (fun h => by cases h) (by kernel_rfl) Tryd.underlying200 ⟨_, _, _, Tryd.underlying200⟩ rfl (by kernel_rfl) rfl
def Tryd.tk201 : TK := ⟨true, 24, 24, [.d (.v (.int .u8 0)), .d (.v (.int .u8 0)), .d (.v (.int .u8 0)), .d (.v (.int .u8 0)), .d (.v (.int .u8 0)), .d (.v (.int .u8 0)), .d (.v (.int .u8 0)), .d (.v (.int .u8 0)), .d (.v (.int .u8 0)), .d (.v (.int .u8 0)), .d (.v (.int .u8 0)), .d (.v (.int .u8 0)), .d (.v (.int .u8 0)), .d (.v (.int .u8 0)), .d (.v (.int .u8 0)), .d (.v (.int .u8 0)), .d (.v (.int .u8 0)), .d (.v (.int .u8 0)), .d (.v (.int .u8 0)), .d (.v (.int .u8 0)), .d (.v (.int .u8 0)), .d (.v (.int .u8 0)), .d (.v (.int .u8 0)), .d (.v (.int .u8 0))], .array 24 5, false, false, false, []⟩
theorem Tryd.tok201 : TOk Tryd.prog 201 Tryd.tk201 := tok_mk (sz := 24) (bytes := 24) (z := .agg #[.int .u8 0, .int .u8 0, .int .u8 0, .int .u8 0, .int .u8 0, .int .u8 0, .int .u8 0, .int .u8 0, .int .u8 0, .int .u8 0, .int .u8 0, .int .u8 0, .int .u8 0, .int .u8 0, .int .u8 0, .int .u8 0, .int .u8 0, .int .u8 0, .int .u8 0, .int .u8 0, .int .u8 0, .int .u8 0, .int .u8 0, .int .u8 0]) (fun h => by cases h) (by kernel_rfl) Tryd.underlying201 Tryd.underlying201 rfl (by kernel_rfl) rfl
def Tryd.tk202 : TK := ⟨false, 1, 8, [.d (.v (.nilFunc))], .func, false, false, false, []⟩
theorem Tryd.tok202 : TOk Tryd.prog 202 Tryd.tk202 := tok_mk (sz := 1) (bytes := 8) (z := .nilFunc) (fun h => by cases h) (by kernel_rfl) Tryd.underlying202 ⟨_, _, _, Tryd.underlying202⟩ rfl (by kernel_rfl) rfl
def Tryd.tk204 : TK := ⟨false, 1, 8, [.d (.v (.nilFunc))], .func, false, false, false, []⟩
theorem Tryd.tok204 : TOk Tryd.prog 204 Tryd.tk204 := tok_mk (sz := 1) (bytes := 8) (z := .nilFunc) (fun h => by cases h) (by kernel_rfl) Tryd.underlying204 ⟨_, _, _, Tryd.underlying204⟩ rfl (by kernel_rfl) rfl
def Tryd.tk206 : TK := ⟨false, 1, 8, [.d (.v (.nilFunc))], .func, false, false, false, []⟩
theorem Tryd.tok206 : TOk Tryd.prog 206 Tryd.tk206 := tok_mk (sz := 1) (bytes := 8) (z := .nilFunc) (fun h => by cases h) (by kernel_rfl) Tryd.underlying206 ⟨_, _, _, Tryd.underlying206⟩ rfl (by kernel_rfl) rfl
def Tryd.tk207 : TK := ⟨false, 1, 8, [.d (.v (.pointer none))], .ptr 195, false, false, false, []⟩
theorem Tryd.tok207 : TOk Tryd.prog 207 Tryd.tk207 := tok_mk (sz := 1) (bytes := 8) (z := .pointer none) (fun h => by cases h) (by kernel_rfl) Tryd.underlying207 Tryd.underlying207 rfl (by kernel_rfl) rfl
def Tryd.tk208 : TK := ⟨false, 1, 8, [.d (.v (.nilFunc))], .func, false, false, false, []⟩
theorem Tryd.tok208 : TOk Tryd.prog 208 Tryd.tk208 := tok_mk (sz := 1) (bytes := 8) (z := .nilFunc) (fun h => by cases h) (by kernel_rfl) Tryd.underlying208 ⟨_, _, _, Tryd.underlying208⟩ rfl (by kernel_rfl) rfl
def Tryd.tk209 : TK := ⟨false, 1, 8, [.d (.v (.nilFunc))], .func, false, false, false, []⟩
theorem Tryd.tok209 : TOk Tryd.prog 209 Tryd.tk209 := tok_mk (sz := 1) (bytes := 8) (z := .nilFunc) (fun h => by cases h) (by kernel_rfl) Tryd.underlying209 ⟨_, _, _, Tryd.underlying209⟩ rfl (by kernel_rfl) rfl
def Tryd.tk210 : TK := ⟨true, 20, 160, [.d (.v (.int .u64 0)), .d (.v (.int .u64 0)), .d (.v (.int .u64 0)), .d (.v (.int .u64 0)), .d (.v (.int .u64 0)), .d (.v (.int .u64 0)), .d (.v (.int .u64 0)), .d (.v (.int .u64 0)), .d (.v (.int .u64 0)), .d (.v (.int .u64 0)), .d (.v (.int .u64 0)), .d (.v (.int .u64 0)), .d (.v (.int .u64 0)), .d (.v (.int .u64 0)), .d (.v (.int .u64 0)), .d (.v (.int .u64 0)), .d (.v (.int .u64 0)), .d (.v (.int .u64 0)), .d (.v (.int .u64 0)), .d (.v (.int .u64 0))], .array 20 163, false, false, false, []⟩
theorem Tryd.tok210 : TOk Tryd.prog 210 Tryd.tk210 := tok_mk (sz := 20) (bytes := 160) (z := .agg #[.int .u64 0, .int .u64 0, .int .u64 0, .int .u64 0, .int .u64 0, .int .u64 0, .int .u64 0, .int .u64 0, .int .u64 0, .int .u64 0, .int .u64 0, .int .u64 0, .int .u64 0, .int .u64 0, .int .u64 0, .int .u64 0, .int .u64 0, .int .u64 0, .int .u64 0, .int .u64 0]) (fun h => by cases h) (by kernel_rfl) Tryd.underlying210 Tryd.underlying210 rfl (by kernel_rfl) rfl
def Tryd.tk212 : TK := ⟨true, 32, 32, [.d (.v (.int .u8 0)), .d (.v (.int .u8 0)), .d (.v (.int .u8 0)), .d (.v (.int .u8 0)), .d (.v (.int .u8 0)), .d (.v (.int .u8 0)), .d (.v (.int .u8 0)), .d (.v (.int .u8 0)), .d (.v (.int .u8 0)), .d (.v (.int .u8 0)), .d (.v (.int .u8 0)), .d (.v (.int .u8 0)), .d (.v (.int .u8 0)), .d (.v (.int .u8 0)), .d (.v (.int .u8 0)), .d (.v (.int .u8 0)), .d (.v (.int .u8 0)), .d (.v (.int .u8 0)), .d (.v (.int .u8 0)), .d (.v (.int .u8 0)), .d (.v (.int .u8 0)), .d (.v (.int .u8 0)), .d (.v (.int .u8 0)), .d (.v (.int .u8 0)), .d (.v (.int .u8 0)), .d (.v (.int .u8 0)), .d (.v (.int .u8 0)), .d (.v (.int .u8 0)), .d (.v (.int .u8 0)), .d (.v (.int .u8 0)), .d (.v (.int .u8 0)), .d (.v (.int .u8 0))], .array 32 5, false, false, false, []⟩
theorem Tryd.tok212 : TOk Tryd.prog 212 Tryd.tk212 := tok_mk (sz := 32) (bytes := 32) (z := .agg #[.int .u8 0, .int .u8 0, .int .u8 0, .int .u8 0, .int .u8 0, .int .u8 0, .int .u8 0, .int .u8 0, .int .u8 0, .int .u8 0, .int .u8 0, .int .u8 0, .int .u8 0, .int .u8 0, .int .u8 0, .int .u8 0, .int .u8 0, .int .u8 0, .int .u8 0, .int .u8 0, .int .u8 0, .int .u8 0, .int .u8 0, .int .u8 0, .int .u8 0, .int .u8 0, .int .u8 0, .int .u8 0, .int .u8 0, .int .u8 0, .int .u8 0, .int .u8 0]) (fun h => by cases h) (by kernel_rfl) Tryd.underlying212 Tryd.underlying212 rfl (by kernel_rfl) rfl
def Tryd.tk214 : TK := ⟨false, 1, 8, [.d (.v (.nilFunc))], .func, false, false, false, []⟩
theorem Tryd.tok214 : TOk Tryd.prog 214 Tryd.tk214 := tok_mk (sz := 1) (bytes := 8) (z := .nilFunc) (fun h => by cases h) (by kernel_rfl) Tryd.underlying214 ⟨_, _, _, Tryd.underlying214⟩ rfl (by kernel_rfl) rfl
def Tryd.tk215 : TK := ⟨true, 4, 40, [.d (.v (.pointer none)), .d (.v (.pointer none)), .d (.v (.pointer none)), .d (.v (.string ⟨#[]⟩))], .struct [(0, 17), (1, 17), (2, 17), (3, 9)], false, false, false, []⟩
theorem Tryd.tok215 : TOk Tryd.prog 215 Tryd.tk215 := tok_mk (sz := 4) (bytes := 40) (z := .agg #[.pointer none, .pointer none, .pointer none, .string ⟨#[]⟩]) (fun h => by cases h) (by kernel_rfl) Tryd.underlying215 ⟨_, Tryd.underlying215, by kernel_rfl⟩ rfl (by kernel_rfl) rfl
def Tryd.tk216 : TK := ⟨true, 4, 40, [.d (.v (.pointer none)), .d (.v (.pointer none)), .d (.v (.pointer none)), .d (.v (.string ⟨#[]⟩))], .struct [(0, 17), (1, 17), (2, 17), (3, 9)], false, false, false, []⟩
theorem Tryd.tok216 : TOk Tryd.prog 216 Tryd.tk216 := tok_mk (sz := 4) (bytes := 40) (z := .agg #[.pointer none, .pointer none, .pointer none, .string ⟨#[]⟩]) (fun h => by cases h) (by kernel_rfl) Tryd.underlying216 ⟨_, Tryd.underlying216, by kernel_rfl⟩ rfl (by kernel_rfl) rfl
def Tryd.tk220 : TK := ⟨false, 1, 1, [.d (.v (.int .u8 0))], .int .u8, false, false, false, []⟩
theorem Tryd.tok220 : TOk Tryd.prog 220 Tryd.tk220 := tok_mk (sz := 1) (bytes := 1) (z := .int .u8 0) (fun h => by cases h) (by kernel_rfl) Tryd.underlying220 Tryd.underlying220 rfl (by kernel_rfl) rfl
def Tryd.tk221 : TK := ⟨false, 1, 1, [.d (.v (.int .u8 0))], .int .u8, false, false, false, []⟩
theorem Tryd.tok221 : TOk Tryd.prog 221 Tryd.tk221 := tok_mk (sz := 1) (bytes := 1) (z := .int .u8 0) (fun h => by cases h) (by kernel_rfl) Tryd.underlying221 Tryd.underlying221 rfl (by kernel_rfl) rfl
def Tryd.tk222 : TK := ⟨false, 1, 8, [.d (.v (.nilFunc))], .func, false, false, false, []⟩
theorem Tryd.tok222 : TOk Tryd.prog 222 Tryd.tk222 := tok_mk (sz := 1) (bytes := 8) (z := .nilFunc) (fun h => by cases h) (by kernel_rfl) Tryd.underlying222 ⟨_, _, _, Tryd.underlying222⟩ rfl (by kernel_rfl) rfl
def Tryd.tk223 : TK := ⟨false, 1, 8, [.d (.v (.pointer none))], .ptr 5, false, false, false, []⟩
theorem Tryd.tok223 : TOk Tryd.prog 223 Tryd.tk223 := tok_mk (sz := 1) (bytes := 8) (z := .pointer none) (fun h => by cases h) (by kernel_rfl) Tryd.underlying223 Tryd.underlying223 rfl (by kernel_rfl) rfl
def Tryd.tk224 : TK := ⟨false, 1, 4, [.d (.v (.int .i32 0))], .int .i32, false, false, false, []⟩
theorem Tryd.tok224 : TOk Tryd.prog 224 Tryd.tk224 := tok_mk (sz := 1) (bytes := 4) (z := .int .i32 0) (fun h => by cases h) (by kernel_rfl) Tryd.underlying224 Tryd.underlying224 rfl (by kernel_rfl) rfl
def Tryd.tk225 : TK := ⟨false, 1, 4, [.d (.v (.int .i32 0))], .int .i32, false, false, false, []⟩
theorem Tryd.tok225 : TOk Tryd.prog 225 Tryd.tk225 := tok_mk (sz := 1) (bytes := 4) (z := .int .i32 0) (fun h => by cases h) (by kernel_rfl) Tryd.underlying225 Tryd.underlying225 rfl (by kernel_rfl) rfl
def Tryd.tk226 : TK := ⟨true, 11, 48, [.d (.v (.int .u64 0)), .d (.v (.int .u64 0)), .d (.v (.int .u32 0)), .d (.v (.int .u8 0)), .d (.v (.int .u8 0)), .d (.v (.int .u8 0)), .d (.v (.int .u8 0)), .d (.v (.nilFunc)), .d (.v (.pointer none)), .d (.v (.int .i32 0)), .d (.v (.int .i32 0))], .struct [(0, 12), (1, 12), (2, 67), (3, 220), (4, 5), (5, 5), (6, 221), (7, 222), (8, 223), (9, 224), (10, 225)], false, false, false, []⟩
theorem Tryd.tok226 : TOk Tryd.prog 226 Tryd.tk226 := tok_mk (sz := 11) (bytes := 48) (z := .agg #[.int .u64 0, .int .u64 0, .int .u32 0, .int .u8 0, .int .u8 0, .int .u8 0, .int .u8 0, .nilFunc, .pointer none, .int .i32 0, .int .i32 0]) (fun h => by cases h) (by kernel_rfl) Tryd.underlying226 ⟨_, Tryd.underlying226, by kernel_rfl⟩ rfl (by kernel_rfl) rfl
def Tryd.tk227 : TK := ⟨true, 11, 48, [.d (.v (.int .u64 0)), .d (.v (.int .u64 0)), .d (.v (.int .u32 0)), .d (.v (.int .u8 0)), .d (.v (.int .u8 0)), .d (.v (.int .u8 0)), .d (.v (.int .u8 0)), .d (.v (.nilFunc)), .d (.v (.pointer none)), .d (.v (.int .i32 0)), .d (.v (.int .i32 0))], .struct [(0, 12), (1, 12), (2, 67), (3, 220), (4, 5), (5, 5), (6, 221), (7, 222), (8, 223), (9, 224), (10, 225)], false, false, false, []⟩
theorem Tryd.tok227 : TOk Tryd.prog 227 Tryd.tk227 := tok_mk (sz := 11) (bytes := 48) (z := .agg #[.int .u64 0, .int .u64 0, .int .u32 0, .int .u8 0, .int .u8 0, .int .u8 0, .int .u8 0, .nilFunc, .pointer none, .int .i32 0, .int .i32 0]) (fun h => by cases h) (by kernel_rfl) Tryd.underlying227 ⟨_, Tryd.underlying227, by kernel_rfl⟩ rfl (by kernel_rfl) rfl
def Tryd.Ks : List (TypeId × TK) := [(1, Tryd.tk1), (2, Tryd.tk2), (3, Tryd.tk3), (4, Tryd.tk4), (5, Tryd.tk5), (6, Tryd.tk6), (7, Tryd.tk7), (8, Tryd.tk8), (9, Tryd.tk9), (10, Tryd.tk10), (11, Tryd.tk11), (12, Tryd.tk12), (13, Tryd.tk13), (14, Tryd.tk14), (15, Tryd.tk15), (16, Tryd.tk16), (17, Tryd.tk17), (18, Tryd.tk18), (19, Tryd.tk19), (21, Tryd.tk21), (22, Tryd.tk22), (23, Tryd.tk23), (24, Tryd.tk24), (25, Tryd.tk25), (27, Tryd.tk27), (28, Tryd.tk28), (29, Tryd.tk29), (30, Tryd.tk30), (31, Tryd.tk31), (32, Tryd.tk32), (34, Tryd.tk34), (35, Tryd.tk35), (36, Tryd.tk36), (37, Tryd.tk37), (39, Tryd.tk39), (40, Tryd.tk40), (41, Tryd.tk41), (42, Tryd.tk42), (43, Tryd.tk43), (44, Tryd.tk44), (45, Tryd.tk45), (46, Tryd.tk46), (47, Tryd.tk47), (48, Tryd.tk48), (49, Tryd.tk49), (50, Tryd.tk50), (51, Tryd.tk51), (52, Tryd.tk52), (53, Tryd.tk53), (54, Tryd.tk54), (55, Tryd.tk55), (56, Tryd.tk56), (57, Tryd.tk57), (58, Tryd.tk58), (59, Tryd.tk59), (60, Tryd.tk60), (61, Tryd.tk61), (62, Tryd.tk62), (63, Tryd.tk63), (64, Tryd.tk64), (65, Tryd.tk65), (66, Tryd.tk66), (67, Tryd.tk67), (68, Tryd.tk68), (69, Tryd.tk69), (70, Tryd.tk70), (71, Tryd.tk71), (72, Tryd.tk72), (73, Tryd.tk73), (75, Tryd.tk75), (77, Tryd.tk77), (78, Tryd.tk78), (79, Tryd.tk79), (80, Tryd.tk80), (81, Tryd.tk81), (83, Tryd.tk83), (84, Tryd.tk84), (85, Tryd.tk85), (86, Tryd.tk86), (87, Tryd.tk87), (88, Tryd.tk88), (89, Tryd.tk89), (90, Tryd.tk90), (91, Tryd.tk91), (92, Tryd.tk92), (93, Tryd.tk93), (94, Tryd.tk94), (95, Tryd.tk95), (96, Tryd.tk96), (97, Tryd.tk97), (98, Tryd.tk98), (99, Tryd.tk99), (101, Tryd.tk101), (102, Tryd.tk102), (103, Tryd.tk103), (104, Tryd.tk104), (105, Tryd.tk105), (106, Tryd.tk106), (107, Tryd.tk107), (108, Tryd.tk108), (109, Tryd.tk109), (110, Tryd.tk110), (111, Tryd.tk111), (112, Tryd.tk112), (113, Tryd.tk113), (114, Tryd.tk114), (115, Tryd.tk115), (117, Tryd.tk117), (118, Tryd.tk118), (119, Tryd.tk119), (120, Tryd.tk120), (121, Tryd.tk121), (122, Tryd.tk122), (123, Tryd.tk123), (124, Tryd.tk124), (125, Tryd.tk125), (126, Tryd.tk126), (127, Tryd.tk127), (128, Tryd.tk128), (129, Tryd.tk129), (131, Tryd.tk131), (133, Tryd.tk133), (134, Tryd.tk134), (135, Tryd.tk135), (136, Tryd.tk136), (137, Tryd.tk137), (140, Tryd.tk140), (141, Tryd.tk141), (142, Tryd.tk142), (146, Tryd.tk146), (147, Tryd.tk147), (148, Tryd.tk148), (149, Tryd.tk149), (150, Tryd.tk150), (151, Tryd.tk151), (152, Tryd.tk152), (153, Tryd.tk153), (154, Tryd.tk154), (155, Tryd.tk155), (156, Tryd.tk156), (157, Tryd.tk157), (159, Tryd.tk159), (160, Tryd.tk160), (161, Tryd.tk161), (162, Tryd.tk162), (163, Tryd.tk163), (164, Tryd.tk164), (166, Tryd.tk166), (168, Tryd.tk168), (170, Tryd.tk170), (172, Tryd.tk172), (173, Tryd.tk173), (174, Tryd.tk174), (175, Tryd.tk175), (177, Tryd.tk177), (178, Tryd.tk178), (179, Tryd.tk179), (180, Tryd.tk180), (181, Tryd.tk181), (182, Tryd.tk182), (184, Tryd.tk184), (185, Tryd.tk185), (186, Tryd.tk186), (187, Tryd.tk187), (188, Tryd.tk188), (189, Tryd.tk189), (190, Tryd.tk190), (191, Tryd.tk191), (192, Tryd.tk192), (193, Tryd.tk193), (194, Tryd.tk194), (195, Tryd.tk195), (196, Tryd.tk196), (197, Tryd.tk197), (198, Tryd.tk198), (199, Tryd.tk199), (200, Tryd.tk200), (201, Tryd.tk201), (202, Tryd.tk202), (204, Tryd.tk204), (206, Tryd.tk206), (207, Tryd.tk207), (208, Tryd.tk208), (209, Tryd.tk209), (210, Tryd.tk210), (212, Tryd.tk212), (214, Tryd.tk214), (215, Tryd.tk215), (216, Tryd.tk216), (220, Tryd.tk220), (221, Tryd.tk221), (222, Tryd.tk222), (223, Tryd.tk223), (224, Tryd.tk224), (225, Tryd.tk225), (226, Tryd.tk226), (227, Tryd.tk227)]
def Tryd.K : TypeId → Option TK := lkT Tryd.Ks
theorem Tryd.K_ok : KOk Tryd.prog Tryd.K := kok_cons Tryd.tok1 ( kok_cons Tryd.tok2 ( kok_cons Tryd.tok3 ( kok_cons Tryd.tok4 ( kok_cons Tryd.tok5 ( kok_cons Tryd.tok6 ( kok_cons Tryd.tok7 ( kok_cons Tryd.tok8 ( kok_cons Tryd.tok9 ( kok_cons Tryd.tok10 ( kok_cons Tryd.tok11 ( kok_cons Tryd.tok12 ( kok_cons Tryd.tok13 ( kok_cons Tryd.tok14 ( kok_cons Tryd.tok15 ( kok_cons Tryd.tok16 ( kok_cons Tryd.tok17 ( kok_cons Tryd.tok18 ( kok_cons Tryd.tok19 ( kok_cons Tryd.tok21 ( kok_cons Tryd.tok22 ( kok_cons Tryd.tok23 ( kok_cons Tryd.tok24 ( kok_cons Tryd.tok25 ( kok_cons Tryd.tok27 ( kok_cons Tryd.tok28 ( kok_cons Tryd.tok29 ( kok_cons Tryd.tok30 ( kok_cons Tryd.tok31 ( kok_cons Tryd.tok32 ( kok_cons Tryd.tok34 ( kok_cons Tryd.tok35 ( kok_cons Tryd.tok36 ( kok_cons Tryd.tok37 ( kok_cons Tryd.tok39 ( kok_cons Tryd.tok40 ( kok_cons Tryd.tok41 ( kok_cons Tryd.tok42 ( kok_cons Tryd.tok43 ( kok_cons Tryd.tok44 ( kok_cons Tryd.tok45 ( kok_cons Tryd.tok46 ( kok_cons Tryd.tok47 ( kok_cons Tryd.tok48 ( kok_cons Tryd.tok49 ( kok_cons Tryd.tok50 ( kok_cons Tryd.tok51 ( kok_cons Tryd.tok52 ( kok_cons Tryd.tok53 ( kok_cons Tryd.tok54 ( kok_cons Tryd.tok55 ( kok_cons Tryd.tok56 ( kok_cons Tryd.tok57 ( kok_cons Tryd.tok58 ( kok_cons Tryd.tok59 ( kok_cons Tryd.tok60 ( kok_cons Tryd.tok61 ( kok_cons Tryd.tok62 ( kok_cons Tryd.tok63 ( kok_cons Tryd.tok64 ( kok_cons Tryd.tok65 ( kok_cons Tryd.tok66 ( kok_cons Tryd.tok67 ( kok_cons Tryd.tok68 ( kok_cons Tryd.tok69 ( kok_cons Tryd.tok70 ( kok_cons Tryd.tok71 ( kok_cons Tryd.tok72 ( kok_cons Tryd.tok73 ( kok_cons Tryd.tok75 ( kok_cons Tryd.tok77 ( kok_cons Tryd.tok78 ( kok_cons Tryd.tok79 ( kok_cons Tryd.tok80 ( kok_cons Tryd.tok81 ( kok_cons Tryd.tok83 ( kok_cons Tryd.tok84 ( kok_cons Tryd.tok85 ( kok_cons Tryd.tok86 ( kok_cons Tryd.tok87 ( kok_cons Tryd.tok88 ( kok_cons Tryd.tok89 ( kok_cons Tryd.tok90 ( kok_cons Tryd.tok91 ( kok_cons Tryd.tok92 ( kok_cons Tryd.tok93 ( kok_cons Tryd.tok94 ( kok_cons Tryd.tok95 ( kok_cons Tryd.tok96 ( kok_cons Tryd.tok97 ( kok_cons Tryd.tok98 ( kok_cons Tryd.tok99 ( kok_cons Tryd.tok101 ( kok_cons Tryd.tok102 ( kok_cons Tryd.tok103 ( kok_cons Tryd.tok104 ( kok_cons Tryd.tok105 ( kok_cons Tryd.tok106 ( kok_cons Tryd.tok107 ( kok_cons Tryd.tok108 ( kok_cons Tryd.tok109 ( kok_cons Tryd.tok110 ( kok_cons Tryd.tok111 ( kok_cons Tryd.tok112 ( kok_cons Tryd.tok113 ( kok_cons Tryd.tok114 ( kok_cons Tryd.tok115 ( kok_cons Tryd.tok117 ( kok_cons Tryd.tok118 ( kok_cons Tryd.tok119 ( kok_cons Tryd.tok120 ( kok_cons Tryd.tok121 ( kok_cons Tryd.tok122 ( kok_cons Tryd.tok123 ( kok_cons Tryd.tok124 ( kok_cons Tryd.tok125 ( kok_cons Tryd.tok126 ( kok_cons Tryd.tok127 ( kok_cons Tryd.tok128 ( kok_cons Tryd.tok129 ( kok_cons Tryd.tok131 ( kok_cons Tryd.tok133 ( kok_cons Tryd.tok134 ( kok_cons Tryd.tok135 ( kok_cons Tryd.tok136 ( kok_cons Tryd.tok137 ( kok_cons Tryd.tok140 ( kok_cons Tryd.tok141 ( kok_cons Tryd.tok142 ( kok_cons Tryd.tok146 ( kok_cons Tryd.tok147 ( kok_cons Tryd.tok148 ( kok_cons Tryd.tok149 ( kok_cons Tryd.tok150 ( kok_cons Tryd.tok151 ( kok_cons Tryd.tok152 ( kok_cons Tryd.tok153 ( kok_cons Tryd.tok154 ( kok_cons Tryd.tok155 ( kok_cons Tryd.tok156 ( kok_cons Tryd.tok157 ( kok_cons Tryd.tok159 ( kok_cons Tryd.tok160 ( kok_cons Tryd.tok161 ( kok_cons Tryd.tok162 ( kok_cons Tryd.tok163 ( kok_cons Tryd.tok164 ( kok_cons Tryd.tok166 ( kok_cons Tryd.tok168 ( kok_cons Tryd.tok170 ( kok_cons Tryd.tok172 ( kok_cons Tryd.tok173 ( kok_cons Tryd.tok174 ( kok_cons Tryd.tok175 ( kok_cons Tryd.tok177 ( kok_cons Tryd.tok178 ( kok_cons Tryd.tok179 ( kok_cons Tryd.tok180 ( kok_cons Tryd.tok181 ( kok_cons Tryd.tok182 ( kok_cons Tryd.tok184 ( kok_cons Tryd.tok185 ( kok_cons Tryd.tok186 ( kok_cons Tryd.tok187 ( kok_cons Tryd.tok188 ( kok_cons Tryd.tok189 ( kok_cons Tryd.tok190 ( kok_cons Tryd.tok191 ( kok_cons Tryd.tok192 ( kok_cons Tryd.tok193 ( kok_cons Tryd.tok194 ( kok_cons Tryd.tok195 ( kok_cons Tryd.tok196 ( kok_cons Tryd.tok197 ( kok_cons Tryd.tok198 ( kok_cons Tryd.tok199 ( kok_cons Tryd.tok200 ( kok_cons Tryd.tok201 ( kok_cons Tryd.tok202 ( kok_cons Tryd.tok204 ( kok_cons Tryd.tok206 ( kok_cons Tryd.tok207 ( kok_cons Tryd.tok208 ( kok_cons Tryd.tok209 ( kok_cons Tryd.tok210 ( kok_cons Tryd.tok212 ( kok_cons Tryd.tok214 ( kok_cons Tryd.tok215 ( kok_cons Tryd.tok216 ( kok_cons Tryd.tok220 ( kok_cons Tryd.tok221 ( kok_cons Tryd.tok222 ( kok_cons Tryd.tok223 ( kok_cons Tryd.tok224 ( kok_cons Tryd.tok225 ( kok_cons Tryd.tok226 ( kok_cons Tryd.tok227 ( kok_nil)))))))))))))))))))))))))))))))))))))))))))))))))))))))))))))))))))))))))))))))))))))))))))))))))))))))))))))))))))))))))))))))))))))))))))))))))))))))))))))))))))))))))))))))))))))))))))))))))))))
noncomputable def Tryd.b1 : Code := Tryd.f1.body.getD .skip
noncomputable def Tryd.b2 : Code := Tryd.f2.body.getD .skip
noncomputable def Tryd.b3 : Code := Tryd.f3.body.getD .skip
noncomputable def Tryd.b4 : Code := Tryd.f4.body.getD .skip
noncomputable def Tryd.b5 : Code := Tryd.f5.body.getD .skip
noncomputable def Tryd.b8 : Code := Tryd.f8.body.getD .skip
noncomputable def Tryd.b12 : Code := Tryd.f12.body.getD .skip
noncomputable def Tryd.b13 : Code := Tryd.f13.body.getD .skip
noncomputable def Tryd.b14 : Code := Tryd.f14.body.getD .skip
noncomputable def Tryd.b15 : Code := Tryd.f15.body.getD .skip
noncomputable def Tryd.b16 : Code := Tryd.f16.body.getD .skip
noncomputable def Tryd.b18 : Code := Tryd.f18.body.getD .skip
noncomputable def Tryd.b19 : Code := Tryd.f19.body.getD .skip
noncomputable def Tryd.b20 : Code := Tryd.f20.body.getD .skip
noncomputable def Tryd.b21 : Code := Tryd.f21.body.getD .skip
noncomputable def Tryd.b22 : Code := Tryd.f22.body.getD .skip
noncomputable def Tryd.b23 : Code := Tryd.f23.body.getD .skip
noncomputable def Tryd.b24 : Code := Tryd.f24.body.getD .skip
noncomputable def Tryd.b25 : Code := Tryd.f25.body.getD .skip
noncomputable def Tryd.b26 : Code := Tryd.f26.body.getD .skip
noncomputable def Tryd.b27 : Code := Tryd.f27.body.getD .skip
noncomputable def Tryd.b28 : Code := Tryd.f28.body.getD .skip
noncomputable def Tryd.b29 : Code := Tryd.f29.body.getD .skip
noncomputable def Tryd.b38 : Code := Tryd.f38.body.getD .skip
noncomputable def Tryd.b41 : Code := Tryd.f41.body.getD .skip
noncomputable def Tryd.b42 : Code := Tryd.f42.body.getD .skip
noncomputable def Tryd.b43 : Code := Tryd.f43.body.getD .skip
noncomputable def Tryd.b44 : Code := Tryd.f44.body.getD .skip
noncomputable def Tryd.b45 : Code := Tryd.f45.body.getD .skip
noncomputable def Tryd.b46 : Code := Tryd.f46.body.getD .skip
noncomputable def Tryd.b47 : Code := Tryd.f47.body.getD .skip
noncomputable def Tryd.b48 : Code := Tryd.f48.body.getD .skip
noncomputable def Tryd.b49 : Code := Tryd.f49.body.getD .skip
noncomputable def Tryd.b50 : Code := Tryd.f50.body.getD .skip
noncomputable def Tryd.b52 : Code := Tryd.f52.body.getD .skip
noncomputable def Tryd.b53 : Code := Tryd.f53.body.getD .skip
noncomputable def Tryd.b54 : Code := Tryd.f54.body.getD .skip
noncomputable def Tryd.b55 : Code := Tryd.f55.body.getD .skip
noncomputable def Tryd.b63 : Code := Tryd.f63.body.getD .skip
noncomputable def Tryd.b67 : Code := Tryd.f67.body.getD .skip
noncomputable def Tryd.b68 : Code := Tryd.f68.body.getD .skip
noncomputable def Tryd.b70 : Code := Tryd.f70.body.getD .skip
noncomputable def Tryd.b71 : Code := Tryd.f71.body.getD .skip
noncomputable def Tryd.b72 : Code := Tryd.f72.body.getD .skip
noncomputable def Tryd.b73 : Code := Tryd.f73.body.getD .skip
noncomputable def Tryd.b75 : Code := Tryd.f75.body.getD .skip
noncomputable def Tryd.b76 : Code := Tryd.f76.body.getD .skip
noncomputable def Tryd.b77 : Code := Tryd.f77.body.getD .skip
noncomputable def Tryd.b78 : Code := Tryd.f78.body.getD .skip
noncomputable def Tryd.b80 : Code := Tryd.f80.body.getD .skip
noncomputable def Tryd.b103 : Code := Tryd.f103.body.getD .skip
noncomputable def Tryd.b105 : Code := Tryd.f105.body.getD .skip
noncomputable def Tryd.b106 : Code := Tryd.f106.body.getD .skip
noncomputable def Tryd.b107 : Code := Tryd.f107.body.getD .skip
noncomputable def Tryd.b109 : Code := Tryd.f109.body.getD .skip
noncomputable def Tryd.b110 : Code := Tryd.f110.body.getD .skip
noncomputable def Tryd.b111 : Code := Tryd.f111.body.getD .skip
noncomputable def Tryd.b130 : Code := Tryd.f130.body.getD .skip
noncomputable def Tryd.b136 : Code := Tryd.f136.body.getD .skip
noncomputable def Tryd.b155 : Code := Tryd.f155.body.getD .skip
end Go.Proofs
