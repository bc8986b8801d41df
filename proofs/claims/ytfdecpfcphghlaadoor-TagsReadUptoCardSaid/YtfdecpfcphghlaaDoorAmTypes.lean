import Derived.Test.YtfdecpfcphghlaaDoorAmFn
import Derived.Test.YtfdecpfcphghlaaDoorProg
import Derived.KernelRfl
set_option linter.unusedVariables false
namespace Go.Proofs
open Go Go.AM

def Tryd.tk1 : TK := ⟨false, 1, 8, [.d (.v (.nilFunc))], .func, false⟩
theorem Tryd.tok1 : TOk Tryd.prog 1 Tryd.tk1 := tok_mk (sz := 1) (bytes := 8) (z := .nilFunc) (fun h => by cases h) (by kernel_rfl) Tryd.underlying1 ⟨_, _, _, Tryd.underlying1⟩ rfl (by kernel_rfl) rfl
def Tryd.tk2 : TK := ⟨false, 1, 8, [.d (.v (.int .i64 0))], .int .i64, false⟩
theorem Tryd.tok2 : TOk Tryd.prog 2 Tryd.tk2 := tok_mk (sz := 1) (bytes := 8) (z := .int .i64 0) (fun h => by cases h) (by kernel_rfl) Tryd.underlying2 Tryd.underlying2 rfl (by kernel_rfl) rfl
def Tryd.tk3 : TK := ⟨false, 1, 8, [.d (.v (.int .i64 0))], .int .i64, false⟩
theorem Tryd.tok3 : TOk Tryd.prog 3 Tryd.tk3 := tok_mk (sz := 1) (bytes := 8) (z := .int .i64 0) (fun h => by cases h) (by kernel_rfl) Tryd.underlying3 Tryd.underlying3 rfl (by kernel_rfl) rfl
def Tryd.tk4 : TK := ⟨false, 1, 1, [.d (.v (.bool false))], .bool, false⟩
theorem Tryd.tok4 : TOk Tryd.prog 4 Tryd.tk4 := tok_mk (sz := 1) (bytes := 1) (z := .bool false) (fun h => by cases h) (by kernel_rfl) Tryd.underlying4 Tryd.underlying4 rfl (by kernel_rfl) rfl
def Tryd.tk5 : TK := ⟨false, 1, 1, [.d (.v (.int .u8 0))], .int .u8, false⟩
theorem Tryd.tok5 : TOk Tryd.prog 5 Tryd.tk5 := tok_mk (sz := 1) (bytes := 1) (z := .int .u8 0) (fun h => by cases h) (by kernel_rfl) Tryd.underlying5 Tryd.underlying5 rfl (by kernel_rfl) rfl
def Tryd.tk6 : TK := ⟨false, 1, 1, [.d (.v (.int .u8 0))], .int .u8, false⟩
theorem Tryd.tok6 : TOk Tryd.prog 6 Tryd.tk6 := tok_mk (sz := 1) (bytes := 1) (z := .int .u8 0) (fun h => by cases h) (by kernel_rfl) Tryd.underlying6 Tryd.underlying6 rfl (by kernel_rfl) rfl
def Tryd.tk7 : TK := ⟨true, 4, 24, [.d (.v (.int .i64 0)), .d (.v (.int .i64 0)), .d (.v (.bool false)), .d (.v (.int .u8 0))], .struct [(0, 2), (1, 3), (2, 4), (3, 6)], false⟩
theorem Tryd.tok7 : TOk Tryd.prog 7 Tryd.tk7 := tok_mk (sz := 4) (bytes := 24) (z := .agg #[.int .i64 0, .int .i64 0, .bool false, .int .u8 0]) (fun h => by cases h) (by kernel_rfl) Tryd.underlying7 ⟨_, Tryd.underlying7, by kernel_rfl⟩ rfl (by kernel_rfl) rfl
def Tryd.tk8 : TK := ⟨true, 4, 24, [.d (.v (.int .i64 0)), .d (.v (.int .i64 0)), .d (.v (.bool false)), .d (.v (.int .u8 0))], .struct [(0, 2), (1, 3), (2, 4), (3, 6)], false⟩
theorem Tryd.tok8 : TOk Tryd.prog 8 Tryd.tk8 := tok_mk (sz := 4) (bytes := 24) (z := .agg #[.int .i64 0, .int .i64 0, .bool false, .int .u8 0]) (fun h => by cases h) (by kernel_rfl) Tryd.underlying8 ⟨_, Tryd.underlying8, by kernel_rfl⟩ rfl (by kernel_rfl) rfl
def Tryd.tk9 : TK := ⟨false, 1, 16, [.d (.v (.string ⟨#[]⟩))], .str, false⟩
theorem Tryd.tok9 : TOk Tryd.prog 9 Tryd.tk9 := tok_mk (sz := 1) (bytes := 16) (z := .string ⟨#[]⟩) (fun h => by cases h) (by kernel_rfl) Tryd.underlying9 Tryd.underlying9 rfl (by kernel_rfl) rfl
def Tryd.tk10 : TK := ⟨false, 1, 16, [.d (.v (.string ⟨#[]⟩))], .str, false⟩
theorem Tryd.tok10 : TOk Tryd.prog 10 Tryd.tk10 := tok_mk (sz := 1) (bytes := 16) (z := .string ⟨#[]⟩) (fun h => by cases h) (by kernel_rfl) Tryd.underlying10 Tryd.underlying10 rfl (by kernel_rfl) rfl
def Tryd.tk11 : TK := ⟨false, 1, 16, [.d (.v (.string ⟨#[]⟩))], .str, false⟩
theorem Tryd.tok11 : TOk Tryd.prog 11 Tryd.tk11 := tok_mk (sz := 1) (bytes := 16) (z := .string ⟨#[]⟩) (fun h => by cases h) (by kernel_rfl) Tryd.underlying11 Tryd.underlying11 rfl (by kernel_rfl) rfl
def Tryd.tk12 : TK := ⟨false, 1, 8, [.d (.v (.int .u64 0))], .int .u64, false⟩
theorem Tryd.tok12 : TOk Tryd.prog 12 Tryd.tk12 := tok_mk (sz := 1) (bytes := 8) (z := .int .u64 0) (fun h => by cases h) (by kernel_rfl) Tryd.underlying12 Tryd.underlying12 rfl (by kernel_rfl) rfl
def Tryd.tk13 : TK := ⟨true, 2, 24, [.d (.v (.string ⟨#[]⟩)), .d (.v (.int .u64 0))], .struct [(0, 9), (1, 12)], false⟩
theorem Tryd.tok13 : TOk Tryd.prog 13 Tryd.tk13 := tok_mk (sz := 2) (bytes := 24) (z := .agg #[.string ⟨#[]⟩, .int .u64 0]) (fun h => by cases h) (by kernel_rfl) Tryd.underlying13 ⟨_, Tryd.underlying13, by kernel_rfl⟩ rfl (by kernel_rfl) rfl
def Tryd.tk14 : TK := ⟨true, 2, 24, [.d (.v (.string ⟨#[]⟩)), .d (.v (.int .u64 0))], .struct [(0, 9), (1, 12)], false⟩
theorem Tryd.tok14 : TOk Tryd.prog 14 Tryd.tk14 := tok_mk (sz := 2) (bytes := 24) (z := .agg #[.string ⟨#[]⟩, .int .u64 0]) (fun h => by cases h) (by kernel_rfl) Tryd.underlying14 ⟨_, Tryd.underlying14, by kernel_rfl⟩ rfl (by kernel_rfl) rfl
def Tryd.tk15 : TK := ⟨false, 1, 8, [.d (.v (.pointer none))], .ptr 115, false⟩
theorem Tryd.tok15 : TOk Tryd.prog 15 Tryd.tk15 := tok_mk (sz := 1) (bytes := 8) (z := .pointer none) (fun h => by cases h) (by kernel_rfl) Tryd.underlying15 Tryd.underlying15 rfl (by kernel_rfl) rfl
def Tryd.tk16 : TK := ⟨false, 1, 8, [.d (.v (.pointer none))], .ptr 118, false⟩
theorem Tryd.tok16 : TOk Tryd.prog 16 Tryd.tk16 := tok_mk (sz := 1) (bytes := 8) (z := .pointer none) (fun h => by cases h) (by kernel_rfl) Tryd.underlying16 Tryd.underlying16 rfl (by kernel_rfl) rfl
def Tryd.tk17 : TK := ⟨false, 1, 8, [.d (.v (.pointer none))], .ptr 125, false⟩
theorem Tryd.tok17 : TOk Tryd.prog 17 Tryd.tk17 := tok_mk (sz := 1) (bytes := 8) (z := .pointer none) (fun h => by cases h) (by kernel_rfl) Tryd.underlying17 Tryd.underlying17 rfl (by kernel_rfl) rfl
def Tryd.tk18 : TK := ⟨true, 1, 8, [.d (.v (.pointer none))], .struct [(0, 17)], false⟩
theorem Tryd.tok18 : TOk Tryd.prog 18 Tryd.tk18 := tok_mk (sz := 1) (bytes := 8) (z := .agg #[.pointer none]) (fun h => by cases h) (by kernel_rfl) Tryd.underlying18 ⟨_, Tryd.underlying18, by kernel_rfl⟩ rfl (by kernel_rfl) rfl
def Tryd.tk19 : TK := ⟨true, 1, 8, [.d (.v (.pointer none))], .struct [(0, 17)], false⟩
theorem Tryd.tok19 : TOk Tryd.prog 19 Tryd.tk19 := tok_mk (sz := 1) (bytes := 8) (z := .agg #[.pointer none]) (fun h => by cases h) (by kernel_rfl) Tryd.underlying19 ⟨_, Tryd.underlying19, by kernel_rfl⟩ rfl (by kernel_rfl) rfl
def Tryd.tk21 : TK := ⟨false, 1, 4, [.d (.v (.int .i32 0))], .int .i32, false⟩
theorem Tryd.tok21 : TOk Tryd.prog 21 Tryd.tk21 := tok_mk (sz := 1) (bytes := 4) (z := .int .i32 0) (fun h => by cases h) (by kernel_rfl) Tryd.underlying21 Tryd.underlying21 rfl (by kernel_rfl) rfl
def Tryd.tk22 : TK := ⟨false, 1, 8, [.d (.v (.nilFunc))], .func, false⟩
theorem Tryd.tok22 : TOk Tryd.prog 22 Tryd.tk22 := tok_mk (sz := 1) (bytes := 8) (z := .nilFunc) (fun h => by cases h) (by kernel_rfl) Tryd.underlying22 ⟨_, _, _, Tryd.underlying22⟩ rfl (by kernel_rfl) rfl
def Tryd.tk23 : TK := ⟨false, 1, 8, [.d (.v (.nilFunc))], .func, false⟩
theorem Tryd.tok23 : TOk Tryd.prog 23 Tryd.tk23 := tok_mk (sz := 1) (bytes := 8) (z := .nilFunc) (fun h => by cases h) (by kernel_rfl) Tryd.underlying23 ⟨_, _, _, Tryd.underlying23⟩ rfl (by kernel_rfl) rfl
def Tryd.tk24 : TK := ⟨false, 1, 8, [.d (.v (.pointer none))], .ptr 49, false⟩
theorem Tryd.tok24 : TOk Tryd.prog 24 Tryd.tk24 := tok_mk (sz := 1) (bytes := 8) (z := .pointer none) (fun h => by cases h) (by kernel_rfl) Tryd.underlying24 Tryd.underlying24 rfl (by kernel_rfl) rfl
def Tryd.tk25 : TK := ⟨false, 1, 8, [.d (.v (.nilFunc))], .func, false⟩
theorem Tryd.tok25 : TOk Tryd.prog 25 Tryd.tk25 := tok_mk (sz := 1) (bytes := 8) (z := .nilFunc) (fun h => by cases h) (by kernel_rfl) Tryd.underlying25 ⟨_, _, _, Tryd.underlying25⟩ rfl (by kernel_rfl) rfl
def Tryd.tk26 : TK := ⟨false, 1, 24, [.nl], .slice 44, false⟩
theorem Tryd.tok26 : TOk Tryd.prog 26 Tryd.tk26 := tok_mk (sz := 1) (bytes := 24) (z := .slice none 0 0) (fun h => by cases h) (by kernel_rfl) Tryd.underlying26 Tryd.underlying26 rfl (by kernel_rfl) rfl
def Tryd.tk27 : TK := ⟨false, 1, 8, [.d (.v (.int .i64 0))], .int .i64, false⟩
theorem Tryd.tok27 : TOk Tryd.prog 27 Tryd.tk27 := tok_mk (sz := 1) (bytes := 8) (z := .int .i64 0) (fun h => by cases h) (by kernel_rfl) Tryd.underlying27 Tryd.underlying27 rfl (by kernel_rfl) rfl
def Tryd.tk29 : TK := ⟨false, 1, 8, [.d (.v (.nilFunc))], .func, false⟩
theorem Tryd.tok29 : TOk Tryd.prog 29 Tryd.tk29 := tok_mk (sz := 1) (bytes := 8) (z := .nilFunc) (fun h => by cases h) (by kernel_rfl) Tryd.underlying29 ⟨_, _, _, Tryd.underlying29⟩ rfl (by kernel_rfl) rfl
def Tryd.tk30 : TK := ⟨false, 1, 24, [.nl], .slice 53, false⟩
theorem Tryd.tok30 : TOk Tryd.prog 30 Tryd.tk30 := tok_mk (sz := 1) (bytes := 24) (z := .slice none 0 0) (fun h => by cases h) (by kernel_rfl) Tryd.underlying30 Tryd.underlying30 rfl (by kernel_rfl) rfl
def Tryd.tk32 : TK := ⟨false, 1, 8, [.d (.v (.nilFunc))], .func, false⟩
theorem Tryd.tok32 : TOk Tryd.prog 32 Tryd.tk32 := tok_mk (sz := 1) (bytes := 8) (z := .nilFunc) (fun h => by cases h) (by kernel_rfl) Tryd.underlying32 ⟨_, _, _, Tryd.underlying32⟩ rfl (by kernel_rfl) rfl
def Tryd.tk33 : TK := ⟨false, 1, 8, [.d (.v (.nilFunc))], .func, false⟩
theorem Tryd.tok33 : TOk Tryd.prog 33 Tryd.tk33 := tok_mk (sz := 1) (bytes := 8) (z := .nilFunc) (fun h => by cases h) (by kernel_rfl) Tryd.underlying33 ⟨_, _, _, Tryd.underlying33⟩ rfl (by kernel_rfl) rfl
def Tryd.tk34 : TK := ⟨false, 1, 8, [.d (.v (.nilFunc))], .func, false⟩
theorem Tryd.tok34 : TOk Tryd.prog 34 Tryd.tk34 := tok_mk (sz := 1) (bytes := 8) (z := .nilFunc) (fun h => by cases h) (by kernel_rfl) Tryd.underlying34 ⟨_, _, _, Tryd.underlying34⟩ rfl (by kernel_rfl) rfl
def Tryd.tk35 : TK := ⟨false, 1, 8, [.d (.v (.nilFunc))], .func, false⟩
theorem Tryd.tok35 : TOk Tryd.prog 35 Tryd.tk35 := tok_mk (sz := 1) (bytes := 8) (z := .nilFunc) (fun h => by cases h) (by kernel_rfl) Tryd.underlying35 ⟨_, _, _, Tryd.underlying35⟩ rfl (by kernel_rfl) rfl
def Tryd.tk36 : TK := ⟨false, 1, 8, [.d (.v (.nilFunc))], .func, false⟩
theorem Tryd.tok36 : TOk Tryd.prog 36 Tryd.tk36 := tok_mk (sz := 1) (bytes := 8) (z := .nilFunc) (fun h => by cases h) (by kernel_rfl) Tryd.underlying36 ⟨_, _, _, Tryd.underlying36⟩ rfl (by kernel_rfl) rfl
def Tryd.tk37 : TK := ⟨false, 1, 24, [.nl], .slice 3, false⟩
theorem Tryd.tok37 : TOk Tryd.prog 37 Tryd.tk37 := tok_mk (sz := 1) (bytes := 24) (z := .slice none 0 0) (fun h => by cases h) (by kernel_rfl) Tryd.underlying37 Tryd.underlying37 rfl (by kernel_rfl) rfl
def Tryd.tk38 : TK := ⟨false, 1, 8, [.d (.v (.int .u64 0))], .int .u64, false⟩
theorem Tryd.tok38 : TOk Tryd.prog 38 Tryd.tk38 := tok_mk (sz := 1) (bytes := 8) (z := .int .u64 0) (fun h => by cases h) (by kernel_rfl) Tryd.underlying38 Tryd.underlying38 rfl (by kernel_rfl) rfl
def Tryd.tk39 : TK := ⟨false, 1, 8, [.d (.v (.nilFunc))], .func, false⟩
theorem Tryd.tok39 : TOk Tryd.prog 39 Tryd.tk39 := tok_mk (sz := 1) (bytes := 8) (z := .nilFunc) (fun h => by cases h) (by kernel_rfl) Tryd.underlying39 ⟨_, _, _, Tryd.underlying39⟩ rfl (by kernel_rfl) rfl
def Tryd.tk40 : TK := ⟨false, 1, 8, [.d (.v (.nilFunc))], .func, false⟩
theorem Tryd.tok40 : TOk Tryd.prog 40 Tryd.tk40 := tok_mk (sz := 1) (bytes := 8) (z := .nilFunc) (fun h => by cases h) (by kernel_rfl) Tryd.underlying40 ⟨_, _, _, Tryd.underlying40⟩ rfl (by kernel_rfl) rfl
def Tryd.tk41 : TK := ⟨false, 1, 8, [.d (.v (.nilFunc))], .func, false⟩
theorem Tryd.tok41 : TOk Tryd.prog 41 Tryd.tk41 := tok_mk (sz := 1) (bytes := 8) (z := .nilFunc) (fun h => by cases h) (by kernel_rfl) Tryd.underlying41 ⟨_, _, _, Tryd.underlying41⟩ rfl (by kernel_rfl) rfl
def Tryd.tk42 : TK := ⟨false, 1, 24, [.nl], .slice 46, false⟩
theorem Tryd.tok42 : TOk Tryd.prog 42 Tryd.tk42 := tok_mk (sz := 1) (bytes := 24) (z := .slice none 0 0) (fun h => by cases h) (by kernel_rfl) Tryd.underlying42 Tryd.underlying42 rfl (by kernel_rfl) rfl
def Tryd.tk43 : TK := ⟨true, 4, 64, [.d (.v (.int .i64 0)), .d (.v (.string ⟨#[]⟩)), .nl, .d (.v (.string ⟨#[]⟩))], .struct [(0, 3), (1, 9), (2, 42), (3, 9)], false⟩
theorem Tryd.tok43 : TOk Tryd.prog 43 Tryd.tk43 := tok_mk (sz := 4) (bytes := 64) (z := .agg #[.int .i64 0, .string ⟨#[]⟩, .slice none 0 0, .string ⟨#[]⟩]) (fun h => by cases h) (by kernel_rfl) Tryd.underlying43 ⟨_, Tryd.underlying43, by kernel_rfl⟩ rfl (by kernel_rfl) rfl
def Tryd.tk44 : TK := ⟨true, 4, 64, [.d (.v (.int .i64 0)), .d (.v (.string ⟨#[]⟩)), .nl, .d (.v (.string ⟨#[]⟩))], .struct [(0, 3), (1, 9), (2, 42), (3, 9)], false⟩
theorem Tryd.tok44 : TOk Tryd.prog 44 Tryd.tk44 := tok_mk (sz := 4) (bytes := 64) (z := .agg #[.int .i64 0, .string ⟨#[]⟩, .slice none 0 0, .string ⟨#[]⟩]) (fun h => by cases h) (by kernel_rfl) Tryd.underlying44 ⟨_, Tryd.underlying44, by kernel_rfl⟩ rfl (by kernel_rfl) rfl
def Tryd.tk45 : TK := ⟨true, 2, 32, [.d (.v (.string ⟨#[]⟩)), .d (.v (.string ⟨#[]⟩))], .struct [(0, 9), (1, 9)], false⟩
theorem Tryd.tok45 : TOk Tryd.prog 45 Tryd.tk45 := tok_mk (sz := 2) (bytes := 32) (z := .agg #[.string ⟨#[]⟩, .string ⟨#[]⟩]) (fun h => by cases h) (by kernel_rfl) Tryd.underlying45 ⟨_, Tryd.underlying45, by kernel_rfl⟩ rfl (by kernel_rfl) rfl
def Tryd.tk46 : TK := ⟨true, 2, 32, [.d (.v (.string ⟨#[]⟩)), .d (.v (.string ⟨#[]⟩))], .struct [(0, 9), (1, 9)], true⟩
theorem Tryd.tok46 : TOk Tryd.prog 46 Tryd.tk46 := tok_mk (sz := 2) (bytes := 32) (z := .agg #[.string ⟨#[]⟩, .string ⟨#[]⟩]) (fun _ => by kernel_rfl) (by kernel_rfl) Tryd.underlying46 ⟨_, Tryd.underlying46, by kernel_rfl⟩ rfl (by kernel_rfl) rfl
def Tryd.tk47 : TK := ⟨false, 1, 24, [.nl], .slice 5, false⟩
theorem Tryd.tok47 : TOk Tryd.prog 47 Tryd.tk47 := tok_mk (sz := 1) (bytes := 24) (z := .slice none 0 0) (fun h => by cases h) (by kernel_rfl) Tryd.underlying47 Tryd.underlying47 rfl (by kernel_rfl) rfl
def Tryd.tk48 : TK := ⟨true, 3, 40, [.nl, .d (.v (.bool false)), .d (.v (.int .i64 0))], .struct [(0, 47), (1, 4), (2, 27)], false⟩
theorem Tryd.tok48 : TOk Tryd.prog 48 Tryd.tk48 := tok_mk (sz := 3) (bytes := 40) (z := .agg #[.slice none 0 0, .bool false, .int .i64 0]) (fun h => by cases h) (by kernel_rfl) Tryd.underlying48 ⟨_, Tryd.underlying48, by kernel_rfl⟩ rfl (by kernel_rfl) rfl
def Tryd.tk49 : TK := ⟨true, 3, 40, [.nl, .d (.v (.bool false)), .d (.v (.int .i64 0))], .struct [(0, 47), (1, 4), (2, 27)], false⟩
theorem Tryd.tok49 : TOk Tryd.prog 49 Tryd.tk49 := tok_mk (sz := 3) (bytes := 40) (z := .agg #[.slice none 0 0, .bool false, .int .i64 0]) (fun h => by cases h) (by kernel_rfl) Tryd.underlying49 ⟨_, Tryd.underlying49, by kernel_rfl⟩ rfl (by kernel_rfl) rfl
def Tryd.tk50 : TK := ⟨false, 1, 8, [.d (.v (.nilFunc))], .func, false⟩
theorem Tryd.tok50 : TOk Tryd.prog 50 Tryd.tk50 := tok_mk (sz := 1) (bytes := 8) (z := .nilFunc) (fun h => by cases h) (by kernel_rfl) Tryd.underlying50 ⟨_, _, _, Tryd.underlying50⟩ rfl (by kernel_rfl) rfl
def Tryd.tk52 : TK := ⟨false, 1, 8, [.d (.v (.nilFunc))], .func, false⟩
theorem Tryd.tok52 : TOk Tryd.prog 52 Tryd.tk52 := tok_mk (sz := 1) (bytes := 8) (z := .nilFunc) (fun h => by cases h) (by kernel_rfl) Tryd.underlying52 ⟨_, _, _, Tryd.underlying52⟩ rfl (by kernel_rfl) rfl
def Tryd.tk53 : TK := ⟨true, 4, 64, [.d (.v (.int .i64 0)), .d (.v (.string ⟨#[]⟩)), .nl, .d (.v (.string ⟨#[]⟩))], .struct [(0, 3), (1, 9), (2, 42), (3, 9)], false⟩
theorem Tryd.tok53 : TOk Tryd.prog 53 Tryd.tk53 := tok_mk (sz := 4) (bytes := 64) (z := .agg #[.int .i64 0, .string ⟨#[]⟩, .slice none 0 0, .string ⟨#[]⟩]) (fun h => by cases h) (by kernel_rfl) Tryd.underlying53 ⟨_, Tryd.underlying53, by kernel_rfl⟩ rfl (by kernel_rfl) rfl
def Tryd.tk55 : TK := ⟨false, 1, 8, [.d (.v (.nilFunc))], .func, false⟩
theorem Tryd.tok55 : TOk Tryd.prog 55 Tryd.tk55 := tok_mk (sz := 1) (bytes := 8) (z := .nilFunc) (fun h => by cases h) (by kernel_rfl) Tryd.underlying55 ⟨_, _, _, Tryd.underlying55⟩ rfl (by kernel_rfl) rfl
def Tryd.tk56 : TK := ⟨false, 1, 8, [.d (.v (.nilFunc))], .func, false⟩
theorem Tryd.tok56 : TOk Tryd.prog 56 Tryd.tk56 := tok_mk (sz := 1) (bytes := 8) (z := .nilFunc) (fun h => by cases h) (by kernel_rfl) Tryd.underlying56 ⟨_, _, _, Tryd.underlying56⟩ rfl (by kernel_rfl) rfl
def Tryd.tk57 : TK := ⟨false, 1, 8, [.d (.v (.nilFunc))], .func, false⟩
theorem Tryd.tok57 : TOk Tryd.prog 57 Tryd.tk57 := tok_mk (sz := 1) (bytes := 8) (z := .nilFunc) (fun h => by cases h) (by kernel_rfl) Tryd.underlying57 ⟨_, _, _, Tryd.underlying57⟩ rfl (by kernel_rfl) rfl
def Tryd.tk58 : TK := ⟨true, 2, 32, [.d (.v (.string ⟨#[]⟩)), .d (.v (.string ⟨#[]⟩))], .array 2 9, false⟩
theorem Tryd.tok58 : TOk Tryd.prog 58 Tryd.tk58 := tok_mk (sz := 2) (bytes := 32) (z := .agg #[.string ⟨#[]⟩, .string ⟨#[]⟩]) (fun h => by cases h) (by kernel_rfl) Tryd.underlying58 Tryd.underlying58 rfl (by kernel_rfl) rfl
def Tryd.tk59 : TK := ⟨true, 10, 160, [.d (.v (.string ⟨#[]⟩)), .d (.v (.string ⟨#[]⟩)), .d (.v (.string ⟨#[]⟩)), .d (.v (.string ⟨#[]⟩)), .d (.v (.string ⟨#[]⟩)), .d (.v (.string ⟨#[]⟩)), .d (.v (.string ⟨#[]⟩)), .d (.v (.string ⟨#[]⟩)), .d (.v (.string ⟨#[]⟩)), .d (.v (.string ⟨#[]⟩))], .array 5 58, false⟩
theorem Tryd.tok59 : TOk Tryd.prog 59 Tryd.tk59 := tok_mk (sz := 10) (bytes := 160) (z := .agg #[.string ⟨#[]⟩, .string ⟨#[]⟩, .string ⟨#[]⟩, .string ⟨#[]⟩, .string ⟨#[]⟩, .string ⟨#[]⟩, .string ⟨#[]⟩, .string ⟨#[]⟩, .string ⟨#[]⟩, .string ⟨#[]⟩]) (fun h => by cases h) (by kernel_rfl) Tryd.underlying59 Tryd.underlying59 rfl (by kernel_rfl) rfl
def Tryd.tk60 : TK := ⟨false, 1, 8, [.d (.v (.nilFunc))], .func, false⟩
theorem Tryd.tok60 : TOk Tryd.prog 60 Tryd.tk60 := tok_mk (sz := 1) (bytes := 8) (z := .nilFunc) (fun h => by cases h) (by kernel_rfl) Tryd.underlying60 ⟨_, _, _, Tryd.underlying60⟩ rfl (by kernel_rfl) rfl
def Tryd.tk61 : TK := ⟨false, 1, 8, [.d (.v (.nilFunc))], .func, false⟩
theorem Tryd.tok61 : TOk Tryd.prog 61 Tryd.tk61 := tok_mk (sz := 1) (bytes := 8) (z := .nilFunc) (fun h => by cases h) (by kernel_rfl) Tryd.underlying61 ⟨_, _, _, Tryd.underlying61⟩ rfl (by kernel_rfl) rfl
def Tryd.tk63 : TK := ⟨false, 1, 8, [.d (.v (.nilFunc))], .func, false⟩
theorem Tryd.tok63 : TOk Tryd.prog 63 Tryd.tk63 := tok_mk (sz := 1) (bytes := 8) (z := .nilFunc) (fun h => by cases h) (by kernel_rfl) Tryd.underlying63 ⟨_, _, _, Tryd.underlying63⟩ rfl (by kernel_rfl) rfl
def Tryd.tk65 : TK := ⟨false, 1, 8, [.d (.v (.nilFunc))], .func, false⟩
theorem Tryd.tok65 : TOk Tryd.prog 65 Tryd.tk65 := tok_mk (sz := 1) (bytes := 8) (z := .nilFunc) (fun h => by cases h) (by kernel_rfl) Tryd.underlying65 ⟨_, _, _, Tryd.underlying65⟩ rfl (by kernel_rfl) rfl
def Tryd.tk67 : TK := ⟨false, 1, 8, [.d (.v (.nilFunc))], .func, false⟩
theorem Tryd.tok67 : TOk Tryd.prog 67 Tryd.tk67 := tok_mk (sz := 1) (bytes := 8) (z := .nilFunc) (fun h => by cases h) (by kernel_rfl) Tryd.underlying67 ⟨_, _, _, Tryd.underlying67⟩ rfl (by kernel_rfl) rfl
def Tryd.tk68 : TK := ⟨false, 1, 8, [.d (.v (.nilFunc))], .func, false⟩
theorem Tryd.tok68 : TOk Tryd.prog 68 Tryd.tk68 := tok_mk (sz := 1) (bytes := 8) (z := .nilFunc) (fun h => by cases h) (by kernel_rfl) Tryd.underlying68 ⟨_, _, _, Tryd.underlying68⟩ rfl (by kernel_rfl) rfl
def Tryd.tk69 : TK := ⟨false, 1, 8, [.d (.v (.nilFunc))], .func, false⟩
theorem Tryd.tok69 : TOk Tryd.prog 69 Tryd.tk69 := tok_mk (sz := 1) (bytes := 8) (z := .nilFunc) (fun h => by cases h) (by kernel_rfl) Tryd.underlying69 ⟨_, _, _, Tryd.underlying69⟩ rfl (by kernel_rfl) rfl
def Tryd.tk70 : TK := ⟨false, 1, 8, [.d (.v (.pointer none))], .ptr 72, false⟩
theorem Tryd.tok70 : TOk Tryd.prog 70 Tryd.tk70 := tok_mk (sz := 1) (bytes := 8) (z := .pointer none) (fun h => by cases h) (by kernel_rfl) Tryd.underlying70 Tryd.underlying70 rfl (by kernel_rfl) rfl
def Tryd.tk71 : TK := ⟨true, 2, 32, [.d (.v (.pointer none)), .nl], .struct [(0, 70), (1, 47)], false⟩
theorem Tryd.tok71 : TOk Tryd.prog 71 Tryd.tk71 := tok_mk (sz := 2) (bytes := 32) (z := .agg #[.pointer none, .slice none 0 0]) (fun h => by cases h) (by kernel_rfl) Tryd.underlying71 ⟨_, Tryd.underlying71, by kernel_rfl⟩ rfl (by kernel_rfl) rfl
def Tryd.tk72 : TK := ⟨true, 2, 32, [.d (.v (.pointer none)), .nl], .struct [(0, 70), (1, 47)], false⟩
theorem Tryd.tok72 : TOk Tryd.prog 72 Tryd.tk72 := tok_mk (sz := 2) (bytes := 32) (z := .agg #[.pointer none, .slice none 0 0]) (fun h => by cases h) (by kernel_rfl) Tryd.underlying72 ⟨_, Tryd.underlying72, by kernel_rfl⟩ rfl (by kernel_rfl) rfl
def Tryd.tk74 : TK := ⟨false, 1, 8, [.d (.v (.nilFunc))], .func, false⟩
theorem Tryd.tok74 : TOk Tryd.prog 74 Tryd.tk74 := tok_mk (sz := 1) (bytes := 8) (z := .nilFunc) (fun h => by cases h) (by kernel_rfl) Tryd.underlying74 ⟨_, _, _, Tryd.underlying74⟩ rfl (by kernel_rfl) rfl
def Tryd.tk78 : TK := ⟨false, 1, 8, [.d (.v (.nilFunc))], .func, false⟩
theorem Tryd.tok78 : TOk Tryd.prog 78 Tryd.tk78 := tok_mk (sz := 1) (bytes := 8) (z := .nilFunc) (fun h => by cases h) (by kernel_rfl) Tryd.underlying78 ⟨_, _, _, Tryd.underlying78⟩ rfl (by kernel_rfl) rfl
def Tryd.tk79 : TK := ⟨false, 1, 8, [.d (.v (.nilFunc))], .func, false⟩
theorem Tryd.tok79 : TOk Tryd.prog 79 Tryd.tk79 := tok_mk (sz := 1) (bytes := 8) (z := .nilFunc) (fun h => by cases h) (by kernel_rfl) Tryd.underlying79 ⟨_, _, _, Tryd.underlying79⟩ rfl (by kernel_rfl) rfl
def Tryd.tk80 : TK := ⟨false, 1, 8, [.d (.v (.nilFunc))], .func, false⟩
theorem Tryd.tok80 : TOk Tryd.prog 80 Tryd.tk80 := tok_mk (sz := 1) (bytes := 8) (z := .nilFunc) (fun h => by cases h) (by kernel_rfl) Tryd.underlying80 ⟨_, _, _, Tryd.underlying80⟩ rfl (by kernel_rfl) rfl
def Tryd.tk81 : TK := ⟨false, 1, 8, [.d (.v (.nilFunc))], .func, false⟩
theorem Tryd.tok81 : TOk Tryd.prog 81 Tryd.tk81 := tok_mk (sz := 1) (bytes := 8) (z := .nilFunc) (fun h => by cases h) (by kernel_rfl) Tryd.underlying81 ⟨_, _, _, Tryd.underlying81⟩ rfl (by kernel_rfl) rfl
def Tryd.tk82 : TK := ⟨false, 1, 8, [.d (.v (.nilFunc))], .func, false⟩
theorem Tryd.tok82 : TOk Tryd.prog 82 Tryd.tk82 := tok_mk (sz := 1) (bytes := 8) (z := .nilFunc) (fun h => by cases h) (by kernel_rfl) Tryd.underlying82 ⟨_, _, _, Tryd.underlying82⟩ rfl (by kernel_rfl) rfl
def Tryd.tk84 : TK := ⟨false, 1, 8, [.d (.v (.nilFunc))], .func, false⟩
theorem Tryd.tok84 : TOk Tryd.prog 84 Tryd.tk84 := tok_mk (sz := 1) (bytes := 8) (z := .nilFunc) (fun h => by cases h) (by kernel_rfl) Tryd.underlying84 ⟨_, _, _, Tryd.underlying84⟩ rfl (by kernel_rfl) rfl
def Tryd.tk85 : TK := ⟨false, 1, 8, [.d (.v (.nilFunc))], .func, false⟩
theorem Tryd.tok85 : TOk Tryd.prog 85 Tryd.tk85 := tok_mk (sz := 1) (bytes := 8) (z := .nilFunc) (fun h => by cases h) (by kernel_rfl) Tryd.underlying85 ⟨_, _, _, Tryd.underlying85⟩ rfl (by kernel_rfl) rfl
def Tryd.tk86 : TK := ⟨false, 1, 8, [.d (.v (.nilFunc))], .func, false⟩
theorem Tryd.tok86 : TOk Tryd.prog 86 Tryd.tk86 := tok_mk (sz := 1) (bytes := 8) (z := .nilFunc) (fun h => by cases h) (by kernel_rfl) Tryd.underlying86 ⟨_, _, _, Tryd.underlying86⟩ rfl (by kernel_rfl) rfl
def Tryd.tk87 : TK := ⟨false, 1, 8, [.d (.v (.pointer none))], .ptr 5, false⟩
theorem Tryd.tok87 : TOk Tryd.prog 87 Tryd.tk87 := tok_mk (sz := 1) (bytes := 8) (z := .pointer none) (fun h => by cases h) (by kernel_rfl) Tryd.underlying87 Tryd.underlying87 rfl (by kernel_rfl) rfl
def Tryd.tk88 : TK := ⟨false, 1, 8, [.d (.v (.nilFunc))], .func, false⟩
theorem Tryd.tok88 : TOk Tryd.prog 88 Tryd.tk88 := tok_mk (sz := 1) (bytes := 8) (z := .nilFunc) (fun h => by cases h) (by kernel_rfl) Tryd.underlying88 ⟨_, _, _, Tryd.underlying88⟩ rfl (by kernel_rfl) rfl
def Tryd.tk90 : TK := ⟨true, 2, 2, [.d (.v (.int .u8 0)), .d (.v (.int .u8 0))], .struct [(0, 5), (1, 5)], false⟩
theorem Tryd.tok90 : TOk Tryd.prog 90 Tryd.tk90 := tok_mk (sz := 2) (bytes := 2) (z := .agg #[.int .u8 0, .int .u8 0]) (fun h => by cases h) (by kernel_rfl) Tryd.underlying90 ⟨_, Tryd.underlying90, by kernel_rfl⟩ rfl (by kernel_rfl) rfl
def Tryd.tk91 : TK := ⟨true, 2, 2, [.d (.v (.int .u8 0)), .d (.v (.int .u8 0))], .struct [(0, 5), (1, 5)], false⟩
theorem Tryd.tok91 : TOk Tryd.prog 91 Tryd.tk91 := tok_mk (sz := 2) (bytes := 2) (z := .agg #[.int .u8 0, .int .u8 0]) (fun h => by cases h) (by kernel_rfl) Tryd.underlying91 ⟨_, Tryd.underlying91, by kernel_rfl⟩ rfl (by kernel_rfl) rfl
def Tryd.tk92 : TK := ⟨true, 32, 32, [.d (.v (.int .u8 0)), .d (.v (.int .u8 0)), .d (.v (.int .u8 0)), .d (.v (.int .u8 0)), .d (.v (.int .u8 0)), .d (.v (.int .u8 0)), .d (.v (.int .u8 0)), .d (.v (.int .u8 0)), .d (.v (.int .u8 0)), .d (.v (.int .u8 0)), .d (.v (.int .u8 0)), .d (.v (.int .u8 0)), .d (.v (.int .u8 0)), .d (.v (.int .u8 0)), .d (.v (.int .u8 0)), .d (.v (.int .u8 0)), .d (.v (.int .u8 0)), .d (.v (.int .u8 0)), .d (.v (.int .u8 0)), .d (.v (.int .u8 0)), .d (.v (.int .u8 0)), .d (.v (.int .u8 0)), .d (.v (.int .u8 0)), .d (.v (.int .u8 0)), .d (.v (.int .u8 0)), .d (.v (.int .u8 0)), .d (.v (.int .u8 0)), .d (.v (.int .u8 0)), .d (.v (.int .u8 0)), .d (.v (.int .u8 0)), .d (.v (.int .u8 0)), .d (.v (.int .u8 0))], .array 16 91, false⟩
theorem Tryd.tok92 : TOk Tryd.prog 92 Tryd.tk92 := tok_mk (sz := 32) (bytes := 32) (z := .agg #[.int .u8 0, .int .u8 0, .int .u8 0, .int .u8 0, .int .u8 0, .int .u8 0, .int .u8 0, .int .u8 0, .int .u8 0, .int .u8 0, .int .u8 0, .int .u8 0, .int .u8 0, .int .u8 0, .int .u8 0, .int .u8 0, .int .u8 0, .int .u8 0, .int .u8 0, .int .u8 0, .int .u8 0, .int .u8 0, .int .u8 0, .int .u8 0, .int .u8 0, .int .u8 0, .int .u8 0, .int .u8 0, .int .u8 0, .int .u8 0, .int .u8 0, .int .u8 0]) (fun h => by cases h) (by kernel_rfl) Tryd.underlying92 Tryd.underlying92 rfl (by kernel_rfl) rfl
def Tryd.tk93 : TK := ⟨false, 1, 8, [.d (.v (.nilFunc))], .func, false⟩
theorem Tryd.tok93 : TOk Tryd.prog 93 Tryd.tk93 := tok_mk (sz := 1) (bytes := 8) (z := .nilFunc) (fun h => by cases h) (by kernel_rfl) Tryd.underlying93 ⟨_, _, _, Tryd.underlying93⟩ rfl (by kernel_rfl) rfl
def Tryd.tk97 : TK := ⟨false, 1, 8, [.d (.v (.nilFunc))], .func, false⟩
theorem Tryd.tok97 : TOk Tryd.prog 97 Tryd.tk97 := tok_mk (sz := 1) (bytes := 8) (z := .nilFunc) (fun h => by cases h) (by kernel_rfl) Tryd.underlying97 ⟨_, _, _, Tryd.underlying97⟩ rfl (by kernel_rfl) rfl
def Tryd.tk98 : TK := ⟨false, 1, 8, [.d (.v (.nilFunc))], .func, false⟩
theorem Tryd.tok98 : TOk Tryd.prog 98 Tryd.tk98 := tok_mk (sz := 1) (bytes := 8) (z := .nilFunc) (fun h => by cases h) (by kernel_rfl) Tryd.underlying98 ⟨_, _, _, Tryd.underlying98⟩ rfl (by kernel_rfl) rfl
def Tryd.tk99 : TK := ⟨false, 1, 8, [.d (.v (.pointer none))], .ptr 95, false⟩
theorem Tryd.tok99 : TOk Tryd.prog 99 Tryd.tk99 := tok_mk (sz := 1) (bytes := 8) (z := .pointer none) (fun h => by cases h) (by kernel_rfl) Tryd.underlying99 Tryd.underlying99 rfl (by kernel_rfl) rfl
def Tryd.tk100 : TK := ⟨false, 1, 8, [.d (.v (.nilFunc))], .func, false⟩
theorem Tryd.tok100 : TOk Tryd.prog 100 Tryd.tk100 := tok_mk (sz := 1) (bytes := 8) (z := .nilFunc) (fun h => by cases h) (by kernel_rfl) Tryd.underlying100 ⟨_, _, _, Tryd.underlying100⟩ rfl (by kernel_rfl) rfl
def Tryd.tk101 : TK := ⟨false, 1, 8, [.d (.v (.nilFunc))], .func, false⟩
theorem Tryd.tok101 : TOk Tryd.prog 101 Tryd.tk101 := tok_mk (sz := 1) (bytes := 8) (z := .nilFunc) (fun h => by cases h) (by kernel_rfl) Tryd.underlying101 ⟨_, _, _, Tryd.underlying101⟩ rfl (by kernel_rfl) rfl
def Tryd.tk102 : TK := ⟨false, 1, 8, [.d (.v (.nilFunc))], .func, false⟩
theorem Tryd.tok102 : TOk Tryd.prog 102 Tryd.tk102 := tok_mk (sz := 1) (bytes := 8) (z := .nilFunc) (fun h => by cases h) (by kernel_rfl) Tryd.underlying102 ⟨_, _, _, Tryd.underlying102⟩ rfl (by kernel_rfl) rfl
def Tryd.tk104 : TK := ⟨false, 1, 8, [.d (.v (.nilFunc))], .func, false⟩
theorem Tryd.tok104 : TOk Tryd.prog 104 Tryd.tk104 := tok_mk (sz := 1) (bytes := 8) (z := .nilFunc) (fun h => by cases h) (by kernel_rfl) Tryd.underlying104 ⟨_, _, _, Tryd.underlying104⟩ rfl (by kernel_rfl) rfl
def Tryd.tk105 : TK := ⟨false, 1, 8, [.d (.v (.int .u64 0))], .int .u64, false⟩
theorem Tryd.tok105 : TOk Tryd.prog 105 Tryd.tk105 := tok_mk (sz := 1) (bytes := 8) (z := .int .u64 0) (fun h => by cases h) (by kernel_rfl) Tryd.underlying105 Tryd.underlying105 rfl (by kernel_rfl) rfl
def Tryd.tk107 : TK := ⟨false, 1, 8, [.d (.v (.nilFunc))], .func, false⟩
theorem Tryd.tok107 : TOk Tryd.prog 107 Tryd.tk107 := tok_mk (sz := 1) (bytes := 8) (z := .nilFunc) (fun h => by cases h) (by kernel_rfl) Tryd.underlying107 ⟨_, _, _, Tryd.underlying107⟩ rfl (by kernel_rfl) rfl
def Tryd.tk108 : TK := ⟨false, 1, 8, [.d (.v (.nilFunc))], .func, false⟩
theorem Tryd.tok108 : TOk Tryd.prog 108 Tryd.tk108 := tok_mk (sz := 1) (bytes := 8) (z := .nilFunc) (fun h => by cases h) (by kernel_rfl) Tryd.underlying108 ⟨_, _, _, Tryd.underlying108⟩ rfl (by kernel_rfl) rfl
def Tryd.tk109 : TK := ⟨false, 1, 8, [.d (.v (.nilFunc))], .func, false⟩
theorem Tryd.tok109 : TOk Tryd.prog 109 Tryd.tk109 := tok_mk (sz := 1) (bytes := 8) (z := .nilFunc) (fun h => by cases h) (by kernel_rfl) Tryd.underlying109 ⟨_, _, _, Tryd.underlying109⟩ rfl (by kernel_rfl) rfl
def Tryd.tk110 : TK := ⟨false, 1, 8, [.d (.v (.nilFunc))], .func, false⟩
theorem Tryd.tok110 : TOk Tryd.prog 110 Tryd.tk110 := tok_mk (sz := 1) (bytes := 8) (z := .nilFunc) (fun h => by cases h) (by kernel_rfl) Tryd.underlying110 ⟨_, _, _, Tryd.underlying110⟩ rfl (by kernel_rfl) rfl
def Tryd.tk111 : TK := ⟨false, 1, 4, [.d (.v (.int .u32 0))], .int .u32, false⟩
theorem Tryd.tok111 : TOk Tryd.prog 111 Tryd.tk111 := tok_mk (sz := 1) (bytes := 4) (z := .int .u32 0) (fun h => by cases h) (by kernel_rfl) Tryd.underlying111 Tryd.underlying111 rfl (by kernel_rfl) rfl
def Tryd.tk113 : TK := ⟨false, 1, 8, [.d (.v (.nilFunc))], .func, false⟩
theorem Tryd.tok113 : TOk Tryd.prog 113 Tryd.tk113 := tok_mk (sz := 1) (bytes := 8) (z := .nilFunc) (fun h => by cases h) (by kernel_rfl) Tryd.underlying113 ⟨_, _, _, Tryd.underlying113⟩ rfl (by kernel_rfl) rfl
def Tryd.tk114 : TK := ⟨true, 4, 40, [.d (.v (.pointer none)), .d (.v (.pointer none)), .d (.v (.pointer none)), .d (.v (.string ⟨#[]⟩))], .struct [(0, 17), (1, 17), (2, 17), (3, 9)], false⟩
theorem Tryd.tok114 : TOk Tryd.prog 114 Tryd.tk114 := tok_mk (sz := 4) (bytes := 40) (z := .agg #[.pointer none, .pointer none, .pointer none, .string ⟨#[]⟩]) (fun h => by cases h) (by kernel_rfl) Tryd.underlying114 ⟨_, Tryd.underlying114, by kernel_rfl⟩ rfl (by kernel_rfl) rfl
def Tryd.tk115 : TK := ⟨true, 4, 40, [.d (.v (.pointer none)), .d (.v (.pointer none)), .d (.v (.pointer none)), .d (.v (.string ⟨#[]⟩))], .struct [(0, 17), (1, 17), (2, 17), (3, 9)], false⟩
theorem Tryd.tok115 : TOk Tryd.prog 115 Tryd.tk115 := tok_mk (sz := 4) (bytes := 40) (z := .agg #[.pointer none, .pointer none, .pointer none, .string ⟨#[]⟩]) (fun h => by cases h) (by kernel_rfl) Tryd.underlying115 ⟨_, Tryd.underlying115, by kernel_rfl⟩ rfl (by kernel_rfl) rfl
def Tryd.tk119 : TK := ⟨false, 1, 1, [.d (.v (.int .u8 0))], .int .u8, false⟩
theorem Tryd.tok119 : TOk Tryd.prog 119 Tryd.tk119 := tok_mk (sz := 1) (bytes := 1) (z := .int .u8 0) (fun h => by cases h) (by kernel_rfl) Tryd.underlying119 Tryd.underlying119 rfl (by kernel_rfl) rfl
def Tryd.tk120 : TK := ⟨false, 1, 1, [.d (.v (.int .u8 0))], .int .u8, false⟩
theorem Tryd.tok120 : TOk Tryd.prog 120 Tryd.tk120 := tok_mk (sz := 1) (bytes := 1) (z := .int .u8 0) (fun h => by cases h) (by kernel_rfl) Tryd.underlying120 Tryd.underlying120 rfl (by kernel_rfl) rfl
def Tryd.tk121 : TK := ⟨false, 1, 8, [.d (.v (.nilFunc))], .func, false⟩
theorem Tryd.tok121 : TOk Tryd.prog 121 Tryd.tk121 := tok_mk (sz := 1) (bytes := 8) (z := .nilFunc) (fun h => by cases h) (by kernel_rfl) Tryd.underlying121 ⟨_, _, _, Tryd.underlying121⟩ rfl (by kernel_rfl) rfl
def Tryd.tk122 : TK := ⟨false, 1, 4, [.d (.v (.int .i32 0))], .int .i32, false⟩
theorem Tryd.tok122 : TOk Tryd.prog 122 Tryd.tk122 := tok_mk (sz := 1) (bytes := 4) (z := .int .i32 0) (fun h => by cases h) (by kernel_rfl) Tryd.underlying122 Tryd.underlying122 rfl (by kernel_rfl) rfl
def Tryd.tk123 : TK := ⟨false, 1, 4, [.d (.v (.int .i32 0))], .int .i32, false⟩
theorem Tryd.tok123 : TOk Tryd.prog 123 Tryd.tk123 := tok_mk (sz := 1) (bytes := 4) (z := .int .i32 0) (fun h => by cases h) (by kernel_rfl) Tryd.underlying123 Tryd.underlying123 rfl (by kernel_rfl) rfl
def Tryd.tk124 : TK := ⟨true, 11, 48, [.d (.v (.int .u64 0)), .d (.v (.int .u64 0)), .d (.v (.int .u32 0)), .d (.v (.int .u8 0)), .d (.v (.int .u8 0)), .d (.v (.int .u8 0)), .d (.v (.int .u8 0)), .d (.v (.nilFunc)), .d (.v (.pointer none)), .d (.v (.int .i32 0)), .d (.v (.int .i32 0))], .struct [(0, 12), (1, 12), (2, 111), (3, 119), (4, 5), (5, 5), (6, 120), (7, 121), (8, 87), (9, 122), (10, 123)], false⟩
theorem Tryd.tok124 : TOk Tryd.prog 124 Tryd.tk124 := tok_mk (sz := 11) (bytes := 48) (z := .agg #[.int .u64 0, .int .u64 0, .int .u32 0, .int .u8 0, .int .u8 0, .int .u8 0, .int .u8 0, .nilFunc, .pointer none, .int .i32 0, .int .i32 0]) (fun h => by cases h) (by kernel_rfl) Tryd.underlying124 ⟨_, Tryd.underlying124, by kernel_rfl⟩ rfl (by kernel_rfl) rfl
def Tryd.tk125 : TK := ⟨true, 11, 48, [.d (.v (.int .u64 0)), .d (.v (.int .u64 0)), .d (.v (.int .u32 0)), .d (.v (.int .u8 0)), .d (.v (.int .u8 0)), .d (.v (.int .u8 0)), .d (.v (.int .u8 0)), .d (.v (.nilFunc)), .d (.v (.pointer none)), .d (.v (.int .i32 0)), .d (.v (.int .i32 0))], .struct [(0, 12), (1, 12), (2, 111), (3, 119), (4, 5), (5, 5), (6, 120), (7, 121), (8, 87), (9, 122), (10, 123)], false⟩
theorem Tryd.tok125 : TOk Tryd.prog 125 Tryd.tk125 := tok_mk (sz := 11) (bytes := 48) (z := .agg #[.int .u64 0, .int .u64 0, .int .u32 0, .int .u8 0, .int .u8 0, .int .u8 0, .int .u8 0, .nilFunc, .pointer none, .int .i32 0, .int .i32 0]) (fun h => by cases h) (by kernel_rfl) Tryd.underlying125 ⟨_, Tryd.underlying125, by kernel_rfl⟩ rfl (by kernel_rfl) rfl
def Tryd.Ks : List (TypeId × TK) := [(1, Tryd.tk1), (2, Tryd.tk2), (3, Tryd.tk3), (4, Tryd.tk4), (5, Tryd.tk5), (6, Tryd.tk6), (7, Tryd.tk7), (8, Tryd.tk8), (9, Tryd.tk9), (10, Tryd.tk10), (11, Tryd.tk11), (12, Tryd.tk12), (13, Tryd.tk13), (14, Tryd.tk14), (15, Tryd.tk15), (16, Tryd.tk16), (17, Tryd.tk17), (18, Tryd.tk18), (19, Tryd.tk19), (21, Tryd.tk21), (22, Tryd.tk22), (23, Tryd.tk23), (24, Tryd.tk24), (25, Tryd.tk25), (26, Tryd.tk26), (27, Tryd.tk27), (29, Tryd.tk29), (30, Tryd.tk30), (32, Tryd.tk32), (33, Tryd.tk33), (34, Tryd.tk34), (35, Tryd.tk35), (36, Tryd.tk36), (37, Tryd.tk37), (38, Tryd.tk38), (39, Tryd.tk39), (40, Tryd.tk40), (41, Tryd.tk41), (42, Tryd.tk42), (43, Tryd.tk43), (44, Tryd.tk44), (45, Tryd.tk45), (46, Tryd.tk46), (47, Tryd.tk47), (48, Tryd.tk48), (49, Tryd.tk49), (50, Tryd.tk50), (52, Tryd.tk52), (53, Tryd.tk53), (55, Tryd.tk55), (56, Tryd.tk56), (57, Tryd.tk57), (58, Tryd.tk58), (59, Tryd.tk59), (60, Tryd.tk60), (61, Tryd.tk61), (63, Tryd.tk63), (65, Tryd.tk65), (67, Tryd.tk67), (68, Tryd.tk68), (69, Tryd.tk69), (70, Tryd.tk70), (71, Tryd.tk71), (72, Tryd.tk72), (74, Tryd.tk74), (78, Tryd.tk78), (79, Tryd.tk79), (80, Tryd.tk80), (81, Tryd.tk81), (82, Tryd.tk82), (84, Tryd.tk84), (85, Tryd.tk85), (86, Tryd.tk86), (87, Tryd.tk87), (88, Tryd.tk88), (90, Tryd.tk90), (91, Tryd.tk91), (92, Tryd.tk92), (93, Tryd.tk93), (97, Tryd.tk97), (98, Tryd.tk98), (99, Tryd.tk99), (100, Tryd.tk100), (101, Tryd.tk101), (102, Tryd.tk102), (104, Tryd.tk104), (105, Tryd.tk105), (107, Tryd.tk107), (108, Tryd.tk108), (109, Tryd.tk109), (110, Tryd.tk110), (111, Tryd.tk111), (113, Tryd.tk113), (114, Tryd.tk114), (115, Tryd.tk115), (119, Tryd.tk119), (120, Tryd.tk120), (121, Tryd.tk121), (122, Tryd.tk122), (123, Tryd.tk123), (124, Tryd.tk124), (125, Tryd.tk125)]
def Tryd.K : TypeId → Option TK := lkT Tryd.Ks
theorem Tryd.K_ok : KOk Tryd.prog Tryd.K := kok_cons Tryd.tok1 ( kok_cons Tryd.tok2 ( kok_cons Tryd.tok3 ( kok_cons Tryd.tok4 ( kok_cons Tryd.tok5 ( kok_cons Tryd.tok6 ( kok_cons Tryd.tok7 ( kok_cons Tryd.tok8 ( kok_cons Tryd.tok9 ( kok_cons Tryd.tok10 ( kok_cons Tryd.tok11 ( kok_cons Tryd.tok12 ( kok_cons Tryd.tok13 ( kok_cons Tryd.tok14 ( kok_cons Tryd.tok15 ( kok_cons Tryd.tok16 ( kok_cons Tryd.tok17 ( kok_cons Tryd.tok18 ( kok_cons Tryd.tok19 ( kok_cons Tryd.tok21 ( kok_cons Tryd.tok22 ( kok_cons Tryd.tok23 ( kok_cons Tryd.tok24 ( kok_cons Tryd.tok25 ( kok_cons Tryd.tok26 ( kok_cons Tryd.tok27 ( kok_cons Tryd.tok29 ( kok_cons Tryd.tok30 ( kok_cons Tryd.tok32 ( kok_cons Tryd.tok33 ( kok_cons Tryd.tok34 ( kok_cons Tryd.tok35 ( kok_cons Tryd.tok36 ( kok_cons Tryd.tok37 ( kok_cons Tryd.tok38 ( kok_cons Tryd.tok39 ( kok_cons Tryd.tok40 ( kok_cons Tryd.tok41 ( kok_cons Tryd.tok42 ( kok_cons Tryd.tok43 ( kok_cons Tryd.tok44 ( kok_cons Tryd.tok45 ( kok_cons Tryd.tok46 ( kok_cons Tryd.tok47 ( kok_cons Tryd.tok48 ( kok_cons Tryd.tok49 ( kok_cons Tryd.tok50 ( kok_cons Tryd.tok52 ( kok_cons Tryd.tok53 ( kok_cons Tryd.tok55 ( kok_cons Tryd.tok56 ( kok_cons Tryd.tok57 ( kok_cons Tryd.tok58 ( kok_cons Tryd.tok59 ( kok_cons Tryd.tok60 ( kok_cons Tryd.tok61 ( kok_cons Tryd.tok63 ( kok_cons Tryd.tok65 ( kok_cons Tryd.tok67 ( kok_cons Tryd.tok68 ( kok_cons Tryd.tok69 ( kok_cons Tryd.tok70 ( kok_cons Tryd.tok71 ( kok_cons Tryd.tok72 ( kok_cons Tryd.tok74 ( kok_cons Tryd.tok78 ( kok_cons Tryd.tok79 ( kok_cons Tryd.tok80 ( kok_cons Tryd.tok81 ( kok_cons Tryd.tok82 ( kok_cons Tryd.tok84 ( kok_cons Tryd.tok85 ( kok_cons Tryd.tok86 ( kok_cons Tryd.tok87 ( kok_cons Tryd.tok88 ( kok_cons Tryd.tok90 ( kok_cons Tryd.tok91 ( kok_cons Tryd.tok92 ( kok_cons Tryd.tok93 ( kok_cons Tryd.tok97 ( kok_cons Tryd.tok98 ( kok_cons Tryd.tok99 ( kok_cons Tryd.tok100 ( kok_cons Tryd.tok101 ( kok_cons Tryd.tok102 ( kok_cons Tryd.tok104 ( kok_cons Tryd.tok105 ( kok_cons Tryd.tok107 ( kok_cons Tryd.tok108 ( kok_cons Tryd.tok109 ( kok_cons Tryd.tok110 ( kok_cons Tryd.tok111 ( kok_cons Tryd.tok113 ( kok_cons Tryd.tok114 ( kok_cons Tryd.tok115 ( kok_cons Tryd.tok119 ( kok_cons Tryd.tok120 ( kok_cons Tryd.tok121 ( kok_cons Tryd.tok122 ( kok_cons Tryd.tok123 ( kok_cons Tryd.tok124 ( kok_cons Tryd.tok125 ( kok_nil))))))))))))))))))))))))))))))))))))))))))))))))))))))))))))))))))))))))))))))))))))))))))))))))))))))
theorem Tryd.K_1 : Tryd.K 1 = some ⟨false, 1, 8, [.d (.v (.nilFunc))], .func, false⟩ := by kernel_rfl
theorem Tryd.K_2 : Tryd.K 2 = some ⟨false, 1, 8, [.d (.v (.int .i64 0))], .int .i64, false⟩ := by kernel_rfl
theorem Tryd.K_3 : Tryd.K 3 = some ⟨false, 1, 8, [.d (.v (.int .i64 0))], .int .i64, false⟩ := by kernel_rfl
theorem Tryd.K_4 : Tryd.K 4 = some ⟨false, 1, 1, [.d (.v (.bool false))], .bool, false⟩ := by kernel_rfl
theorem Tryd.K_5 : Tryd.K 5 = some ⟨false, 1, 1, [.d (.v (.int .u8 0))], .int .u8, false⟩ := by kernel_rfl
theorem Tryd.K_6 : Tryd.K 6 = some ⟨false, 1, 1, [.d (.v (.int .u8 0))], .int .u8, false⟩ := by kernel_rfl
theorem Tryd.K_7 : Tryd.K 7 = some ⟨true, 4, 24, [.d (.v (.int .i64 0)), .d (.v (.int .i64 0)), .d (.v (.bool false)), .d (.v (.int .u8 0))], .struct [(0, 2), (1, 3), (2, 4), (3, 6)], false⟩ := by kernel_rfl
theorem Tryd.K_8 : Tryd.K 8 = some ⟨true, 4, 24, [.d (.v (.int .i64 0)), .d (.v (.int .i64 0)), .d (.v (.bool false)), .d (.v (.int .u8 0))], .struct [(0, 2), (1, 3), (2, 4), (3, 6)], false⟩ := by kernel_rfl
theorem Tryd.K_9 : Tryd.K 9 = some ⟨false, 1, 16, [.d (.v (.string ⟨#[]⟩))], .str, false⟩ := by kernel_rfl
theorem Tryd.K_10 : Tryd.K 10 = some ⟨false, 1, 16, [.d (.v (.string ⟨#[]⟩))], .str, false⟩ := by kernel_rfl
theorem Tryd.K_11 : Tryd.K 11 = some ⟨false, 1, 16, [.d (.v (.string ⟨#[]⟩))], .str, false⟩ := by kernel_rfl
theorem Tryd.K_12 : Tryd.K 12 = some ⟨false, 1, 8, [.d (.v (.int .u64 0))], .int .u64, false⟩ := by kernel_rfl
theorem Tryd.K_13 : Tryd.K 13 = some ⟨true, 2, 24, [.d (.v (.string ⟨#[]⟩)), .d (.v (.int .u64 0))], .struct [(0, 9), (1, 12)], false⟩ := by kernel_rfl
theorem Tryd.K_14 : Tryd.K 14 = some ⟨true, 2, 24, [.d (.v (.string ⟨#[]⟩)), .d (.v (.int .u64 0))], .struct [(0, 9), (1, 12)], false⟩ := by kernel_rfl
theorem Tryd.K_15 : Tryd.K 15 = some ⟨false, 1, 8, [.d (.v (.pointer none))], .ptr 115, false⟩ := by kernel_rfl
theorem Tryd.K_16 : Tryd.K 16 = some ⟨false, 1, 8, [.d (.v (.pointer none))], .ptr 118, false⟩ := by kernel_rfl
theorem Tryd.K_17 : Tryd.K 17 = some ⟨false, 1, 8, [.d (.v (.pointer none))], .ptr 125, false⟩ := by kernel_rfl
theorem Tryd.K_18 : Tryd.K 18 = some ⟨true, 1, 8, [.d (.v (.pointer none))], .struct [(0, 17)], false⟩ := by kernel_rfl
theorem Tryd.K_19 : Tryd.K 19 = some ⟨true, 1, 8, [.d (.v (.pointer none))], .struct [(0, 17)], false⟩ := by kernel_rfl
theorem Tryd.K_21 : Tryd.K 21 = some ⟨false, 1, 4, [.d (.v (.int .i32 0))], .int .i32, false⟩ := by kernel_rfl
theorem Tryd.K_22 : Tryd.K 22 = some ⟨false, 1, 8, [.d (.v (.nilFunc))], .func, false⟩ := by kernel_rfl
theorem Tryd.K_23 : Tryd.K 23 = some ⟨false, 1, 8, [.d (.v (.nilFunc))], .func, false⟩ := by kernel_rfl
theorem Tryd.K_24 : Tryd.K 24 = some ⟨false, 1, 8, [.d (.v (.pointer none))], .ptr 49, false⟩ := by kernel_rfl
theorem Tryd.K_25 : Tryd.K 25 = some ⟨false, 1, 8, [.d (.v (.nilFunc))], .func, false⟩ := by kernel_rfl
theorem Tryd.K_26 : Tryd.K 26 = some ⟨false, 1, 24, [.nl], .slice 44, false⟩ := by kernel_rfl
theorem Tryd.K_27 : Tryd.K 27 = some ⟨false, 1, 8, [.d (.v (.int .i64 0))], .int .i64, false⟩ := by kernel_rfl
theorem Tryd.K_29 : Tryd.K 29 = some ⟨false, 1, 8, [.d (.v (.nilFunc))], .func, false⟩ := by kernel_rfl
theorem Tryd.K_30 : Tryd.K 30 = some ⟨false, 1, 24, [.nl], .slice 53, false⟩ := by kernel_rfl
theorem Tryd.K_32 : Tryd.K 32 = some ⟨false, 1, 8, [.d (.v (.nilFunc))], .func, false⟩ := by kernel_rfl
theorem Tryd.K_33 : Tryd.K 33 = some ⟨false, 1, 8, [.d (.v (.nilFunc))], .func, false⟩ := by kernel_rfl
theorem Tryd.K_34 : Tryd.K 34 = some ⟨false, 1, 8, [.d (.v (.nilFunc))], .func, false⟩ := by kernel_rfl
theorem Tryd.K_35 : Tryd.K 35 = some ⟨false, 1, 8, [.d (.v (.nilFunc))], .func, false⟩ := by kernel_rfl
theorem Tryd.K_36 : Tryd.K 36 = some ⟨false, 1, 8, [.d (.v (.nilFunc))], .func, false⟩ := by kernel_rfl
theorem Tryd.K_37 : Tryd.K 37 = some ⟨false, 1, 24, [.nl], .slice 3, false⟩ := by kernel_rfl
theorem Tryd.K_38 : Tryd.K 38 = some ⟨false, 1, 8, [.d (.v (.int .u64 0))], .int .u64, false⟩ := by kernel_rfl
theorem Tryd.K_39 : Tryd.K 39 = some ⟨false, 1, 8, [.d (.v (.nilFunc))], .func, false⟩ := by kernel_rfl
theorem Tryd.K_40 : Tryd.K 40 = some ⟨false, 1, 8, [.d (.v (.nilFunc))], .func, false⟩ := by kernel_rfl
theorem Tryd.K_41 : Tryd.K 41 = some ⟨false, 1, 8, [.d (.v (.nilFunc))], .func, false⟩ := by kernel_rfl
theorem Tryd.K_42 : Tryd.K 42 = some ⟨false, 1, 24, [.nl], .slice 46, false⟩ := by kernel_rfl
theorem Tryd.K_43 : Tryd.K 43 = some ⟨true, 4, 64, [.d (.v (.int .i64 0)), .d (.v (.string ⟨#[]⟩)), .nl, .d (.v (.string ⟨#[]⟩))], .struct [(0, 3), (1, 9), (2, 42), (3, 9)], false⟩ := by kernel_rfl
theorem Tryd.K_44 : Tryd.K 44 = some ⟨true, 4, 64, [.d (.v (.int .i64 0)), .d (.v (.string ⟨#[]⟩)), .nl, .d (.v (.string ⟨#[]⟩))], .struct [(0, 3), (1, 9), (2, 42), (3, 9)], false⟩ := by kernel_rfl
theorem Tryd.K_45 : Tryd.K 45 = some ⟨true, 2, 32, [.d (.v (.string ⟨#[]⟩)), .d (.v (.string ⟨#[]⟩))], .struct [(0, 9), (1, 9)], false⟩ := by kernel_rfl
theorem Tryd.K_46 : Tryd.K 46 = some ⟨true, 2, 32, [.d (.v (.string ⟨#[]⟩)), .d (.v (.string ⟨#[]⟩))], .struct [(0, 9), (1, 9)], true⟩ := by kernel_rfl
theorem Tryd.K_47 : Tryd.K 47 = some ⟨false, 1, 24, [.nl], .slice 5, false⟩ := by kernel_rfl
theorem Tryd.K_48 : Tryd.K 48 = some ⟨true, 3, 40, [.nl, .d (.v (.bool false)), .d (.v (.int .i64 0))], .struct [(0, 47), (1, 4), (2, 27)], false⟩ := by kernel_rfl
theorem Tryd.K_49 : Tryd.K 49 = some ⟨true, 3, 40, [.nl, .d (.v (.bool false)), .d (.v (.int .i64 0))], .struct [(0, 47), (1, 4), (2, 27)], false⟩ := by kernel_rfl
theorem Tryd.K_50 : Tryd.K 50 = some ⟨false, 1, 8, [.d (.v (.nilFunc))], .func, false⟩ := by kernel_rfl
theorem Tryd.K_52 : Tryd.K 52 = some ⟨false, 1, 8, [.d (.v (.nilFunc))], .func, false⟩ := by kernel_rfl
theorem Tryd.K_53 : Tryd.K 53 = some ⟨true, 4, 64, [.d (.v (.int .i64 0)), .d (.v (.string ⟨#[]⟩)), .nl, .d (.v (.string ⟨#[]⟩))], .struct [(0, 3), (1, 9), (2, 42), (3, 9)], false⟩ := by kernel_rfl
theorem Tryd.K_55 : Tryd.K 55 = some ⟨false, 1, 8, [.d (.v (.nilFunc))], .func, false⟩ := by kernel_rfl
theorem Tryd.K_56 : Tryd.K 56 = some ⟨false, 1, 8, [.d (.v (.nilFunc))], .func, false⟩ := by kernel_rfl
theorem Tryd.K_57 : Tryd.K 57 = some ⟨false, 1, 8, [.d (.v (.nilFunc))], .func, false⟩ := by kernel_rfl
theorem Tryd.K_58 : Tryd.K 58 = some ⟨true, 2, 32, [.d (.v (.string ⟨#[]⟩)), .d (.v (.string ⟨#[]⟩))], .array 2 9, false⟩ := by kernel_rfl
theorem Tryd.K_59 : Tryd.K 59 = some ⟨true, 10, 160, [.d (.v (.string ⟨#[]⟩)), .d (.v (.string ⟨#[]⟩)), .d (.v (.string ⟨#[]⟩)), .d (.v (.string ⟨#[]⟩)), .d (.v (.string ⟨#[]⟩)), .d (.v (.string ⟨#[]⟩)), .d (.v (.string ⟨#[]⟩)), .d (.v (.string ⟨#[]⟩)), .d (.v (.string ⟨#[]⟩)), .d (.v (.string ⟨#[]⟩))], .array 5 58, false⟩ := by kernel_rfl
theorem Tryd.K_60 : Tryd.K 60 = some ⟨false, 1, 8, [.d (.v (.nilFunc))], .func, false⟩ := by kernel_rfl
theorem Tryd.K_61 : Tryd.K 61 = some ⟨false, 1, 8, [.d (.v (.nilFunc))], .func, false⟩ := by kernel_rfl
theorem Tryd.K_63 : Tryd.K 63 = some ⟨false, 1, 8, [.d (.v (.nilFunc))], .func, false⟩ := by kernel_rfl
theorem Tryd.K_65 : Tryd.K 65 = some ⟨false, 1, 8, [.d (.v (.nilFunc))], .func, false⟩ := by kernel_rfl
theorem Tryd.K_67 : Tryd.K 67 = some ⟨false, 1, 8, [.d (.v (.nilFunc))], .func, false⟩ := by kernel_rfl
theorem Tryd.K_68 : Tryd.K 68 = some ⟨false, 1, 8, [.d (.v (.nilFunc))], .func, false⟩ := by kernel_rfl
theorem Tryd.K_69 : Tryd.K 69 = some ⟨false, 1, 8, [.d (.v (.nilFunc))], .func, false⟩ := by kernel_rfl
theorem Tryd.K_70 : Tryd.K 70 = some ⟨false, 1, 8, [.d (.v (.pointer none))], .ptr 72, false⟩ := by kernel_rfl
theorem Tryd.K_71 : Tryd.K 71 = some ⟨true, 2, 32, [.d (.v (.pointer none)), .nl], .struct [(0, 70), (1, 47)], false⟩ := by kernel_rfl
theorem Tryd.K_72 : Tryd.K 72 = some ⟨true, 2, 32, [.d (.v (.pointer none)), .nl], .struct [(0, 70), (1, 47)], false⟩ := by kernel_rfl
theorem Tryd.K_74 : Tryd.K 74 = some ⟨false, 1, 8, [.d (.v (.nilFunc))], .func, false⟩ := by kernel_rfl
theorem Tryd.K_78 : Tryd.K 78 = some ⟨false, 1, 8, [.d (.v (.nilFunc))], .func, false⟩ := by kernel_rfl
theorem Tryd.K_79 : Tryd.K 79 = some ⟨false, 1, 8, [.d (.v (.nilFunc))], .func, false⟩ := by kernel_rfl
theorem Tryd.K_80 : Tryd.K 80 = some ⟨false, 1, 8, [.d (.v (.nilFunc))], .func, false⟩ := by kernel_rfl
theorem Tryd.K_81 : Tryd.K 81 = some ⟨false, 1, 8, [.d (.v (.nilFunc))], .func, false⟩ := by kernel_rfl
theorem Tryd.K_82 : Tryd.K 82 = some ⟨false, 1, 8, [.d (.v (.nilFunc))], .func, false⟩ := by kernel_rfl
theorem Tryd.K_84 : Tryd.K 84 = some ⟨false, 1, 8, [.d (.v (.nilFunc))], .func, false⟩ := by kernel_rfl
theorem Tryd.K_85 : Tryd.K 85 = some ⟨false, 1, 8, [.d (.v (.nilFunc))], .func, false⟩ := by kernel_rfl
theorem Tryd.K_86 : Tryd.K 86 = some ⟨false, 1, 8, [.d (.v (.nilFunc))], .func, false⟩ := by kernel_rfl
theorem Tryd.K_87 : Tryd.K 87 = some ⟨false, 1, 8, [.d (.v (.pointer none))], .ptr 5, false⟩ := by kernel_rfl
theorem Tryd.K_88 : Tryd.K 88 = some ⟨false, 1, 8, [.d (.v (.nilFunc))], .func, false⟩ := by kernel_rfl
theorem Tryd.K_90 : Tryd.K 90 = some ⟨true, 2, 2, [.d (.v (.int .u8 0)), .d (.v (.int .u8 0))], .struct [(0, 5), (1, 5)], false⟩ := by kernel_rfl
theorem Tryd.K_91 : Tryd.K 91 = some ⟨true, 2, 2, [.d (.v (.int .u8 0)), .d (.v (.int .u8 0))], .struct [(0, 5), (1, 5)], false⟩ := by kernel_rfl
theorem Tryd.K_92 : Tryd.K 92 = some ⟨true, 32, 32, [.d (.v (.int .u8 0)), .d (.v (.int .u8 0)), .d (.v (.int .u8 0)), .d (.v (.int .u8 0)), .d (.v (.int .u8 0)), .d (.v (.int .u8 0)), .d (.v (.int .u8 0)), .d (.v (.int .u8 0)), .d (.v (.int .u8 0)), .d (.v (.int .u8 0)), .d (.v (.int .u8 0)), .d (.v (.int .u8 0)), .d (.v (.int .u8 0)), .d (.v (.int .u8 0)), .d (.v (.int .u8 0)), .d (.v (.int .u8 0)), .d (.v (.int .u8 0)), .d (.v (.int .u8 0)), .d (.v (.int .u8 0)), .d (.v (.int .u8 0)), .d (.v (.int .u8 0)), .d (.v (.int .u8 0)), .d (.v (.int .u8 0)), .d (.v (.int .u8 0)), .d (.v (.int .u8 0)), .d (.v (.int .u8 0)), .d (.v (.int .u8 0)), .d (.v (.int .u8 0)), .d (.v (.int .u8 0)), .d (.v (.int .u8 0)), .d (.v (.int .u8 0)), .d (.v (.int .u8 0))], .array 16 91, false⟩ := by kernel_rfl
theorem Tryd.K_93 : Tryd.K 93 = some ⟨false, 1, 8, [.d (.v (.nilFunc))], .func, false⟩ := by kernel_rfl
theorem Tryd.K_97 : Tryd.K 97 = some ⟨false, 1, 8, [.d (.v (.nilFunc))], .func, false⟩ := by kernel_rfl
theorem Tryd.K_98 : Tryd.K 98 = some ⟨false, 1, 8, [.d (.v (.nilFunc))], .func, false⟩ := by kernel_rfl
theorem Tryd.K_99 : Tryd.K 99 = some ⟨false, 1, 8, [.d (.v (.pointer none))], .ptr 95, false⟩ := by kernel_rfl
theorem Tryd.K_100 : Tryd.K 100 = some ⟨false, 1, 8, [.d (.v (.nilFunc))], .func, false⟩ := by kernel_rfl
theorem Tryd.K_101 : Tryd.K 101 = some ⟨false, 1, 8, [.d (.v (.nilFunc))], .func, false⟩ := by kernel_rfl
theorem Tryd.K_102 : Tryd.K 102 = some ⟨false, 1, 8, [.d (.v (.nilFunc))], .func, false⟩ := by kernel_rfl
theorem Tryd.K_104 : Tryd.K 104 = some ⟨false, 1, 8, [.d (.v (.nilFunc))], .func, false⟩ := by kernel_rfl
theorem Tryd.K_105 : Tryd.K 105 = some ⟨false, 1, 8, [.d (.v (.int .u64 0))], .int .u64, false⟩ := by kernel_rfl
theorem Tryd.K_107 : Tryd.K 107 = some ⟨false, 1, 8, [.d (.v (.nilFunc))], .func, false⟩ := by kernel_rfl
theorem Tryd.K_108 : Tryd.K 108 = some ⟨false, 1, 8, [.d (.v (.nilFunc))], .func, false⟩ := by kernel_rfl
theorem Tryd.K_109 : Tryd.K 109 = some ⟨false, 1, 8, [.d (.v (.nilFunc))], .func, false⟩ := by kernel_rfl
theorem Tryd.K_110 : Tryd.K 110 = some ⟨false, 1, 8, [.d (.v (.nilFunc))], .func, false⟩ := by kernel_rfl
theorem Tryd.K_111 : Tryd.K 111 = some ⟨false, 1, 4, [.d (.v (.int .u32 0))], .int .u32, false⟩ := by kernel_rfl
theorem Tryd.K_113 : Tryd.K 113 = some ⟨false, 1, 8, [.d (.v (.nilFunc))], .func, false⟩ := by kernel_rfl
theorem Tryd.K_114 : Tryd.K 114 = some ⟨true, 4, 40, [.d (.v (.pointer none)), .d (.v (.pointer none)), .d (.v (.pointer none)), .d (.v (.string ⟨#[]⟩))], .struct [(0, 17), (1, 17), (2, 17), (3, 9)], false⟩ := by kernel_rfl
theorem Tryd.K_115 : Tryd.K 115 = some ⟨true, 4, 40, [.d (.v (.pointer none)), .d (.v (.pointer none)), .d (.v (.pointer none)), .d (.v (.string ⟨#[]⟩))], .struct [(0, 17), (1, 17), (2, 17), (3, 9)], false⟩ := by kernel_rfl
theorem Tryd.K_119 : Tryd.K 119 = some ⟨false, 1, 1, [.d (.v (.int .u8 0))], .int .u8, false⟩ := by kernel_rfl
theorem Tryd.K_120 : Tryd.K 120 = some ⟨false, 1, 1, [.d (.v (.int .u8 0))], .int .u8, false⟩ := by kernel_rfl
theorem Tryd.K_121 : Tryd.K 121 = some ⟨false, 1, 8, [.d (.v (.nilFunc))], .func, false⟩ := by kernel_rfl
theorem Tryd.K_122 : Tryd.K 122 = some ⟨false, 1, 4, [.d (.v (.int .i32 0))], .int .i32, false⟩ := by kernel_rfl
theorem Tryd.K_123 : Tryd.K 123 = some ⟨false, 1, 4, [.d (.v (.int .i32 0))], .int .i32, false⟩ := by kernel_rfl
theorem Tryd.K_124 : Tryd.K 124 = some ⟨true, 11, 48, [.d (.v (.int .u64 0)), .d (.v (.int .u64 0)), .d (.v (.int .u32 0)), .d (.v (.int .u8 0)), .d (.v (.int .u8 0)), .d (.v (.int .u8 0)), .d (.v (.int .u8 0)), .d (.v (.nilFunc)), .d (.v (.pointer none)), .d (.v (.int .i32 0)), .d (.v (.int .i32 0))], .struct [(0, 12), (1, 12), (2, 111), (3, 119), (4, 5), (5, 5), (6, 120), (7, 121), (8, 87), (9, 122), (10, 123)], false⟩ := by kernel_rfl
theorem Tryd.K_125 : Tryd.K 125 = some ⟨true, 11, 48, [.d (.v (.int .u64 0)), .d (.v (.int .u64 0)), .d (.v (.int .u32 0)), .d (.v (.int .u8 0)), .d (.v (.int .u8 0)), .d (.v (.int .u8 0)), .d (.v (.int .u8 0)), .d (.v (.nilFunc)), .d (.v (.pointer none)), .d (.v (.int .i32 0)), .d (.v (.int .i32 0))], .struct [(0, 12), (1, 12), (2, 111), (3, 119), (4, 5), (5, 5), (6, 120), (7, 121), (8, 87), (9, 122), (10, 123)], false⟩ := by kernel_rfl
noncomputable def Tryd.b0 : Code := Tryd.f0.body.getD .skip
noncomputable def Tryd.b1 : Code := Tryd.f1.body.getD .skip
noncomputable def Tryd.b2 : Code := Tryd.f2.body.getD .skip
noncomputable def Tryd.b3 : Code := Tryd.f3.body.getD .skip
noncomputable def Tryd.b4 : Code := Tryd.f4.body.getD .skip
noncomputable def Tryd.b5 : Code := Tryd.f5.body.getD .skip
noncomputable def Tryd.b6 : Code := Tryd.f6.body.getD .skip
noncomputable def Tryd.b7 : Code := Tryd.f7.body.getD .skip
noncomputable def Tryd.b8 : Code := Tryd.f8.body.getD .skip
noncomputable def Tryd.b9 : Code := Tryd.f9.body.getD .skip
noncomputable def Tryd.b10 : Code := Tryd.f10.body.getD .skip
noncomputable def Tryd.b11 : Code := Tryd.f11.body.getD .skip
noncomputable def Tryd.b12 : Code := Tryd.f12.body.getD .skip
noncomputable def Tryd.b13 : Code := Tryd.f13.body.getD .skip
noncomputable def Tryd.b14 : Code := Tryd.f14.body.getD .skip
noncomputable def Tryd.b15 : Code := Tryd.f15.body.getD .skip
noncomputable def Tryd.b16 : Code := Tryd.f16.body.getD .skip
noncomputable def Tryd.b17 : Code := Tryd.f17.body.getD .skip
noncomputable def Tryd.b18 : Code := Tryd.f18.body.getD .skip
noncomputable def Tryd.b19 : Code := Tryd.f19.body.getD .skip
noncomputable def Tryd.b20 : Code := Tryd.f20.body.getD .skip
noncomputable def Tryd.b21 : Code := Tryd.f21.body.getD .skip
noncomputable def Tryd.b22 : Code := Tryd.f22.body.getD .skip
noncomputable def Tryd.b23 : Code := Tryd.f23.body.getD .skip
noncomputable def Tryd.b24 : Code := Tryd.f24.body.getD .skip
noncomputable def Tryd.b25 : Code := Tryd.f25.body.getD .skip
noncomputable def Tryd.b26 : Code := Tryd.f26.body.getD .skip
noncomputable def Tryd.b27 : Code := Tryd.f27.body.getD .skip
noncomputable def Tryd.b28 : Code := Tryd.f28.body.getD .skip
noncomputable def Tryd.b29 : Code := Tryd.f29.body.getD .skip
noncomputable def Tryd.b30 : Code := Tryd.f30.body.getD .skip
noncomputable def Tryd.b31 : Code := Tryd.f31.body.getD .skip
noncomputable def Tryd.b32 : Code := Tryd.f32.body.getD .skip
noncomputable def Tryd.b33 : Code := Tryd.f33.body.getD .skip
noncomputable def Tryd.b34 : Code := Tryd.f34.body.getD .skip
noncomputable def Tryd.b35 : Code := Tryd.f35.body.getD .skip
noncomputable def Tryd.b36 : Code := Tryd.f36.body.getD .skip
noncomputable def Tryd.b37 : Code := Tryd.f37.body.getD .skip
noncomputable def Tryd.b38 : Code := Tryd.f38.body.getD .skip
noncomputable def Tryd.b39 : Code := Tryd.f39.body.getD .skip
noncomputable def Tryd.b40 : Code := Tryd.f40.body.getD .skip
noncomputable def Tryd.b41 : Code := Tryd.f41.body.getD .skip
noncomputable def Tryd.b42 : Code := Tryd.f42.body.getD .skip
noncomputable def Tryd.b43 : Code := Tryd.f43.body.getD .skip
noncomputable def Tryd.b44 : Code := Tryd.f44.body.getD .skip
noncomputable def Tryd.b45 : Code := Tryd.f45.body.getD .skip
noncomputable def Tryd.b46 : Code := Tryd.f46.body.getD .skip
noncomputable def Tryd.b47 : Code := Tryd.f47.body.getD .skip
noncomputable def Tryd.b48 : Code := Tryd.f48.body.getD .skip
noncomputable def Tryd.b49 : Code := Tryd.f49.body.getD .skip
noncomputable def Tryd.b50 : Code := Tryd.f50.body.getD .skip
noncomputable def Tryd.b51 : Code := Tryd.f51.body.getD .skip
noncomputable def Tryd.b52 : Code := Tryd.f52.body.getD .skip
noncomputable def Tryd.b53 : Code := Tryd.f53.body.getD .skip
noncomputable def Tryd.b54 : Code := Tryd.f54.body.getD .skip
noncomputable def Tryd.b55 : Code := Tryd.f55.body.getD .skip
noncomputable def Tryd.b56 : Code := Tryd.f56.body.getD .skip
noncomputable def Tryd.b57 : Code := Tryd.f57.body.getD .skip
noncomputable def Tryd.b58 : Code := Tryd.f58.body.getD .skip
noncomputable def Tryd.b59 : Code := Tryd.f59.body.getD .skip
noncomputable def Tryd.b60 : Code := Tryd.f60.body.getD .skip
noncomputable def Tryd.b61 : Code := Tryd.f61.body.getD .skip
noncomputable def Tryd.b62 : Code := Tryd.f62.body.getD .skip
noncomputable def Tryd.b63 : Code := Tryd.f63.body.getD .skip
noncomputable def Tryd.b64 : Code := Tryd.f64.body.getD .skip
noncomputable def Tryd.b65 : Code := Tryd.f65.body.getD .skip
noncomputable def Tryd.b66 : Code := Tryd.f66.body.getD .skip
noncomputable def Tryd.b67 : Code := Tryd.f67.body.getD .skip
noncomputable def Tryd.b68 : Code := Tryd.f68.body.getD .skip
noncomputable def Tryd.b69 : Code := Tryd.f69.body.getD .skip
noncomputable def Tryd.b70 : Code := Tryd.f70.body.getD .skip
noncomputable def Tryd.b71 : Code := Tryd.f71.body.getD .skip
noncomputable def Tryd.b72 : Code := Tryd.f72.body.getD .skip
noncomputable def Tryd.b73 : Code := Tryd.f73.body.getD .skip
noncomputable def Tryd.b74 : Code := Tryd.f74.body.getD .skip
noncomputable def Tryd.b75 : Code := Tryd.f75.body.getD .skip
noncomputable def Tryd.b76 : Code := Tryd.f76.body.getD .skip
noncomputable def Tryd.b77 : Code := Tryd.f77.body.getD .skip
noncomputable def Tryd.b78 : Code := Tryd.f78.body.getD .skip
noncomputable def Tryd.b79 : Code := Tryd.f79.body.getD .skip
noncomputable def Tryd.b80 : Code := Tryd.f80.body.getD .skip
noncomputable def Tryd.b81 : Code := Tryd.f81.body.getD .skip
noncomputable def Tryd.b82 : Code := Tryd.f82.body.getD .skip
noncomputable def Tryd.b83 : Code := Tryd.f83.body.getD .skip
noncomputable def Tryd.b84 : Code := Tryd.f84.body.getD .skip
noncomputable def Tryd.b85 : Code := Tryd.f85.body.getD .skip
noncomputable def Tryd.b86 : Code := Tryd.f86.body.getD .skip
noncomputable def Tryd.b87 : Code := Tryd.f87.body.getD .skip
noncomputable def Tryd.b88 : Code := Tryd.f88.body.getD .skip
noncomputable def Tryd.b89 : Code := Tryd.f89.body.getD .skip
noncomputable def Tryd.b90 : Code := Tryd.f90.body.getD .skip
noncomputable def Tryd.b91 : Code := Tryd.f91.body.getD .skip
noncomputable def Tryd.b92 : Code := Tryd.f92.body.getD .skip
noncomputable def Tryd.b93 : Code := Tryd.f93.body.getD .skip
noncomputable def Tryd.b94 : Code := Tryd.f94.body.getD .skip
noncomputable def Tryd.b95 : Code := Tryd.f95.body.getD .skip
noncomputable def Tryd.b96 : Code := Tryd.f96.body.getD .skip
noncomputable def Tryd.b97 : Code := Tryd.f97.body.getD .skip
noncomputable def Tryd.b98 : Code := Tryd.f98.body.getD .skip
noncomputable def Tryd.b99 : Code := Tryd.f99.body.getD .skip
noncomputable def Tryd.b100 : Code := Tryd.f100.body.getD .skip
noncomputable def Tryd.b101 : Code := Tryd.f101.body.getD .skip
noncomputable def Tryd.b102 : Code := Tryd.f102.body.getD .skip
noncomputable def Tryd.b103 : Code := Tryd.f103.body.getD .skip
noncomputable def Tryd.b104 : Code := Tryd.f104.body.getD .skip
noncomputable def Tryd.b105 : Code := Tryd.f105.body.getD .skip
end Go.Proofs
