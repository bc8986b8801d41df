import Derived.Test.YtfdmmgiefhhnoaaGreatDoorAmFn
import Derived.Test.YtfdmmgiefhhnoaaGreatDoorProg
import Derived.KernelRfl
set_option linter.unusedVariables false
namespace Go.Proofs
open Go Go.AM
def Tryz.tk2 : TK := ⟨false, 1, 8, [.d (.v (.int .i64 0))], .int .i64, false, false, false, []⟩
theorem Tryz.tok2 : TOk Tryz.prog 2 Tryz.tk2 := tok_mk (sz := 1) (bytes := 8) (z := .int .i64 0) (fun h => by cases h) (by kernel_rfl) Tryz.underlying2 Tryz.underlying2 rfl (by kernel_rfl) rfl
def Tryz.tk3 : TK := ⟨false, 1, 8, [.d (.v (.int .i64 0))], .int .i64, false, false, false, []⟩
theorem Tryz.tok3 : TOk Tryz.prog 3 Tryz.tk3 := tok_mk (sz := 1) (bytes := 8) (z := .int .i64 0) (fun h => by cases h) (by kernel_rfl) Tryz.underlying3 Tryz.underlying3 rfl (by kernel_rfl) rfl
def Tryz.tk4 : TK := ⟨false, 1, 1, [.d (.v (.bool false))], .bool, false, false, false, []⟩
theorem Tryz.tok4 : TOk Tryz.prog 4 Tryz.tk4 := tok_mk (sz := 1) (bytes := 1) (z := .bool false) (fun h => by cases h) (by kernel_rfl) Tryz.underlying4 Tryz.underlying4 rfl (by kernel_rfl) rfl
def Tryz.tk5 : TK := ⟨false, 1, 1, [.d (.v (.int .u8 0))], .int .u8, false, false, false, []⟩
theorem Tryz.tok5 : TOk Tryz.prog 5 Tryz.tk5 := tok_mk (sz := 1) (bytes := 1) (z := .int .u8 0) (fun h => by cases h) (by kernel_rfl) Tryz.underlying5 Tryz.underlying5 rfl (by kernel_rfl) rfl
def Tryz.tk9 : TK := ⟨false, 1, 16, [.d (.v (.string ⟨#[]⟩))], .str, false, false, false, []⟩
theorem Tryz.tok9 : TOk Tryz.prog 9 Tryz.tk9 := tok_mk (sz := 1) (bytes := 16) (z := .string ⟨#[]⟩) (fun h => by cases h) (by kernel_rfl) Tryz.underlying9 Tryz.underlying9 rfl (by kernel_rfl) rfl
def Tryz.tk21 : TK := ⟨false, 1, 4, [.d (.v (.int .i32 0))], .int .i32, false, false, false, []⟩
theorem Tryz.tok21 : TOk Tryz.prog 21 Tryz.tk21 := tok_mk (sz := 1) (bytes := 4) (z := .int .i32 0) (fun h => by cases h) (by kernel_rfl) Tryz.underlying21 Tryz.underlying21 rfl (by kernel_rfl) rfl
def Tryz.tk22 : TK := ⟨false, 1, 4, [.d (.v (.int .u32 0))], .int .u32, false, false, false, []⟩
theorem Tryz.tok22 : TOk Tryz.prog 22 Tryz.tk22 := tok_mk (sz := 1) (bytes := 4) (z := .int .u32 0) (fun h => by cases h) (by kernel_rfl) Tryz.underlying22 Tryz.underlying22 rfl (by kernel_rfl) rfl
def Tryz.tk23 : TK := ⟨false, 1, 24, [.nl], .slice 50, false, false, false, []⟩
theorem Tryz.tok23 : TOk Tryz.prog 23 Tryz.tk23 := tok_mk (sz := 1) (bytes := 24) (z := .slice none 0 0) (fun h => by cases h) (by kernel_rfl) Tryz.underlying23 Tryz.underlying23 rfl (by kernel_rfl) rfl
def Tryz.tk24 : TK := ⟨true, 12, 168, [.d (.v (.int .i64 0)), .d (.v (.string ⟨#[]⟩)), .d (.v (.string ⟨#[]⟩)), .d (.v (.string ⟨#[]⟩)), .d (.v (.string ⟨#[]⟩)), .d (.v (.string ⟨#[]⟩)), .d (.v (.string ⟨#[]⟩)), .d (.v (.string ⟨#[]⟩)), .d (.v (.int .u32 0)), .d (.v (.int .i64 0)), .d (.v (.bool false)), .nl], .struct [(0, 3), (1, 9), (2, 9), (3, 9), (4, 9), (5, 9), (6, 9), (7, 9), (8, 22), (9, 3), (10, 4), (11, 23)], false, false, false, []⟩
theorem Tryz.tok24 : TOk Tryz.prog 24 Tryz.tk24 := tok_mk (sz := 12) (bytes := 168) (z := .agg #[.int .i64 0, .string ⟨#[]⟩, .string ⟨#[]⟩, .string ⟨#[]⟩, .string ⟨#[]⟩, .string ⟨#[]⟩, .string ⟨#[]⟩, .string ⟨#[]⟩, .int .u32 0, .int .i64 0, .bool false, .slice none 0 0]) (fun h => by cases h) (by kernel_rfl) Tryz.underlying24 ⟨_, Tryz.underlying24, by kernel_rfl⟩ rfl (by kernel_rfl) rfl
def Tryz.tk25 : TK := ⟨true, 12, 168, [.d (.v (.int .i64 0)), .d (.v (.string ⟨#[]⟩)), .d (.v (.string ⟨#[]⟩)), .d (.v (.string ⟨#[]⟩)), .d (.v (.string ⟨#[]⟩)), .d (.v (.string ⟨#[]⟩)), .d (.v (.string ⟨#[]⟩)), .d (.v (.string ⟨#[]⟩)), .d (.v (.int .u32 0)), .d (.v (.int .i64 0)), .d (.v (.bool false)), .nl], .struct [(0, 3), (1, 9), (2, 9), (3, 9), (4, 9), (5, 9), (6, 9), (7, 9), (8, 22), (9, 3), (10, 4), (11, 23)], false, false, false, []⟩
theorem Tryz.tok25 : TOk Tryz.prog 25 Tryz.tk25 := tok_mk (sz := 12) (bytes := 168) (z := .agg #[.int .i64 0, .string ⟨#[]⟩, .string ⟨#[]⟩, .string ⟨#[]⟩, .string ⟨#[]⟩, .string ⟨#[]⟩, .string ⟨#[]⟩, .string ⟨#[]⟩, .int .u32 0, .int .i64 0, .bool false, .slice none 0 0]) (fun h => by cases h) (by kernel_rfl) Tryz.underlying25 ⟨_, Tryz.underlying25, by kernel_rfl⟩ rfl (by kernel_rfl) rfl
def Tryz.tk27 : TK := ⟨false, 1, 24, [.nl], .slice 40, false, false, false, []⟩
theorem Tryz.tok27 : TOk Tryz.prog 27 Tryz.tk27 := tok_mk (sz := 1) (bytes := 24) (z := .slice none 0 0) (fun h => by cases h) (by kernel_rfl) Tryz.underlying27 Tryz.underlying27 rfl (by kernel_rfl) rfl
def Tryz.tk28 : TK := ⟨false, 1, 24, [.nl], .slice 30, false, false, false, []⟩
theorem Tryz.tok28 : TOk Tryz.prog 28 Tryz.tk28 := tok_mk (sz := 1) (bytes := 24) (z := .slice none 0 0) (fun h => by cases h) (by kernel_rfl) Tryz.underlying28 Tryz.underlying28 rfl (by kernel_rfl) rfl
def Tryz.tk29 : TK := ⟨true, 4, 80, [.d (.v (.string ⟨#[]⟩)), .nl, .d (.v (.string ⟨#[]⟩)), .nl], .struct [(0, 9), (1, 27), (2, 9), (3, 28)], false, false, false, []⟩
theorem Tryz.tok29 : TOk Tryz.prog 29 Tryz.tk29 := tok_mk (sz := 4) (bytes := 80) (z := .agg #[.string ⟨#[]⟩, .slice none 0 0, .string ⟨#[]⟩, .slice none 0 0]) (fun h => by cases h) (by kernel_rfl) Tryz.underlying29 ⟨_, Tryz.underlying29, by kernel_rfl⟩ rfl (by kernel_rfl) rfl
def Tryz.tk30 : TK := ⟨true, 4, 80, [.d (.v (.string ⟨#[]⟩)), .nl, .d (.v (.string ⟨#[]⟩)), .nl], .struct [(0, 9), (1, 27), (2, 9), (3, 28)], false, false, false, []⟩
theorem Tryz.tok30 : TOk Tryz.prog 30 Tryz.tk30 := tok_mk (sz := 4) (bytes := 80) (z := .agg #[.string ⟨#[]⟩, .slice none 0 0, .string ⟨#[]⟩, .slice none 0 0]) (fun h => by cases h) (by kernel_rfl) Tryz.underlying30 ⟨_, Tryz.underlying30, by kernel_rfl⟩ rfl (by kernel_rfl) rfl
def Tryz.tk31 : TK := ⟨false, 1, 8, [.d (.v (.int .i64 0))], .int .i64, false, false, false, []⟩
theorem Tryz.tok31 : TOk Tryz.prog 31 Tryz.tk31 := tok_mk (sz := 1) (bytes := 8) (z := .int .i64 0) (fun h => by cases h) (by kernel_rfl) Tryz.underlying31 Tryz.underlying31 rfl (by kernel_rfl) rfl
def Tryz.tk39 : TK := ⟨true, 2, 32, [.d (.v (.string ⟨#[]⟩)), .d (.v (.string ⟨#[]⟩))], .struct [(0, 9), (1, 9)], false, false, false, []⟩
theorem Tryz.tok39 : TOk Tryz.prog 39 Tryz.tk39 := tok_mk (sz := 2) (bytes := 32) (z := .agg #[.string ⟨#[]⟩, .string ⟨#[]⟩]) (fun h => by cases h) (by kernel_rfl) Tryz.underlying39 ⟨_, Tryz.underlying39, by kernel_rfl⟩ rfl (by kernel_rfl) rfl
def Tryz.tk40 : TK := ⟨true, 2, 32, [.d (.v (.string ⟨#[]⟩)), .d (.v (.string ⟨#[]⟩))], .struct [(0, 9), (1, 9)], true, false, false, []⟩
theorem Tryz.tok40 : TOk Tryz.prog 40 Tryz.tk40 := tok_mk (sz := 2) (bytes := 32) (z := .agg #[.string ⟨#[]⟩, .string ⟨#[]⟩]) (fun _ => by kernel_rfl) (by kernel_rfl) Tryz.underlying40 ⟨_, Tryz.underlying40, by kernel_rfl⟩ rfl (by kernel_rfl) rfl
def Tryz.tk41 : TK := ⟨false, 1, 8, [.d (.v (.nilFunc))], .func, false, false, false, []⟩
theorem Tryz.tok41 : TOk Tryz.prog 41 Tryz.tk41 := tok_mk (sz := 1) (bytes := 8) (z := .nilFunc) (fun h => by cases h) (by kernel_rfl) Tryz.underlying41 ⟨_, _, _, Tryz.underlying41⟩ rfl (by kernel_rfl) rfl
def Tryz.tk43 : TK := ⟨false, 1, 24, [.nl], .slice 9, false, false, false, []⟩
theorem Tryz.tok43 : TOk Tryz.prog 43 Tryz.tk43 := tok_mk (sz := 1) (bytes := 24) (z := .slice none 0 0) (fun h => by cases h) (by kernel_rfl) Tryz.underlying43 Tryz.underlying43 rfl (by kernel_rfl) rfl
def Tryz.tk49 : TK := ⟨true, 4, 48, [.d (.v (.string ⟨#[]⟩)), .d (.v (.string ⟨#[]⟩)), .d (.v (.int .i64 0)), .d (.v (.bool false))], .struct [(0, 9), (1, 9), (2, 3), (3, 4)], false, false, false, []⟩
theorem Tryz.tok49 : TOk Tryz.prog 49 Tryz.tk49 := tok_mk (sz := 4) (bytes := 48) (z := .agg #[.string ⟨#[]⟩, .string ⟨#[]⟩, .int .i64 0, .bool false]) (fun h => by cases h) (by kernel_rfl) Tryz.underlying49 ⟨_, Tryz.underlying49, by kernel_rfl⟩ rfl (by kernel_rfl) rfl
def Tryz.tk50 : TK := ⟨true, 4, 48, [.d (.v (.string ⟨#[]⟩)), .d (.v (.string ⟨#[]⟩)), .d (.v (.int .i64 0)), .d (.v (.bool false))], .struct [(0, 9), (1, 9), (2, 3), (3, 4)], true, false, false, []⟩
theorem Tryz.tok50 : TOk Tryz.prog 50 Tryz.tk50 := tok_mk (sz := 4) (bytes := 48) (z := .agg #[.string ⟨#[]⟩, .string ⟨#[]⟩, .int .i64 0, .bool false]) (fun _ => by kernel_rfl) (by kernel_rfl) Tryz.underlying50 ⟨_, Tryz.underlying50, by kernel_rfl⟩ rfl (by kernel_rfl) rfl
def Tryz.tk51 : TK := ⟨false, 1, 8, [.d (.v (.map none))], .map 9 41, false, false, false, []⟩
theorem Tryz.tok51 : TOk Tryz.prog 51 Tryz.tk51 := tok_mk (sz := 1) (bytes := 8) (z := .map none) (fun h => by cases h) (by kernel_rfl) Tryz.underlying51 Tryz.underlying51 rfl (by kernel_rfl) rfl
def Tryz.tk52 : TK := ⟨true, 2, 16, [.d (.v (.map none)), .d (.v (.map none))], .struct [(0, 51), (1, 51)], false, false, false, []⟩
theorem Tryz.tok52 : TOk Tryz.prog 52 Tryz.tk52 := tok_mk (sz := 2) (bytes := 16) (z := .agg #[.map none, .map none]) (fun h => by cases h) (by kernel_rfl) Tryz.underlying52 ⟨_, Tryz.underlying52, by kernel_rfl⟩ rfl (by kernel_rfl) rfl
def Tryz.tk53 : TK := ⟨true, 2, 16, [.d (.v (.map none)), .d (.v (.map none))], .struct [(0, 51), (1, 51)], false, false, false, []⟩
theorem Tryz.tok53 : TOk Tryz.prog 53 Tryz.tk53 := tok_mk (sz := 2) (bytes := 16) (z := .agg #[.map none, .map none]) (fun h => by cases h) (by kernel_rfl) Tryz.underlying53 ⟨_, Tryz.underlying53, by kernel_rfl⟩ rfl (by kernel_rfl) rfl
def Tryz.tk54 : TK := ⟨true, 3, 24, [.d (.v (.int .i64 0)), .d (.v (.map none)), .d (.v (.map none))], .struct [(0, 3), (1, 53)], false, false, false, []⟩
theorem Tryz.tok54 : TOk Tryz.prog 54 Tryz.tk54 := tok_mk (sz := 3) (bytes := 24) (z := .agg #[.int .i64 0, .map none, .map none]) (fun h => by cases h) (by kernel_rfl) Tryz.underlying54 ⟨_, Tryz.underlying54, by kernel_rfl⟩ rfl (by kernel_rfl) rfl
def Tryz.tk55 : TK := ⟨true, 3, 24, [.d (.v (.int .i64 0)), .d (.v (.map none)), .d (.v (.map none))], .struct [(0, 3), (1, 53)], false, false, false, []⟩
theorem Tryz.tok55 : TOk Tryz.prog 55 Tryz.tk55 := tok_mk (sz := 3) (bytes := 24) (z := .agg #[.int .i64 0, .map none, .map none]) (fun h => by cases h) (by kernel_rfl) Tryz.underlying55 ⟨_, Tryz.underlying55, by kernel_rfl⟩ rfl (by kernel_rfl) rfl
def Tryz.tk57 : TK := ⟨false, 1, 8, [.d (.v (.map none))], .map 9 55, false, false, false, []⟩
theorem Tryz.tok57 : TOk Tryz.prog 57 Tryz.tk57 := tok_mk (sz := 1) (bytes := 8) (z := .map none) (fun h => by cases h) (by kernel_rfl) Tryz.underlying57 Tryz.underlying57 rfl (by kernel_rfl) rfl
def Tryz.tk63 : TK := ⟨false, 1, 8, [.d (.v (.nilFunc))], .func, false, false, false, []⟩
theorem Tryz.tok63 : TOk Tryz.prog 63 Tryz.tk63 := tok_mk (sz := 1) (bytes := 8) (z := .nilFunc) (fun h => by cases h) (by kernel_rfl) Tryz.underlying63 ⟨_, _, _, Tryz.underlying63⟩ rfl (by kernel_rfl) rfl
def Tryz.tk67 : TK := ⟨false, 1, 24, [.nl], .slice 5, false, false, false, []⟩
theorem Tryz.tok67 : TOk Tryz.prog 67 Tryz.tk67 := tok_mk (sz := 1) (bytes := 24) (z := .slice none 0 0) (fun h => by cases h) (by kernel_rfl) Tryz.underlying67 Tryz.underlying67 rfl (by kernel_rfl) rfl
def Tryz.tk71 : TK := ⟨false, 1, 8, [.d (.v (.map none))], .map 9 3, false, false, false, []⟩
theorem Tryz.tok71 : TOk Tryz.prog 71 Tryz.tk71 := tok_mk (sz := 1) (bytes := 8) (z := .map none) (fun h => by cases h) (by kernel_rfl) Tryz.underlying71 Tryz.underlying71 rfl (by kernel_rfl) rfl
def Tryz.tk82 : TK := ⟨false, 1, 8, [.d (.v (.pointer none))], .ptr 78, false, false, false, []⟩
theorem Tryz.tok82 : TOk Tryz.prog 82 Tryz.tk82 := tok_mk (sz := 1) (bytes := 8) (z := .pointer none) (fun h => by cases h) (by kernel_rfl) Tryz.underlying82 Tryz.underlying82 rfl (by kernel_rfl) rfl
def Tryz.tk86 : TK := ⟨false, 1, 8, [.d (.v (.int .u64 0))], .int .u64, false, false, false, []⟩
theorem Tryz.tok86 : TOk Tryz.prog 86 Tryz.tk86 := tok_mk (sz := 1) (bytes := 8) (z := .int .u64 0) (fun h => by cases h) (by kernel_rfl) Tryz.underlying86 Tryz.underlying86 rfl (by kernel_rfl) rfl
def Tryz.tk94 : TK := ⟨false, 1, 8, [.d (.v (.map none))], .map 9 4, false, false, false, []⟩
theorem Tryz.tok94 : TOk Tryz.prog 94 Tryz.tk94 := tok_mk (sz := 1) (bytes := 8) (z := .map none) (fun h => by cases h) (by kernel_rfl) Tryz.underlying94 Tryz.underlying94 rfl (by kernel_rfl) rfl
def Tryz.tk108 : TK := ⟨false, 1, 8, [.d (.v (.int .u64 0))], .int .u64, false, false, false, []⟩
theorem Tryz.tok108 : TOk Tryz.prog 108 Tryz.tk108 := tok_mk (sz := 1) (bytes := 8) (z := .int .u64 0) (fun h => by cases h) (by kernel_rfl) Tryz.underlying108 Tryz.underlying108 rfl (by kernel_rfl) rfl
def Tryz.tk110 : TK := ⟨true, 4, 64, [.d (.v (.string ⟨#[]⟩)), .d (.v (.string ⟨#[]⟩)), .d (.v (.string ⟨#[]⟩)), .d (.v (.string ⟨#[]⟩))], .array 4 9, false, false, false, []⟩
theorem Tryz.tok110 : TOk Tryz.prog 110 Tryz.tk110 := tok_mk (sz := 4) (bytes := 64) (z := .agg #[.string ⟨#[]⟩, .string ⟨#[]⟩, .string ⟨#[]⟩, .string ⟨#[]⟩]) (fun h => by cases h) (by kernel_rfl) Tryz.underlying110 Tryz.underlying110 rfl (by kernel_rfl) rfl
def Tryz.tk115 : TK := ⟨false, 1, 8, [.d (.v (.nilFunc))], .func, false, false, false, []⟩
theorem Tryz.tok115 : TOk Tryz.prog 115 Tryz.tk115 := tok_mk (sz := 1) (bytes := 8) (z := .nilFunc) (fun h => by cases h) (by kernel_rfl) Tryz.underlying115 ⟨_, _, _, Tryz.underlying115⟩ rfl (by kernel_rfl) rfl
def Tryz.tk119 : TK := ⟨true, 24, 24, [.d (.v (.int .u8 0)), .d (.v (.int .u8 0)), .d (.v (.int .u8 0)), .d (.v (.int .u8 0)), .d (.v (.int .u8 0)), .d (.v (.int .u8 0)), .d (.v (.int .u8 0)), .d (.v (.int .u8 0)), .d (.v (.int .u8 0)), .d (.v (.int .u8 0)), .d (.v (.int .u8 0)), .d (.v (.int .u8 0)), .d (.v (.int .u8 0)), .d (.v (.int .u8 0)), .d (.v (.int .u8 0)), .d (.v (.int .u8 0)), .d (.v (.int .u8 0)), .d (.v (.int .u8 0)), .d (.v (.int .u8 0)), .d (.v (.int .u8 0)), .d (.v (.int .u8 0)), .d (.v (.int .u8 0)), .d (.v (.int .u8 0)), .d (.v (.int .u8 0))], .array 24 5, false, false, false, []⟩
theorem Tryz.tok119 : TOk Tryz.prog 119 Tryz.tk119 := tok_mk (sz := 24) (bytes := 24) (z := .agg #[.int .u8 0, .int .u8 0, .int .u8 0, .int .u8 0, .int .u8 0, .int .u8 0, .int .u8 0, .int .u8 0, .int .u8 0, .int .u8 0, .int .u8 0, .int .u8 0, .int .u8 0, .int .u8 0, .int .u8 0, .int .u8 0, .int .u8 0, .int .u8 0, .int .u8 0, .int .u8 0, .int .u8 0, .int .u8 0, .int .u8 0, .int .u8 0]) (fun h => by cases h) (by kernel_rfl) Tryz.underlying119 Tryz.underlying119 rfl (by kernel_rfl) rfl
def Tryz.tk126 : TK := ⟨true, 2, 2, [.d (.v (.int .u8 0)), .d (.v (.int .u8 0))], .struct [(0, 5), (1, 5)], false, false, false, []⟩
theorem Tryz.tok126 : TOk Tryz.prog 126 Tryz.tk126 := tok_mk (sz := 2) (bytes := 2) (z := .agg #[.int .u8 0, .int .u8 0]) (fun h => by cases h) (by kernel_rfl) Tryz.underlying126 ⟨_, Tryz.underlying126, by kernel_rfl⟩ rfl (by kernel_rfl) rfl
def Tryz.tk127 : TK := ⟨true, 2, 2, [.d (.v (.int .u8 0)), .d (.v (.int .u8 0))], .struct [(0, 5), (1, 5)], false, false, false, []⟩
theorem Tryz.tok127 : TOk Tryz.prog 127 Tryz.tk127 := tok_mk (sz := 2) (bytes := 2) (z := .agg #[.int .u8 0, .int .u8 0]) (fun h => by cases h) (by kernel_rfl) Tryz.underlying127 ⟨_, Tryz.underlying127, by kernel_rfl⟩ rfl (by kernel_rfl) rfl
def Tryz.tk128 : TK := ⟨true, 32, 32, [.d (.v (.int .u8 0)), .d (.v (.int .u8 0)), .d (.v (.int .u8 0)), .d (.v (.int .u8 0)), .d (.v (.int .u8 0)), .d (.v (.int .u8 0)), .d (.v (.int .u8 0)), .d (.v (.int .u8 0)), .d (.v (.int .u8 0)), .d (.v (.int .u8 0)), .d (.v (.int .u8 0)), .d (.v (.int .u8 0)), .d (.v (.int .u8 0)), .d (.v (.int .u8 0)), .d (.v (.int .u8 0)), .d (.v (.int .u8 0)), .d (.v (.int .u8 0)), .d (.v (.int .u8 0)), .d (.v (.int .u8 0)), .d (.v (.int .u8 0)), .d (.v (.int .u8 0)), .d (.v (.int .u8 0)), .d (.v (.int .u8 0)), .d (.v (.int .u8 0)), .d (.v (.int .u8 0)), .d (.v (.int .u8 0)), .d (.v (.int .u8 0)), .d (.v (.int .u8 0)), .d (.v (.int .u8 0)), .d (.v (.int .u8 0)), .d (.v (.int .u8 0)), .d (.v (.int .u8 0))], .array 16 127, false, false, false, []⟩
theorem Tryz.tok128 : TOk Tryz.prog 128 Tryz.tk128 := tok_mk (sz := 32) (bytes := 32) (z := .agg #[.int .u8 0, .int .u8 0, .int .u8 0, .int .u8 0, .int .u8 0, .int .u8 0, .int .u8 0, .int .u8 0, .int .u8 0, .int .u8 0, .int .u8 0, .int .u8 0, .int .u8 0, .int .u8 0, .int .u8 0, .int .u8 0, .int .u8 0, .int .u8 0, .int .u8 0, .int .u8 0, .int .u8 0, .int .u8 0, .int .u8 0, .int .u8 0, .int .u8 0, .int .u8 0, .int .u8 0, .int .u8 0, .int .u8 0, .int .u8 0, .int .u8 0, .int .u8 0]) (fun h => by cases h) (by kernel_rfl) Tryz.underlying128 Tryz.underlying128 rfl (by kernel_rfl) rfl
def Tryz.tk130 : TK := ⟨true, 20, 160, [.d (.v (.int .u64 0)), .d (.v (.int .u64 0)), .d (.v (.int .u64 0)), .d (.v (.int .u64 0)), .d (.v (.int .u64 0)), .d (.v (.int .u64 0)), .d (.v (.int .u64 0)), .d (.v (.int .u64 0)), .d (.v (.int .u64 0)), .d (.v (.int .u64 0)), .d (.v (.int .u64 0)), .d (.v (.int .u64 0)), .d (.v (.int .u64 0)), .d (.v (.int .u64 0)), .d (.v (.int .u64 0)), .d (.v (.int .u64 0)), .d (.v (.int .u64 0)), .d (.v (.int .u64 0)), .d (.v (.int .u64 0)), .d (.v (.int .u64 0))], .array 20 86, false, false, false, []⟩
theorem Tryz.tok130 : TOk Tryz.prog 130 Tryz.tk130 := tok_mk (sz := 20) (bytes := 160) (z := .agg #[.int .u64 0, .int .u64 0, .int .u64 0, .int .u64 0, .int .u64 0, .int .u64 0, .int .u64 0, .int .u64 0, .int .u64 0, .int .u64 0, .int .u64 0, .int .u64 0, .int .u64 0, .int .u64 0, .int .u64 0, .int .u64 0, .int .u64 0, .int .u64 0, .int .u64 0, .int .u64 0]) (fun h => by cases h) (by kernel_rfl) Tryz.underlying130 Tryz.underlying130 rfl (by kernel_rfl) rfl
def Tryz.tk134 : TK := ⟨true, 32, 32, [.d (.v (.int .u8 0)), .d (.v (.int .u8 0)), .d (.v (.int .u8 0)), .d (.v (.int .u8 0)), .d (.v (.int .u8 0)), .d (.v (.int .u8 0)), .d (.v (.int .u8 0)), .d (.v (.int .u8 0)), .d (.v (.int .u8 0)), .d (.v (.int .u8 0)), .d (.v (.int .u8 0)), .d (.v (.int .u8 0)), .d (.v (.int .u8 0)), .d (.v (.int .u8 0)), .d (.v (.int .u8 0)), .d (.v (.int .u8 0)), .d (.v (.int .u8 0)), .d (.v (.int .u8 0)), .d (.v (.int .u8 0)), .d (.v (.int .u8 0)), .d (.v (.int .u8 0)), .d (.v (.int .u8 0)), .d (.v (.int .u8 0)), .d (.v (.int .u8 0)), .d (.v (.int .u8 0)), .d (.v (.int .u8 0)), .d (.v (.int .u8 0)), .d (.v (.int .u8 0)), .d (.v (.int .u8 0)), .d (.v (.int .u8 0)), .d (.v (.int .u8 0)), .d (.v (.int .u8 0))], .array 32 5, false, false, false, []⟩
theorem Tryz.tok134 : TOk Tryz.prog 134 Tryz.tk134 := tok_mk (sz := 32) (bytes := 32) (z := .agg #[.int .u8 0, .int .u8 0, .int .u8 0, .int .u8 0, .int .u8 0, .int .u8 0, .int .u8 0, .int .u8 0, .int .u8 0, .int .u8 0, .int .u8 0, .int .u8 0, .int .u8 0, .int .u8 0, .int .u8 0, .int .u8 0, .int .u8 0, .int .u8 0, .int .u8 0, .int .u8 0, .int .u8 0, .int .u8 0, .int .u8 0, .int .u8 0, .int .u8 0, .int .u8 0, .int .u8 0, .int .u8 0, .int .u8 0, .int .u8 0, .int .u8 0, .int .u8 0]) (fun h => by cases h) (by kernel_rfl) Tryz.underlying134 Tryz.underlying134 rfl (by kernel_rfl) rfl
def Tryz.Ks : List (TypeId × TK) := [(2, Tryz.tk2), (3, Tryz.tk3), (4, Tryz.tk4), (5, Tryz.tk5), (9, Tryz.tk9), (21, Tryz.tk21), (22, Tryz.tk22), (23, Tryz.tk23), (24, Tryz.tk24), (25, Tryz.tk25), (27, Tryz.tk27), (28, Tryz.tk28), (29, Tryz.tk29), (30, Tryz.tk30), (31, Tryz.tk31), (39, Tryz.tk39), (40, Tryz.tk40), (41, Tryz.tk41), (43, Tryz.tk43), (49, Tryz.tk49), (50, Tryz.tk50), (51, Tryz.tk51), (52, Tryz.tk52), (53, Tryz.tk53), (54, Tryz.tk54), (55, Tryz.tk55), (57, Tryz.tk57), (63, Tryz.tk63), (67, Tryz.tk67), (71, Tryz.tk71), (82, Tryz.tk82), (86, Tryz.tk86), (94, Tryz.tk94), (108, Tryz.tk108), (110, Tryz.tk110), (115, Tryz.tk115), (119, Tryz.tk119), (126, Tryz.tk126), (127, Tryz.tk127), (128, Tryz.tk128), (130, Tryz.tk130), (134, Tryz.tk134)]
def Tryz.K : TypeId → Option TK := lkT Tryz.Ks
theorem Tryz.K_ok : KOk Tryz.prog Tryz.K := kok_cons Tryz.tok2 ( kok_cons Tryz.tok3 ( kok_cons Tryz.tok4 ( kok_cons Tryz.tok5 ( kok_cons Tryz.tok9 ( kok_cons Tryz.tok21 ( kok_cons Tryz.tok22 ( kok_cons Tryz.tok23 ( kok_cons Tryz.tok24 ( kok_cons Tryz.tok25 ( kok_cons Tryz.tok27 ( kok_cons Tryz.tok28 ( kok_cons Tryz.tok29 ( kok_cons Tryz.tok30 ( kok_cons Tryz.tok31 ( kok_cons Tryz.tok39 ( kok_cons Tryz.tok40 ( kok_cons Tryz.tok41 ( kok_cons Tryz.tok43 ( kok_cons Tryz.tok49 ( kok_cons Tryz.tok50 ( kok_cons Tryz.tok51 ( kok_cons Tryz.tok52 ( kok_cons Tryz.tok53 ( kok_cons Tryz.tok54 ( kok_cons Tryz.tok55 ( kok_cons Tryz.tok57 ( kok_cons Tryz.tok63 ( kok_cons Tryz.tok67 ( kok_cons Tryz.tok71 ( kok_cons Tryz.tok82 ( kok_cons Tryz.tok86 ( kok_cons Tryz.tok94 ( kok_cons Tryz.tok108 ( kok_cons Tryz.tok110 ( kok_cons Tryz.tok115 ( kok_cons Tryz.tok119 ( kok_cons Tryz.tok126 ( kok_cons Tryz.tok127 ( kok_cons Tryz.tok128 ( kok_cons Tryz.tok130 ( kok_cons Tryz.tok134 ( kok_nil))))))))))))))))))))))))))))))))))))))))))
noncomputable def Tryz.b0 : Code := Tryz.f0.body.getD .skip
noncomputable def Tryz.b1 : Code := Tryz.f1.body.getD .skip
noncomputable def Tryz.b2 : Code := Tryz.f2.body.getD .skip
noncomputable def Tryz.b3 : Code := Tryz.f3.body.getD .skip
noncomputable def Tryz.b4 : Code := Tryz.f4.body.getD .skip
noncomputable def Tryz.b5 : Code := Tryz.f5.body.getD .skip
noncomputable def Tryz.b6 : Code := Tryz.f6.body.getD .skip
noncomputable def Tryz.b7 : Code := Tryz.f7.body.getD .skip
noncomputable def Tryz.b8 : Code := Tryz.f8.body.getD .skip
noncomputable def Tryz.b9 : Code := Tryz.f9.body.getD .skip
noncomputable def Tryz.b10 : Code := Tryz.f10.body.getD .skip
noncomputable def Tryz.b11 : Code := Tryz.f11.body.getD .skip
noncomputable def Tryz.b12 : Code := Tryz.f12.body.getD .skip
noncomputable def Tryz.b13 : Code := Tryz.f13.body.getD .skip
noncomputable def Tryz.b14 : Code := Tryz.f14.body.getD .skip
noncomputable def Tryz.b15 : Code := Tryz.f15.body.getD .skip
noncomputable def Tryz.b16 : Code := Tryz.f16.body.getD .skip
noncomputable def Tryz.b17 : Code := Tryz.f17.body.getD .skip
noncomputable def Tryz.b18 : Code := Tryz.f18.body.getD .skip
noncomputable def Tryz.b19 : Code := Tryz.f19.body.getD .skip
noncomputable def Tryz.b20 : Code := Tryz.f20.body.getD .skip
noncomputable def Tryz.b21 : Code := Tryz.f21.body.getD .skip
noncomputable def Tryz.b22 : Code := Tryz.f22.body.getD .skip
noncomputable def Tryz.b23 : Code := Tryz.f23.body.getD .skip
noncomputable def Tryz.b25 : Code := Tryz.f25.body.getD .skip
noncomputable def Tryz.b26 : Code := Tryz.f26.body.getD .skip
noncomputable def Tryz.b28 : Code := Tryz.f28.body.getD .skip
noncomputable def Tryz.b29 : Code := Tryz.f29.body.getD .skip
noncomputable def Tryz.b30 : Code := Tryz.f30.body.getD .skip
noncomputable def Tryz.b31 : Code := Tryz.f31.body.getD .skip
noncomputable def Tryz.b32 : Code := Tryz.f32.body.getD .skip
noncomputable def Tryz.b33 : Code := Tryz.f33.body.getD .skip
noncomputable def Tryz.b34 : Code := Tryz.f34.body.getD .skip
noncomputable def Tryz.b35 : Code := Tryz.f35.body.getD .skip
noncomputable def Tryz.b36 : Code := Tryz.f36.body.getD .skip
noncomputable def Tryz.b37 : Code := Tryz.f37.body.getD .skip
noncomputable def Tryz.b38 : Code := Tryz.f38.body.getD .skip
noncomputable def Tryz.b39 : Code := Tryz.f39.body.getD .skip
noncomputable def Tryz.b40 : Code := Tryz.f40.body.getD .skip
noncomputable def Tryz.b41 : Code := Tryz.f41.body.getD .skip
noncomputable def Tryz.b42 : Code := Tryz.f42.body.getD .skip
noncomputable def Tryz.b43 : Code := Tryz.f43.body.getD .skip
noncomputable def Tryz.b51 : Code := Tryz.f51.body.getD .skip
noncomputable def Tryz.b53 : Code := Tryz.f53.body.getD .skip
noncomputable def Tryz.b54 : Code := Tryz.f54.body.getD .skip
noncomputable def Tryz.b55 : Code := Tryz.f55.body.getD .skip
noncomputable def Tryz.b56 : Code := Tryz.f56.body.getD .skip
noncomputable def Tryz.b57 : Code := Tryz.f57.body.getD .skip
noncomputable def Tryz.b58 : Code := Tryz.f58.body.getD .skip
noncomputable def Tryz.b60 : Code := Tryz.f60.body.getD .skip
noncomputable def Tryz.b61 : Code := Tryz.f61.body.getD .skip
noncomputable def Tryz.b63 : Code := Tryz.f63.body.getD .skip
noncomputable def Tryz.b64 : Code := Tryz.f64.body.getD .skip
noncomputable def Tryz.b65 : Code := Tryz.f65.body.getD .skip
noncomputable def Tryz.b75 : Code := Tryz.f75.body.getD .skip
noncomputable def Tryz.b76 : Code := Tryz.f76.body.getD .skip
noncomputable def Tryz.b78 : Code := Tryz.f78.body.getD .skip
noncomputable def Tryz.b79 : Code := Tryz.f79.body.getD .skip
noncomputable def Tryz.b80 : Code := Tryz.f80.body.getD .skip
noncomputable def Tryz.b82 : Code := Tryz.f82.body.getD .skip
noncomputable def Tryz.b83 : Code := Tryz.f83.body.getD .skip
noncomputable def Tryz.b84 : Code := Tryz.f84.body.getD .skip
noncomputable def Tryz.b92 : Code := Tryz.f92.body.getD .skip
end Go.Proofs
