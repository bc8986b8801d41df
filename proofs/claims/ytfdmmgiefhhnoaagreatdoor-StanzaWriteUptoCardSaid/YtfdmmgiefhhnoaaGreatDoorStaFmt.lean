import Derived.Test.YtfdmmgiefhhnoaaGreatDoorStaT1
import Derived.Test.YtfdmmgiefhhnoaaGreatDoorShelf
import Derived.Shelf.Strconv.Itoa2
import Derived.Lib.ItoaMem
import Derived.Lib.AppendIntMem
set_option linter.unusedSimpArgs false
set_option linter.unusedVariables false
namespace Go.Proofs.YtfdmmgiefhhnoaaGreatDoor
open Go Go.AM Go.RowKit Go.Sort
attribute [local irreducible] aCode
def FTxt : List AV → Option (Prop × AV) := fun al => match al with
  | [.d (.v (.int .u32 n))] => some (0 ≤ n ∧ n ≤ 4294967295, mkS (decS n.toNat))
  | _ => none
def FFmt : List AV → Option (Prop × AV) := fun al => match al with
  | [.d (.v (.int .u64 n)), .d (.v (.int .i64 10))] => some (0 ≤ n ∧ n ≤ 18446744073709551615, mkS (decS n.toNat))
  | _ => none
theorem rTxt (n : Int) (q : AV → Prop) :
 (aCode KS [(53, .det FFmt)] Tryz.b30 (kRet KS Tryz.f30.results.toList q) ⟨[mkI .u32 n] ++ List.replicate (Tryz.f30.ntmps - 1) .jk, []⟩) = (
 (((0 : Int) ≤ (IntKind.wrap .u64 n)) ∧ ((IntKind.wrap .u64 n) ≤ (18446744073709551615 : Int))) ∧
 q (mkS (decS (Int.toNat (IntKind.wrap .u64 n))))) := by kernel_rfl
set_option maxHeartbeats 2000000 in
set_option maxRecDepth 1000000 in
theorem fmtU_calls (u : Nat) (hu64 : u < 18446744073709551616) (w : World) (htab : Lib.TabIs Tryz.prog w "internal/strconv.uint64pow10" .u64 Lib.pow10Tab) :
    Calls Tryz.prog 74 #[.int .u64 u, .int .i64 10] w fun e w' => e = .returned (.string ⟨(Lib.decDigits u).toArray⟩) ∧ ∃ k os, w' = grow (w.drewN k) os := by
  by_cases hs : u < 100
  · have hwr : IntKind.i64.wrap (u : Int) = (u : Int) := IntWalk.i64_in _ (by omega)
    go_enter Tryz.func74, Tryz.ntmps74
    go_wp2_with (go_at_call 88; refine (Tryz.internal_strconv_small u hs _).mono ?_; rintro e w' ⟨rfl, rfl⟩)
    go_ret
    exact ⟨rfl, 0, #[], by simp [World.drewN_zero]⟩
  · have hu1 : 1 ≤ u := by omega
    have hnd20 : Lib.nDigits u ≤ 20 := by have := Lib.numDigits_eq u hu1 hu64; split at this <;> omega
    have hal : Tryz.prog.arrayLen 119 = 24 := by kernel_rfl
    have hsl1 : ∀ W, (Instr.sliceAt 119 (.pointer (some ⟨w.heap.size, 0, none⟩)) none (some (.int .i64 (Lib.nDigits u : Int))) none).run Tryz.prog W = .ok (.slice (some ⟨w.heap.size, 0, none⟩) (Lib.nDigits u) 24) W := fun W => by
      rw [run_sliceAt_array_h W 119 ⟨w.heap.size, 0, none⟩ (by kernel_rfl) .i64 (Lib.nDigits u : Int) (by omega) (by rw [hal]; omega)]
      go_simp
    have hH0 := Lib.holds_zero0 w 119 (Lib.nDigits u) (by omega)
    have hfmt := Tryz.internal_strconv_formatBase10 w.heap.size 0 24 u (Array.replicate (Lib.nDigits u) 0) (w.alloc (.cells Lib.zeros24 119)) hH0 (by rw [Array.size_replicate]; exact Lib.lt_pow_nDigits u) hu64 (by rw [Array.size_replicate]; omega)
    rw [Array.size_replicate] at hfmt
    have HH0 := Lib.hid hH0
    clear hH0 hal
    go_enter Tryz.func74, Tryz.ntmps74
    go_wp2_with (first
      | (go_at_call 89; refine (Tryz.internal_strconv_numDigits u hu1 hu64 _ (Lib.tabIs_alloc htab _)).mono ?_; rintro e w' ⟨rfl, rfl⟩))
    go_at_call 90
    refine hfmt.mono ?_
    rintro e w' ⟨rfl, k, v', dk, rfl, hF⟩
    have hcv : (convert 67 9 (.slice (some ⟨w.heap.size, 0, none⟩) (Lib.nDigits u) 24)).run Tryz.prog ((putRow (fun (b : UInt8) => Value.int .u8 (b.toNat : Int)) (w.alloc (.cells Lib.zeros24 119)) w.heap.size 0 dk).drewN k) = .ok (.string ⟨(Lib.decDigits u).toArray⟩) ((putRow (fun (b : UInt8) => Value.int .u8 (b.toNat : Int)) (w.alloc (.cells Lib.zeros24 119)) w.heap.size 0 dk).drewN k) := by
      have h := run_convert_bytes_back (P := Tryz.prog) ((putRow (fun (b : UInt8) => Value.int .u8 (b.toNat : Int)) (w.alloc (.cells Lib.zeros24 119)) w.heap.size 0 dk).drewN k) 67 9 5 ⟨w.heap.size, 0, none⟩ 24 (Lib.decDigits u) Tryz.underlying67 Tryz.underlying5 Tryz.underlying9 (fun j hj => by
        rw [Lib.row_is_numeral hF j hj, Lib.add_plain, World.cell?_drewN]
        exact cell?_putRow (fun (b : UInt8) => Value.int .u8 (b.toNat : Int)) _ w.heap.size 0 _ dk HH0.out (by rw [hF.size, Array.size_replicate]) j (by rw [hF.size]; rw [Lib.decDigits_length] at hj; exact hj))
      rw [Lib.decDigits_length] at h
      exact h
    go_wp2
    go_ret
    obtain ⟨os, eo⟩ := Lib.fin_at w (.cells Lib.zeros24 119) dk k 0
    exact ⟨rfl, k, os, eo⟩
theorem dec_len (u : Nat) (h : u < 18446744073709551616) : Lib.nDigits u ≤ 20 := by
  by_cases h0 : u = 0
  · subst h0; decide +kernel
  · have := Lib.numDigits_eq u (by omega) h
    split at this <;> omega
def EFmtI : List AV → (AV → Prop) → Prop := fun al q => ∃ n : Int, al = [mkI .u64 n, mkI .i64 10] ∧ (0 ≤ n ∧ n ≤ 18446744073709551615) ∧ q (mkS (decS n.toNat))
theorem cFmtI : PSound Tryz.prog 74 EFmtI := by
  refine ⟨Tryz.call74, fun ext w al vs q hext hT hlen hrel hE => ?_⟩
  obtain ⟨n, rfl, ⟨h0, h1⟩, hq⟩ := hE
  have := arr2 (by simpa using hlen) (inv_int (hrel 0 (by simp))) (inv_int (hrel 1 (by simp)))
  subst this
  obtain ⟨u, rfl⟩ : ∃ u : Nat, n = u := ⟨n.toNat, by omega⟩
  refine (fmtU_calls u (by omega) w (pow10_of_tabs hT)).mono fun e w' ⟨h1, k, os, h2⟩ => ⟨_, _, h1, hq, ?_, ?_⟩
  · rw [Int.toNat_natCast]
    exact mkS_rel (by show (Lib.decDigits u).toArray.size ≤ LIM; have := Lib.decDigits_length u; have := dec_len u (by omega); simp only [List.size_toArray]; unfold LIM; omega)
  · rw [h2]
    exact Lib.below_grow _ w (Nat.le_refl _) k os
theorem rFmt (n : Int) (q : AV → Prop) :
 (aCode KS [(74, .pure EFmtI)] Tryz.b53 (kRet KS Tryz.f53.results.toList q) ⟨[mkI .u64 n, mkI .i64 10] ++ List.replicate (Tryz.f53.ntmps - 2) .jk, []⟩) = (
 ∃ (n_1 : Int),
 ([mkI .u64 n, mkI .i64 10] = [mkI .u64 n_1, mkI .i64 10]) ∧
 (((0 : Int) ≤ n_1) ∧ (n_1 ≤ (18446744073709551615 : Int))) ∧
 q (mkS (decS (Int.toNat n_1)))) := by kernel_rfl
theorem cFmt : PSound Tryz.prog 53 (detE FFmt) := by
  refine det_fn (c := Tryz.b53) mixed KS_ok (gsound_pure cFmtI gsound_nil) Tryz.func53 rfl rfl Tryz.call53 fun al p r q hF hp hq => ?_
  unfold FFmt at hF; split at hF <;> cases hF
  exact cast (rFmt _ q).symm ⟨_, rfl, hp, hq⟩
theorem cTxt : PSound Tryz.prog 30 (detE FTxt) := by
  refine det_fn (c := Tryz.b30) mixed KS_ok (gsound_det cFmt gsound_nil) Tryz.func30 rfl rfl Tryz.call30 fun al p r q hF hp hq => ?_
  unfold FTxt at hF; split at hF <;> cases hF
  rename_i n
  have e : IntKind.wrap .u64 n = n := IntWalk.u64_in _ (by omega)
  refine cast (rTxt n q).symm ?_
  rw [e]
  exact ⟨⟨hp.1, by omega⟩, hq⟩
end Go.Proofs.YtfdmmgiefhhnoaaGreatDoor
