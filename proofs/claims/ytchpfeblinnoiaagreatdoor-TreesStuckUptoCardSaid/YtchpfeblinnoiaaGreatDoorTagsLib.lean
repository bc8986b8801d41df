import Derived.Test.YtchpfeblinnoiaaGreatDoorBindBase
import Derived.Test.YtchpfeblinnoiaaGreatDoorFrame4
import Derived.Test.YtchpfeblinnoiaaGreatDoorShelf
import Derived.Lib.OthersKept
import Derived.Shelf.Strings.SlTrimAscii
import Derived.Shelf.Strings.IndexAnyAll
set_option linter.unusedSimpArgs false
set_option linter.unusedVariables false
namespace Go.Proofs.YtchpfeblinnoiaaGreatDoor
open Go Go.AM Go.RowKit
def mayB (c : Int) : Bool := if c = 9 then true else if c = 10 then true else if c = 13 then true else if c = 65534 then false else if c = 65535 then false else decide (c ≥ 32)
def F43 : List AV → Option (Prop × AV) := fun al => match al with
  | [.d (.v (.int .i32 r))] => some (True, mkB (mayB r))
  | _ => none
theorem r43 (r : Int) (q : AV → Prop) :
  (aCode Tryz.K [] Tryz.b67 (kRet Tryz.K Tryz.f67.results.toList q) ⟨[mkI .i32 r] ++ List.replicate (Tryz.f67.ntmps - 1) .jk, []⟩) = (
  bcase (r == (9 : Int)) (
   q (mkB true)) (
   bcase (r == (10 : Int)) (
    q (mkB true)) (
    bcase (r == (13 : Int)) (
     q (mkB true)) (
     bcase (r == (65534 : Int)) (
      q (mkB false)) (
      bcase (r == (65535 : Int)) (
       q (mkB false)) (
       q (mkB (decide (r ≥ (32 : Int)))))))))) := by kernel_rfl
theorem c43 : PSound Tryz.prog 67 (detE F43) := by
  refine det_fn (c := Tryz.b67) mixed Tryz.K_ok gsound_nil Tryz.func67 rfl rfl Tryz.call67 fun al p r q hF hp hq => ?_
  unfold F43 at hF; split at hF <;> cases hF
  rename_i r
  refine cast (r43 _ q).symm ?_
  unfold mayB at hq
  by_cases h1 : r = 9
  · simpa [h1, bcase] using hq
  · by_cases h2 : r = 10
    · simpa [h2, bcase] using hq
    · by_cases h3 : r = 13
      · simpa [h3, bcase] using hq
      · by_cases h4 : r = 65534
        · simpa [h4, bcase] using hq
        · by_cases h5 : r = 65535
          · simpa [h5, bcase] using hq
          · have e1 : (r == 9) = false := by simpa using h1
            have e2 : (r == 10) = false := by simpa using h2
            have e3 : (r == 13) = false := by simpa using h3
            have e4 : (r == 65534) = false := by simpa using h4
            have e5 : (r == 65535) = false := by simpa using h5
            simp only [h1, h2, h3, h4, h5, if_false] at hq
            simp only [e1, e2, e3, e4, e5, bcase]
            exact hq
theorem may_calls (r : Int) (W : World) (hT : Tabs (fun _ => False) W) : Calls Tryz.prog 67 #[.int .i32 r] W fun e w' => e = .returned (.bool (mayB r)) ∧ Below W.heap.size W w' := by
  refine (c43.call (fun _ => False) W [mkI .i32 r] #[.int .i32 r] (fun av => av = mkB (mayB r)) (fun b h => h.elim) hT rfl (fun i hi => ?_) ⟨trivial, rfl⟩).mono ?_
  · have : i = 0 := by simpa using hi
    subst this
    exact mkI_rel
  · rintro e w' ⟨v, av, rfl, rfl, hv, hb⟩
    exact ⟨by rw [inv_bool hv], hb⟩
def runesB (s : ByteArray) : Nat → Nat → Bool
  | 0, _ => true
  | n + 1, pos => if pos < s.size then mayB ((Utf8.decode s pos).1 : Int) && runesB s n (pos + (Utf8.decode s pos).2) else true
def rightB (s : ByteArray) : Bool := Lib.validD s.data.toList && runesB s s.size 0
theorem tabs_below {W W' : World} (h : Below W.heap.size W W') (hT : Tabs (fun _ => False) W) : Tabs (fun _ => False) W' := hT.keeps ⟨h.size, fun b hb _ => ⟨h.block b hb, id⟩⟩
set_option maxHeartbeats 2000000 in
set_option maxRecDepth 1000000 in
theorem right_calls (s : ByteArray) (w : World) (hs : s.size ≤ LIM) (hT : Tabs (fun _ => False) w) :
    Calls Tryz.prog 51 #[.string s] w fun e w' => e = .returned (.int .i64 (if rightB s = true then 0 else 2)) ∧ Below w.heap.size w w' := by
  have cV := Any.utf8_ValidString Tryz.lays196 s w (Nat.le_trans hs (by decide)) (utf8_of_tabs hT)
  obtain ⟨ANS, hANS⟩ : ∃ ANS : Int, (if rightB s = true then 0 else 2) = ANS := ⟨_, rfl⟩
  rw [hANS]
  cases hV : Lib.validD s.data.toList with
  | false =>
    rw [hV] at cV
    have : ANS = 2 := by rw [← hANS]; simp [rightB, hV]
    subst this
    go_enter Tryz.func51, Tryz.ntmps51
    go_wp2_with (go_at_call 66; refine cV.mono ?_; rintro e w' ⟨rfl, hb⟩)
    go_ret
    exact ⟨rfl, hb⟩
  | true =>
    rw [hV] at cV
    have hA : (if runesB s s.size 0 = true then (0 : Int) else 2) = ANS := by rw [← hANS]; simp [rightB, hV]
    clear hANS
    go_enter Tryz.func51, Tryz.ntmps51
    go_wp2_with (go_at_call 66; refine cV.mono ?_; rintro e w1 ⟨rfl, hb1⟩)
    go_loopg [] s.size (fun gf wx => ∃ pos : Nat, wx.heap[w1.heap.size]? = some (.stringIter s pos) ∧ Below w.heap.size w wx ∧ (if runesB s gf pos = true then (0 : Int) else 2) = ANS ∧ s.size ≤ pos + gf)
    case atStart => exact ⟨0, World.iter_heap w1 s 0, hb1.alloc (by have := hb1.size; omega) _, hA, by omega⟩
    case round =>
      obtain ⟨pos, hit, hbw, hAn, hfu⟩ := hrel
      by_cases hps : pos < s.size
      · obtain ⟨g', rfl⟩ : ∃ g', gk = g' + 1 := ⟨gk - 1, by omega⟩
        have hnx : ∀ ty, (Instr.next (.pointer (some ⟨w1.heap.size, 0, none⟩)) true ty).run Tryz.prog wr = _ := fun ty => Lib.run_next_any_at wr w1.heap.size s pos ty hit hps
        have hwd := Lib.width_pos s pos
        simp only [runesB, hps, if_true] at hAn
        obtain ⟨R, hR⟩ : ∃ R, (Utf8.decode s pos).1 = R := ⟨_, rfl⟩
        obtain ⟨K, hK⟩ : ∃ K, (Utf8.decode s pos).2 = K := ⟨_, rfl⟩
        rw [hR, hK] at hnx hAn
        rw [hK] at hwd
        have hle1 := hb1.size
        have hit2 := Lib.iterAt_heap wr w1.heap.size s pos (pos + K) hit
        have hbw2 := Lib.below_iterAt hbw (k := w1.heap.size) hle1 s (pos + K)
        obtain ⟨W, hWd⟩ : ∃ W, wr.iterAt w1.heap.size s (pos + K) = W := ⟨_, rfl⟩
        rw [hWd] at hnx hit2 hbw2
        have hltW : w1.heap.size < W.heap.size := (Array.getElem?_eq_some_iff.1 hit2).1
        have cM := may_calls (R : Int) W (tabs_below hbw2 hT)
        cases hM : mayB (R : Int) with
        | true =>
          rw [hM] at cM
          simp only [hM, Bool.true_and] at hAn
          go_wp2_with (go_at_call 67; refine cM.mono ?_; rintro e W' ⟨rfl, hbc⟩)
          go_roundg g'
          case measure => omega
          case rel => exact ⟨pos + K, (hbc.block _ hltW).trans hit2, (hbw2.trans (hbc.mono hbw2.size)), hAn, by omega⟩
        | false =>
          rw [hM] at cM
          have : ANS = 2 := by rw [← hAn]; simp [hM]
          subst this
          go_wp2_with (go_at_call 67; refine cM.mono ?_; rintro e W' ⟨rfl, hbc⟩)
          go_ret
          exact ⟨rfl, hbw2.trans (hbc.mono hbw2.size)⟩
      · have hnx : ∀ ty, (Instr.next (.pointer (some ⟨w1.heap.size, 0, none⟩)) true ty).run Tryz.prog wr = _ := fun ty => Lib.run_next_end_at wr w1.heap.size s pos ty hit hps
        have : ANS = 0 := by rw [← hAn]; cases gk <;> simp [runesB, hps]
        subst this
        go_wp2
        go_ret
        exact ⟨rfl, hbw⟩
end Go.Proofs.YtchpfeblinnoiaaGreatDoor
