import Derived.WalkKit
import Derived.StillTailTactics
import Derived.Sort.Grow
import Derived.Deep.Draws
import Derived.Test.YtepkbbkfcnejmaaDoorLeCLay
import Derived.Test.YtepkbbkfcnejmaaDoorLeCmp
set_option linter.unusedSimpArgs false
set_option linter.unusedVariables false
namespace Go.Proofs.YtepkbbkfcnejmaaDoor
open Go Go.AM Go.RowKit Go.Shelf Go.Lib Go.Sort
theorem cmp_eq (x y : Int) : Lib.compareInt x y = cmpI x y := by
  unfold Lib.compareInt cmpI
  repeat' split
  all_goals omega
theorem cmpW (x y : Int) (W : World) : Calls Tryd.prog 52 #[.int .i64 x, .int .i64 y] W fun e w' => e = .returned (.int .i64 (cmpI x y)) ∧ w' = W := by
  have h := AnyG.cmp_Compare_int Tryd.cmpA x y W
  rw [cmp_eq] at h
  exact h
theorem orW (x y : Int) (W : World) (b : Nat) (h0 : W.cell? ⟨b, 0, none⟩ = some (.int .i64 x)) (h1 : W.cell? ⟨b, 1, none⟩ = some (.int .i64 y)) :
    Calls Tryd.prog 51 #[.slice (some ⟨b, 0, none⟩) 2 2] W fun e w' => e = .returned (.int .i64 (orI x y)) ∧ w' = W := by
  go_enter Tryd.func51, Tryd.ntmps51
  go_wp2
  refine wp_loop_rounds 3 ?_
  rw [rounds_succ]
  go_wp2
  · rename_i h
    have e : orI x y = x := if_pos (by simpa using h)
    rw [e]
    go_ret
    exact ⟨rfl, rfl⟩
  · rename_i h
    have e : orI x y = y := if_neg (by simpa using h)
    rw [rounds_succ]
    go_wp2
    · go_ret
      exact ⟨by rw [e]; rfl, rfl⟩
    · rename_i h2
      have h2 : y = 0 := by simpa using h2
      rw [rounds_succ]
      go_wp2
      go_ret
      exact ⟨by rw [e, h2]; rfl, rfl⟩
set_option maxRecDepth 20000 in
theorem earlierW (d1 d2 i1 i2 : Int) (W : World) (b c : Nat) (h1 : W.cell? ⟨b, 5, none⟩ = some (.int .i64 d1)) (h2 : W.cell? ⟨c, 5, none⟩ = some (.int .i64 d2)) (h3 : W.cell? ⟨b, 0, none⟩ = some (.int .i64 i1)) (h4 : W.cell? ⟨c, 0, none⟩ = some (.int .i64 i2)) :
    Calls Tryd.prog 34 #[.pointer (some ⟨b, 0, none⟩), .pointer (some ⟨c, 0, none⟩)] W fun e w' => e = .returned (.int .i64 (orI (cmpI d1 d2) (cmpI i1 i2))) ∧ ∃ q os, w' = grow (W.drewN q) os := by
  have c1 : ∀ w, Calls Tryd.prog 52 #[.int .i64 d1, .int .i64 d2] w fun e w' => e = .returned (.int .i64 (cmpI d1 d2)) ∧ w' = w := fun w => cmpW _ _ _
  have c2 : ∀ w, Calls Tryd.prog 52 #[.int .i64 i1, .int .i64 i2] w fun e w' => e = .returned (.int .i64 (cmpI i1 i2)) ∧ w' = w := fun w => cmpW _ _ _
  have c3 := orW (cmpI d1 d2) (cmpI i1 i2)
  generalize cmpI d1 d2 = x at *
  generalize cmpI i1 i2 = y at *
  generalize orI x y = z at *
  go_enter Tryd.func34, Tryd.ntmps34
  go_wp2_with fail
  refine wp_region_still_tail 18 mixed (by kernel_rfl) ?_
  simp only [List.take_succ_cons, List.take_zero, List.drop_succ_cons, List.drop_zero]
  repeat still_step
  still_call (c1 _)
  repeat still_step
  still_call (c2 _)
  refine wpStill_nil ?_
  go_wp2_with (go_at_call 51; refine (c3 _ _ (by simp) (by simp)).mono ?_; rintro e w' ⟨rfl, rfl⟩)
  go_ret
  exact ⟨rfl, 1, #[_], rfl⟩
end Go.Proofs.YtepkbbkfcnejmaaDoor
