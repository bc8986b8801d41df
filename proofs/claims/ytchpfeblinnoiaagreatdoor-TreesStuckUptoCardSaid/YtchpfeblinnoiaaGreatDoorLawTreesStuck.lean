import Derived.Test.YtchpfeblinnoiaaGreatDoorFrame4
import Derived.Test.YtchpfeblinnoiaaGreatDoorTrStk
import Derived.Test.YtchpfeblinnoiaaGreatDoorTie
/- TreesStuck, for all inputs whose bulk is at most 1048576 values and letters: the call returns true and leaves its arguments as they were. The conditions are the given row's own; the package-level tables that the row lists are tied by the given card. -/
set_option linter.unusedSimpArgs false
set_option linter.unusedVariables false
namespace Go.Proofs.YtchpfeblinnoiaaGreatDoor
open Go Go.AM Go.RowKit Go.ChangeShapes Go.WideShapes Go.ChangeAt
theorem laid_metTreesStuck (os : Os) : laidMet Tryz.prog Rows.treesStuckUptoRow.laid ((laidWorld Rows.treesStuckUptoRow.laid os).forCall (fun _ _ => 0) ⟨#[], #[.slice none 0 0], []⟩).memory :=
  laidMet_of_run' 12 (by kernel_rfl) (by kernel_rfl)
theorem readsTreesStuck (os : Os) {H : Type} (enc : TypeId × Value → H) : ∃ places, DataW.whole enc Tryz.prog ((laidWorld Rows.treesStuckUptoRow.laid os).forCall (fun _ _ => 0) ⟨#[], #[.slice none 0 0], []⟩).memory Tryz.f4.params.toList Rows.treesStuckSpec.vars false ((#[.slice none 0 0] : Array Value)).toList 12 = some ([.nil], [], places) :=
  ⟨[], by kernel_rfl⟩
set_option maxRecDepth 100000 in
theorem liftedTreesStuck (os : Os) (started : os.Started) (H : Type) (enc : TypeId × Value → H) (F : Stop.Interp) :
    ReturnsInHanded {} Tryz.checked os 4 .any ((Rows.OpenSpec.upto Rows.treesStuckSpec).preRow enc Tryz.prog Tryz.f4 Rows.treesStuckUptoRow.domain false Rows.treesStuckUptoRow.laid) (((Rows.OpenSpec.upto Rows.treesStuckSpec).at F).post enc Tryz.prog Tryz.f4 false true false false) := by
  obtain ⟨places, hx⟩ := readsTreesStuck os enc
  refine returnsInHanded_of_row (C := Tryz.checked) (s := Rows.OpenSpec.upto Rows.treesStuckSpec) own started (by kernel_rfl) Tryz.func4
    (witness_row_at (enc := enc) (C := Tryz.checked) false (laidWorld Rows.treesStuckUptoRow.laid os) #[.slice none 0 0] rfl (by kernel_rfl) (by kernel_rfl) (by kernel_rfl)
      (OpenSpec.preRow_of_cond 12 hx (by kernel_rfl) (fun k hk => by cases hk; kernel_rfl) (by kernel_rfl) (laid_metTreesStuck os))) ?_
  intro W base args ds gs before hval hW _ hcond _ hL _ _
  refine law_calls (s := Rows.treesStuckSpec) cSt laidOut (fun t ht => ?_) rfl Tryz.underlying4 rfl (fun l hl => ?_) hSt (tabs_laid hL (.tail _ (.head _)) (.head _) (by kernel_rfl) (by kernel_rfl)) hval hW (bound (hcond _ rfl))
  · rw [Tryz.params4] at ht
    simp only [List.mem_cons, List.not_mem_nil, or_false] at ht
    subst ht
    exact ⟨by kernel_rfl, by kernel_rfl, of_decide_eq_true (by kernel_rfl)⟩
  · rw [Tryz.params4] at hl
    match l, hl with
    | [x0], _ => rfl
theorem saidTreesStuck : Rows.TreesStuckUptoSaid :=
  OpenClaim.holds_of_cond 4 Tryz.f4 rfl rfl rfl rfl rfl rfl rfl ⟨rfl, rfl, rfl, rfl, rfl⟩ rfl rfl rfl rfl rfl (by kernel_rfl) Tryz.func4 (by kernel_rfl)
    (of_decide_eq_true (by kernel_rfl)) (by unfold Func.isWrapper; first | (rw [if_pos (by decide +kernel)]; kernel_rfl) | (rw [if_neg (by decide +kernel)]; exact ⟨rfl, rfl⟩))
    (fun os started H enc _ F => by rw [OpenClaim.pre_eq_preRow]; exact liftedTreesStuck os started H enc F)
theorem plainTreesStuck (f : FuncId) (fn : Func) (hf : Tryz.pinned.checked.prog.funcNamed "tidewater/tidewaterlaw03.TreesStuck" = some f) (hfn : Tryz.pinned.checked.prog.funcs[f]? = some fn) :
    true = Tryz.pinned.checked.prog.looks [] ∧ ∀ (j : Nat) t, fn.params[j]? = some t → Tryz.pinned.checked.prog.wantsStandIn t = false := by
  obtain rfl : f = 4 := Option.some.inj ((show Tryz.prog.funcNamed "tidewater/tidewaterlaw03.TreesStuck" = some 4 by kernel_rfl).symm.trans hf) |>.symm
  obtain rfl : fn = Tryz.f4 := (Option.some.inj (Tryz.func4.symm.trans hfn)).symm
  refine ⟨by kernel_rfl, fun j t ht => ?_⟩
  rw [Tryz.params4] at ht
  have ht := Array.mem_of_getElem? ht
  simp only [List.mem_toArray, List.mem_cons, List.not_mem_nil, or_false] at ht
  subst ht
  exact (show Tryz.prog.wantsStandIn _ = false by kernel_rfl)
theorem cardTreesStuck : Rows.TreesStuckUptoCardSaid :=
  Claim7.holds_tied_plain_at .later [] _ _ _ _ saidTreesStuck (fun _ h => by cases h) (by kernel_rfl) (fun _ h => by cases h) treesStuckUpto_row_tie rfl ⟨rfl, rfl⟩ (by kernel_rfl) rfl plainTreesStuck (by kernel_rfl)
end Go.Proofs.YtchpfeblinnoiaaGreatDoor
