import Derived.Test.YtchpfeblinnoiaaGreatDoorFrame4
import Derived.Test.YtchpfeblinnoiaaGreatDoorTrDeep
import Derived.Test.YtchpfeblinnoiaaGreatDoorTie
/- TreesDeep, for all inputs whose bulk is at most 1048576 values and letters: the call returns true and leaves its arguments as they were. The conditions are the given row's own; the package-level tables that the row lists are tied by the given card. -/
set_option linter.unusedSimpArgs false
set_option linter.unusedVariables false
namespace Go.Proofs.YtchpfeblinnoiaaGreatDoor
open Go Go.AM Go.RowKit Go.ChangeShapes Go.WideShapes Go.ChangeAt
theorem laid_metTreesDeep (os : Os) : laidMet Tryz.prog Rows.treesDeepUptoRow.laid ((laidWorld Rows.treesDeepUptoRow.laid os).forCall (fun _ _ => 0) ⟨#[], #[.int .i64 0], []⟩).memory :=
  laidMet_of_run' 12 (by kernel_rfl) (by kernel_rfl)
theorem readsTreesDeep (os : Os) {H : Type} (enc : TypeId × Value → H) : ∃ places, DataW.whole enc Tryz.prog ((laidWorld Rows.treesDeepUptoRow.laid os).forCall (fun _ _ => 0) ⟨#[], #[.int .i64 0], []⟩).memory Tryz.f5.params.toList Rows.treesDeepSpec.vars false ((#[.int .i64 0] : Array Value)).toList 12 = some ([.lit (.int .i64 0)], [], places) :=
  ⟨[], by kernel_rfl⟩
set_option maxRecDepth 100000 in
theorem liftedTreesDeep (os : Os) (started : os.Started) (H : Type) (enc : TypeId × Value → H) (F : Stop.Interp) :
    ReturnsInHanded {} Tryz.checked os 5 .any ((Rows.OpenSpec.upto Rows.treesDeepSpec).preRow enc Tryz.prog Tryz.f5 Rows.treesDeepUptoRow.domain false Rows.treesDeepUptoRow.laid) (((Rows.OpenSpec.upto Rows.treesDeepSpec).at F).post enc Tryz.prog Tryz.f5 false true false false) := by
  obtain ⟨places, hx⟩ := readsTreesDeep os enc
  refine returnsInHanded_of_row (C := Tryz.checked) (s := Rows.OpenSpec.upto Rows.treesDeepSpec) own started (by kernel_rfl) Tryz.func5
    (witness_row_at (enc := enc) (C := Tryz.checked) false (laidWorld Rows.treesDeepUptoRow.laid os) #[.int .i64 0] rfl (by kernel_rfl) (by kernel_rfl) (by kernel_rfl)
      (OpenSpec.preRow_of_cond 12 hx (by kernel_rfl) (fun k hk => by cases hk; kernel_rfl) (by kernel_rfl) (laid_metTreesDeep os))) ?_
  intro W base args ds gs before hval hW _ hcond _ hL _ _
  refine law_calls (s := Rows.treesDeepSpec) cDp laidOut (fun t ht => ?_) rfl Tryz.underlying4 rfl (fun l hl => ?_) hDp (tabs_laid hL (.tail _ (.head _)) (.head _) (by kernel_rfl) (by kernel_rfl)) hval hW (bound (hcond _ rfl))
  · rw [Tryz.params5] at ht
    simp only [List.mem_cons, List.not_mem_nil, or_false] at ht
    subst ht
    exact ⟨by kernel_rfl, by kernel_rfl, of_decide_eq_true (by kernel_rfl)⟩
  · rw [Tryz.params5] at hl
    match l, hl with
    | [x0], _ => rfl
theorem saidTreesDeep : Rows.TreesDeepUptoSaid :=
  OpenClaim.holds_of_cond 5 Tryz.f5 rfl rfl rfl rfl rfl rfl rfl ⟨rfl, rfl, rfl, rfl, rfl⟩ rfl rfl rfl rfl rfl (by kernel_rfl) Tryz.func5 (by kernel_rfl)
    (of_decide_eq_true (by kernel_rfl)) (by unfold Func.isWrapper; first | (rw [if_pos (by decide +kernel)]; kernel_rfl) | (rw [if_neg (by decide +kernel)]; exact ⟨rfl, rfl⟩))
    (fun os started H enc _ F => by rw [OpenClaim.pre_eq_preRow]; exact liftedTreesDeep os started H enc F)
theorem plainTreesDeep (f : FuncId) (fn : Func) (hf : Tryz.pinned.checked.prog.funcNamed "tidewater/tidewaterlaw03.TreesDeep" = some f) (hfn : Tryz.pinned.checked.prog.funcs[f]? = some fn) :
    true = Tryz.pinned.checked.prog.looks [] ∧ ∀ (j : Nat) t, fn.params[j]? = some t → Tryz.pinned.checked.prog.wantsStandIn t = false := by
  obtain rfl : f = 5 := Option.some.inj ((show Tryz.prog.funcNamed "tidewater/tidewaterlaw03.TreesDeep" = some 5 by kernel_rfl).symm.trans hf) |>.symm
  obtain rfl : fn = Tryz.f5 := (Option.some.inj (Tryz.func5.symm.trans hfn)).symm
  refine ⟨by kernel_rfl, fun j t ht => ?_⟩
  rw [Tryz.params5] at ht
  have ht := Array.mem_of_getElem? ht
  simp only [List.mem_toArray, List.mem_cons, List.not_mem_nil, or_false] at ht
  subst ht
  exact (show Tryz.prog.wantsStandIn _ = false by kernel_rfl)
theorem cardTreesDeep : Rows.TreesDeepUptoCardSaid :=
  Claim7.holds_tied_plain_at .later [] _ _ _ _ saidTreesDeep (fun _ h => by cases h) (by kernel_rfl) (fun _ h => by cases h) treesDeepUpto_row_tie rfl ⟨rfl, rfl⟩ (by kernel_rfl) rfl plainTreesDeep (by kernel_rfl)
end Go.Proofs.YtchpfeblinnoiaaGreatDoor
