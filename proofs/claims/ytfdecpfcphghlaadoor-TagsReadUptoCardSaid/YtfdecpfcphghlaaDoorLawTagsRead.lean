/- TagsRead, for all inputs whose bulk is at most 1048576 values and letters: the call returns true and leaves its arguments as they were. The conditions are the given row's own; the package-level tables that the row lists are tied by the given card. -/
import Derived.Test.YtfdecpfcphghlaaDoorFrame4
import Derived.Test.YtfdecpfcphghlaaDoorTagsRef6
import Derived.Test.YtfdecpfcphghlaaDoorTie
set_option linter.unusedSimpArgs false
set_option linter.unusedVariables false
namespace Go.Proofs.YtfdecpfcphghlaaDoor
open Go Go.AM Go.RowKit Go.ChangeShapes Go.WideShapes Go.ChangeAt

theorem laid_metTagsRead (os : Os) : laidMet Tryd.prog Rows.tagsReadUptoRow.laid ((laidWorld Rows.tagsReadUptoRow.laid os).forCall (fun _ _ => 0) ⟨#[], #[.string ⟨#[]⟩], []⟩).memory :=
  laidMet_of_run' 12 (by kernel_rfl) (by kernel_rfl)
theorem readsTagsRead (os : Os) {H : Type} (enc : TypeId × Value → H) : ∃ places, DataW.whole enc Tryd.prog ((laidWorld Rows.tagsReadUptoRow.laid os).forCall (fun _ _ => 0) ⟨#[], #[.string ⟨#[]⟩], []⟩).memory Tryd.f3.params.toList Rows.tagsReadSpec.vars false ((#[.string ⟨#[]⟩] : Array Value)).toList 12 = some ([.lit (.string [])], [], places) :=
  ⟨[], by kernel_rfl⟩
set_option maxRecDepth 100000 in
theorem liftedTagsRead (os : Os) (started : os.Started) (H : Type) (enc : TypeId × Value → H) (F : Stop.Interp) :
    ReturnsInHanded {} Tryd.checked os 3 .any ((Rows.OpenSpec.upto Rows.tagsReadSpec).preRow enc Tryd.prog Tryd.f3 Rows.tagsReadUptoRow.domain false Rows.tagsReadUptoRow.laid) (((Rows.OpenSpec.upto Rows.tagsReadSpec).at F).post enc Tryd.prog Tryd.f3 false true false false) := by
  obtain ⟨places, hx⟩ := readsTagsRead os enc
  refine returnsInHanded_of_row (C := Tryd.checked) (s := Rows.OpenSpec.upto Rows.tagsReadSpec) own started (by kernel_rfl) Tryd.func3
    (witness_row_at (enc := enc) (C := Tryd.checked) false (laidWorld Rows.tagsReadUptoRow.laid os) #[.string ⟨#[]⟩] rfl (by kernel_rfl) (by kernel_rfl) (by kernel_rfl)
      (OpenSpec.preRow_of_cond 12 hx (by kernel_rfl) (fun k hk => by cases hk; kernel_rfl) (by kernel_rfl) (laid_metTagsRead os))) ?_
  intro W base args ds gs before hval hW _ hcond _ hL _ _
  refine law_calls (s := Rows.tagsReadSpec) c3 laidOut (fun t ht => ?_) rfl Tryd.underlying4 rfl (fun l hl => ?_) h3 (tabs_laid hL (.tail _ (.head _)) (.head _) (by kernel_rfl) (by kernel_rfl)) hval hW (bound (hcond _ rfl))
  · rw [Tryd.params3] at ht
    simp only [List.mem_cons, List.not_mem_nil, or_false] at ht
    subst ht
    exact ⟨by kernel_rfl, by kernel_rfl, of_decide_eq_true (by kernel_rfl)⟩
  · rw [Tryd.params3] at hl
    match l, hl with
    | [x0], _ => rfl
theorem saidTagsRead : Rows.TagsReadUptoSaid :=
  OpenClaim.holds_of_cond 3 Tryd.f3 rfl rfl rfl rfl rfl rfl rfl ⟨rfl, rfl, rfl, rfl, rfl⟩ rfl rfl rfl rfl rfl (by kernel_rfl) Tryd.func3 (by kernel_rfl)
    (of_decide_eq_true (by kernel_rfl)) (by unfold Func.isWrapper; first | (rw [if_pos (by decide +kernel)]; kernel_rfl) | (rw [if_neg (by decide +kernel)]; exact ⟨rfl, rfl⟩))
    (fun os started H enc _ F => by rw [OpenClaim.pre_eq_preRow]; exact liftedTagsRead os started H enc F)
theorem plainTagsRead (f : FuncId) (fn : Func) (hf : Tryd.pinned.checked.prog.funcNamed "tidewater/tidewaterlaw02.TagsRead" = some f) (hfn : Tryd.pinned.checked.prog.funcs[f]? = some fn) :
    false = Tryd.pinned.checked.prog.looks [] ∧ ∀ (j : Nat) t, fn.params[j]? = some t → Tryd.pinned.checked.prog.wantsStandIn t = false := by
  obtain rfl : f = 3 := Option.some.inj ((show Tryd.prog.funcNamed "tidewater/tidewaterlaw02.TagsRead" = some 3 by kernel_rfl).symm.trans hf) |>.symm
  obtain rfl : fn = Tryd.f3 := (Option.some.inj (Tryd.func3.symm.trans hfn)).symm
  refine ⟨by kernel_rfl, fun j t ht => ?_⟩
  rw [Tryd.params3] at ht
  have ht := Array.mem_of_getElem? ht
  simp only [List.mem_toArray, List.mem_cons, List.not_mem_nil, or_false] at ht
  subst ht
  exact (show Tryd.prog.wantsStandIn _ = false by kernel_rfl)
/-- The card. -/
theorem cardTagsRead : Rows.TagsReadUptoCardSaid :=
  Claim7.holds_tied_plain_at .later [] _ _ _ _ saidTagsRead (fun _ h => by cases h) (by kernel_rfl) (fun _ h => by cases h) tagsReadUpto_row_tie rfl ⟨rfl, rfl⟩ (by kernel_rfl) rfl plainTagsRead (by kernel_rfl)
end Go.Proofs.YtfdecpfcphghlaaDoor
