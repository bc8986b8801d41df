/- TagsPieces, for all inputs whose bulk is at most 1048576 values and letters: the call returns true and leaves its arguments as they were. The conditions are the given row's own; the package-level tables that the row lists are tied by the given card. -/
import Derived.Test.YtfdecpfcphghlaaDoorFrame4
import Derived.Test.YtfdecpfcphghlaaDoorTagsPieces
import Derived.Test.YtfdecpfcphghlaaDoorTie
set_option linter.unusedSimpArgs false
set_option linter.unusedVariables false
namespace Go.Proofs.YtfdecpfcphghlaaDoor
open Go Go.AM Go.RowKit Go.ChangeShapes Go.WideShapes Go.ChangeAt

theorem laid_metTagsPieces (os : Os) : laidMet Tryd.prog Rows.tagsPiecesUptoRow.laid ((laidWorld Rows.tagsPiecesUptoRow.laid os).forCall (fun _ _ => 0) ⟨#[], #[.string ⟨#[]⟩, .slice none 0 0], []⟩).memory :=
  laidMet_of_run' 12 (by kernel_rfl) (by kernel_rfl)
theorem readsTagsPieces (os : Os) {H : Type} (enc : TypeId × Value → H) : ∃ places, DataW.whole enc Tryd.prog ((laidWorld Rows.tagsPiecesUptoRow.laid os).forCall (fun _ _ => 0) ⟨#[], #[.string ⟨#[]⟩, .slice none 0 0], []⟩).memory Tryd.f4.params.toList Rows.tagsPiecesSpec.vars false ((#[.string ⟨#[]⟩, .slice none 0 0] : Array Value)).toList 12 = some ([.lit (.string []), .nil], [], places) :=
  ⟨[], by kernel_rfl⟩
set_option maxRecDepth 100000 in
theorem liftedTagsPieces (os : Os) (started : os.Started) (H : Type) (enc : TypeId × Value → H) (F : Stop.Interp) :
    ReturnsInHanded {} Tryd.checked os 4 .any ((Rows.OpenSpec.upto Rows.tagsPiecesSpec).preRow enc Tryd.prog Tryd.f4 Rows.tagsPiecesUptoRow.domain false Rows.tagsPiecesUptoRow.laid) (((Rows.OpenSpec.upto Rows.tagsPiecesSpec).at F).post enc Tryd.prog Tryd.f4 false true false false) := by
  obtain ⟨places, hx⟩ := readsTagsPieces os enc
  refine returnsInHanded_of_row (C := Tryd.checked) (s := Rows.OpenSpec.upto Rows.tagsPiecesSpec) own started (by kernel_rfl) Tryd.func4
    (witness_row_at (enc := enc) (C := Tryd.checked) false (laidWorld Rows.tagsPiecesUptoRow.laid os) #[.string ⟨#[]⟩, .slice none 0 0] rfl (by kernel_rfl) (by kernel_rfl) (by kernel_rfl)
      (OpenSpec.preRow_of_cond 12 hx (by kernel_rfl) (fun k hk => by cases hk; kernel_rfl) (by kernel_rfl) (laid_metTagsPieces os))) ?_
  intro W base args ds gs before hval hW _ hcond _ hL _ _
  refine law_calls (s := Rows.tagsPiecesSpec) c4 laidOut (fun t ht => ?_) rfl Tryd.underlying4 rfl (fun l hl => ?_) h4 (tabs_laid hL (.tail _ (.head _)) (.head _) (by kernel_rfl) (by kernel_rfl)) hval hW (bound (hcond _ rfl))
  · rw [Tryd.params4] at ht
    simp only [List.mem_cons, List.not_mem_nil, or_false] at ht
    rcases ht with rfl | rfl
    all_goals exact ⟨by kernel_rfl, by kernel_rfl, of_decide_eq_true (by kernel_rfl)⟩
  · rw [Tryd.params4] at hl
    match l, hl with
    | [x0, x1], _ => rfl
theorem saidTagsPieces : Rows.TagsPiecesUptoSaid :=
  OpenClaim.holds_of_cond 4 Tryd.f4 rfl rfl rfl rfl rfl rfl rfl ⟨rfl, rfl, rfl, rfl, rfl⟩ rfl rfl rfl rfl rfl (by kernel_rfl) Tryd.func4 (by kernel_rfl)
    (of_decide_eq_true (by kernel_rfl)) (by unfold Func.isWrapper; first | (rw [if_pos (by decide +kernel)]; kernel_rfl) | (rw [if_neg (by decide +kernel)]; exact ⟨rfl, rfl⟩))
    (fun os started H enc _ F => by rw [OpenClaim.pre_eq_preRow]; exact liftedTagsPieces os started H enc F)
theorem plainTagsPieces (f : FuncId) (fn : Func) (hf : Tryd.pinned.checked.prog.funcNamed "tidewater/tidewaterlaw02.TagsPieces" = some f) (hfn : Tryd.pinned.checked.prog.funcs[f]? = some fn) :
    false = Tryd.pinned.checked.prog.looks [] ∧ ∀ (j : Nat) t, fn.params[j]? = some t → Tryd.pinned.checked.prog.wantsStandIn t = false := by
  obtain rfl : f = 4 := Option.some.inj ((show Tryd.prog.funcNamed "tidewater/tidewaterlaw02.TagsPieces" = some 4 by kernel_rfl).symm.trans hf) |>.symm
  obtain rfl : fn = Tryd.f4 := (Option.some.inj (Tryd.func4.symm.trans hfn)).symm
  refine ⟨by kernel_rfl, fun j t ht => ?_⟩
  rw [Tryd.params4] at ht
  have ht := Array.mem_of_getElem? ht
  simp only [List.mem_toArray, List.mem_cons, List.not_mem_nil, or_false] at ht
  rcases ht with rfl | rfl
  all_goals exact (show Tryd.prog.wantsStandIn _ = false by kernel_rfl)
/-- The card. -/
theorem cardTagsPieces : Rows.TagsPiecesUptoCardSaid :=
  Claim7.holds_tied_plain_at .later [] _ _ _ _ saidTagsPieces (fun _ h => by cases h) (by kernel_rfl) (fun _ h => by cases h) tagsPiecesUpto_row_tie rfl ⟨rfl, rfl⟩ (by kernel_rfl) rfl plainTagsPieces (by kernel_rfl)
end Go.Proofs.YtfdecpfcphghlaaDoor
