import Derived.Test.YthbejheedpdioaaDoorFrame3
import Derived.Test.YthbejheedpdioaaDoorCrPlays
import Derived.Test.YthbejheedpdioaaDoorTie
/- CrowdPlays, for all inputs whose bulk is at most 1048576 values and letters: the call returns true and leaves its arguments as they were. The conditions are the given row's own; the package-level tables that the row lists are tied by the given card. -/
set_option linter.unusedSimpArgs false
set_option linter.unusedVariables false
namespace Go.Proofs.YthbejheedpdioaaDoor
open Go Go.AM Go.RowKit Go.ChangeShapes Go.WideShapes Go.ChangeAt
theorem laid_metCrowdPlays (os : Os) : laidMet Tryd.prog Rows.crowdPlaysUptoRow.laid ((laidWorld Rows.crowdPlaysUptoRow.laid os).forCall (fun _ _ => 0) ⟨#[], #[.slice none 0 0, .string ⟨#[]⟩], []⟩).memory :=
  laidMet_of_run' 12 (by kernel_rfl) (by kernel_rfl)
theorem readsCrowdPlays (os : Os) {H : Type} (enc : TypeId × Value → H) : ∃ places, DataW.whole enc Tryd.prog ((laidWorld Rows.crowdPlaysUptoRow.laid os).forCall (fun _ _ => 0) ⟨#[], #[.slice none 0 0, .string ⟨#[]⟩], []⟩).memory Tryd.f6.params.toList Rows.crowdPlaysSpec.vars false ((#[.slice none 0 0, .string ⟨#[]⟩] : Array Value)).toList 12 = some ([.nil, .lit (.string [])], [], places) :=
  ⟨[], by kernel_rfl⟩
set_option maxRecDepth 100000 in
theorem liftedCrowdPlays (os : Os) (started : os.Started) (H : Type) (enc : TypeId × Value → H) (F : Stop.Interp) :
    ReturnsInHanded {} Tryd.checked os 6 .any ((Rows.OpenSpec.upto Rows.crowdPlaysSpec).preRow enc Tryd.prog Tryd.f6 Rows.crowdPlaysUptoRow.domain false Rows.crowdPlaysUptoRow.laid) (((Rows.OpenSpec.upto Rows.crowdPlaysSpec).at F).post enc Tryd.prog Tryd.f6 false true false false) := by
  obtain ⟨places, hx⟩ := readsCrowdPlays os enc
  refine returnsInHanded_of_row (C := Tryd.checked) (s := Rows.OpenSpec.upto Rows.crowdPlaysSpec) own started (by kernel_rfl) Tryd.func6
    (witness_row_at (enc := enc) (C := Tryd.checked) false (laidWorld Rows.crowdPlaysUptoRow.laid os) #[.slice none 0 0, .string ⟨#[]⟩] rfl (by kernel_rfl) (by kernel_rfl) (by kernel_rfl)
      (OpenSpec.preRow_of_cond 12 hx (by kernel_rfl) (fun k hk => by cases hk; kernel_rfl) (by kernel_rfl) (laid_metCrowdPlays os))) ?_
  intro W base args ds gs before hval hW _ hcond _ hL _ _
  refine law_calls (s := Rows.crowdPlaysSpec) cPl laidOut (fun t ht => ?_) rfl Tryd.underlying4 rfl (fun l hl => ?_) hPl (fun x hx => by cases hx) hval hW (bound (hcond _ rfl))
  · rw [Tryd.params6] at ht
    simp only [List.mem_cons, List.not_mem_nil, or_false] at ht
    rcases ht with rfl | rfl
    all_goals exact ⟨by kernel_rfl, by kernel_rfl, of_decide_eq_true (by kernel_rfl)⟩
  · rw [Tryd.params6] at hl
    match l, hl with
    | [x0, x1], _ => rfl
theorem saidCrowdPlays : Rows.CrowdPlaysUptoSaid :=
  OpenClaim.holds_of_cond 6 Tryd.f6 rfl rfl rfl rfl rfl rfl rfl ⟨rfl, rfl, rfl, rfl, rfl⟩ rfl rfl rfl rfl rfl (by kernel_rfl) Tryd.func6 (by kernel_rfl)
    (of_decide_eq_true (by kernel_rfl)) (by unfold Func.isWrapper; first | (rw [if_pos (by decide +kernel)]; kernel_rfl) | (rw [if_neg (by decide +kernel)]; exact ⟨rfl, rfl⟩))
    (fun os started H enc _ F => by rw [OpenClaim.pre_eq_preRow]; exact liftedCrowdPlays os started H enc F)
theorem plainCrowdPlays (f : FuncId) (fn : Func) (hf : Tryd.pinned.checked.prog.funcNamed "tidewater/tidewaterlaw23.CrowdPlays" = some f) (hfn : Tryd.pinned.checked.prog.funcs[f]? = some fn) :
    false = Tryd.pinned.checked.prog.looks [] ∧ ∀ (j : Nat) t, fn.params[j]? = some t → Tryd.pinned.checked.prog.wantsStandIn t = false := by
  obtain rfl : f = 6 := Option.some.inj ((show Tryd.prog.funcNamed "tidewater/tidewaterlaw23.CrowdPlays" = some 6 by kernel_rfl).symm.trans hf) |>.symm
  obtain rfl : fn = Tryd.f6 := (Option.some.inj (Tryd.func6.symm.trans hfn)).symm
  refine ⟨by kernel_rfl, fun j t ht => ?_⟩
  rw [Tryd.params6] at ht
  have ht := Array.mem_of_getElem? ht
  simp only [List.mem_toArray, List.mem_cons, List.not_mem_nil, or_false] at ht
  rcases ht with rfl | rfl
  all_goals exact (show Tryd.prog.wantsStandIn _ = false by kernel_rfl)
theorem cardCrowdPlays : Rows.CrowdPlaysUptoCardSaid :=
  Claim7.holds_tied_plain_at .later [] _ _ _ _ saidCrowdPlays (fun _ h => by cases h) (by kernel_rfl) (fun _ h => by cases h) crowdPlaysUpto_row_tie rfl ⟨rfl, rfl⟩ (by kernel_rfl) rfl plainCrowdPlays (by kernel_rfl)
end Go.Proofs.YthbejheedpdioaaDoor
