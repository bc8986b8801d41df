import Derived.Test.YthbejheedpdioaaDoorFrame3
import Derived.Test.YthbejheedpdioaaDoorCrNil
import Derived.Test.YthbejheedpdioaaDoorTie
/- CrowdNil, for all inputs whose bulk is at most 1048576 values and letters: the call returns true and leaves its arguments as they were. The conditions are the given row's own; the package-level tables that the row lists are tied by the given card. -/
set_option linter.unusedSimpArgs false
set_option linter.unusedVariables false
namespace Go.Proofs.YthbejheedpdioaaDoor
open Go Go.AM Go.RowKit Go.ChangeShapes Go.WideShapes Go.ChangeAt
theorem laid_metCrowdNil (os : Os) : laidMet Tryd.prog Rows.crowdNilUptoRow.laid ((laidWorld Rows.crowdNilUptoRow.laid os).forCall (fun _ _ => 0) ⟨#[], #[.agg #[.int .i64 0, .string ⟨#[]⟩, .string ⟨#[]⟩, .string ⟨#[]⟩, .string ⟨#[]⟩, .string ⟨#[]⟩, .string ⟨#[]⟩, .string ⟨#[]⟩, .int .u32 0, .int .i64 0, .bool false, .slice none 0 0]], []⟩).memory :=
  laidMet_of_run' 12 (by kernel_rfl) (by kernel_rfl)
theorem readsCrowdNil (os : Os) {H : Type} (enc : TypeId × Value → H) : ∃ places, DataW.whole enc Tryd.prog ((laidWorld Rows.crowdNilUptoRow.laid os).forCall (fun _ _ => 0) ⟨#[], #[.agg #[.int .i64 0, .string ⟨#[]⟩, .string ⟨#[]⟩, .string ⟨#[]⟩, .string ⟨#[]⟩, .string ⟨#[]⟩, .string ⟨#[]⟩, .string ⟨#[]⟩, .int .u32 0, .int .i64 0, .bool false, .slice none 0 0]], []⟩).memory Tryd.f7.params.toList Rows.crowdNilSpec.vars false ((#[.agg #[.int .i64 0, .string ⟨#[]⟩, .string ⟨#[]⟩, .string ⟨#[]⟩, .string ⟨#[]⟩, .string ⟨#[]⟩, .string ⟨#[]⟩, .string ⟨#[]⟩, .int .u32 0, .int .i64 0, .bool false, .slice none 0 0]] : Array Value)).toList 12 = some ([.agg [.lit (.int .i64 0), .lit (.string []), .lit (.string []), .lit (.string []), .lit (.string []), .lit (.string []), .lit (.string []), .lit (.string []), .lit (.int .u32 0), .lit (.int .i64 0), .lit (.bool false), .nil]], [], places) :=
  ⟨[], by kernel_rfl⟩
set_option maxRecDepth 100000 in
theorem liftedCrowdNil (os : Os) (started : os.Started) (H : Type) (enc : TypeId × Value → H) (F : Stop.Interp) :
    ReturnsInHanded {} Tryd.checked os 7 .any ((Rows.OpenSpec.upto Rows.crowdNilSpec).preRow enc Tryd.prog Tryd.f7 Rows.crowdNilUptoRow.domain false Rows.crowdNilUptoRow.laid) (((Rows.OpenSpec.upto Rows.crowdNilSpec).at F).post enc Tryd.prog Tryd.f7 false true false false) := by
  obtain ⟨places, hx⟩ := readsCrowdNil os enc
  refine returnsInHanded_of_row (C := Tryd.checked) (s := Rows.OpenSpec.upto Rows.crowdNilSpec) own started (by kernel_rfl) Tryd.func7
    (witness_row_at (enc := enc) (C := Tryd.checked) false (laidWorld Rows.crowdNilUptoRow.laid os) #[.agg #[.int .i64 0, .string ⟨#[]⟩, .string ⟨#[]⟩, .string ⟨#[]⟩, .string ⟨#[]⟩, .string ⟨#[]⟩, .string ⟨#[]⟩, .string ⟨#[]⟩, .int .u32 0, .int .i64 0, .bool false, .slice none 0 0]] rfl (by kernel_rfl) (by kernel_rfl) (by kernel_rfl)
      (OpenSpec.preRow_of_cond 12 hx (by kernel_rfl) (fun k hk => by cases hk; kernel_rfl) (by kernel_rfl) (laid_metCrowdNil os))) ?_
  intro W base args ds gs before hval hW _ hcond _ hL _ _
  refine law_calls (s := Rows.crowdNilSpec) cNi laidOut (fun t ht => ?_) rfl Tryd.underlying4 rfl (fun l hl => ?_) hNi (fun x hx => by cases hx) hval hW (bound (hcond _ rfl))
  · rw [Tryd.params7] at ht
    simp only [List.mem_cons, List.not_mem_nil, or_false] at ht
    subst ht
    exact ⟨by kernel_rfl, by kernel_rfl, of_decide_eq_true (by kernel_rfl)⟩
  · rw [Tryd.params7] at hl
    match l, hl with
    | [x0], _ => rfl
theorem saidCrowdNil : Rows.CrowdNilUptoSaid :=
  OpenClaim.holds_of_cond 7 Tryd.f7 rfl rfl rfl rfl rfl rfl rfl ⟨rfl, rfl, rfl, rfl, rfl⟩ rfl rfl rfl rfl rfl (by kernel_rfl) Tryd.func7 (by kernel_rfl)
    (of_decide_eq_true (by kernel_rfl)) (by unfold Func.isWrapper; first | (rw [if_pos (by decide +kernel)]; kernel_rfl) | (rw [if_neg (by decide +kernel)]; exact ⟨rfl, rfl⟩))
    (fun os started H enc _ F => by rw [OpenClaim.pre_eq_preRow]; exact liftedCrowdNil os started H enc F)
theorem plainCrowdNil (f : FuncId) (fn : Func) (hf : Tryd.pinned.checked.prog.funcNamed "tidewater/tidewaterlaw23.CrowdNil" = some f) (hfn : Tryd.pinned.checked.prog.funcs[f]? = some fn) :
    false = Tryd.pinned.checked.prog.looks [] ∧ ∀ (j : Nat) t, fn.params[j]? = some t → Tryd.pinned.checked.prog.wantsStandIn t = false := by
  obtain rfl : f = 7 := Option.some.inj ((show Tryd.prog.funcNamed "tidewater/tidewaterlaw23.CrowdNil" = some 7 by kernel_rfl).symm.trans hf) |>.symm
  obtain rfl : fn = Tryd.f7 := (Option.some.inj (Tryd.func7.symm.trans hfn)).symm
  refine ⟨by kernel_rfl, fun j t ht => ?_⟩
  rw [Tryd.params7] at ht
  have ht := Array.mem_of_getElem? ht
  simp only [List.mem_toArray, List.mem_cons, List.not_mem_nil, or_false] at ht
  subst ht
  exact (show Tryd.prog.wantsStandIn _ = false by kernel_rfl)
theorem cardCrowdNil : Rows.CrowdNilUptoCardSaid :=
  Claim7.holds_tied_plain_at .later [] _ _ _ _ saidCrowdNil (fun _ h => by cases h) (by kernel_rfl) (fun _ h => by cases h) crowdNilUpto_row_tie rfl ⟨rfl, rfl⟩ (by kernel_rfl) rfl plainCrowdNil (by kernel_rfl)
end Go.Proofs.YthbejheedpdioaaDoor
