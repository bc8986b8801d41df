import Derived.Test.YtepkbbkfcnejmaaGreatDoorFrame3
import Derived.Test.YtepkbbkfcnejmaaGreatDoorLeNil
import Derived.Test.YtepkbbkfcnejmaaGreatDoorTie
/- LeaseNil, for all inputs whose bulk is at most 1048576 values and letters: the call returns true and leaves its arguments as they were. The conditions are the given row's own; the package-level tables that the row lists are tied by the given card. -/
set_option linter.unusedSimpArgs false
set_option linter.unusedVariables false
namespace Go.Proofs.YtepkbbkfcnejmaaGreatDoor
open Go Go.AM Go.RowKit Go.ChangeShapes Go.WideShapes Go.ChangeAt
theorem laid_metLeaseNil (os : Os) : laidMet Tryz.prog Rows.leaseNilUptoRow.laid ((laidWorld Rows.leaseNilUptoRow.laid os).forCall (fun _ _ => 0) ⟨#[], #[.agg #[.int .i64 0, .int .i64 0, .int .i64 0, .int .i64 0, .string ⟨#[]⟩, .string ⟨#[]⟩, .string ⟨#[]⟩]], []⟩).memory :=
  laidMet_of_run' 12 (by kernel_rfl) (by kernel_rfl)
theorem readsLeaseNil (os : Os) {H : Type} (enc : TypeId × Value → H) : ∃ places, DataW.whole enc Tryz.prog ((laidWorld Rows.leaseNilUptoRow.laid os).forCall (fun _ _ => 0) ⟨#[], #[.agg #[.int .i64 0, .int .i64 0, .int .i64 0, .int .i64 0, .string ⟨#[]⟩, .string ⟨#[]⟩, .string ⟨#[]⟩]], []⟩).memory Tryz.f4.params.toList Rows.leaseNilSpec.vars false ((#[.agg #[.int .i64 0, .int .i64 0, .int .i64 0, .int .i64 0, .string ⟨#[]⟩, .string ⟨#[]⟩, .string ⟨#[]⟩]] : Array Value)).toList 12 = some ([.agg [.lit (.int .i64 0), .lit (.int .i64 0), .lit (.int .i64 0), .lit (.int .i64 0), .lit (.string []), .lit (.string []), .lit (.string [])]], [], places) :=
  ⟨[], by kernel_rfl⟩
set_option maxRecDepth 100000 in
theorem liftedLeaseNil (os : Os) (started : os.Started) (H : Type) (enc : TypeId × Value → H) (F : Stop.Interp) :
    ReturnsInHanded {} Tryz.checked os 4 .any ((Rows.OpenSpec.upto Rows.leaseNilSpec).preRow enc Tryz.prog Tryz.f4 Rows.leaseNilUptoRow.domain false Rows.leaseNilUptoRow.laid) (((Rows.OpenSpec.upto Rows.leaseNilSpec).at F).post enc Tryz.prog Tryz.f4 false true false false) := by
  obtain ⟨places, hx⟩ := readsLeaseNil os enc
  refine returnsInHanded_of_row (C := Tryz.checked) (s := Rows.OpenSpec.upto Rows.leaseNilSpec) own started (by kernel_rfl) Tryz.func4
    (witness_row_at (enc := enc) (C := Tryz.checked) false (laidWorld Rows.leaseNilUptoRow.laid os) #[.agg #[.int .i64 0, .int .i64 0, .int .i64 0, .int .i64 0, .string ⟨#[]⟩, .string ⟨#[]⟩, .string ⟨#[]⟩]] rfl (by kernel_rfl) (by kernel_rfl) (by kernel_rfl)
      (OpenSpec.preRow_of_cond 12 hx (by kernel_rfl) (fun k hk => by cases hk; kernel_rfl) (by kernel_rfl) (laid_metLeaseNil os))) ?_
  intro W base args ds gs before hval hW _ hcond _ hL _ _
  refine law_calls (s := Rows.leaseNilSpec) cNi laidOut (fun t ht => ?_) rfl Tryz.underlying4 rfl (fun l hl => ?_) hNi (fun x hx => by cases hx) hval hW (bound (hcond _ rfl))
  · rw [Tryz.params4] at ht
    simp only [List.mem_cons, List.not_mem_nil, or_false] at ht
    subst ht
    exact ⟨by kernel_rfl, by kernel_rfl, of_decide_eq_true (by kernel_rfl)⟩
  · rw [Tryz.params4] at hl
    match l, hl with
    | [x0], _ => rfl
theorem saidLeaseNil : Rows.LeaseNilUptoSaid :=
  OpenClaim.holds_of_cond 4 Tryz.f4 rfl rfl rfl rfl rfl rfl rfl ⟨rfl, rfl, rfl, rfl, rfl⟩ rfl rfl rfl rfl rfl (by kernel_rfl) Tryz.func4 (by kernel_rfl)
    (of_decide_eq_true (by kernel_rfl)) (by unfold Func.isWrapper; first | (rw [if_pos (by decide +kernel)]; kernel_rfl) | (rw [if_neg (by decide +kernel)]; exact ⟨rfl, rfl⟩))
    (fun os started H enc _ F => by rw [OpenClaim.pre_eq_preRow]; exact liftedLeaseNil os started H enc F)
theorem plainLeaseNil (f : FuncId) (fn : Func) (hf : Tryz.pinned.checked.prog.funcNamed "tidewater/tidewaterlaw15.LeaseNil" = some f) (hfn : Tryz.pinned.checked.prog.funcs[f]? = some fn) :
    false = Tryz.pinned.checked.prog.looks [] ∧ ∀ (j : Nat) t, fn.params[j]? = some t → Tryz.pinned.checked.prog.wantsStandIn t = false := by
  obtain rfl : f = 4 := Option.some.inj ((show Tryz.prog.funcNamed "tidewater/tidewaterlaw15.LeaseNil" = some 4 by kernel_rfl).symm.trans hf) |>.symm
  obtain rfl : fn = Tryz.f4 := (Option.some.inj (Tryz.func4.symm.trans hfn)).symm
  refine ⟨by kernel_rfl, fun j t ht => ?_⟩
  rw [Tryz.params4] at ht
  have ht := Array.mem_of_getElem? ht
  simp only [List.mem_toArray, List.mem_cons, List.not_mem_nil, or_false] at ht
  subst ht
  exact (show Tryz.prog.wantsStandIn _ = false by kernel_rfl)
theorem cardLeaseNil : Rows.LeaseNilUptoCardSaid :=
  Claim7.holds_tied_plain_at .later [] _ _ _ _ saidLeaseNil (fun _ h => by cases h) (by kernel_rfl) (fun _ h => by cases h) leaseNilUpto_row_tie rfl ⟨rfl, rfl⟩ (by kernel_rfl) rfl plainLeaseNil (by kernel_rfl)
end Go.Proofs.YtepkbbkfcnejmaaGreatDoor
