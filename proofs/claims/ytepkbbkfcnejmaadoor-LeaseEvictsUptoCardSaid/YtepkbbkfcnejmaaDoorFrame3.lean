import Derived.Test.YtepkbbkfcnejmaaDoorFrame2
set_option linter.unusedSimpArgs false
set_option linter.unusedVariables false
namespace Go.Proofs.YtepkbbkfcnejmaaDoor
open Go Go.AM Go.RowKit
section
variable {P : Program}
theorem arg_int {t : TypeId} {a : AV} {k : IntKind} (hu : P.underlying t = some (.int k)) (h : TyArg P t a) : ∃ i : Int, a = mkI k i ∧ (Lit.int k i).wf = true := by
  obtain ⟨m, ds, h1, rfl⟩ := h
  cases m with
  | zero => exact h1.elim
  | succ m =>
  unfold Ty at h1; rw [hu] at h1
  obtain ⟨s, rfl, hs⟩ := h1
  exact ⟨s, by simp [aggB, hu, argAV, mkI], hs⟩
theorem arg_slice {t e : TypeId} {a : AV} (hu : P.underlying t = some (.slice e)) (h : TyArg P t a) : ∃ es : List (List D), a = .d (.sl es) ∧ es.length ≤ 1048576 ∧ ∃ n, ∀ c ∈ es, Ty P n e c := by
  obtain ⟨m, ds, h1, rfl⟩ := h
  cases m with
  | zero => exact h1.elim
  | succ m =>
  unfold Ty at h1; rw [hu] at h1
  obtain ⟨es, rfl, hl, hs⟩ := h1
  exact ⟨es, by simp [aggB, hu, argAV], hl, m, hs⟩
end
end Go.Proofs.YtepkbbkfcnejmaaDoor
