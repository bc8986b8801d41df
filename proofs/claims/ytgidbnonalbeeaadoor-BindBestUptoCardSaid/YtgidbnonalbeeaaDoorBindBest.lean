import Derived.Test.YtgidbnonalbeeaaDoorFrame3
import Derived.Test.YtgidbnonalbeeaaDoorBindLives
set_option linter.unusedSimpArgs false
set_option linter.unusedVariables false
namespace Go.Proofs.YtgidbnonalbeeaaDoor
open Go Go.AM Go.RowKit
theorem h7 : ∀ as', TyArgs Tryd.prog Tryd.f7.params.toList as' → ∃ p, F7 as' = some (p, mkB true) ∧ p := by
  intro as' h
  rw [Tryd.params7] at h
  match as', h with
  | [a, b], ⟨ha, hb, _⟩ =>
    obtain ⟨l, rfl, _⟩ := arg_strs Tryd.underlying22 Tryd.underlying9 ha
    obtain ⟨m, rfl, _⟩ := arg_strs Tryd.underlying22 Tryd.underlying9 hb
    exact ⟨_, rfl, by simp, by simp⟩
end Go.Proofs.YtgidbnonalbeeaaDoor
