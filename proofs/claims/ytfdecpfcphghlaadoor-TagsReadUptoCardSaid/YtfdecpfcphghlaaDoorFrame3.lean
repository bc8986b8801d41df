import Derived.Test.YtfdecpfcphghlaaDoorFrame2
set_option linter.unusedSimpArgs false
set_option linter.unusedVariables false
namespace Go.Proofs.YtfdecpfcphghlaaDoor
open Go Go.AM Go.RowKit
section
variable {P : Program}
theorem arg_str {t : TypeId} {a : AV} (hu : P.underlying t = some .string) (h : ∃ ds, Ty P 12 t ds ∧ a = argAV (aggB P t) ds) : ∃ s : ByteArray, a = mkS s ∧ s.size ≤ 1048576 := by
  obtain ⟨ds, h1, rfl⟩ := h
  unfold Ty at h1; rw [hu] at h1
  obtain ⟨s, rfl, hs⟩ := h1
  exact ⟨s, by simp [aggB, hu, argAV, mkS], hs⟩
theorem arg_int {t : TypeId} {a : AV} {k : IntKind} (hu : P.underlying t = some (.int k)) (h : ∃ ds, Ty P 12 t ds ∧ a = argAV (aggB P t) ds) : ∃ i : Int, a = mkI k i ∧ (Lit.int k i).wf = true := by
  obtain ⟨ds, h1, rfl⟩ := h
  unfold Ty at h1; rw [hu] at h1
  obtain ⟨s, rfl, hs⟩ := h1
  exact ⟨s, by simp [aggB, hu, argAV, mkI], hs⟩
theorem arg_bool {t : TypeId} {a : AV} (hu : P.underlying t = some .bool) (h : ∃ ds, Ty P 12 t ds ∧ a = argAV (aggB P t) ds) : ∃ b : Bool, a = mkB b := by
  obtain ⟨ds, h1, rfl⟩ := h
  unfold Ty at h1; rw [hu] at h1
  obtain ⟨s, rfl⟩ := h1
  exact ⟨s, by simp [aggB, hu, argAV, mkB]⟩
/-- A list of values, each of which is told by one datum. -/
theorem list_of {α : Type} (f : α → List D) (p : α → Prop) : ∀ es : List (List D), (∀ c ∈ es, ∃ x, c = f x ∧ p x) → ∃ l : List α, es = l.map f ∧ ∀ x ∈ l, p x
  | [], _ => ⟨[], rfl, by simp⟩
  | c :: es, h => by
    obtain ⟨x, hx, px⟩ := h c (by simp)
    obtain ⟨l, hl, pl⟩ := list_of f p es (fun d hd => h d (by simp [hd]))
    exact ⟨x :: l, by simp [hx, hl], by simpa using ⟨px, pl⟩⟩
theorem arg_slice {t e : TypeId} {a : AV} (hu : P.underlying t = some (.slice e)) (h : ∃ ds, Ty P 12 t ds ∧ a = argAV (aggB P t) ds) : ∃ es : List (List D), a = .d (.sl es) ∧ es.length ≤ 1048576 ∧ ∀ c ∈ es, Ty P 11 e c := by
  obtain ⟨ds, h1, rfl⟩ := h
  unfold Ty at h1; rw [hu] at h1
  obtain ⟨es, rfl, hl, hs⟩ := h1
  exact ⟨es, by simp [aggB, hu, argAV], hl, hs⟩
theorem ty_strs {n : Nat} {es : List (List D)} {e : TypeId} (hu : P.underlying e = some .string) (h : ∀ c ∈ es, Ty P (n + 1) e c) : ∃ l : List ByteArray, es = strsD l ∧ ∀ s ∈ l, s.size ≤ 1048576 := by
  refine list_of (fun b => [.v (.string b)]) (fun b => b.size ≤ 1048576) es fun c hc => ?_
  have := h c hc
  unfold Ty at this; rw [hu] at this
  exact this
theorem arg_strs {t e : TypeId} {a : AV} (hu : P.underlying t = some (.slice e)) (he : P.underlying e = some .string) (h : ∃ ds, Ty P 12 t ds ∧ a = argAV (aggB P t) ds) :
    ∃ l : List ByteArray, a = .d (.sl (strsD l)) ∧ l.length ≤ 1048576 ∧ ∀ s ∈ l, s.size ≤ 1048576 := by
  obtain ⟨es, rfl, hl, hs⟩ := arg_slice hu h
  obtain ⟨l, rfl, hs2⟩ := ty_strs he hs
  exact ⟨l, rfl, by simpa using hl, hs2⟩
end
end Go.Proofs.YtfdecpfcphghlaaDoor
