import Derived.Test.YtoobhfbamikanaaDoorStaM
set_option linter.unusedSimpArgs false
set_option linter.unusedVariables false
namespace Go.Proofs.YtoobhfbamikanaaDoor
open Go Go.AM Go.RowKit
theorem itemsGo_app (s : Bool) : ∀ (a b : List El), itemsGo s (a ++ b) = match itemsGo s a with
    | none => none
    | some (xs, r) => match itemsGo s b with
      | none => none
      | some (ys, r') => some (xs ++ ys, r || r')
  | [], b => by
    simp only [List.nil_append, itemsGo]
    cases itemsGo s b with
    | none => rfl
    | some p => obtain ⟨ys, r'⟩ := p; simp
  | e :: a, b => by
    simp only [List.cons_append, itemsGo, itemsGo_app s a b]
    cases itemM s e with
    | none => rfl
    | some p =>
      obtain ⟨x, r⟩ := p
      cases itemsGo s a with
      | none => rfl
      | some p2 =>
        obtain ⟨xs, r2⟩ := p2
        cases itemsGo s b with
        | none => rfl
        | some p3 => obtain ⟨ys, r3⟩ := p3; simp [Bool.or_assoc]
theorem itemsGo_step {s : Bool} {k : List El} {i : Nat} (h : i < k.length) {xs : List It} {r : Bool} (h0 : itemsGo s (k.take i) = some (xs, r)) :
    (∀ x r', itemM s k[i] = some (x, r') → itemsGo s (k.take (i + 1)) = some (xs ++ [x], r || r')) ∧ (itemM s k[i] = none → itemsGo s k = none) := by
  have e1 : k.take (i + 1) = k.take i ++ [k[i]] := by rw [List.take_add_one, List.getElem?_eq_getElem h]; rfl
  refine ⟨fun x r' hx => ?_, fun hn => ?_⟩
  · rw [e1, itemsGo_app, h0]
    simp [itemsGo, hx]
  · have e2 : k = k.take i ++ (k[i] :: k.drop (i + 1)) := by rw [List.getElem_cons_drop, List.take_append_drop]
    have e3 : itemsGo s (k[i] :: k.drop (i + 1)) = none := by simp only [itemsGo, hn]
    rw [e2, itemsGo_app, h0]
    simp only
    rw [e3]
end Go.Proofs.YtoobhfbamikanaaDoor
