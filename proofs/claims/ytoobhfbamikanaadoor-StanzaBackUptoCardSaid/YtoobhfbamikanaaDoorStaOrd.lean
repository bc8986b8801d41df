import Derived.Test.YtoobhfbamikanaaDoorStaTy
set_option linter.unusedSimpArgs false
set_option linter.unusedVariables false
namespace Go.Proofs.YtoobhfbamikanaaDoor
open Go Go.AM Go.RowKit
attribute [local irreducible] aCode aUnr aUnS aOut
def ECutA : List AV → (AV → Prop) → Prop := fun al q => ∃ n l t k, al = [.ag [mkS n, .d (.sl (atsD l)), mkS t, .d (.sl (ksD k))], mkI .i64 1] ∧ FitE (.mk n l t k) ∧ ∀ n' l' t' k', cutM 4 (.mk n l t k) = .mk n' l' t' k' → q (.ag [mkS n', .d (.sl (atsD l')), mkS t', .d (.sl (ksD k'))])
theorem PSound.ex {P : Program} {f : FuncId} {ι : Type} [Inhabited ι] {E : ι → List AV → (AV → Prop) → Prop} (h : ∀ i, PSound P f (E i)) : PSound P f (fun al q => ∃ i, E i al q) :=
  ⟨(h default).enter, fun ext w ar vs q hext hT hlen hrel ⟨i, hq⟩ => (h i).call ext w ar vs q hext hT hlen hrel hq⟩
theorem cCutA : PSound Tryd.prog 11 ECutA := (cCut 4 (by omega)).mono fun al q ⟨n, l, t, k, h1, h2, h3⟩ => ⟨n, l, t, k, h1, trivial, h2, by
  have := h3 (cutM 4 (.mk n l t k)).n (cutM 4 (.mk n l t k)).ats (cutM 4 (.mk n l t k)).t (cutM 4 (.mk n l t k)).ks (by cases cutM 4 (.mk n l t k); rfl)
  exact this⟩
theorem fitK_map {f : El → El} (hf : ∀ e, e.fit → (f e).fit) {l : List El} (h : fitK l) (m : Nat) : fitK ((l.take m).map f) := fitK_of fun e he => by
  obtain ⟨x, hx, rfl⟩ := List.mem_map.1 he
  exact hf x (fitK_mem h x (List.mem_of_mem_take hx))
theorem fit_cutF {f : El → El} (hf : ∀ e, e.fit → (f e).fit) (d : Int) (e : El) (h : e.fit) : (cutF f d e).fit := by
  obtain ⟨n, a, t, k⟩ := e
  obtain ⟨h1, h2, ⟨h3, h4⟩, h5, h6⟩ := h
  refine ⟨h1, h2, ⟨by rw [El.ats, List.length_take]; omega, fun x hx => h4 x (List.mem_of_mem_take hx)⟩, ?_, ?_⟩
  · split
    · rw [List.length_map, El.ks, List.length_take]; omega
    · exact Nat.zero_le _
  · split
    · exact fitK_map hf h6 20
    · trivial
theorem fit_cut : ∀ (d : Nat) (e : El), e.fit → (cutM d e).fit
  | 0, e, h => fit_cutF (fun e h => h) 5 e h
  | d + 1, e, h => fit_cutF (fit_cut d) (4 - d) e h
end Go.Proofs.YtoobhfbamikanaaDoor
