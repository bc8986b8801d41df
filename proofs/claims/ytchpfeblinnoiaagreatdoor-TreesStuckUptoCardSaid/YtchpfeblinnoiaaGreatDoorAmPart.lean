import Derived.Test.YtchpfeblinnoiaaGreatDoorAmUnr
set_option linter.unusedSimpArgs false
set_option linter.unusedVariables false
namespace Go.AM
open Go
section
variable {K : TypeId → Option TK} {Γ : List (FuncId × En)} {n : Nat}
end
section
variable {P : Program}
end
section
variable {K : TypeId → Option TK} {Γ : List (FuncId × En)}
end
inductive LeN : AV → AV → Prop
  | refl (x : AV) : LeN x x
  | nil : LeN .nl (.d (.sl []))
  | ag {l r : List AV} (hl : l.length = r.length) (h : ∀ (i : Nat) (h1 : i < l.length) (h2 : i < r.length), LeN l[i] r[i]) : LeN (.ag l) (.ag r)
  | tp {l r : List AV} (hl : l.length = r.length) (h : ∀ (i : Nat) (h1 : i < l.length) (h2 : i < r.length), LeN l[i] r[i]) : LeN (.tp l) (.tp r)
theorem LeN.rel {X : Cx} {x y : AV} (h : LeN x y) : ∀ {v : Value}, VRel X x v → VRel X y v := by
  induction h with
  | refl x => exact fun h => h
  | nil => intro v hv; rw [inv_nl hv]; exact .d .nil
  | ag hl _ ih =>
    intro v hv
    obtain ⟨arr, rfl, h1, h2⟩ := inv_ag hv
    exact .ag (h1.trans hl) fun j hj => ih j (by omega) hj (h2 j (by omega))
  | tp hl _ ih =>
    intro v hv
    obtain ⟨arr, rfl, h1, h2⟩ := inv_tp hv
    exact .tp (h1.trans hl) fun j hj => ih j (by omega) hj (h2 j (by omega))
theorem leN_tp3 {a b c d e f : AV} (h1 : LeN a d) (h2 : LeN b e) (h3 : LeN c f) : LeN (.tp [a, b, c]) (.tp [d, e, f]) := .tp rfl fun i h _ => by
  match i, h with
  | 0, _ => exact h1
  | 1, _ => exact h2
  | 2, _ => exact h3
end Go.AM
