import Derived.Test.YtfdmmgiefhhnoaaGreatDoorAmUnr
set_option linter.unusedSimpArgs false
set_option linter.unusedVariables false
namespace Go.AM
open Go
section
variable {K : TypeId → Option TK} {Γ : List (FuncId × En)} {n : Nat}
end
section
variable {P : Program}
end
section
variable {K : TypeId → Option TK} {Γ : List (FuncId × En)}
end
inductive LeN : AV → AV → Prop
  | refl (x : AV) : LeN x x
  | nil : LeN .nl (.d (.sl []))
  | ag {l r : List AV} (hl : l.length = r.length) (h : ∀ (i : Nat) (h1 : i < l.length) (h2 : i < r.length), LeN l[i] r[i]) : LeN (.ag l) (.ag r)
  | tp {l r : List AV} (hl : l.length = r.length) (h : ∀ (i : Nat) (h1 : i < l.length) (h2 : i < r.length), LeN l[i] r[i]) : LeN (.tp l) (.tp r)
theorem LeN.rel {X : Cx} {x y : AV} (h : LeN x y) : ∀ {v : Value}, VRel X x v → VRel X y v := by
  induction h with
  | refl x => exact fun h => h
  | nil => intro v hv; rw [inv_nl hv]; exact .d .nil
  | ag hl _ ih =>
    intro v hv
    obtain ⟨arr, rfl, h1, h2⟩ := inv_ag hv
    exact .ag (h1.trans hl) fun j hj => ih j (by omega) hj (h2 j (by omega))
  | tp hl _ ih =>
    intro v hv
    obtain ⟨arr, rfl, h1, h2⟩ := inv_tp hv
    exact .tp (h1.trans hl) fun j hj => ih j (by omega) hj (h2 j (by omega))
theorem leN_tp2 {a b c d : AV} (h1 : LeN a c) (h2 : LeN b d) : LeN (.tp [a, b]) (.tp [c, d]) := .tp rfl fun i h _ => by
  match i, h with
  | 0, _ => exact h1
  | 1, _ => exact h2
def trimN (q : AV → List Ob → Prop) (av : AV) (o : List Ob) : Prop := ∃ av2 o2, LeN av av2 ∧ leO o o2 ∧ (av2.fits o2.length && o2.all (Ob.fits o2.length)) = true ∧ q av2 o2
theorem trimN_ok : TrimOk trimN := fun q w0 own0 Y s a av v hs hv h => by
  obtain ⟨av2, o2, h0, h1, h2, h3⟩ := h
  obtain ⟨o3, Y', ⟨_, rfl, _⟩, e2, e3, e4⟩ := trim_srel (q := fun x o => x = av2 ∧ o = o2 ∧ q av2 o2) hs (h0.rel hv) ⟨o2, h1, h2, rfl, rfl, h3⟩
  exact ⟨av2, _, Y', h3, e2, e3, e4⟩
end Go.AM
