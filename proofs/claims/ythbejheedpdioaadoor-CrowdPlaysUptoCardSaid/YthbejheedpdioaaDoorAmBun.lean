import Derived.Test.YthbejheedpdioaaDoorAmPart
set_option linter.unusedSimpArgs false
set_option linter.unusedVariables false
namespace Go.AM
open Go.RowKit
def trimW (q : AV → List Ob → Prop) (av : AV) (o : List Ob) : Prop := ∃ av2 o2, Weak ⟨[av], o⟩ ⟨[av2], o2⟩ ∧ q av2 o2
theorem trimW_ok : TrimOk trimW := fun q w0 own0 Y s a av v hs hv h => by
  obtain ⟨av2, o2, hw, hq⟩ := h
  have hs1 : SRel w0 own0 Y ⟨[av], s.o⟩ { tmps := #[v], defers := [] } := ⟨rfl, fun i hi => by
    have : i = 0 := by simpa using hi
    subst this
    exact hv, rfl, hs.g, hs.ext, hs.fr, hs.new, hs.gh, hs.tab⟩
  obtain ⟨Y', e, hs2⟩ := hw _ _ _ _ hs1
  exact ⟨av2, o2, Y', hq, e, hs2, hs2.slot 0 (by simp)⟩
theorem RSound.weak {P : Program} {f : FuncId} {E E' : List AV → List Ob → (AV → List Ob → Prop) → Prop} (h : RSound P f E') (hE : ∀ al o q, E al o q → ∃ al' o', Weak ⟨al, o⟩ ⟨al', o'⟩ ∧ E' al' o' (trimW q)) : RSound P f E := by
  refine ⟨h.enter, fun X o gv al vs q g hgh hT hlen hrel hq => ?_⟩
  obtain ⟨al', o', hw, hE'⟩ := hE al o q hq
  have hs : SRel X.w ⟨X.obj, X.ext, gv⟩ X ⟨al, o⟩ { tmps := vs, defers := [] } := ⟨hlen, fun i hi => hrel i hi, rfl, g, rfl, ⟨rfl, rfl, rfl, Nat.le_refl _, fun _ _ _ => rfl⟩, fun b hb => .inl hb, hgh, hT⟩
  obtain ⟨X1, e1, hs1⟩ := hw _ _ _ _ hs
  have hcall := h.call X1 o' gv al' vs _ hs1.g hs1.gh hs1.tabs hs1.len (fun i hi => hs1.slot i hi) hE'
  rw [e1] at hcall
  refine hcall.mono ?_
  rintro e w' ⟨v, av, o2, Y, rfl, ⟨av3, o3, hw3, hq3⟩, rfl, gY, ghY, hv, hext, hfr, hown⟩
  have hsub : ∀ b, X1.obj b → X.obj b ∨ X.w.heap.size ≤ b := hs1.new
  have hs2 : SRel X.w ⟨X.obj, X.ext, gv⟩ Y ⟨[av], o2⟩ { tmps := #[v], defers := [] } := ⟨rfl, fun i hi => by
      have : i = 0 := by simpa using hi
      subst this
      exact hv, rfl, gY, hext.trans hs1.ext, ⟨hfr.os, hfr.tape, hfr.output, hfr.size, fun b hb hn => hfr.keep b hb fun hh => (hsub b hh).elim hn (by omega)⟩,
    fun b hb => (hown b hb).elim (hsub b) .inr, ghY, hT⟩
  obtain ⟨Z, eZ, hs3⟩ := hw3 _ _ _ _ hs2
  exact ⟨v, av3, o3, Z, rfl, hq3, eZ, hs3.g, hs3.gh, hs3.slot 0 (by simp), hs3.ext, by rw [← eZ]; exact hs3.fr, hs3.new⟩
def Bun (os : List Ob) (own : Nat → Prop) (w : World) (b : Nat) (fp : Nat → Prop) : Prop :=
  ∃ Y : Cx, Y.w = w ∧ GRel Y os ∧ (∃ ob, os[0]? = some ob ∧ ob.root = true) ∧ Y.z 0 = false ∧ Y.b 0 = b ∧ (∀ c, Y.obj c ↔ c = b ∨ fp c) ∧ (∀ c, c < w.heap.size → own c → Y.own c) ∧ ∀ (k : Nat) (cs : List AV), os[k]? ≠ some (.gh cs)
theorem bun_stab (os : List Ob) {own own' : Nat → Prop} {w w' : World} {b : Nat} {fp : Nat → Prop} (h : Bun os own w b fp) (hsz : w.heap.size ≤ w'.heap.size) (hk : ∀ c, c < w.heap.size → ¬ own c → w'.heap[c]? = w.heap[c]? ∧ ¬ own' c) (hf : ∀ c, c = b ∨ fp c → w'.heap[c]? = w.heap[c]?) : Bun os own' w' b fp := by
  obtain ⟨Y, rfl, g, hr, hz, hb, hobj, hown, hgh⟩ := h
  have hkk : Keeps Y.own Y.w ({ Y with w := w', ext := fun c => Y.ext c ∨ (own' c ∧ c < w'.heap.size ∧ ¬ Y.obj c) } : Cx).own w' := ⟨hsz, fun c hc hn => by
    have hno : ¬ own c := fun hh => hn (hown c hc hh)
    obtain ⟨k1, k2⟩ := hk c hc hno
    refine ⟨k1, fun hh => ?_⟩
    rcases hh with hh | hh | hh
    · exact hn (.inl hh)
    · exact hn (.inr hh)
    · exact k2 hh.1⟩
  refine ⟨{ Y with w := w', ext := fun c => Y.ext c ∨ (own' c ∧ c < w'.heap.size ∧ ¬ Y.obj c) }, rfl, ?_, hr, hz, hb, hobj, fun c hc ho => ?_, hgh⟩
  · refine ⟨g.n, g.obj, g.injB, fun i ob h1 h2 h3 c h4 => Nat.lt_of_lt_of_le (g.ltB i ob h1 h2 h3 c h4) hsz, fun c hc => hc.elim (fun h => Nat.lt_of_lt_of_le (g.ext1 c h) hsz) (fun h => h.2.1), fun i ob h1 h2 h3 c h4 hh => hh.elim (g.ext2B i ob h1 h2 h3 c h4) (fun h => h.2.2 ((g.obj c).2 ⟨i, ob, h1, h2, h3, h4⟩)), g.rws, fun i x hx => ?_⟩
    exact ORel.step (X := Y) (X' := { Y with w := w', ext := fun c => Y.ext c ∨ (own' c ∧ c < w'.heap.size ∧ ¬ Y.obj c) }) hkk (Nat.le_refl _) (fun _ _ => ⟨rfl, rfl, rfl, rfl⟩) (by rw [g.n]; exact lt_of_get hx) (fun hl hz c hc => hf c ((hobj c).1 ((g.obj c).2 ⟨i, x, hx, hl, hz, hc⟩))) (g.rel i x hx)
  · by_cases hh : Y.obj c
    · exact .inl hh
    · exact .inr (.inr ⟨ho, hc, hh⟩)
def repOf (os : List Ob) : Rep := { p := Bun os, stab := fun h h1 h2 h3 => bun_stab os h h1 h2 h3 }
def offV (l : List Nat) (k : Nat) : Option Nat := match posOf l k with | some _ => none | none => some k
def bunObj (i : Nat) (js : List Nat) (o : List Ob) (k : Nat) (ob : Ob) : Ob := match Nat.beq k i with
  | true => .bun (repOf (inO (i :: js) o))
  | false => match posOf js k with
    | some _ => .gone
    | none => ob.ren (offV (i :: js)) (offV js)
def bunO (i : Nat) (js : List Nat) (o : List Ob) : List Ob := mapI (bunObj i js o) 0 o
def S.bundle (i : Nat) (js : List Nat) (s : S) : S := ⟨renL (offV (i :: js)) (offV js) s.t, bunO i js s.o⟩
end Go.AM
