import Derived.Test.YtchpfeblinnoiaaGreatDoorAmPart
set_option linter.unusedSimpArgs false
set_option linter.unusedVariables false
namespace Go.AM
open Go.RowKit
def trimW (q : AV → List Ob → Prop) (av : AV) (o : List Ob) : Prop := ∃ av2 o2, Weak ⟨[av], o⟩ ⟨[av2], o2⟩ ∧ q av2 o2
theorem trimW_ok : TrimOk trimW := fun q w0 own0 Y s a av v hs hv h => by
  obtain ⟨av2, o2, hw, hq⟩ := h
  have hs1 : SRel w0 own0 Y ⟨[av], s.o⟩ { tmps := #[v], defers := [] } := ⟨rfl, fun i hi => by
    have : i = 0 := by simpa using hi
    subst this
    exact hv, rfl, hs.g, hs.ext, hs.fr, hs.new, hs.gh, hs.tab⟩
  obtain ⟨Y', e, hs2⟩ := hw _ _ _ _ hs1
  exact ⟨av2, o2, Y', hq, e, hs2, hs2.slot 0 (by simp)⟩
theorem RSound.weak {P : Program} {f : FuncId} {E E' : List AV → List Ob → (AV → List Ob → Prop) → Prop} (h : RSound P f E') (hE : ∀ al o q, E al o q → ∃ al' o', Weak ⟨al, o⟩ ⟨al', o'⟩ ∧ E' al' o' (trimW q)) : RSound P f E := by
  refine ⟨h.enter, fun X o gv al vs q g hgh hT hlen hrel hq => ?_⟩
  obtain ⟨al', o', hw, hE'⟩ := hE al o q hq
  have hs : SRel X.w ⟨X.obj, X.ext, gv⟩ X ⟨al, o⟩ { tmps := vs, defers := [] } := ⟨hlen, fun i hi => hrel i hi, rfl, g, rfl, ⟨rfl, rfl, rfl, Nat.le_refl _, fun _ _ _ => rfl⟩, fun b hb => .inl hb, hgh, hT⟩
  obtain ⟨X1, e1, hs1⟩ := hw _ _ _ _ hs
  have hcall := h.call X1 o' gv al' vs _ hs1.g hs1.gh hs1.tabs hs1.len (fun i hi => hs1.slot i hi) hE'
  rw [e1] at hcall
  refine hcall.mono ?_
  rintro e w' ⟨v, av, o2, Y, rfl, ⟨av3, o3, hw3, hq3⟩, rfl, gY, ghY, hv, hext, hfr, hown⟩
  have hsub : ∀ b, X1.obj b → X.obj b ∨ X.w.heap.size ≤ b := hs1.new
  have hs2 : SRel X.w ⟨X.obj, X.ext, gv⟩ Y ⟨[av], o2⟩ { tmps := #[v], defers := [] } := ⟨rfl, fun i hi => by
      have : i = 0 := by simpa using hi
      subst this
      exact hv, rfl, gY, hext.trans hs1.ext, ⟨hfr.os, hfr.tape, hfr.output, hfr.size, fun b hb hn => hfr.keep b hb fun hh => (hsub b hh).elim hn (by omega)⟩,
    fun b hb => (hown b hb).elim (hsub b) .inr, ghY, hT⟩
  obtain ⟨Z, eZ, hs3⟩ := hw3 _ _ _ _ hs2
  exact ⟨v, av3, o3, Z, rfl, hq3, eZ, hs3.g, hs3.gh, hs3.slot 0 (by simp), hs3.ext, by rw [← eZ]; exact hs3.fr, hs3.new⟩
def Bun (os : List Ob) (own : Nat → Prop) (w : World) (b : Nat) (fp : Nat → Prop) : Prop :=
  ∃ Y : Cx, Y.w = w ∧ GRel Y os ∧ (∃ ob, os[0]? = some ob ∧ ob.root = true) ∧ Y.z 0 = false ∧ Y.b 0 = b ∧ (∀ c, Y.obj c ↔ c = b ∨ fp c) ∧ (∀ c, c < w.heap.size → own c → Y.own c) ∧ ∀ (k : Nat) (cs : List AV), os[k]? ≠ some (.gh cs)
theorem root_live {ob : Ob} (h : ob.root = true) : ob.live = true := by cases ob <;> simp [Ob.root] at h <;> rfl
theorem bun_stab (os : List Ob) {own own' : Nat → Prop} {w w' : World} {b : Nat} {fp : Nat → Prop} (h : Bun os own w b fp) (hsz : w.heap.size ≤ w'.heap.size) (hk : ∀ c, c < w.heap.size → ¬ own c → w'.heap[c]? = w.heap[c]? ∧ ¬ own' c) (hf : ∀ c, c = b ∨ fp c → w'.heap[c]? = w.heap[c]?) : Bun os own' w' b fp := by
  obtain ⟨Y, rfl, g, hr, hz, hb, hobj, hown, hgh⟩ := h
  have hkk : Keeps Y.own Y.w ({ Y with w := w', ext := fun c => Y.ext c ∨ (own' c ∧ c < w'.heap.size ∧ ¬ Y.obj c) } : Cx).own w' := ⟨hsz, fun c hc hn => by
    have hno : ¬ own c := fun hh => hn (hown c hc hh)
    obtain ⟨k1, k2⟩ := hk c hc hno
    refine ⟨k1, fun hh => ?_⟩
    rcases hh with hh | hh | hh
    · exact hn (.inl hh)
    · exact hn (.inr hh)
    · exact k2 hh.1⟩
  refine ⟨{ Y with w := w', ext := fun c => Y.ext c ∨ (own' c ∧ c < w'.heap.size ∧ ¬ Y.obj c) }, rfl, ?_, hr, hz, hb, hobj, fun c hc ho => ?_, hgh⟩
  · refine ⟨g.n, g.obj, g.injB, fun i ob h1 h2 h3 c h4 => Nat.lt_of_lt_of_le (g.ltB i ob h1 h2 h3 c h4) hsz, fun c hc => hc.elim (fun h => Nat.lt_of_lt_of_le (g.ext1 c h) hsz) (fun h => h.2.1), fun i ob h1 h2 h3 c h4 hh => hh.elim (g.ext2B i ob h1 h2 h3 c h4) (fun h => h.2.2 ((g.obj c).2 ⟨i, ob, h1, h2, h3, h4⟩)), g.rws, fun i x hx => ?_⟩
    exact ORel.step (X := Y) (X' := { Y with w := w', ext := fun c => Y.ext c ∨ (own' c ∧ c < w'.heap.size ∧ ¬ Y.obj c) }) hkk (Nat.le_refl _) (fun _ _ => ⟨rfl, rfl, rfl, rfl⟩) (by rw [g.n]; exact lt_of_get hx) (fun hl hz c hc => hf c ((hobj c).1 ((g.obj c).2 ⟨i, x, hx, hl, hz, hc⟩))) (g.rel i x hx)
  · by_cases hh : Y.obj c
    · exact .inl hh
    · exact .inr (.inr ⟨ho, hc, hh⟩)
def repOf (os : List Ob) : Rep := { p := Bun os, stab := fun h h1 h2 h3 => bun_stab os h h1 h2 h3 }
def exV (i k : Nat) : Option Nat := match Nat.beq k i with | true => none | false => some k
def inF (i n : Nat) : Nat → Option Nat
  | 0 => some i
  | q + 1 => some (n + q)
def inV (n : Nat) : Nat → Option Nat
  | 0 => none
  | q + 1 => some (n + q)
def unbO (i : Nat) (os o : List Ob) : List Ob := ((o.map (Ob.ren (exV i) some)).set i (Ob.ren (inV o.length) (inF i o.length) ((os[0]?).getD Ob.gone))) ++ (os.drop 1).map (Ob.ren (inV o.length) (inF i o.length))
def S.unb (i : Nat) (os : List Ob) (s : S) : S := ⟨renL (exV i) some s.t, unbO i os s.o⟩
theorem exV_some {i k j : Nat} (h : exV i k = some j) : j = k ∧ k ≠ i := by
  unfold exV at h
  split at h
  · cases h
  · rename_i hb
    cases h
    exact ⟨rfl, fun e => by subst e; simp at hb⟩
theorem weak_unb {s : S} {i : Nat} {os : List Ob} (hi : s.o[i]? = some (.bun (repOf os))) (hf : (unbO i os s.o).all Ob.firmO = true) : Weak s (s.unb i os) := by
  intro w0 own0 X a hs
  have g := hs.g
  obtain ⟨hz, Y, hYw, gY, ⟨ob0, h0, hroot⟩, hYz, hYb, hYobj, hYown, hng⟩ := g.rel i _ hi
  have hin := lt_of_get hi
  have hn := g.n
  have hYn := gY.n
  have hos := lt_of_get h0
  let X' : Cx := { b := fun k => if k < X.n then X.b k else Y.b (k - X.n + 1), c := fun k => if k = i then Y.c 0 else if k < X.n then X.c k else Y.c (k - X.n + 1), z := fun k => if k < X.n then X.z k else Y.z (k - X.n + 1), rw := fun k => if k = i then false else if k < X.n then X.rw k else Y.rw (k - X.n + 1), n := X.n + (os.length - 1), obj := X.obj, ext := X.ext, w := X.w }
  have oldX : ∀ k, k < X.n → k ≠ i → X'.b k = X.b k ∧ X'.c k = X.c k ∧ X'.z k = X.z k ∧ X'.rw k = X.rw k := fun k hk hki => by simp [X', hk, hki]
  have newY : ∀ q j, inF i s.o.length q = some j → q < Y.n → j < X'.n ∧ X'.b j = Y.b q ∧ X'.c j = Y.c q ∧ X'.z j = Y.z q ∧ (q ≠ 0 → X'.rw j = Y.rw q) ∧ (q = 0 → X'.rw j = false) := by
    intro q j hq hlt
    cases q with
    | zero =>
      simp only [inF, Option.some.injEq] at hq
      subst hq
      have hi' : i < X.n := by omega
      exact ⟨by show i < X.n + _; omega, by simp [X', hi', hYb], by simp [X'], by simp [X', hi', hz, hYz], fun h => absurd rfl h, fun _ => by simp [X']⟩
    | succ q =>
      simp only [inF, Option.some.injEq] at hq
      have h1 : ¬ j < X.n := by omega
      have h2 : ¬ j = i := by omega
      have h3 : j - X.n + 1 = q + 1 := by omega
      exact ⟨by show j < X.n + _; omega, by simp [X', h1, h3], by simp [X', h1, h2, h3], by simp [X', h1, h3], fun _ => by simp [X', h1, h2, h3], fun h => by omega⟩
  have hkX : Keeps X.own X.w X'.own X'.w := Keeps.refl _ _
  have hkY : Keeps Y.own Y.w X'.own X'.w := ⟨by rw [hYw]; exact Nat.le_refl _, fun c hc hno => ⟨by show X.w.heap[c]? = _; rw [hYw], fun hh => hno (hYown c (by rw [← hYw]; exact hc) hh)⟩⟩
  have hvX : ∀ k j, exV i k = some j → k < X.n → j < X'.n ∧ X'.z j = X.z k ∧ (X.z k = false → X'.b j = X.b k ∧ (X'.c j).1 = (X.c k).1 ∧ (X'.c j).2 = (X.c k).2) := fun k j h hk => by
    obtain ⟨rfl, hki⟩ := exV_some h
    obtain ⟨e1, e2, e3, _⟩ := oldX _ hk hki
    exact ⟨by show _ < X.n + _; omega, e3, fun _ => ⟨e1, by rw [e2], by rw [e2]⟩⟩
  have hrX : ∀ k j, some k = some j → k < X.n → X.rw k = false → j < X'.n ∧ X'.b j = X.b k ∧ X'.rw j = false := fun k j h hk hr => by
    cases h
    refine ⟨by show k < X.n + _; omega, by simp [X', hk], ?_⟩
    by_cases hki : k = i
    · simp [X', hki]
    · exact (oldX k hk hki).2.2.2.trans hr
  have hpX : ∀ k j, exV i k = some j → some k = some j → k < X.n → X'.b j = X.b k := fun k j _ h hk => by cases h; simp [X', hk]
  have hvY : ∀ q j, inV s.o.length q = some j → q < Y.n → j < X'.n ∧ X'.z j = Y.z q ∧ (Y.z q = false → X'.b j = Y.b q ∧ (X'.c j).1 = (Y.c q).1 ∧ (X'.c j).2 = (Y.c q).2) := fun q j h hq => by
    cases q with
    | zero => cases h
    | succ q =>
      obtain ⟨e0, e1, e2, e3, _⟩ := newY (q + 1) j h hq
      exact ⟨e0, e3, fun _ => ⟨e1, by rw [e2], by rw [e2]⟩⟩
  have hrY : ∀ q j, inF i s.o.length q = some j → q < Y.n → Y.rw q = false → j < X'.n ∧ X'.b j = Y.b q ∧ X'.rw j = false := fun q j h hq hr => by
    obtain ⟨e0, e1, _, _, e4, e5⟩ := newY q j h hq
    by_cases hq0 : q = 0
    · exact ⟨e0, e1, e5 hq0⟩
    · exact ⟨e0, e1, (e4 hq0).trans hr⟩
  have hpY : ∀ q j, inV s.o.length q = some j → inF i s.o.length q = some j → q < Y.n → X'.b j = Y.b q := fun q j _ h hq => (newY q j h hq).2.1
  have get : ∀ k x, (unbO i os s.o)[k]? = some x → (k ≠ i ∧ k < X.n ∧ ∃ ob, s.o[k]? = some ob ∧ x = ob.ren (exV i) some) ∨ (∃ q ob, inF i s.o.length q = some k ∧ q < Y.n ∧ os[q]? = some ob ∧ x = ob.ren (inV s.o.length) (inF i s.o.length)) := by
    intro k x hx
    unfold unbO at hx
    by_cases hk : k < s.o.length
    · rw [List.getElem?_append_left (by simpa using hk)] at hx
      by_cases hki : k = i
      · subst hki
        rw [List.getElem?_set_self (by simpa using hk), h0] at hx
        exact .inr ⟨0, ob0, rfl, by omega, h0, (Option.some.inj hx).symm⟩
      · rw [List.getElem?_set_ne (fun e => hki e.symm), List.getElem?_map] at hx
        obtain ⟨ob, hob, e⟩ := Option.map_eq_some_iff.1 hx
        exact .inl ⟨hki, by omega, ob, hob, e.symm⟩
    · rw [List.getElem?_append_right (by simp; omega), List.getElem?_map, List.getElem?_drop] at hx
      obtain ⟨ob, hob, e⟩ := Option.map_eq_some_iff.1 hx
      simp only [List.length_set, List.length_map] at hob
      refine .inr ⟨1 + (k - s.o.length), ob, ?_, by have := lt_of_get hob; omega, hob, e.symm⟩
      rw [Nat.add_comm 1]
      simp only [inF, Option.some.injEq]
      omega
  have memX : ∀ k ob, k ≠ i → s.o[k]? = some ob → (unbO i os s.o)[k]? = some (ob.ren (exV i) some) := by
    intro k ob hki ho
    unfold unbO
    rw [List.getElem?_append_left (by simpa using lt_of_get ho), List.getElem?_set_ne (fun e => hki e.symm), List.getElem?_map, ho]; rfl
  have memY : ∀ q ob, os[q]? = some ob → ∃ k, inF i s.o.length q = some k ∧ (unbO i os s.o)[k]? = some (ob.ren (inV s.o.length) (inF i s.o.length)) := by
    intro q ob ho
    cases q with
    | zero =>
      refine ⟨i, rfl, ?_⟩
      unfold unbO
      rw [List.getElem?_append_left (by simpa using hin), List.getElem?_set_self (by simpa using hin), ho]; rfl
    | succ q =>
      refine ⟨s.o.length + q, rfl, ?_⟩
      unfold unbO
      rw [List.getElem?_append_right (by simp), List.getElem?_map, List.getElem?_drop]
      simp only [List.length_set, List.length_map]
      rw [show 1 + (s.o.length + q - s.o.length) = q + 1 by omega, ho]; rfl
  have bX : ∀ k, k < X.n → k ≠ i → ∀ b, X'.blk k b ↔ X.blk k b := fun k hk hki b => let ⟨e1, e2, _⟩ := oldX k hk hki; Cx.blk_eq e1 e2
  have bY : ∀ q j, inF i s.o.length q = some j → q < Y.n → ∀ b, X'.blk j b ↔ Y.blk q b := fun q j h hq b => let ⟨_, e1, e2, _⟩ := newY q j h hq; Cx.blk_eq e1 e2
  have objY : ∀ b, Y.obj b ↔ X.blk i b := fun b => by
    rw [hYobj]
    exact ⟨fun h => h.elim (fun e => .inl e.symm) .inr, fun h => h.elim (fun e => .inl e.symm) .inr⟩
  have g' : GRel X' (unbO i os s.o) := by
    refine ⟨by simp [unbO, X']; omega, fun b => ?_, fun k l x y h1 h2 l1 l2 z1 z2 b b1 b2 => ?_, fun k x h1 l1 z1 b b1 => ?_, g.ext1, fun k x h1 l1 z1 b b1 => ?_, fun k sz es h1 => ?_, fun k x h1 => ?_⟩
    · show X.obj b ↔ _
      constructor
      · intro hb
        obtain ⟨k, ob, e1, e2, e3, e4⟩ := (g.obj b).1 hb
        by_cases hki : k = i
        · subst hki
          obtain ⟨q, ob', f1, f2, f3, f4⟩ := (gY.obj b).1 ((objY b).2 e4)
          obtain ⟨j, j1, j2⟩ := memY q ob' f1
          have hq : q < Y.n := by rw [hYn]; exact lt_of_get f1
          exact ⟨j, _, j2, by rw [ren_live]; exact f2, (newY q j j1 hq).2.2.2.1.trans f3, (bY q j j1 hq b).2 f4⟩
        · have hk : k < X.n := by rw [hn]; exact lt_of_get e1
          exact ⟨k, _, memX k ob hki e1, by rw [ren_live]; exact e2, (oldX k hk hki).2.2.1.trans e3, (bX k hk hki b).2 e4⟩
      · rintro ⟨k, x, e1, e2, e3, e4⟩
        rcases get k x e1 with ⟨hki, hk, ob, ho, rfl⟩ | ⟨q, ob, hq1, hq, ho, rfl⟩
        · rw [ren_live] at e2
          exact (g.obj b).2 ⟨k, ob, ho, e2, (oldX k hk hki).2.2.1.symm.trans e3, (bX k hk hki b).1 e4⟩
        · rw [ren_live] at e2
          exact (g.obj b).2 ⟨i, _, hi, rfl, hz, (objY b).1 ((gY.obj b).2 ⟨q, ob, ho, e2, (newY q k hq1 hq).2.2.2.1.symm.trans e3, (bY q k hq1 hq b).1 e4⟩)⟩
    · have inn : ∀ q ob, os[q]? = some ob → ob.live = true → Y.z q = false → Y.blk q b → X.blk i b := fun q ob h1 h2 h3 h4 => (objY b).1 ((gY.obj b).2 ⟨q, ob, h1, h2, h3, h4⟩)
      rcases get k x h1 with ⟨hki, hk, ob, ho, rfl⟩ | ⟨q, ob, hq1, hq, ho, rfl⟩ <;> rcases get l y h2 with ⟨hli, hl, ob', ho', rfl⟩ | ⟨q', ob', hq1', hq', ho', rfl⟩
      · rw [ren_live] at l1 l2
        exact g.injB k l ob ob' ho ho' l1 l2 ((oldX k hk hki).2.2.1.symm.trans z1) ((oldX l hl hli).2.2.1.symm.trans z2) b ((bX k hk hki b).1 b1) ((bX l hl hli b).1 b2)
      · rw [ren_live] at l1 l2
        exact absurd (g.injB k i ob _ ho hi l1 rfl ((oldX k hk hki).2.2.1.symm.trans z1) hz b ((bX k hk hki b).1 b1) (inn q' ob' ho' l2 ((newY q' l hq1' hq').2.2.2.1.symm.trans z2) ((bY q' l hq1' hq' b).1 b2))) hki
      · rw [ren_live] at l1 l2
        exact absurd (g.injB l i ob' _ ho' hi l2 rfl ((oldX l hl hli).2.2.1.symm.trans z2) hz b ((bX l hl hli b).1 b2) (inn q ob ho l1 ((newY q k hq1 hq).2.2.2.1.symm.trans z1) ((bY q k hq1 hq b).1 b1))) hli
      · rw [ren_live] at l1 l2
        have := gY.injB q q' ob ob' ho ho' l1 l2 ((newY q k hq1 hq).2.2.2.1.symm.trans z1) ((newY q' l hq1' hq').2.2.2.1.symm.trans z2) b ((bY q k hq1 hq b).1 b1) ((bY q' l hq1' hq' b).1 b2)
        subst this
        rw [hq1] at hq1'
        exact Option.some.inj hq1'
    · rcases get k x h1 with ⟨hki, hk, ob, ho, rfl⟩ | ⟨q, ob, hq1, hq, ho, rfl⟩
      · rw [ren_live] at l1
        exact g.ltB k ob ho l1 ((oldX k hk hki).2.2.1.symm.trans z1) b ((bX k hk hki b).1 b1)
      · rw [ren_live] at l1
        have := gY.ltB q ob ho l1 ((newY q k hq1 hq).2.2.2.1.symm.trans z1) b ((bY q k hq1 hq b).1 b1)
        rwa [hYw] at this
    · rcases get k x h1 with ⟨hki, hk, ob, ho, rfl⟩ | ⟨q, ob, hq1, hq, ho, rfl⟩
      · rw [ren_live] at l1
        exact g.ext2B k ob ho l1 ((oldX k hk hki).2.2.1.symm.trans z1) b ((bX k hk hki b).1 b1)
      · rw [ren_live] at l1
        exact g.ext2B i _ hi rfl hz b ((objY b).1 ((gY.obj b).2 ⟨q, ob, ho, l1, (newY q k hq1 hq).2.2.2.1.symm.trans z1, (bY q k hq1 hq b).1 b1⟩))
    · rcases get k _ h1 with ⟨hki, hk, ob, ho, e⟩ | ⟨q, ob, hq1, hq, ho, e⟩
      · rw [(oldX k hk hki).2.2.2]
        cases ob <;> simp [Ob.ren] at e <;> try (split at e <;> cases e)
        exact g.rws k _ _ ho
      · have hq0 : q ≠ 0 := fun hh => by
          subst hh
          rw [h0] at ho
          cases ho
          cases ob0 <;> simp [Ob.root] at hroot <;> simp [Ob.ren] at e <;> try (split at e <;> cases e)
        rw [(newY q k hq1 hq).2.2.2.2.1 hq0]
        cases ob <;> simp [Ob.ren] at e <;> try (split at e <;> cases e)
        exact gY.rws q _ _ ho
    · have hfx : x.firmO = true := List.all_eq_true.1 hf _ (List.mem_of_getElem? h1)
      rcases get k x h1 with ⟨hki, hk, ob, ho, rfl⟩ | ⟨q, ob, hq1, hq, ho, rfl⟩
      · obtain ⟨e1, e2, e3, e4⟩ := oldX k hk hki
        exact ORel.ren hkX hvX hrX hpX ⟨e1, e2, e3⟩ (fun _ => e4.symm) (fun _ _ _ _ => rfl) hfx (g.rel k ob ho)
      · obtain ⟨_, e1, e2, e3, e4, _⟩ := newY q k hq1 hq
        refine ORel.ren hkY hvY hrY hpY ⟨e1, e2, e3⟩ (fun hp => (e4 fun hh => ?_).symm) (fun _ _ _ _ => by show X.w.heap[_]? = _; rw [hYw]) hfx (gY.rel q ob ho)
        subst hh
        rw [h0] at ho
        cases ho
        cases ob0 <;> simp [Ob.root, Ob.isPow] at hroot hp
  refine ⟨X', rfl, ?_⟩
  exact {
    len := by show _ = (renL _ _ s.t).length; rw [renL_eq, List.length_map]; exact hs.len
    slot := fun j hj => by
      have hj' : j < s.t.length := by have : j < (renL (exV i) some s.t).length := hj; simpa [renL_eq] using this
      have e : (s.unb i os).t[j] = (s.t[j]).ren (exV i) some := by simp [S.unb, renL_eq]
      rw [e]
      exact (hs.slot j hj').ren hkX hvX hrX hpX
    defers := hs.defers
    g := g'
    ext := hs.ext
    fr := hs.fr
    new := hs.new
    gh := fun k cs hk => by
      rcases get k _ hk with ⟨hki, hk, ob, ho, e⟩ | ⟨q, ob, hq1, hq, ho, e⟩
      · cases ob <;> simp [Ob.ren] at e <;> try (split at e <;> cases e)
        subst e
        obtain ⟨l, r⟩ := hs.gh k _ ho
        refine ⟨by simpa [renL_eq] using l, fun j hj => ?_⟩
        simp only [renL_eq, List.length_map] at hj
        simp only [renL_eq, List.getElem_map]
        exact (r j hj).ren hkX hvX hrX hpX
      · cases ob <;> simp [Ob.ren] at e <;> try (split at e <;> cases e)
        exact (hng q _ ho).elim
    tab := hs.tab }
def offV (l : List Nat) (k : Nat) : Option Nat := match posOf l k with | some _ => none | none => some k
def bunObj (i : Nat) (js : List Nat) (o : List Ob) (k : Nat) (ob : Ob) : Ob := match Nat.beq k i with
  | true => .bun (repOf (inO (i :: js) o))
  | false => match posOf js k with
    | some _ => .gone
    | none => ob.ren (offV (i :: js)) (offV js)
def bunO (i : Nat) (js : List Nat) (o : List Ob) : List Ob := mapI (bunObj i js o) 0 o
def S.bundle (i : Nat) (js : List Nat) (s : S) : S := ⟨renL (offV (i :: js)) (offV js) s.t, bunO i js s.o⟩
theorem offV_some {l : List Nat} {k j : Nat} (h : offV l k = some j) : j = k ∧ k ∉ l := by
  unfold offV at h
  split at h
  · cases h
  · rename_i hp; cases h; exact ⟨rfl, posOf_none hp⟩
theorem weak_bun {s : S} {i : Nat} {js : List Nat} (hroot : (match s.o[i]? with | some ob => ob.root | none => false) = true) (hp : packOK (i :: js) s.o = true) (hf : (bunO i js s.o).all Ob.firmO = true) : Weak s (s.bundle i js) := by
  intro w0 own0 X a hs
  have g := hs.g
  have hn := g.n
  unfold packOK at hp
  simp only [Bool.and_eq_true] at hp
  obtain ⟨hfp, hfin⟩ := hp
  obtain ⟨hnd, hlive⟩ := fpOK_spec hfp
  obtain ⟨obi, hoi, hri⟩ : ∃ ob, s.o[i]? = some ob ∧ ob.root = true := by
    split at hroot
    · rename_i ob h; exact ⟨ob, h, hroot⟩
    · cases hroot
  have hli := root_live hri
  have hzi : X.z i = false := by
    have := g.rel i _ hoi
    cases obi <;> simp [Ob.root] at hri <;> exact this.1
  generalize hfpe : i :: js = fp at hfp hfin hnd hlive
  have hi0 : fp[0]? = some i := by rw [← hfpe]; rfl
  have himem : i ∈ fp := by rw [← hfpe]; simp
  let obj' : Nat → Prop := fun b => ∃ j, j ∈ fp ∧ X.z j = false ∧ X.blk j b
  have hobj : ∀ b, obj' b → X.obj b := fun b ⟨j, hj, hz, hb⟩ => by
    obtain ⟨ob, h1, h2⟩ := hlive j hj
    exact (g.obj b).2 ⟨j, ob, h1, h2, hz, hb⟩
  -- the bundle's own
  let Y : Cx := { b := fun p => X.b (fp.getD p 0), c := fun p => X.c (fp.getD p 0), z := fun p => X.z (fp.getD p 0), rw := fun p => X.rw (fp.getD p 0), n := fp.length, obj := obj', ext := fun b => X.own b ∧ ¬ obj' b, w := X.w }
  have hownY : ∀ b, Y.own b → X.own b := fun b hb => hb.elim (fun h => .inl (hobj b h)) (fun h => h.1)
  have hkY : Keeps X.own X.w Y.own Y.w := ⟨Nat.le_refl _, fun b _ hb => ⟨rfl, fun hh => hb (hownY b hh)⟩⟩
  have getD1 : ∀ {p j : Nat}, fp[p]? = some j → fp.getD p 0 = j := fun {p j} h => by rw [List.getD_eq_getElem?_getD, h]; rfl
  have plt : ∀ {p j : Nat}, fp[p]? = some j → p < fp.length := fun {p j} h => (List.getElem?_eq_some_iff.1 h).1
  have hv1 : ∀ k j, posOf fp k = some j → k < X.n → j < Y.n ∧ Y.b j = X.b k ∧ Y.c j = X.c k ∧ Y.z j = X.z k := fun k j hp _ => by
    have hg := posOf_some hp
    have e := getD1 hg
    exact ⟨plt hg, by show X.b (fp.getD j 0) = _; rw [e], by show X.c (fp.getD j 0) = _; rw [e], by show X.z (fp.getD j 0) = _; rw [e]⟩
  have hv1' : ∀ k j, posOf fp k = some j → k < X.n → j < Y.n ∧ Y.z j = X.z k ∧ (X.z k = false → Y.b j = X.b k ∧ (Y.c j).1 = (X.c k).1 ∧ (Y.c j).2 = (X.c k).2) := fun k j h1 h2 => let ⟨p0, p1, p2, p3⟩ := hv1 k j h1 h2; ⟨p0, p3, fun _ => ⟨p1, by rw [p2], by rw [p2]⟩⟩
  have hp1 : ∀ k j, posOf fp k = some j → posOf fp k = some j → k < X.n → Y.b j = X.b k := fun k j h1 _ h2 => (hv1 k j h1 h2).2.1
  have hr1 : ∀ k j, posOf fp k = some j → k < X.n → X.rw k = false → j < Y.n ∧ Y.b j = X.b k ∧ Y.rw j = false := fun k j hp hk hrw => by
    have e := getD1 (posOf_some hp)
    obtain ⟨a, b, _⟩ := hv1 k j hp hk
    exact ⟨a, b, by show X.rw (fp.getD j 0) = _; rw [e]; exact hrw⟩
  have get1 : ∀ (k : Nat) (x : Ob), (inO fp s.o)[k]? = some x → ∃ (j : Nat) (ob : Ob), fp[k]? = some j ∧ s.o[j]? = some ob ∧ ob.live = true ∧ x = ob.ren (posOf fp) (posOf fp) := by
    intro k x h2
    simp only [inO, List.getElem?_map, Option.map_eq_some_iff] at h2
    obtain ⟨j, hj, rfl⟩ := h2
    obtain ⟨ob, h3, h4⟩ := hlive j (List.mem_of_getElem? hj)
    exact ⟨j, ob, hj, h3, h4, by rw [h3]; rfl⟩
  have mem1 : ∀ {k j : Nat} {ob : Ob}, fp[k]? = some j → s.o[j]? = some ob → (inO fp s.o)[k]? = some (ob.ren (posOf fp) (posOf fp)) := fun {k j ob} hj ho => by
    simp only [inO, List.getElem?_map, hj, Option.map_some, ho, Option.getD_some]
  have bk : ∀ {k j : Nat}, fp[k]? = some j → ∀ b, Y.blk k b ↔ X.blk j b := fun {k j} h b => Cx.blk_eq (X := X) (X' := Y) (by show X.b (fp.getD k 0) = _; rw [getD1 h]) (by show X.c (fp.getD k 0) = _; rw [getD1 h])
  have zk : ∀ {k j : Nat}, fp[k]? = some j → Y.z k = X.z j := fun {k j} h => by show X.z (fp.getD k 0) = _; rw [getD1 h]
  have gY : GRel Y (inO fp s.o) := by
    refine ⟨by simp [inO, Y], fun b => ?_, fun k l x y h1 h2 l1 l2 z1 z2 b b1 b2 => ?_, fun k x h1 l1 z1 b b1 => ?_, fun b hb => ?_, fun k x h1 l1 z1 b b1 => ?_, fun k sz es h1 => ?_, fun k x h1 => ?_⟩
    · constructor
      · rintro ⟨j, hj, hz, hb⟩
        obtain ⟨ob, h1, h2⟩ := hlive j hj
        obtain ⟨k, hk, rfl⟩ := List.getElem_of_mem hj
        have hk' : fp[k]? = some fp[k] := List.getElem?_eq_getElem hk
        exact ⟨k, _, mem1 hk' h1, by rw [ren_live]; exact h2, (zk hk').trans hz, (bk hk' b).2 hb⟩
      · rintro ⟨k, x, h1, h2, h3, h4⟩
        obtain ⟨j, ob, e1, e2, e3, rfl⟩ := get1 k x h1
        exact ⟨j, List.mem_of_getElem? e1, (zk e1).symm.trans h3, (bk e1 b).1 h4⟩
    · obtain ⟨j, ob, e1, e2, e3, rfl⟩ := get1 k x h1
      obtain ⟨j', ob', f1, f2, f3, rfl⟩ := get1 l y h2
      have hij := g.injB j j' ob ob' e2 f2 e3 f3 ((zk e1).symm.trans z1) ((zk f1).symm.trans z2) b ((bk e1 b).1 b1) ((bk f1 b).1 b2)
      subst hij
      have p1 := posOf_get hnd e1
      have p2 := posOf_get hnd f1
      rw [p1] at p2
      exact Option.some.inj p2
    · obtain ⟨j, ob, e1, e2, e3, rfl⟩ := get1 k x h1
      exact g.ltB j ob e2 e3 ((zk e1).symm.trans z1) b ((bk e1 b).1 b1)
    · exact hb.1.elim g.lt' (g.ext1 b)
    · obtain ⟨j, ob, e1, e2, e3, rfl⟩ := get1 k x h1
      rintro ⟨_, hh⟩
      exact hh ⟨j, List.mem_of_getElem? e1, (zk e1).symm.trans z1, (bk e1 b).1 b1⟩
    · obtain ⟨j, ob, e1, e2, e3, e4⟩ := get1 k _ h1
      show X.rw (fp.getD k 0) = true
      rw [getD1 e1]
      cases ob <;> simp [Ob.ren] at e4 <;> try (split at e4 <;> cases e4)
      exact g.rws j _ _ e2
    · obtain ⟨j, ob, e1, e2, e3, rfl⟩ := get1 k x h1
      have d1 := getD1 e1
      have hf : (ob.ren (posOf fp) (posOf fp)).firmO = true := by
        have : ob.ren (posOf fp) (posOf fp) ∈ inO fp s.o := List.mem_map.2 ⟨j, List.mem_of_getElem? e1, by rw [e2]; rfl⟩
        exact List.all_eq_true.1 hfin _ this
      exact ORel.ren hkY hv1' hr1 hp1 ⟨by show X.b (fp.getD k 0) = _; rw [d1], by show X.c (fp.getD k 0) = _; rw [d1], by show X.z (fp.getD k 0) = _; rw [d1]⟩ (fun _ => by show _ = X.rw (fp.getD k 0); rw [d1]) (fun _ _ _ _ => rfl) hf (g.rel j ob e2)
  have hrep : Bun (inO fp s.o) X.own X.w (X.b i) obj' := by
    refine ⟨Y, rfl, gY, ⟨_, mem1 hi0 hoi, ?_⟩, (zk hi0).trans hzi, by show X.b (fp.getD 0 0) = _; rw [getD1 hi0], fun c => ⟨.inr, fun h => h.elim (fun e => ⟨i, himem, hzi, .inl e.symm⟩) id⟩, fun c _ ho => ?_, fun k cs hk => ?_⟩
    · cases obi with
      | map kk ents => cases hsy : kk.isSy <;> simp [Ob.ren, hsy, Ob.root]
      | box _ => rfl
      | bun _ => rfl
      | _ => simp [Ob.root] at hri
    · by_cases hh : obj' c
      · exact .inl hh
      · exact .inr ⟨ho, hh⟩
    · obtain ⟨j, ob, e1, e2, e3, e4⟩ := get1 k _ hk
      exact live_ren_gh e3 e4
  -- what is left
  let X' : Cx := { X with c := fun k => if k = i then ⟨0, 0, obj'⟩ else X.c k }
  have oldX : ∀ k, k ≠ i → X'.c k = X.c k := fun k hk => by simp [X', hk]
  have hkX : Keeps X.own X.w X'.own X'.w := Keeps.refl _ _
  have hvX : ∀ k j, offV fp k = some j → k < X.n → j < X'.n ∧ X'.z j = X.z k ∧ (X.z k = false → X'.b j = X.b k ∧ (X'.c j).1 = (X.c k).1 ∧ (X'.c j).2 = (X.c k).2) := fun k j h hk => by
    obtain ⟨rfl, hnm⟩ := offV_some h
    have hki : j ≠ i := fun e => hnm (e ▸ himem)
    exact ⟨hk, rfl, fun _ => ⟨rfl, by rw [oldX _ hki], by rw [oldX _ hki]⟩⟩
  have hrX : ∀ k j, offV js k = some j → k < X.n → X.rw k = false → j < X'.n ∧ X'.b j = X.b k ∧ X'.rw j = false := fun k j h hk hr => by
    obtain ⟨rfl, _⟩ := offV_some h
    exact ⟨hk, rfl, hr⟩
  have hpX : ∀ k j, offV fp k = some j → offV js k = some j → k < X.n → X'.b j = X.b k := fun k j h _ _ => by
    obtain ⟨rfl, _⟩ := offV_some h
    rfl
  have get : ∀ (k : Nat) (x : Ob), (bunO i js s.o)[k]? = some x → (k = i ∧ x = .bun (repOf (inO fp s.o))) ∨ x = .gone ∨ (k ∉ fp ∧ ∃ ob, s.o[k]? = some ob ∧ x = ob.ren (offV fp) (offV js)) := by
    intro k x hx
    unfold bunO at hx
    rw [mapI_get, Nat.zero_add] at hx
    obtain ⟨ob, ho, e⟩ := Option.map_eq_some_iff.1 hx
    unfold bunObj at e
    rw [hfpe] at e
    split at e
    · rename_i hb
      exact .inl ⟨Nat.eq_of_beq_eq_true hb, e.symm⟩
    · rename_i hb
      split at e
      · exact .inr (.inl e.symm)
      · rename_i hp
        refine .inr (.inr ⟨?_, ob, ho, e.symm⟩)
        rw [← hfpe, List.mem_cons, not_or]
        exact ⟨fun h => by subst h; simp at hb, posOf_none hp⟩
  have memO : ∀ k ob, k ∉ fp → s.o[k]? = some ob → (bunO i js s.o)[k]? = some (ob.ren (offV fp) (offV js)) := by
    intro k ob hk ho
    rw [← hfpe, List.mem_cons, not_or] at hk
    unfold bunO
    rw [mapI_get, Nat.zero_add, ho]
    simp only [Option.map_some, bunObj]
    rw [hfpe]
    have hb : Nat.beq k i = false := by
      cases hh : Nat.beq k i
      · rfl
      · exact absurd (Nat.eq_of_beq_eq_true hh) hk.1
    have hq : posOf js k = none := by
      cases hh : posOf js k with
      | none => rfl
      | some p => exact absurd (List.mem_of_getElem? (posOf_some hh)) hk.2
    simp only [hb, hq]
  have memI : (bunO i js s.o)[i]? = some (.bun (repOf (inO fp s.o))) := by
    unfold bunO
    rw [mapI_get, Nat.zero_add, hoi]
    simp only [Option.map_some, bunObj]
    rw [hfpe]
    simp
  have bI : ∀ b, X'.blk i b ↔ obj' b := fun b => by
    simp only [Cx.blk, X', if_true]
    exact ⟨fun h => h.elim (fun e => ⟨i, himem, hzi, .inl e⟩) id, .inr⟩
  have bO : ∀ k, k ∉ fp → ∀ b, X'.blk k b ↔ X.blk k b := fun k hk b => Cx.blk_eq (X := X) (X' := X') rfl (oldX k fun e => hk (e ▸ himem))
  have g' : GRel X' (bunO i js s.o) := by
    refine ⟨by show X.n = _; unfold bunO; rw [mapI_len]; exact hn, fun b => ?_, fun k l x y h1 h2 l1 l2 z1 z2 b b1 b2 => ?_, fun k x h1 l1 z1 b b1 => ?_, g.ext1, fun k x h1 l1 z1 b b1 => ?_, fun k sz es h1 => ?_, fun k x h1 => ?_⟩
    · show X.obj b ↔ _
      constructor
      · intro hb
        obtain ⟨k, ob, e1, e2, e3, e4⟩ := (g.obj b).1 hb
        by_cases hk : k ∈ fp
        · exact ⟨i, _, memI, rfl, hzi, (bI b).2 ⟨k, hk, e3, e4⟩⟩
        · exact ⟨k, _, memO k ob hk e1, by rw [ren_live]; exact e2, e3, (bO k hk b).2 e4⟩
      · rintro ⟨k, x, e1, e2, e3, e4⟩
        rcases get k x e1 with ⟨rfl, rfl⟩ | rfl | ⟨hk, ob, ho, rfl⟩
        · exact hobj b ((bI b).1 e4)
        · cases e2
        · rw [ren_live] at e2
          exact (g.obj b).2 ⟨k, ob, ho, e2, e3, (bO k hk b).1 e4⟩
    · have no : ∀ k ob, k ∉ fp → s.o[k]? = some ob → ob.live = true → X.z k = false → X.blk k b → ¬ obj' b := fun k ob hk ho hl hz hb ⟨j, hj, hzj, hbj⟩ => by
        obtain ⟨ob', h1, h2⟩ := hlive j hj
        have := g.injB j k ob' ob h1 ho h2 hl hzj hz b hbj hb
        exact hk (this ▸ hj)
      rcases get k x h1 with ⟨rfl, rfl⟩ | rfl | ⟨hk, ob, ho, rfl⟩
      · rcases get l y h2 with ⟨rfl, rfl⟩ | rfl | ⟨hl, ob', ho', rfl⟩
        · rfl
        · cases l2
        · rw [ren_live] at l2
          exact absurd ((bI b).1 b1) (no l ob' hl ho' l2 z2 ((bO l hl b).1 b2))
      · cases l1
      · rw [ren_live] at l1
        rcases get l y h2 with ⟨rfl, rfl⟩ | rfl | ⟨hl, ob', ho', rfl⟩
        · exact absurd ((bI b).1 b2) (no k ob hk ho l1 z1 ((bO k hk b).1 b1))
        · cases l2
        · rw [ren_live] at l2
          exact g.injB k l ob ob' ho ho' l1 l2 z1 z2 b ((bO k hk b).1 b1) ((bO l hl b).1 b2)
    · rcases get k x h1 with ⟨rfl, rfl⟩ | rfl | ⟨hk, ob, ho, rfl⟩
      · exact g.lt' (hobj b ((bI b).1 b1))
      · cases l1
      · rw [ren_live] at l1
        exact g.ltB k ob ho l1 z1 b ((bO k hk b).1 b1)
    · rcases get k x h1 with ⟨rfl, rfl⟩ | rfl | ⟨hk, ob, ho, rfl⟩
      · obtain ⟨j, hj, hzj, hbj⟩ := (bI b).1 b1
        obtain ⟨ob', h1, h2⟩ := hlive j hj
        exact g.ext2B j ob' h1 h2 hzj b hbj
      · cases l1
      · rw [ren_live] at l1
        exact g.ext2B k ob ho l1 z1 b ((bO k hk b).1 b1)
    · rcases get k _ h1 with ⟨_, e⟩ | e | ⟨hk, ob, ho, e⟩
      · cases e
      · cases e
      · cases ob <;> simp [Ob.ren] at e <;> try (split at e <;> cases e)
        exact g.rws k _ _ ho
    · have hfx : x.firmO = true := List.all_eq_true.1 hf _ (List.mem_of_getElem? h1)
      rcases get k x h1 with ⟨rfl, rfl⟩ | rfl | ⟨hk, ob, ho, rfl⟩
      · refine ⟨hzi, ?_⟩
        show Bun (inO fp s.o) X'.own X'.w (X'.b k) (X'.c k).fp
        have e : (X'.c k).fp = obj' := by simp [X']
        rw [e]
        exact hrep
      · trivial
      · exact ORel.ren hkX hvX hrX hpX ⟨rfl, oldX k fun e => hk (e ▸ himem), rfl⟩ (fun _ => rfl) (fun _ _ _ _ => rfl) hfx (g.rel k ob ho)
  refine ⟨X', rfl, ?_⟩
  exact {
    len := by show _ = (renL _ _ s.t).length; rw [renL_eq, List.length_map]; exact hs.len
    slot := fun j hj => by
      have hj' : j < s.t.length := by have : j < (renL (offV (i :: js)) (offV js) s.t).length := hj; simpa [renL_eq] using this
      have e : (s.bundle i js).t[j] = (s.t[j]).ren (offV fp) (offV js) := by simp [S.bundle, renL_eq, hfpe]
      rw [e]
      exact (hs.slot j hj').ren hkX hvX hrX hpX
    defers := hs.defers
    g := g'
    ext := hs.ext
    fr := hs.fr
    new := hs.new
    gh := fun k cs hk => by
      rcases get k _ hk with ⟨_, e⟩ | e | ⟨hkf, ob, ho, e⟩
      · cases e
      · cases e
      · cases ob <;> simp [Ob.ren] at e <;> try (split at e <;> cases e)
        subst e
        obtain ⟨l, r⟩ := hs.gh k _ ho
        refine ⟨by simpa [renL_eq] using l, fun j hj => ?_⟩
        simp only [renL_eq, List.length_map] at hj
        simp only [renL_eq, List.getElem_map]
        exact (r j hj).ren hkX hvX hrX hpX
    tab := hs.tab }
end Go.AM
