import Derived.Test.YtchpfeblinnoiaaGreatDoorAmOps
set_option linter.unusedSimpArgs false
set_option linter.unusedVariables false
set_option linter.unnecessarySimpa false
namespace Go.AM
open Go.RowKit
theorem VRel.sub {X X' : Cx} (r : Nat) (es : List (List D)) (hk : Keeps X.own X.w X'.own X'.w) (hn : X.n ≤ X'.n) (hb : ∀ i, i < X.n → X'.b i = X.b i ∧ X'.c i = X.c i ∧ X'.z i = X.z i ∧ X'.rw i = X.rw i)
    (hrow : ∀ n v, VRel X (.vw r n) v → VRel X' (.d (.sl (es.take n))) v) {av : AV} {v : Value} (h : VRel X av v) : VRel X' (av.sub r es) v := by
  induction h with
  | d h => simp only [AV.sub]; exact .d (h.mono hk)
  | nl => exact .nl
  | @vw i n h hz hc =>
    simp only [AV.sub]; split
    · rename_i hi; subst hi; exact hrow _ _ (.vw h hz hc)
    · exact VRel.step hk hn hb (.vw h hz hc)
  | @vz i h hz =>
    simp only [AV.sub]; split
    · rename_i hi; subst hi; exact hrow _ _ (.vz h hz)
    · exact VRel.step hk hn hb (.vz h hz)
  | @rf i off h hr => simp only [AV.sub]; exact VRel.step hk hn hb (.rf h hr)
  | @rp i sz k off h =>
    simp only [AV.sub]; split
    · exact .jk
    · exact VRel.step hk hn hb (.rp h)
  | @ep c b off g h1 h2 h3 => simp only [AV.sub]; exact VRel.step hk hn hb (.ep g h1 h2 h3)
  | @mp i h hr => simp only [AV.sub]; exact VRel.step hk hn hb (.mp h hr)
  | ag hl _ ih => simp only [AV.sub]; exact .ag (by simp [subL_eq, hl]) (fun j hj => by simp only [subL_eq, List.length_map] at hj; simp only [subL_eq, List.getElem_map]; exact ih j hj)
  | tp hl _ ih => simp only [AV.sub]; exact .tp (by simp [subL_eq, hl]) (fun j hj => by simp only [subL_eq, List.length_map] at hj; simp only [subL_eq, List.getElem_map]; exact ih j hj)
  | fn h1 h2 _ _ ih1 ih2 =>
    simp only [AV.sub]
    exact .fn (by simp [subL_eq, h1]) (by simp [subL_eq, h2]) (fun j hj => by simp only [subL_eq, List.length_map] at hj; simp only [subL_eq, List.getElem_map]; exact ih1 j hj)
      (fun j hj => by simp only [subL_eq, List.length_map] at hj; simp only [subL_eq, List.getElem_map]; exact ih2 j hj)
  | opt _ ih => simp only [AV.sub]; exact .opt ih
  | jk => simp only [AV.sub]; exact .jk
theorem view_rel {X : Cx} {o : List Ob} (g : GRel X o) {own' : Nat → Prop} {r n sz : Nat} {es : List (List D)} (hr : o[r]? = some (.row sz es)) (hsub : ∀ b, own' b → X.own b) (hnot : X.z r = false → ¬ own' (X.b r)) {v : Value} (hv : VRel X (.vw r n) v) :
    DRel own' X.w (.sl (es.take n)) v := by
  obtain ⟨hlt, ⟨hz, hn, rfl⟩ | ⟨hz, rfl, rfl⟩⟩ := inv_vw hv
  · obtain ⟨p1, p2, ⟨hz', _⟩ | ⟨_, arr, T, h1, hlen, h2, h3, h4, h5⟩⟩ := g.rel r _ hr
    · rw [hz] at hz'; cases hz'
    · have hl : (es.take n).length = n := by simp; omega
      have := DRel.sl (own := own') (w := X.w) (es := es.take n) (b := X.b r) (off := 0) (cap := (X.c r).1) sz p1 (fun i j => arr.getD (i * sz + j) undef) (by omega) (by omega) (fun _ => hnot hz)
        (fun i hi => by simp only [List.getElem_take]; exact h4 i (by omega)) (fun i j hi hj => by
          rw [Nat.zero_add]
          refine cell_of_heap h1 ?_
          have : (i + 1) * sz ≤ (X.c r).1 * sz := Nat.mul_le_mul_right _ (by omega)
          rw [Nat.add_mul] at this; omega) (fun i hi j hj => by
          simp only [List.getElem_take] at hj ⊢
          exact (h5 i (by omega) j hj).mono ⟨Nat.le_refl _, fun b _ hb => ⟨rfl, fun hh => hb (hsub b hh)⟩⟩)
      rwa [hl] at this
  · exact .nil
def Cx.drop (X : Cx) (r : Nat) : Cx := { X with obj := fun b => X.obj b ∧ ¬ (X.z r = false ∧ X.blk r b) }
theorem drop_keeps (X : Cx) (r : Nat) : Keeps X.own X.w (X.drop r).own (X.drop r).w := Cx.keeps ⟨Nat.le_refl _, fun b _ hb => ⟨rfl, fun hh => hb hh.1⟩⟩ rfl
theorem subO_live (r : Nat) (es : List (List D)) (ob : Ob) : (ob.subO r es).live = ob.live := by cases ob <;> rfl
theorem ORel.sub {X X' : Cx} (r : Nat) (es : List (List D)) (hk : Keeps X.own X.w X'.own X'.w) (hn : X.n ≤ X'.n) (hb : ∀ i, i < X.n → X'.b i = X.b i ∧ X'.c i = X.c i ∧ X'.z i = X.z i ∧ X'.rw i = X.rw i)
    (hrow : ∀ n v, VRel X (.vw r n) v → VRel X' (.d (.sl (es.take n))) v) {i : Nat} (hi : i < X.n) {ob : Ob} (hheapB : ∀ c, X.blk i c → X'.w.heap[c]? = X.w.heap[c]?) (h : ORel X i ob) : ORel X' i (ob.subO r es) := by
  have hheap : X'.w.heap[X.b i]? = X.w.heap[X.b i]? := hheapB _ (.inl rfl)
  cases ob with
  | box cs =>
    obtain ⟨e1, e2, e3, e4⟩ := hb i hi
    obtain ⟨hz, arr, T, h1, h2, h3⟩ := h
    refine ⟨e3.trans hz, arr, T, by rw [e1, hheap]; exact h1, by simp [subL_eq, h2], fun j hj => ?_⟩
    simp only [subL_eq, List.length_map] at hj
    simp only [subL_eq, List.getElem_map]
    exact (h3 j hj).sub r es hk hn hb hrow
  | row sz es' => exact ORel.step hk hn hb hi (fun _ _ => hheapB) h
  | map kk ents => exact ORel.step hk hn hb hi (fun _ _ => hheapB) h
  | pow es' => exact ORel.step hk hn hb hi (fun _ _ => hheapB) h
  | bun R => exact ORel.step hk hn hb hi (fun _ _ => hheapB) h
  | gone => trivial
  | gh cs => trivial
theorem seal_srel {w0 : World} {own0 : O0} {X : Cx} {s : S} {a : Act} (hs : SRel w0 own0 X s a) (r : Nat) : ∃ X', X'.w = X.w ∧ SRel w0 own0 X' (s.sealR r) a := by
  unfold S.sealR
  split
  · rename_i sz es hr
    refine ⟨X.drop r, rfl, ?_⟩
    have hag : ∀ i, i < X.n → (X.drop r).b i = X.b i ∧ (X.drop r).c i = X.c i ∧ (X.drop r).z i = X.z i ∧ (X.drop r).rw i = X.rw i := fun _ _ => ⟨rfl, rfl, rfl, rfl⟩
    have hrow : ∀ n v, VRel X (.vw r n) v → VRel (X.drop r) (.d (.sl (es.take n))) v := fun n v hv =>
      .d (view_rel hs.g hr (own' := (X.drop r).own) (fun b hb => hb.imp And.left id) (fun hz hb => hb.elim (fun h => h.2 ⟨hz, .inl rfl⟩) (hs.g.ext2 r _ hr rfl hz)) hv)
    have get : ∀ i x, ((s.o.map (Ob.subO r es)).set r .gone)[i]? = some x → (i = r ∧ x = .gone) ∨ (i ≠ r ∧ ∃ y, s.o[i]? = some y ∧ x = y.subO r es) := by
      intro i x hx
      rw [List.getElem?_set] at hx
      by_cases hir : r = i
      · subst hir
        have := lt_of_get hr
        simp only [if_true, List.length_map, this] at hx
        exact .inl ⟨rfl, by simpa using hx.symm⟩
      · simp only [hir, if_false, List.getElem?_map] at hx
        obtain ⟨y, hy, e⟩ := Option.map_eq_some_iff.1 hx
        exact .inr ⟨fun e => hir e.symm, y, hy, e.symm⟩
    have back : ∀ i y, s.o[i]? = some y → i ≠ r → ((s.o.map (Ob.subO r es)).set r .gone)[i]? = some (y.subO r es) := by
      intro i y hy hir
      rw [List.getElem?_set, if_neg (fun e => hir e.symm), List.getElem?_map, hy]; rfl
    refine ⟨by simp [subL_eq, hs.len], fun i hi => ?_, hs.defers, ?_, hs.ext, hs.fr, fun b hb => hs.new b hb.1, fun k cs' hk' => ?_, hs.tab⟩
    · simp only [subL_eq, List.length_map] at hi
      simp only [subL_eq, List.getElem_map]
      exact (hs.slot i hi).sub r es (drop_keeps X r) (Nat.le_refl _) hag hrow
    · constructor
      · simp [Cx.drop, hs.g.n]
      · intro b
        constructor
        · rintro ⟨hb, hne⟩
          obtain ⟨i, y, h1, h2, h3, h4⟩ := (hs.g.obj b).1 hb
          by_cases hir : i = r
          · subst hir; exact absurd ⟨h3, h4⟩ hne
          · exact ⟨i, _, back i y h1 hir, by rw [subO_live]; exact h2, h3, h4⟩
        · rintro ⟨i, x, h1, h2, h3, h4⟩
          rcases get i x h1 with ⟨_, rfl⟩ | ⟨hir, y, hy, rfl⟩
          · simp [Ob.live] at h2
          · rw [subO_live] at h2
            refine ⟨(hs.g.obj b).2 ⟨i, y, hy, h2, h3, h4⟩, ?_⟩
            rintro ⟨hz, e⟩
            exact hir (hs.g.injB i r y _ hy hr h2 rfl h3 hz b h4 e)
      · intro i j x y h1 h2 l1 l2 z1 z2 b b1 b2
        rcases get i x h1 with ⟨_, r1⟩ | ⟨_, x', hx, r1⟩
        · rw [r1] at l1; simp [Ob.live] at l1
        rcases get j y h2 with ⟨_, r2⟩ | ⟨_, y', hy, r2⟩
        · rw [r2] at l2; simp [Ob.live] at l2
        rw [r1, subO_live] at l1
        rw [r2, subO_live] at l2
        exact hs.g.injB i j x' y' hx hy l1 l2 z1 z2 b b1 b2
      · intro i x h1 l1 z1 b b1
        rcases get i x h1 with ⟨_, r1⟩ | ⟨_, x', hx, r1⟩
        · rw [r1] at l1; simp [Ob.live] at l1
        · rw [r1, subO_live] at l1; exact hs.g.ltB i x' hx l1 z1 b b1
      · exact hs.g.ext1
      · intro i x h1 l1 z1 b b1
        rcases get i x h1 with ⟨_, r1⟩ | ⟨_, x', hx, r1⟩
        · rw [r1] at l1; simp [Ob.live] at l1
        · rw [r1, subO_live] at l1; exact hs.g.ext2B i x' hx l1 z1 b b1
      · intro i sz' es' h1
        rcases get i _ h1 with ⟨_, r1⟩ | ⟨_, x', hx, r1⟩
        · cases r1
        · cases x' <;> simp [Ob.subO] at r1
          obtain ⟨rfl, rfl⟩ := r1
          exact hs.g.rws i _ _ hx
      · intro i x h1
        rcases get i x h1 with ⟨_, rfl⟩ | ⟨hir, y, hy, rfl⟩
        · trivial
        · exact ORel.sub r es (drop_keeps X r) (Nat.le_refl _) hag hrow (by rw [hs.g.n]; exact lt_of_get hy) (fun _ _ => rfl) (hs.g.rel i y hy)
    · rcases get k _ hk' with ⟨_, e⟩ | ⟨hkr, y, hy, e⟩
      · cases e
      · cases y <;> simp [Ob.subO] at e
        subst e
        obtain ⟨l, q⟩ := hs.gh k _ hy
        refine ⟨by simpa [subL_eq] using l, fun j hj => ?_⟩
        simp only [subL_eq, List.length_map] at hj
        simp only [subL_eq, List.getElem_map]
        exact (q j hj).sub r es (drop_keeps X r) (Nat.le_refl _) hag hrow
  · exact ⟨X, rfl, hs⟩
theorem sealAll_srel {w0 : World} {own0 : O0} {a : Act} : ∀ (l : List Nat) {X : Cx} {s : S}, SRel w0 own0 X s a → ∃ X', X'.w = X.w ∧ SRel w0 own0 X' (sealAll l s) a
  | [], X, s, hs => ⟨X, rfl, hs⟩
  | r :: l, X, s, hs => by
    obtain ⟨X1, e1, h1⟩ := seal_srel hs r
    obtain ⟨X2, e2, h2⟩ := sealAll_srel l h1
    exact ⟨X2, e2.trans e1, h2⟩
mutual
theorem toD_rel {X : Cx} {o : List Ob} (g : GRel X o) : ∀ {x : AV} {d : D} {v : Value}, VRel X x v → x.toD o = some d → DRel (fun _ => False) X.w d v
  | .d x, d, v, hv, h => by
    simp only [AV.toD, Option.some.injEq] at h; subst h
    cases hv with | d hd => exact hd.mono ⟨Nat.le_refl _, fun _ _ _ => ⟨rfl, id⟩⟩
  | .nl, d, v, hv, h => by
    simp only [AV.toD, Option.some.injEq] at h; subst h
    cases hv; exact .nil
  | .vw r n, d, v, hv, h => by
    simp only [AV.toD] at h
    split at h
    · rename_i sz es hr
      simp only [Option.some.injEq] at h; subst h
      exact view_rel g hr (fun _ h => h.elim) (fun _ h => h) hv
    · cases h
  | .fn f fs cs, d, v, hv, h => by
    simp only [AV.toD] at h
    split at h
    · rename_i p q h1 h2
      simp only [Option.some.injEq] at h; subst h
      cases hv with
      | fn l1 l2 r1 r2 =>
        obtain ⟨m1, m2⟩ := toDL_rel g h1
        obtain ⟨n1, n2⟩ := toDL_rel g h2
        exact .fn (by omega) (by omega) (fun i hi => m2 i (by omega) hi _ (r1 i (by omega))) (fun i hi => n2 i (by omega) hi _ (r2 i (by omega)))
    · cases h
  | .rf _ _, _, _, _, h => by simp [AV.toD] at h
  | .rp _ _ _ _, _, _, _, h => by simp [AV.toD] at h
  | .ep _, _, _, _, h => by simp [AV.toD] at h
  | .mp _, _, _, _, h => by simp [AV.toD] at h
  | .ag _, _, _, _, h => by simp [AV.toD] at h
  | .tp _, _, _, _, h => by simp [AV.toD] at h
  | .opt _ _, _, _, _, h => by simp [AV.toD] at h
  | .jk, _, _, _, h => by simp [AV.toD] at h
theorem toDL_rel {X : Cx} {o : List Ob} (g : GRel X o) : ∀ {l : List AV} {ds : List D}, toDL o l = some ds → ds.length = l.length ∧ ∀ (i : Nat) (h : i < l.length) (h' : i < ds.length) (v : Value), VRel X l[i] v → DRel (fun _ => False) X.w ds[i] v
  | [], ds, h => by
    simp only [toDL, Option.some.injEq] at h; subst h
    exact ⟨rfl, fun i h => absurd h (by simp)⟩
  | x :: l, ds, h => by
    simp only [toDL] at h
    split at h
    · rename_i p q h1 h2
      simp only [Option.some.injEq] at h; subst h
      obtain ⟨m1, m2⟩ := toDL_rel g h2
      refine ⟨by simp [m1], fun i hi hi' v hv => ?_⟩
      cases i with
      | zero => exact toD_rel g (x := x) hv h1
      | succ i => exact m2 i (by simpa using hi) (by simpa using hi') v (by simpa using hv)
    · cases h
end
end Go.AM
