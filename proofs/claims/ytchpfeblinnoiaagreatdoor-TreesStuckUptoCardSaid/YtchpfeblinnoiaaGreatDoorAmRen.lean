import Derived.Test.YtchpfeblinnoiaaGreatDoorAmOpen
set_option linter.unusedSimpArgs false
set_option linter.unusedVariables false
set_option linter.unnecessarySimpa false
namespace Go.AM
open Go.RowKit
theorem renL_eq (fv fr : Nat → Option Nat) : ∀ l, renL fv fr l = l.map (AV.ren fv fr)
  | [] => by simp [renL]
  | x :: l => by simp [renL, renL_eq fv fr l]
section
variable {X X' : Cx} {fv fr : Nat → Option Nat}
theorem VRel.ren (hk : Keeps X.own X.w X'.own X'.w)
    (hv : ∀ i j, fv i = some j → i < X.n → j < X'.n ∧ X'.z j = X.z i ∧ (X.z i = false → X'.b j = X.b i ∧ (X'.c j).1 = (X.c i).1 ∧ (X'.c j).2 = (X.c i).2))
    (hr : ∀ i j, fr i = some j → i < X.n → X.rw i = false → j < X'.n ∧ X'.b j = X.b i ∧ X'.rw j = false)
    (hp : ∀ i j, fv i = some j → fr i = some j → i < X.n → X'.b j = X.b i) {av : AV} {v : Value} (h : VRel X av v) : VRel X' (av.ren fv fr) v := by
  induction h with
  | d h => simp only [AV.ren]; exact .d (h.mono hk)
  | nl => exact .nl
  | @vw r n h hz hc =>
    simp only [AV.ren]
    split
    · rename_i j hj
      obtain ⟨e0, e3, e12⟩ := hv r j hj h
      obtain ⟨e1, e2, e4⟩ := e12 hz
      rw [← e1, ← e2]; exact .vw e0 (e3.trans hz) (by rw [e2, e4]; exact hc)
    · exact .jk
  | @vz r h hz =>
    simp only [AV.ren]
    split
    · rename_i j hj
      obtain ⟨e0, e3, _⟩ := hv r j hj h
      exact .vz e0 (e3.trans hz)
    · exact .jk
  | @rf i off h hrw =>
    simp only [AV.ren]
    split
    · rename_i j hj
      obtain ⟨e0, e1, e2⟩ := hr i j hj h hrw
      rw [← e1]; exact .rf e0 e2
    · exact .jk
  | @rp r sz i off h =>
    simp only [AV.ren]
    split
    · rename_i j hj
      split
      · rename_i j' hj'
        split
        · rename_i e
          subst e
          rw [← hp r j hj hj' h]; exact .rp (hv r j hj h).1
        · exact .jk
      · exact .jk
    · exact .jk
  | @ep c b off g h1 h2 h3 => simp only [AV.ren]; exact .ep g (fun h0 => (hk.keep b (cell_lt (h2 0 h0)) (h1 h0)).2) (fun j hj => (hk.cell (a := ⟨b, off + j, none⟩) (h1 (Nat.lt_of_le_of_lt (Nat.zero_le _) hj)) (h2 j hj)).1) (fun j hj => (h3 j hj).mono hk)
  | @mp i h hrw =>
    simp only [AV.ren]
    split
    · rename_i j hj
      obtain ⟨e0, e1, e2⟩ := hr i j hj h hrw
      rw [← e1]; exact .mp e0 e2
    · exact .jk
  | ag hl _ ih => simp only [AV.ren]; exact .ag (by simp [renL_eq, hl]) (fun j hj => by simp only [renL_eq, List.length_map] at hj; simp only [renL_eq, List.getElem_map]; exact ih j hj)
  | tp hl _ ih => simp only [AV.ren]; exact .tp (by simp [renL_eq, hl]) (fun j hj => by simp only [renL_eq, List.length_map] at hj; simp only [renL_eq, List.getElem_map]; exact ih j hj)
  | fn h1 h2 _ _ ih1 ih2 =>
    simp only [AV.ren]
    exact .fn (by simp [renL_eq, h1]) (by simp [renL_eq, h2]) (fun j hj => by simp only [renL_eq, List.length_map] at hj; simp only [renL_eq, List.getElem_map]; exact ih1 j hj)
      (fun j hj => by simp only [renL_eq, List.length_map] at hj; simp only [renL_eq, List.getElem_map]; exact ih2 j hj)
  | opt _ ih => simp only [AV.ren]; exact .opt ih
  | jk => simp only [AV.ren]; exact .jk
mutual
theorem ren_rigid : ∀ {x : AV} (h : x.rigid = true) (fv fr : Nat → Option Nat), x.ren fv fr = x
  | .d _, h, fv, fr => rfl
  | .nl, h, fv, fr => rfl
  | .ag cs, h, fv, fr => by
    simp only [AV.rigid] at h
    simp only [AV.ren]
    rw [ren_rigidL h fv fr]
  | .rf _ _, h, fv, fr => by cases h
  | .mp _, h, fv, fr => by cases h
  | .fn _ _ _, h, fv, fr => by cases h
  | .vw _ _, h, fv, fr => by cases h
  | .rp _ _ _ _, h, fv, fr => by cases h
  | .ep _, h, fv, fr => by cases h
  | .tp _, h, fv, fr => by cases h
  | .opt _ _, h, fv, fr => by cases h
  | .jk, h, fv, fr => by cases h
theorem ren_rigidL : ∀ {l : List AV} (h : rigidL l = true) (fv fr : Nat → Option Nat), renL fv fr l = l
  | [], h, fv, fr => rfl
  | x :: l, h, fv, fr => by
    simp only [rigidL, Bool.and_eq_true] at h
    simp only [renL]
    rw [ren_rigid h.1 fv fr, ren_rigidL h.2 fv fr]
end
theorem ORel.ren (hk : Keeps X.own X.w X'.own X'.w)
    (hv : ∀ i j, fv i = some j → i < X.n → j < X'.n ∧ X'.z j = X.z i ∧ (X.z i = false → X'.b j = X.b i ∧ (X'.c j).1 = (X.c i).1 ∧ (X'.c j).2 = (X.c i).2))
    (hr : ∀ i j, fr i = some j → i < X.n → X.rw i = false → j < X'.n ∧ X'.b j = X.b i ∧ X'.rw j = false)
    (hp : ∀ i j, fv i = some j → fr i = some j → i < X.n → X'.b j = X.b i) {i j : Nat} (hij : X'.b j = X.b i ∧ X'.c j = X.c i ∧ X'.z j = X.z i) {ob : Ob}
    (hrwj : ob.isPow = true → X.rw i = X'.rw j) (hheapB : ob.live = true → X.z i = false → ∀ c, X.blk i c → X'.w.heap[c]? = X.w.heap[c]?) (hf : (ob.ren fv fr).firmO = true) (h : ORel X i ob) : ORel X' j (ob.ren fv fr) := by
  obtain ⟨e1, e2, e3⟩ := hij
  have hheap : ob.live = true → X.z i = false → X'.w.heap[X.b i]? = X.w.heap[X.b i]? := fun h1 h2 => hheapB h1 h2 _ (.inl rfl)
  cases ob with
  | box cs =>
    obtain ⟨hz, arr, T, h1, h2, h3⟩ := h
    refine ⟨e3.trans hz, arr, T, by rw [e1, hheap rfl hz]; exact h1, by simp [renL_eq, h2], fun j hj => ?_⟩
    simp only [renL_eq, List.length_map] at hj
    simp only [renL_eq, List.getElem_map]
    exact (h3 j hj).ren hk hv hr hp
  | row sz es =>
    obtain ⟨p1, p2, ⟨hz, he⟩ | ⟨hz, arr, T, h1, hlen, h2, h3, h4, h5⟩⟩ := h
    · exact ⟨p1, p2, .inl ⟨e3.trans hz, he⟩⟩
    · exact ⟨p1, p2, .inr ⟨e3.trans hz, arr, T, by rw [e1, hheap rfl hz]; exact h1, by rw [e2]; exact hlen, by rw [e2]; exact h2, by rw [e2]; exact h3, h4, fun k hk' j hj => (h5 k hk' j hj).mono hk⟩⟩
  | map kk ents =>
    obtain ⟨hz, hkk, me, clock, h1, h2, h3, h4, h5⟩ := h
    cases hsy : kk.isSy with
    | true =>
      rw [show (Ob.map kk ents).ren fv fr = .map kk ents by simp [Ob.ren, hsy]]
      refine ⟨e3.trans hz, hkk, me, clock, by rw [e1, hheap rfl hz]; exact h1, h2, h3, h4, fun j hj hj' => ?_⟩
      refine ⟨(h5 j hj hj').1, (h5 j hj hj').2.1, ?_⟩
      have := (h5 j hj hj').2.2.ren hk hv hr hp
      rwa [ren_rigid ((hkk _ (List.getElem_mem hj)).2 hsy) fv fr] at this
    | false =>
      have er : (Ob.map kk ents).ren fv fr = .map kk (ents.map fun e => (e.1, e.2.ren fv fr)) := by simp [Ob.ren, hsy]
      rw [er] at hf ⊢
      refine ⟨e3.trans hz, ?_, me, clock, by rw [e1, hheap rfl hz]; exact h1, by simpa using h2, h3, h4, fun j hj hj' => ?_⟩
      · intro e he
        obtain ⟨e0, he0, rfl⟩ := List.mem_map.1 he
        exact ⟨(hkk e0 he0).1, fun h => by rw [hsy] at h; cases h⟩
      · simp only [List.length_map] at hj
        simp only [List.getElem_map]
        refine ⟨(h5 j hj hj').1, ?_, (h5 j hj hj').2.2.ren hk hv hr hp⟩
        simp only [Ob.firmO, hsy, Bool.false_or, List.all_map, List.all_eq_true] at hf
        exact hf _ (List.getElem_mem hj)
  | gone => trivial
  | gh cs => trivial
  | pow es =>
    simp only [Ob.ren, Ob.firmO, List.all_eq_true, Bool.and_eq_true] at hf
    obtain ⟨p0, p1, p2, ⟨hz, he⟩ | ⟨hz, arr, T, h1, hlen, h2, h3, h4⟩⟩ := h
    · subst he
      exact ⟨hrwj rfl ▸ p0, by simp [renL], by simp [renL], .inl ⟨e3.trans hz, rfl⟩⟩
    · refine ⟨hrwj rfl ▸ p0, by simpa [renL_eq] using p1, hf, .inr ⟨e3.trans hz, arr, T, by rw [e1, hheap rfl hz]; exact h1, by rw [e2]; simpa [renL_eq] using hlen, by rw [e2]; exact h2, by rw [e2]; simpa [renL_eq] using h3, fun j hj => ?_⟩⟩
      simp only [renL_eq, List.length_map] at hj
      simp only [renL_eq, List.getElem_map]
      exact (h4 j hj).ren hk hv hr hp
  | bun R =>
    obtain ⟨hz, hp'⟩ := h
    refine ⟨e3.trans hz, ?_⟩
    show R.p X'.own X'.w (X'.b j) (X'.c j).fp
    rw [e1, e2]
    exact R.stab hp' hk.size (fun c h1 h2 => hk.keep c h1 h2) fun c hc => hheapB rfl hz c (hc.elim (fun e => .inl e.symm) .inr)
end
theorem ren_live (fv fr : Nat → Option Nat) (ob : Ob) : (ob.ren fv fr).live = ob.live := by
  cases ob with
  | map kk ents => cases hsy : kk.isSy <;> simp [Ob.ren, hsy, Ob.live]
  | _ => rfl
theorem posOf_some : ∀ {l : List Nat} {i p : Nat}, posOf l i = some p → l[p]? = some i
  | [], i, p, h => by cases h
  | x :: l, i, p, h => by
    simp only [posOf] at h
    split at h
    · rename_i e; cases h; simp [e]
    · split at h
      · rename_i q hq; cases h; simpa using posOf_some hq
      · cases h
theorem posOf_none : ∀ {l : List Nat} {i : Nat}, posOf l i = none → i ∉ l
  | [], i, h => by simp
  | x :: l, i, h => by
    simp only [posOf] at h
    split at h
    · cases h
    · rename_i e
      split at h
      · cases h
      · rename_i hq
        have := posOf_none hq
        simp only [List.mem_cons, not_or]
        exact ⟨fun h => e h.symm, this⟩
theorem posOf_get : ∀ {l : List Nat} {p i : Nat}, l.Nodup → l[p]? = some i → posOf l i = some p
  | [], p, i, _, h => by simp at h
  | x :: l, 0, i, hn, h => by simp at h; simp [posOf, h]
  | x :: l, p + 1, i, hn, h => by
    simp only [List.getElem?_cons_succ] at h
    have hm := List.mem_of_getElem? h
    have hne : x ≠ i := fun e => (List.nodup_cons.1 hn).1 (e ▸ hm)
    simp only [posOf, hne, if_false, posOf_get (List.nodup_cons.1 hn).2 h]
theorem nodupB_iff : ∀ {l : List Nat}, nodupB l = true → l.Nodup
  | [], _ => by simp
  | x :: l, h => by
    simp only [nodupB, Bool.and_eq_true, Option.isNone_iff_eq_none] at h
    exact List.nodup_cons.2 ⟨posOf_none h.1, nodupB_iff h.2⟩
theorem fpOK_spec {o : List Ob} {fp : List Nat} (h : fpOK o fp = true) : fp.Nodup ∧ ∀ i ∈ fp, ∃ ob, o[i]? = some ob ∧ ob.live = true := by
  simp only [fpOK, Bool.and_eq_true, List.all_eq_true] at h
  refine ⟨nodupB_iff h.1, fun i hi => ?_⟩
  have := h.2 i hi
  split at this
  · rename_i ob hob; exact ⟨ob, hob, this⟩
  · cases this
theorem posG_some : ∀ {l : List (Option Nat)} {i p : Nat}, posG l i = some p → l[p]? = some (some i)
  | [], i, p, h => by cases h
  | x :: l, i, p, h => by
    simp only [posG] at h
    split at h
    · rename_i e
      cases h
      split at e
      · rename_i j; simp [Nat.eq_of_beq_eq_true e]
      · cases e
    · split at h
      · rename_i q hq; cases h; simpa using posG_some hq
      · cases h
theorem okG_spec {o : List Ob} : ∀ {l : List (Option Nat)} {p : Nat}, okG o p l = true → ∀ (k i : Nat), l[k]? = some (some i) → posG l i = some k ∧ ∃ ob, o[i]? = some ob ∧ (ob.live = true ∨ ∃ cs, ob = .gh cs ∧ p + k = i)
  | [], p, h, k, i, hk => by simp at hk
  | none :: l, p, h, 0, i, hk => by simp at hk
  | none :: l, p, h, k + 1, i, hk => by
    simp only [okG] at h
    simp only [List.getElem?_cons_succ] at hk
    obtain ⟨h1, ob, h2, h3⟩ := okG_spec h k i hk
    refine ⟨by simp [posG, h1], ob, h2, h3.imp id fun ⟨cs, e1, e2⟩ => ⟨cs, e1, by omega⟩⟩
  | some j :: l, p, h, 0, i, hk => by
    simp only [List.getElem?_cons_zero, Option.some.injEq] at hk
    subst hk
    simp only [okG, Bool.and_eq_true] at h
    refine ⟨by simp [posG], ?_⟩
    obtain ⟨⟨h, _⟩, _⟩ := h
    split at h
    · rename_i cs hj
      exact ⟨_, hj, .inr ⟨cs, rfl, by have := Nat.eq_of_beq_eq_true h; omega⟩⟩
    · cases h
    · rename_i ob hg1 hg2 hj
      refine ⟨_, hj, .inl ?_⟩
      cases ob with
      | gh cs => exact (hg1 cs rfl).elim
      | gone => exact (hg2 rfl).elim
      | _ => rfl
    · cases h
  | some j :: l, p, h, k + 1, i, hk => by
    simp only [okG, Bool.and_eq_true] at h
    simp only [List.getElem?_cons_succ] at hk
    obtain ⟨h1, ob, h2, h3⟩ := okG_spec h.2 k i hk
    refine ⟨?_, ob, h2, h3.imp id fun ⟨cs, e1, e2⟩ => ⟨cs, e1, by omega⟩⟩
    have hji : ¬ j = i := fun e => by
      subst e
      have := h.1.2
      rw [h1] at this; cases this
    have hb : Nat.beq j i = false := by
      cases hh : Nat.beq j i
      · rfl
      · exact absurd (Nat.eq_of_beq_eq_true hh) hji
    simp [posG, hb, h1]
theorem SRel.packG {w0 : World} {own0 : O0} {X : Cx} {s : S} {a : Act} (hs : SRel w0 own0 X s a) (fp : List (Option Nat)) (hp : packGOK fp s.o = true) : ∃ X', X'.w = X.w ∧ SRel w0 own0 X' (s.packG fp) a ∧ ∀ av v, VRel X av v → VRel X' (av.ren (posG fp) (posG fp)) v := by
  unfold packGOK at hp
  simp only [Bool.and_eq_true] at hp
  obtain ⟨hfp, hfin⟩ := hp
  have hok := okG_spec hfp
  have g := hs.g
  let obj' : Nat → Prop := fun b => ∃ i ob, some i ∈ fp ∧ s.o[i]? = some ob ∧ ob.live = true ∧ X.z i = false ∧ X.blk i b
  have hobj : ∀ b, obj' b → X.obj b := fun b ⟨i, ob, _, h1, h2, hz, hb⟩ => (g.obj b).2 ⟨i, ob, h1, h2, hz, hb⟩
  let ix : Nat → Nat := fun p => ((fp[p]?).getD none).getD 0
  let X1 : Cx := { b := fun p => X.b (ix p), c := fun p => X.c (ix p), z := fun p => X.z (ix p), rw := fun p => X.rw (ix p), n := fp.length, obj := obj', ext := X.ext, w := X.w }
  have hown1 : ∀ b, X1.own b → X.own b := fun b hb => hb.elim (fun h => .inl (hobj b h)) .inr
  have hk1 : Keeps X.own X.w X1.own X1.w := ⟨Nat.le_refl _, fun b _ hb => ⟨rfl, fun hh => hb (hown1 b hh)⟩⟩
  have getD1 : ∀ {p i : Nat}, fp[p]? = some (some i) → ix p = i := fun {p i} h => by show ((fp[p]?).getD none).getD 0 = i; rw [h]; rfl
  have plt : ∀ {p i : Nat}, fp[p]? = some (some i) → p < fp.length := fun {p i} h => (List.getElem?_eq_some_iff.1 h).1
  have hv1 : ∀ i j, posG fp i = some j → i < X.n → j < X1.n ∧ X1.b j = X.b i ∧ X1.c j = X.c i ∧ X1.z j = X.z i := fun i j hp _ => by
    have hg := posG_some hp
    have e := getD1 hg
    exact ⟨plt hg, by show X.b (ix j) = _; rw [e], by show X.c (ix j) = _; rw [e], by show X.z (ix j) = _; rw [e]⟩
  have hv1' : ∀ i j, posG fp i = some j → i < X.n → j < X1.n ∧ X1.z j = X.z i ∧ (X.z i = false → X1.b j = X.b i ∧ (X1.c j).1 = (X.c i).1 ∧ (X1.c j).2 = (X.c i).2) := fun i j h1 h2 => let ⟨p0, p1, p2, p3⟩ := hv1 i j h1 h2; ⟨p0, p3, fun _ => ⟨p1, by rw [p2], by rw [p2]⟩⟩
  have hp1 : ∀ i j, posG fp i = some j → posG fp i = some j → i < X.n → X1.b j = X.b i := fun i j h1 _ h2 => (hv1 i j h1 h2).2.1
  have hr1 : ∀ i j, posG fp i = some j → i < X.n → X.rw i = false → j < X1.n ∧ X1.b j = X.b i ∧ X1.rw j = false := fun i j hp hi hrw => by
    have e := getD1 (posG_some hp)
    obtain ⟨a, b, _⟩ := hv1 i j hp hi
    exact ⟨a, b, by show X.rw (ix j) = _; rw [e]; exact hrw⟩
  have get1 : ∀ (k : Nat) (x : Ob), (inG fp s.o)[k]? = some x → x = .gone ∨ ∃ (i : Nat) (ob : Ob), fp[k]? = some (some i) ∧ s.o[i]? = some ob ∧ (ob.live = true ∨ ∃ cs, ob = .gh cs ∧ k = i) ∧ x = ob.ren (posG fp) (posG fp) := by
    intro k x h2
    simp only [inG, List.getElem?_map, Option.map_eq_some_iff] at h2
    obtain ⟨i, hi, rfl⟩ := h2
    cases i with
    | none => exact .inl rfl
    | some i =>
      obtain ⟨_, ob, h3, h4⟩ := hok k i hi
      refine .inr ⟨i, ob, hi, h3, h4.imp id fun ⟨cs, e1, e2⟩ => ⟨cs, e1, by omega⟩, by simp only [h3]; rfl⟩
  have get2 : ∀ (k : Nat) (x : Ob), (inG fp s.o)[k]? = some x → x.live = true → ∃ (i : Nat) (ob : Ob), fp[k]? = some (some i) ∧ s.o[i]? = some ob ∧ ob.live = true ∧ x = ob.ren (posG fp) (posG fp) := by
    intro k x h1 h2
    rcases get1 k x h1 with rfl | ⟨i, ob, e1, e2, e3, e4⟩
    · cases h2
    · exact ⟨i, ob, e1, e2, by rw [e4, ren_live] at h2; exact h2, e4⟩
  have mem1 : ∀ {k i : Nat} {ob : Ob}, fp[k]? = some (some i) → s.o[i]? = some ob → (inG fp s.o)[k]? = some (ob.ren (posG fp) (posG fp)) := fun {k i ob} hi ho => by
    simp only [inG, List.getElem?_map, hi, Option.map_some, ho, Option.getD_some]
  have bk : ∀ {k i : Nat}, fp[k]? = some (some i) → ∀ b, X1.blk k b ↔ X.blk i b := fun {k i} h b => Cx.blk_eq (X := X) (X' := X1) (by show X.b (ix k) = _; rw [getD1 h]) (by show X.c (ix k) = _; rw [getD1 h])
  have zk : ∀ {k i : Nat}, fp[k]? = some (some i) → X1.z k = X.z i := fun {k i} h => by show X.z (ix k) = _; rw [getD1 h]
  have g1 : GRel X1 (inG fp s.o) := by
    refine ⟨by simp [inG, X1], fun b => ?_, fun k l x y h1 h2 l1 l2 z1 z2 b b1 b2 => ?_, fun k x h1 l1 z1 b b1 => ?_, g.ext1, fun k x h1 l1 z1 b b1 => ?_, fun k sz es h1 => ?_, fun k x h1 => ?_⟩
    · constructor
      · rintro ⟨i, ob, hi, h1, h2, hz, hb⟩
        obtain ⟨k, hk, e0⟩ := List.getElem_of_mem hi
        have hk' : fp[k]? = some (some i) := by rw [List.getElem?_eq_getElem hk, e0]
        exact ⟨k, _, mem1 hk' h1, by rw [ren_live]; exact h2, (zk hk').trans hz, (bk hk' b).2 hb⟩
      · rintro ⟨k, x, h1, h2, h3, h4⟩
        obtain ⟨i, ob, e1, e2, e3, rfl⟩ := get2 k x h1 h2
        exact ⟨i, ob, List.mem_of_getElem? e1, e2, e3, (zk e1).symm.trans h3, (bk e1 b).1 h4⟩
    · obtain ⟨i, ob, e1, e2, e3, rfl⟩ := get2 k x h1 l1
      obtain ⟨j, ob', f1, f2, f3, rfl⟩ := get2 l y h2 l2
      have hij := g.injB i j ob ob' e2 f2 e3 f3 ((zk e1).symm.trans z1) ((zk f1).symm.trans z2) b ((bk e1 b).1 b1) ((bk f1 b).1 b2)
      subst hij
      have p1 := (hok _ _ e1).1
      have p2 := (hok _ _ f1).1
      rw [p1] at p2
      exact Option.some.inj p2
    · obtain ⟨i, ob, e1, e2, e3, rfl⟩ := get2 k x h1 l1
      exact g.ltB i ob e2 e3 ((zk e1).symm.trans z1) b ((bk e1 b).1 b1)
    · obtain ⟨i, ob, e1, e2, e3, rfl⟩ := get2 k x h1 l1
      exact g.ext2B i ob e2 e3 ((zk e1).symm.trans z1) b ((bk e1 b).1 b1)
    · rcases get1 k _ h1 with e | ⟨i, ob, e1, e2, e3, e4⟩
      · cases e
      show X.rw (ix k) = true
      rw [getD1 e1]
      cases ob <;> simp [Ob.ren] at e4 <;> try (split at e4 <;> cases e4)
      exact g.rws i _ _ e2
    · rcases get1 k x h1 with rfl | ⟨i, ob, e1, e2, e3, rfl⟩
      · trivial
      have d1 := getD1 e1
      have hf : (ob.ren (posG fp) (posG fp)).firmO = true := by
        have : ob.ren (posG fp) (posG fp) ∈ inG fp s.o := List.mem_map.2 ⟨some i, List.mem_of_getElem? e1, by simp only [e2]; rfl⟩
        exact List.all_eq_true.1 hfin _ this
      exact ORel.ren hk1 hv1' hr1 hp1 ⟨by show X.b (ix k) = _; rw [d1], by show X.c (ix k) = _; rw [d1], by show X.z (ix k) = _; rw [d1]⟩ (fun _ => by show _ = X.rw (ix k); rw [d1]) (fun _ _ _ _ => rfl) hf (g.rel i ob e2)
  refine ⟨X1, rfl, ?_, fun av v h => h.ren hk1 hv1' hr1 hp1⟩
  exact {
    len := by show _ = (renL _ _ s.t).length; rw [renL_eq, List.length_map]; exact hs.len
    slot := fun i hi => by
      have hi' : i < s.t.length := by have : i < (renL (posG fp) (posG fp) s.t).length := hi; simpa [renL_eq] using this
      have e : (s.packG fp).t[i] = (s.t[i]).ren (posG fp) (posG fp) := by simp [S.packG, renL_eq]
      rw [e]
      exact (hs.slot i hi').ren hk1 hv1' hr1 hp1
    defers := hs.defers
    g := g1
    ext := hs.ext
    fr := hs.fr
    new := fun b hb => hs.new b (hobj b hb)
    gh := fun k cs hk => by
      rcases get1 k _ hk with e | ⟨i, ob, e1, e2, e3, e4⟩
      · cases e
      cases ob <;> simp [Ob.ren] at e4 <;> try (split at e4 <;> cases e4)
      subst e4
      rename_i cs0
      obtain ⟨cs1, h1, h2⟩ : ∃ cs, Ob.gh cs0 = .gh cs ∧ k = i := e3.elim (fun h => by cases h) id
      subst h2
      obtain ⟨l, r⟩ := hs.gh k cs0 e2
      refine ⟨by simpa [renL_eq] using l, fun j hj => ?_⟩
      have hj' : j < cs0.length := by simpa [renL_eq] using hj
      simp only [renL_eq, List.getElem_map]
      exact (r j hj').ren hk1 hv1' hr1 hp1
    tab := hs.tab }
theorem posG_map : ∀ (l : List Nat) (i : Nat), posG (l.map some) i = posOf l i
  | [], i => rfl
  | x :: l, i => by
    simp only [List.map_cons, posG, posOf, posG_map l i]
    by_cases h : x = i
    · subst h; simp
    · have hb : Nat.beq x i = false := by
        cases hh : Nat.beq x i
        · rfl
        · exact absurd (Nat.eq_of_beq_eq_true hh) h
      simp only [hb, h, if_false]
theorem okG_map {o : List Ob} : ∀ {l : List Nat} {p : Nat}, fpOK o l = true → okG o p (l.map some) = true
  | [], p, _ => rfl
  | x :: l, p, h => by
    simp only [fpOK, nodupB, List.all_cons, Bool.and_eq_true] at h
    obtain ⟨⟨h1, h2⟩, h3, h4⟩ := h
    simp only [List.map_cons, okG, Bool.and_eq_true]
    refine ⟨⟨?_, ?_⟩, okG_map (by simp only [fpOK, Bool.and_eq_true]; exact ⟨h2, h4⟩)⟩
    · split at h3
      · rename_i ob hob
        cases ob <;> simp [hob, Ob.live] at h3 ⊢
      · cases h3
    · rw [posG_map, Option.isNone_iff_eq_none.1 h1]
theorem SRel.pack {w0 : World} {own0 : O0} {X : Cx} {s : S} {a : Act} (hs : SRel w0 own0 X s a) (fp : List Nat) (hp : packOK fp s.o = true) : ∃ X', X'.w = X.w ∧ SRel w0 own0 X' (s.pack fp) a := by
  unfold packOK at hp
  simp only [Bool.and_eq_true] at hp
  have e : posG (fp.map some) = posOf fp := funext (posG_map fp)
  have ei : inG (fp.map some) s.o = inO fp s.o := by simp only [inG, inO, List.map_map, e]; rfl
  obtain ⟨X', h1, h2, _⟩ := hs.packG (fp.map some) (by unfold packGOK; rw [okG_map hp.1, ei, hp.2]; rfl)
  refine ⟨X', h1, ?_⟩
  rwa [show s.packG (fp.map some) = s.pack fp by simp only [S.packG, S.pack, e, ei]] at h2
end Go.AM
