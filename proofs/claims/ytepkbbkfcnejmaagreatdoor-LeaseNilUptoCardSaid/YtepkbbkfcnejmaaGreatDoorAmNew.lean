import Derived.Test.YtepkbbkfcnejmaaGreatDoorAmFn
set_option linter.unusedSimpArgs false
set_option linter.unusedVariables false
set_option linter.unnecessarySimpa false
namespace Go.AM
open Go.RowKit
theorem shiftL_eq (n : Nat) : ∀ l, shiftL n l = l.map (AV.shift n)
  | [] => by simp [shiftL]
  | x :: l => by simp [shiftL, shiftL_eq n l]
theorem VRel.shift {X X' : Cx} (m : Nat) (hk : Keeps X.own X.w X'.own X'.w) (hn : m + X.n ≤ X'.n) (hb : ∀ i, i < X.n → X'.b (m + i) = X.b i ∧ X'.c (m + i) = X.c i ∧ X'.z (m + i) = X.z i ∧ X'.rw (m + i) = X.rw i) {av : AV} {v : Value} (h : VRel X av v) : VRel X' (av.shift m) v := by
  induction h with
  | d h => simp only [AV.shift]; exact .d (h.mono hk)
  | nl => exact .nl
  | @vw r n h hz hc =>
    obtain ⟨e1, e2, e3, _⟩ := hb r h
    simp only [AV.shift]
    rw [← e1, ← e2]; exact .vw (by omega) (e3.trans hz) (by rw [e2]; exact hc)
  | @vz r h hz => simp only [AV.shift]; exact .vz (by omega) ((hb r h).2.2.1.trans hz)
  | @rf i off h hr => simp only [AV.shift]; rw [← (hb i h).1]; exact .rf (by omega) ((hb i h).2.2.2.trans hr)
  | @rp r sz i off h => simp only [AV.shift]; rw [← (hb r h).1]; exact .rp (by omega)
  | @ep c b off g h1 h2 h3 => simp only [AV.shift]; exact .ep g (fun h0 => (hk.keep b (cell_lt (h2 0 h0)) (h1 h0)).2) (fun j hj => (hk.cell (a := ⟨b, off + j, none⟩) (h1 (Nat.lt_of_le_of_lt (Nat.zero_le _) hj)) (h2 j hj)).1) (fun j hj => (h3 j hj).mono hk)
  | @mp i h hr => simp only [AV.shift]; rw [← (hb i h).1]; exact .mp (by omega) ((hb i h).2.2.2.trans hr)
  | ag hl _ ih => simp only [AV.shift]; exact .ag (by simp [shiftL_eq, hl]) (fun j hj => by simp only [shiftL_eq, List.length_map] at hj; simp only [shiftL_eq, List.getElem_map]; exact ih j hj)
  | tp hl _ ih => simp only [AV.shift]; exact .tp (by simp [shiftL_eq, hl]) (fun j hj => by simp only [shiftL_eq, List.length_map] at hj; simp only [shiftL_eq, List.getElem_map]; exact ih j hj)
  | fn h1 h2 _ _ ih1 ih2 =>
    simp only [AV.shift]
    exact .fn (by simp [shiftL_eq, h1]) (by simp [shiftL_eq, h2]) (fun j hj => by simp only [shiftL_eq, List.length_map] at hj; simp only [shiftL_eq, List.getElem_map]; exact ih1 j hj)
      (fun j hj => by simp only [shiftL_eq, List.length_map] at hj; simp only [shiftL_eq, List.getElem_map]; exact ih2 j hj)
  | opt _ ih => simp only [AV.shift]; exact .opt ih
  | jk => simp only [AV.shift]; exact .jk
mutual
theorem shift_firm : ∀ {x : AV} (h : x.firm = true) (n : Nat), (x.shift n).firm = true
  | .d _, h, n => rfl
  | .rf _ _, h, n => rfl
  | .mp _, h, n => rfl
  | .nl, h, n => rfl
  | .fn f fs cs, h, n => by
    simp only [AV.firm, Bool.and_eq_true] at h
    simp only [AV.shift, AV.firm, Bool.and_eq_true]
    exact ⟨shift_firmL h.1 n, shift_firmL h.2 n⟩
  | .ag cs, h, n => by
    simp only [AV.firm] at h
    simp only [AV.shift, AV.firm]
    exact shift_firmL h n
  | .vw _ _, h, n => by cases h
  | .rp _ _ _ _, h, n => by cases h
  | .ep _, h, n => by cases h
  | .tp _, h, n => by cases h
  | .opt _ _, h, n => by cases h
  | .jk, h, n => by cases h
theorem shift_firmL : ∀ {l : List AV} (h : firmL l = true) (n : Nat), firmL (shiftL n l) = true
  | [], h, n => rfl
  | x :: l, h, n => by
    simp only [firmL, Bool.and_eq_true] at h
    simp only [shiftL, firmL, Bool.and_eq_true]
    exact ⟨shift_firm h.1 n, shift_firmL h.2 n⟩
end
mutual
theorem shift_rigid : ∀ {x : AV} (h : x.rigid = true) (n : Nat), x.shift n = x
  | .d _, h, n => rfl
  | .nl, h, n => rfl
  | .ag cs, h, n => by
    simp only [AV.rigid] at h
    simp only [AV.shift]
    rw [shift_rigidL h n]
  | .rf _ _, h, n => by cases h
  | .mp _, h, n => by cases h
  | .fn _ _ _, h, n => by cases h
  | .vw _ _, h, n => by cases h
  | .rp _ _ _ _, h, n => by cases h
  | .ep _, h, n => by cases h
  | .tp _, h, n => by cases h
  | .opt _ _, h, n => by cases h
  | .jk, h, n => by cases h
theorem shift_rigidL : ∀ {l : List AV} (h : rigidL l = true) (n : Nat), shiftL n l = l
  | [], h, n => rfl
  | x :: l, h, n => by
    simp only [rigidL, Bool.and_eq_true] at h
    simp only [shiftL]
    rw [shift_rigid h.1 n, shift_rigidL h.2 n]
end
theorem ORel.shift {X X' : Cx} (m : Nat) (hk : Keeps X.own X.w X'.own X'.w) (hn : m + X.n ≤ X'.n) (hb : ∀ i, i < X.n → X'.b (m + i) = X.b i ∧ X'.c (m + i) = X.c i ∧ X'.z (m + i) = X.z i ∧ X'.rw (m + i) = X.rw i) {i : Nat} (hi : i < X.n) {ob : Ob}
    (hheapB : ∀ c, X.blk i c → X'.w.heap[c]? = X.w.heap[c]?) (h : ORel X i ob) : ORel X' (m + i) (ob.shift m) := by
  obtain ⟨e1, e2, e3, e4⟩ := hb i hi
  have hheap : X'.w.heap[X.b i]? = X.w.heap[X.b i]? := hheapB _ (.inl rfl)
  cases ob with
  | box cs =>
    obtain ⟨hz, arr, T, h1, h2, h3⟩ := h
    refine ⟨e3.trans hz, arr, T, by rw [e1, hheap]; exact h1, by simp [shiftL_eq, h2], fun j hj => ?_⟩
    simp only [shiftL_eq, List.length_map] at hj
    simp only [shiftL_eq, List.getElem_map]
    exact (h3 j hj).shift m hk hn hb
  | row sz es =>
    obtain ⟨p1, p2, ⟨hz, he⟩ | ⟨hz, arr, T, h1, hlen, h2, h3, h4, h5⟩⟩ := h
    · exact ⟨p1, p2, .inl ⟨e3.trans hz, he⟩⟩
    · exact ⟨p1, p2, .inr ⟨e3.trans hz, arr, T, by rw [e1, hheap]; exact h1, by rw [e2]; exact hlen, by rw [e2]; exact h2, by rw [e2]; exact h3, h4, fun k hk' j hj => (h5 k hk' j hj).mono hk⟩⟩
  | map kk ents =>
    obtain ⟨hz, hkk, me, clock, h1, h2, h3, h4, h5⟩ := h
    cases hsy : kk.isSy with
    | true =>
      rw [show (Ob.map kk ents).shift m = .map kk ents by simp [Ob.shift, hsy]]
      refine ⟨e3.trans hz, hkk, me, clock, by rw [e1, hheap]; exact h1, h2, h3, h4, fun j hj hj' => ?_⟩
      refine ⟨(h5 j hj hj').1, (h5 j hj hj').2.1, ?_⟩
      have := (h5 j hj hj').2.2.shift m hk hn hb
      rwa [shift_rigid ((hkk _ (List.getElem_mem hj)).2 hsy) m] at this
    | false =>
      rw [show (Ob.map kk ents).shift m = .map kk (ents.map fun e => (e.1, e.2.shift m)) by simp [Ob.shift, hsy]]
      refine ⟨e3.trans hz, ?_, me, clock, by rw [e1, hheap]; exact h1, by simpa using h2, h3, h4, fun j hj hj' => ?_⟩
      · intro e he
        obtain ⟨e0, he0, rfl⟩ := List.mem_map.1 he
        exact ⟨(hkk e0 he0).1, fun h => by rw [hsy] at h; cases h⟩
      · simp only [List.length_map] at hj
        simp only [List.getElem_map]
        exact ⟨(h5 j hj hj').1, shift_firm (h5 j hj hj').2.1 m, (h5 j hj hj').2.2.shift m hk hn hb⟩
  | gone => trivial
  | gh cs => trivial
  | pow es =>
    have one : ∀ x : AV, x.one = true → (x.shift m).one = true := fun x h => by cases x <;> simp [AV.one] at h <;> rfl
    obtain ⟨p0, p1, p2, hp⟩ := h
    refine ⟨e4.trans p0, by simpa [shiftL_eq] using p1, fun x hx => ?_, ?_⟩
    · rw [shiftL_eq] at hx
      obtain ⟨y, hy, rfl⟩ := List.mem_map.1 hx
      exact ⟨shift_firm (p2 y hy).1 m, one y (p2 y hy).2⟩
    · rcases hp with ⟨hz, he⟩ | ⟨hz, arr, T, h1, hlen, h2, h3, h4⟩
      · subst he; exact .inl ⟨e3.trans hz, rfl⟩
      · refine .inr ⟨e3.trans hz, arr, T, by rw [e1, hheap]; exact h1, by rw [e2]; simpa [shiftL_eq] using hlen, by rw [e2]; exact h2, by rw [e2]; simpa [shiftL_eq] using h3, fun j hj => ?_⟩
        simp only [shiftL_eq, List.length_map] at hj
        simp only [shiftL_eq, List.getElem_map]
        exact (h4 j hj).shift m hk hn hb
  | bun R =>
    obtain ⟨hz, hp⟩ := h
    refine ⟨e3.trans hz, ?_⟩
    rw [e1, e2]
    exact R.stab hp hk.size (fun c h1 h2 => hk.keep c h1 h2) fun c hc => hheapB c (hc.elim (fun e => .inl e.symm) .inr)
theorem gsound_full {P : Program} {f : FuncId} {E : Ent} {Γ : List (FuncId × En)} (h : ESound P f E) (hΓ : GSound P Γ) : GSound P ((f, .full E) :: Γ) := gsound_cons (e := .full E) h hΓ
end Go.AM
