import Derived.Test.YtchpfeblinnoiaaGreatDoorAmFn
set_option linter.unusedSimpArgs false
set_option linter.unusedVariables false
set_option linter.unnecessarySimpa false
namespace Go.AM
open Go.RowKit
theorem shiftL_eq (n : Nat) : ∀ l, shiftL n l = l.map (AV.shift n)
  | [] => by simp [shiftL]
  | x :: l => by simp [shiftL, shiftL_eq n l]
theorem VRel.shift {X X' : Cx} (m : Nat) (hk : Keeps X.own X.w X'.own X'.w) (hn : m + X.n ≤ X'.n) (hb : ∀ i, i < X.n → X'.b (m + i) = X.b i ∧ X'.c (m + i) = X.c i ∧ X'.z (m + i) = X.z i ∧ X'.rw (m + i) = X.rw i) {av : AV} {v : Value} (h : VRel X av v) : VRel X' (av.shift m) v := by
  induction h with
  | d h => simp only [AV.shift]; exact .d (h.mono hk)
  | nl => exact .nl
  | @vw r n h hz hc =>
    obtain ⟨e1, e2, e3, _⟩ := hb r h
    simp only [AV.shift]
    rw [← e1, ← e2]; exact .vw (by omega) (e3.trans hz) (by rw [e2]; exact hc)
  | @vz r h hz => simp only [AV.shift]; exact .vz (by omega) ((hb r h).2.2.1.trans hz)
  | @rf i off h hr => simp only [AV.shift]; rw [← (hb i h).1]; exact .rf (by omega) ((hb i h).2.2.2.trans hr)
  | @rp r sz i off h => simp only [AV.shift]; rw [← (hb r h).1]; exact .rp (by omega)
  | @ep c b off g h1 h2 h3 => simp only [AV.shift]; exact .ep g (fun h0 => (hk.keep b (cell_lt (h2 0 h0)) (h1 h0)).2) (fun j hj => (hk.cell (a := ⟨b, off + j, none⟩) (h1 (Nat.lt_of_le_of_lt (Nat.zero_le _) hj)) (h2 j hj)).1) (fun j hj => (h3 j hj).mono hk)
  | @mp i h hr => simp only [AV.shift]; rw [← (hb i h).1]; exact .mp (by omega) ((hb i h).2.2.2.trans hr)
  | ag hl _ ih => simp only [AV.shift]; exact .ag (by simp [shiftL_eq, hl]) (fun j hj => by simp only [shiftL_eq, List.length_map] at hj; simp only [shiftL_eq, List.getElem_map]; exact ih j hj)
  | tp hl _ ih => simp only [AV.shift]; exact .tp (by simp [shiftL_eq, hl]) (fun j hj => by simp only [shiftL_eq, List.length_map] at hj; simp only [shiftL_eq, List.getElem_map]; exact ih j hj)
  | fn h1 h2 _ _ ih1 ih2 =>
    simp only [AV.shift]
    exact .fn (by simp [shiftL_eq, h1]) (by simp [shiftL_eq, h2]) (fun j hj => by simp only [shiftL_eq, List.length_map] at hj; simp only [shiftL_eq, List.getElem_map]; exact ih1 j hj)
      (fun j hj => by simp only [shiftL_eq, List.length_map] at hj; simp only [shiftL_eq, List.getElem_map]; exact ih2 j hj)
  | opt _ ih => simp only [AV.shift]; exact .opt ih
  | jk => simp only [AV.shift]; exact .jk
mutual
theorem shift_firm : ∀ {x : AV} (h : x.firm = true) (n : Nat), (x.shift n).firm = true
  | .d _, h, n => rfl
  | .rf _ _, h, n => rfl
  | .mp _, h, n => rfl
  | .nl, h, n => rfl
  | .fn f fs cs, h, n => by
    simp only [AV.firm, Bool.and_eq_true] at h
    simp only [AV.shift, AV.firm, Bool.and_eq_true]
    exact ⟨shift_firmL h.1 n, shift_firmL h.2 n⟩
  | .ag cs, h, n => by
    simp only [AV.firm] at h
    simp only [AV.shift, AV.firm]
    exact shift_firmL h n
  | .vw _ _, h, n => by cases h
  | .rp _ _ _ _, h, n => by cases h
  | .ep _, h, n => by cases h
  | .tp _, h, n => by cases h
  | .opt _ _, h, n => by cases h
  | .jk, h, n => by cases h
theorem shift_firmL : ∀ {l : List AV} (h : firmL l = true) (n : Nat), firmL (shiftL n l) = true
  | [], h, n => rfl
  | x :: l, h, n => by
    simp only [firmL, Bool.and_eq_true] at h
    simp only [shiftL, firmL, Bool.and_eq_true]
    exact ⟨shift_firm h.1 n, shift_firmL h.2 n⟩
end
mutual
theorem shift_rigid : ∀ {x : AV} (h : x.rigid = true) (n : Nat), x.shift n = x
  | .d _, h, n => rfl
  | .nl, h, n => rfl
  | .ag cs, h, n => by
    simp only [AV.rigid] at h
    simp only [AV.shift]
    rw [shift_rigidL h n]
  | .rf _ _, h, n => by cases h
  | .mp _, h, n => by cases h
  | .fn _ _ _, h, n => by cases h
  | .vw _ _, h, n => by cases h
  | .rp _ _ _ _, h, n => by cases h
  | .ep _, h, n => by cases h
  | .tp _, h, n => by cases h
  | .opt _ _, h, n => by cases h
  | .jk, h, n => by cases h
theorem shift_rigidL : ∀ {l : List AV} (h : rigidL l = true) (n : Nat), shiftL n l = l
  | [], h, n => rfl
  | x :: l, h, n => by
    simp only [rigidL, Bool.and_eq_true] at h
    simp only [shiftL]
    rw [shift_rigid h.1 n, shift_rigidL h.2 n]
end
theorem ORel.shift {X X' : Cx} (m : Nat) (hk : Keeps X.own X.w X'.own X'.w) (hn : m + X.n ≤ X'.n) (hb : ∀ i, i < X.n → X'.b (m + i) = X.b i ∧ X'.c (m + i) = X.c i ∧ X'.z (m + i) = X.z i ∧ X'.rw (m + i) = X.rw i) {i : Nat} (hi : i < X.n) {ob : Ob}
    (hheapB : ∀ c, X.blk i c → X'.w.heap[c]? = X.w.heap[c]?) (h : ORel X i ob) : ORel X' (m + i) (ob.shift m) := by
  obtain ⟨e1, e2, e3, e4⟩ := hb i hi
  have hheap : X'.w.heap[X.b i]? = X.w.heap[X.b i]? := hheapB _ (.inl rfl)
  cases ob with
  | box cs =>
    obtain ⟨hz, arr, T, h1, h2, h3⟩ := h
    refine ⟨e3.trans hz, arr, T, by rw [e1, hheap]; exact h1, by simp [shiftL_eq, h2], fun j hj => ?_⟩
    simp only [shiftL_eq, List.length_map] at hj
    simp only [shiftL_eq, List.getElem_map]
    exact (h3 j hj).shift m hk hn hb
  | row sz es =>
    obtain ⟨p1, p2, ⟨hz, he⟩ | ⟨hz, arr, T, h1, hlen, h2, h3, h4, h5⟩⟩ := h
    · exact ⟨p1, p2, .inl ⟨e3.trans hz, he⟩⟩
    · exact ⟨p1, p2, .inr ⟨e3.trans hz, arr, T, by rw [e1, hheap]; exact h1, by rw [e2]; exact hlen, by rw [e2]; exact h2, by rw [e2]; exact h3, h4, fun k hk' j hj => (h5 k hk' j hj).mono hk⟩⟩
  | map kk ents =>
    obtain ⟨hz, hkk, me, clock, h1, h2, h3, h4, h5⟩ := h
    cases hsy : kk.isSy with
    | true =>
      rw [show (Ob.map kk ents).shift m = .map kk ents by simp [Ob.shift, hsy]]
      refine ⟨e3.trans hz, hkk, me, clock, by rw [e1, hheap]; exact h1, h2, h3, h4, fun j hj hj' => ?_⟩
      refine ⟨(h5 j hj hj').1, (h5 j hj hj').2.1, ?_⟩
      have := (h5 j hj hj').2.2.shift m hk hn hb
      rwa [shift_rigid ((hkk _ (List.getElem_mem hj)).2 hsy) m] at this
    | false =>
      rw [show (Ob.map kk ents).shift m = .map kk (ents.map fun e => (e.1, e.2.shift m)) by simp [Ob.shift, hsy]]
      refine ⟨e3.trans hz, ?_, me, clock, by rw [e1, hheap]; exact h1, by simpa using h2, h3, h4, fun j hj hj' => ?_⟩
      · intro e he
        obtain ⟨e0, he0, rfl⟩ := List.mem_map.1 he
        exact ⟨(hkk e0 he0).1, fun h => by rw [hsy] at h; cases h⟩
      · simp only [List.length_map] at hj
        simp only [List.getElem_map]
        exact ⟨(h5 j hj hj').1, shift_firm (h5 j hj hj').2.1 m, (h5 j hj hj').2.2.shift m hk hn hb⟩
  | gone => trivial
  | gh cs => trivial
  | pow es =>
    have one : ∀ x : AV, x.one = true → (x.shift m).one = true := fun x h => by cases x <;> simp [AV.one] at h <;> rfl
    obtain ⟨p0, p1, p2, hp⟩ := h
    refine ⟨e4.trans p0, by simpa [shiftL_eq] using p1, fun x hx => ?_, ?_⟩
    · rw [shiftL_eq] at hx
      obtain ⟨y, hy, rfl⟩ := List.mem_map.1 hx
      exact ⟨shift_firm (p2 y hy).1 m, one y (p2 y hy).2⟩
    · rcases hp with ⟨hz, he⟩ | ⟨hz, arr, T, h1, hlen, h2, h3, h4⟩
      · subst he; exact .inl ⟨e3.trans hz, rfl⟩
      · refine .inr ⟨e3.trans hz, arr, T, by rw [e1, hheap]; exact h1, by rw [e2]; simpa [shiftL_eq] using hlen, by rw [e2]; exact h2, by rw [e2]; simpa [shiftL_eq] using h3, fun j hj => ?_⟩
        simp only [shiftL_eq, List.length_map] at hj
        simp only [shiftL_eq, List.getElem_map]
        exact (h4 j hj).shift m hk hn hb
  | bun R =>
    obtain ⟨hz, hp⟩ := h
    refine ⟨e3.trans hz, ?_⟩
    rw [e1, e2]
    exact R.stab hp hk.size (fun c h1 h2 => hk.keep c h1 h2) fun c hc => hheapB c (hc.elim (fun e => .inl e.symm) .inr)
theorem shift_live (n : Nat) (ob : Ob) : (ob.shift n).live = ob.live := by
  cases ob with
  | map kk ents => cases hsy : kk.isSy <;> simp [Ob.shift, hsy, Ob.live]
  | _ => rfl
def Cx.join (X Y : Cx) : Cx where
  b := fun i => if i < X.n then X.b i else Y.b (i - X.n)
  c := fun i => if i < X.n then X.c i else Y.c (i - X.n)
  z := fun i => if i < X.n then X.z i else Y.z (i - X.n)
  rw := fun i => if i < X.n then X.rw i else Y.rw (i - X.n)
  n := X.n + Y.n
  obj := fun b => X.obj b ∨ Y.obj b
  ext := X.ext
  w := Y.w
theorem new_fnN (g0 : List Ob → List Ob) (hg0 : Ghost g0) {P : Program} {K : TypeId → Option TK} {Γ : List (FuncId × En)} {f : FuncId} {fn : Func} {c : Code} {rs : List ResultVar} {E : List AV → (AV → List Ob → Prop) → Prop} (hm : P.follows .mixedOrders = true) (hK : KOk P K) (hΓ : GSound P Γ) (hf : P.funcs[f]? = some fn) (hb : fn.body = some c) (hrs : fn.results.toList = rs)
    (hcall : ∀ args w, (callFunc f args).run P w = .ok (.enter f args) w) (h : ∀ as q, E as q → aCode K Γ c (kRetF K rs fun av o => q av (g0 o)) ⟨as ++ List.replicate (fn.ntmps - as.length) .jk, []⟩) : NSound P f E := by
  refine ⟨hcall, fun X o as vs q g hT hlen hrel hE => ?_⟩
  unfold newE at hE
  split at hE
  · rename_i l hl
    obtain ⟨hw, hE⟩ := chk_iff.1 hE
    have hw : viewsL as = false := by simpa using hw
    obtain ⟨m1, m2⟩ := pureL_rel g X.own (fun _ h => h) (.inl hw) hl
    have hst := start_rel (ext := X.own) (w := X.w) (as := l) (vs := vs) (fun b hb => hb.elim g.lt' (g.ext1 b)) hT (by omega) (fun i hi => m2 i (by omega) hi _ (hrel i (by omega))) fn.ntmps
    refine calls_of_wp hf hb (wp_mono (code_sound (w0 := X.w) (own0 := ⟨fun _ => False, X.own, fun _ => []⟩) (X := Cx.bare X.own X.w) hm hK hΓ c hst (h l _ hE)) fun e a' w' hq => ?_)
    have key : ∀ (Y : Cx) (s : S), Y.w = w' → SRel X.w ⟨fun _ => False, X.own, fun _ => []⟩ Y s a' → (match resL K s rs with | some l => q ((resAV l).shift o.length) (o ++ (g0 s.o).map (Ob.shift o.length)) none | none => False) →
        a'.defers = [] ∧ ∃ v, (results fn a'.tmps).run P w' = .ok v w' ∧ ∃ v_1 av o' kl X', Ending.returned v = .returned v_1 ∧ q av o' kl ∧ X'.w = w' ∧ GRel X' o' ∧ VRel X' av v_1 ∧ StepTo X X' kl ∧ GhOk o o' kl ∧ Below X.w.heap.size X.w w' := by
      rintro Y1 s1 rfl hs1 hk
      split at hk
      · rename_i rl hrl
        obtain ⟨v, h1, h2⟩ := results_sound (P := P) hrs hK hs1 hrl
        obtain ⟨Y, eY, hs, hmono⟩ := hg0 _ _ _ _ _ hs1
        replace h2 := hmono _ _ h2
        rw [← eY] at h1 ⊢
        generalize hso : (⟨s1.t, g0 s1.o⟩ : S) = s at hs
        have hso2 : g0 s1.o = s.o := by rw [← hso]
        rw [hso2] at hk
        have hall : ∀ b, b < X.w.heap.size → Y.w.heap[b]? = X.w.heap[b]? := fun b hb => hs.fr.keep b hb fun h => h
        have hYobj : ∀ b, Y.obj b → X.w.heap.size ≤ b := fun b hb => (hs.new b hb).resolve_left id
        have hYext : Y.ext = X.own := hs.ext
        have hkX : Keeps X.obj X.w (X.join Y).obj (X.join Y).w := ⟨hs.fr.size, fun b hb ho => ⟨hall b hb, fun hh => hh.elim ho fun hy => by have := hYobj b hy; omega⟩⟩
        have hagX : ∀ i, i < X.n → (X.join Y).b i = X.b i ∧ (X.join Y).c i = X.c i ∧ (X.join Y).z i = X.z i ∧ (X.join Y).rw i = X.rw i := fun i hi => by simp [Cx.join, hi]
        have hagY : ∀ i, i < Y.n → (X.join Y).b (X.n + i) = Y.b i ∧ (X.join Y).c (X.n + i) = Y.c i ∧ (X.join Y).z (X.n + i) = Y.z i ∧ (X.join Y).rw (X.n + i) = Y.rw i := fun i _ => by
          have : ¬ X.n + i < X.n := by omega
          simp [Cx.join, this]
        have hkY : Keeps Y.own Y.w (X.join Y).own (X.join Y).w := ⟨Nat.le_refl _, fun b _ ho => ⟨rfl, fun hh => ho (by
          rcases hh with (h | h) | h
          · exact .inr (hYext ▸ .inl h)
          · exact .inl h
          · exact .inr (hYext ▸ .inr h))⟩⟩
        have hnX := g.n
        have hnY := hs.g.n
        have get : ∀ i x, (o ++ s.o.map (Ob.shift o.length))[i]? = some x → (i < X.n ∧ o[i]? = some x) ∨ (∃ j y, i = X.n + j ∧ j < Y.n ∧ s.o[j]? = some y ∧ x = y.shift o.length) := by
          intro i x hx
          by_cases hi : i < o.length
          · rw [List.getElem?_append_left hi] at hx; exact .inl ⟨by omega, hx⟩
          · rw [List.getElem?_append_right (by omega), List.getElem?_map] at hx
            obtain ⟨y, hy, e⟩ := Option.map_eq_some_iff.1 hx
            exact .inr ⟨i - o.length, y, by omega, by rw [hnY]; exact lt_of_get hy, hy, e.symm⟩
        refine ⟨hs1.defers, v, h1, v, _, _, none, X.join Y, rfl, hk, rfl, ?_, ?_, ⟨hkX, rfl, ⟨hs.fr.os, hs.fr.tape, hs.fr.output⟩, by simp [Cx.join], fun i hi _ => hagX i hi, fun _ h => by simp at h, fun b hb => hb.imp id (hYobj b)⟩, fun k cs' hk' => (get k _ hk').elim (fun h => ⟨cs', h.2, rfl⟩) (fun ⟨j, y, _, _, _, e⟩ => by cases y <;> simp [Ob.shift] at e <;> try (split at e <;> cases e)), ⟨hs.fr.os, hs.fr.tape, hs.fr.output, hs.fr.size, hall⟩⟩
        · constructor
          · simp [Cx.join, hnX, hnY]
          · intro b
            constructor
            · rintro (hb | hb)
              · obtain ⟨i, x, e1, e2, e3, e4⟩ := (g.obj b).1 hb
                have hi : i < X.n := by rw [hnX]; exact lt_of_get e1
                obtain ⟨f1, f2, f3, _⟩ := hagX i hi
                exact ⟨i, x, by rw [List.getElem?_append_left (lt_of_get e1)]; exact e1, e2, f3.trans e3, (Cx.blk_eq f1 f2).2 e4⟩
              · obtain ⟨i, x, e1, e2, e3, e4⟩ := (hs.g.obj b).1 hb
                have hi : i < Y.n := by rw [hnY]; exact lt_of_get e1
                obtain ⟨f1, f2, f3, _⟩ := hagY i hi
                refine ⟨X.n + i, x.shift o.length, ?_, by rw [shift_live]; exact e2, f3.trans e3, (Cx.blk_eq f1 f2).2 e4⟩
                rw [List.getElem?_append_right (by omega), List.getElem?_map]
                have : X.n + i - o.length = i := by omega
                rw [this, e1]; rfl
            · rintro ⟨i, x, c1, e2, e3, e4⟩
              rcases get i x c1 with ⟨hi, e1⟩ | ⟨j, y, rfl, hj, e1, rfl⟩
              · obtain ⟨f1, f2, f3, _⟩ := hagX i hi
                exact .inl ((g.obj b).2 ⟨i, x, e1, e2, f3.symm.trans e3, (Cx.blk_eq f1 f2).1 e4⟩)
              · obtain ⟨f1, f2, f3, _⟩ := hagY j hj
                rw [shift_live] at e2
                exact .inr ((hs.g.obj b).2 ⟨j, y, e1, e2, f3.symm.trans e3, (Cx.blk_eq f1 f2).1 e4⟩)
          · intro i j x y c1 c2 l1 l2 z1 z2 b b1 b2
            rcases get i x c1 with ⟨hi, e1⟩ | ⟨i', x', rfl, hi, e1, rfl⟩ <;> rcases get j y c2 with ⟨hj, e2⟩ | ⟨j', y', rfl, hj, e2, rfl⟩
            · obtain ⟨f1, f2, f3, _⟩ := hagX i hi
              obtain ⟨g1, g2, g3, _⟩ := hagX j hj
              exact g.injB i j x y e1 e2 l1 l2 (f3.symm.trans z1) (g3.symm.trans z2) b ((Cx.blk_eq f1 f2).1 b1) ((Cx.blk_eq g1 g2).1 b2)
            · exfalso
              obtain ⟨f1, f2, f3, _⟩ := hagX i hi
              obtain ⟨g1, g2, g3, _⟩ := hagY j' hj
              rw [shift_live] at l2
              have h3 := g.ltB i x e1 l1 (f3.symm.trans z1) b ((Cx.blk_eq f1 f2).1 b1)
              have h4 := hYobj _ ((hs.g.obj b).2 ⟨j', y', e2, l2, g3.symm.trans z2, (Cx.blk_eq g1 g2).1 b2⟩)
              omega
            · exfalso
              obtain ⟨f1, f2, f3, _⟩ := hagX j hj
              obtain ⟨g1, g2, g3, _⟩ := hagY i' hi
              rw [shift_live] at l1
              have h3 := g.ltB j y e2 l2 (f3.symm.trans z2) b ((Cx.blk_eq f1 f2).1 b2)
              have h4 := hYobj _ ((hs.g.obj b).2 ⟨i', x', e1, l1, g3.symm.trans z1, (Cx.blk_eq g1 g2).1 b1⟩)
              omega
            · obtain ⟨f1, f2, f3, _⟩ := hagY i' hi
              obtain ⟨g1, g2, g3, _⟩ := hagY j' hj
              rw [shift_live] at l1 l2
              have := hs.g.injB i' j' x' y' e1 e2 l1 l2 (f3.symm.trans z1) (g3.symm.trans z2) b ((Cx.blk_eq f1 f2).1 b1) ((Cx.blk_eq g1 g2).1 b2)
              omega
          · intro i x c1 l1 z1 b b1
            rcases get i x c1 with ⟨hi, e1⟩ | ⟨i', x', rfl, hi, e1, rfl⟩
            · obtain ⟨f1, f2, f3, _⟩ := hagX i hi
              exact Nat.lt_of_lt_of_le (g.ltB i x e1 l1 (f3.symm.trans z1) b ((Cx.blk_eq f1 f2).1 b1)) hs.fr.size
            · obtain ⟨f1, f2, f3, _⟩ := hagY i' hi
              rw [shift_live] at l1
              exact hs.g.ltB i' x' e1 l1 (f3.symm.trans z1) b ((Cx.blk_eq f1 f2).1 b1)
          · exact fun b hb => Nat.lt_of_lt_of_le (g.ext1 b hb) hs.fr.size
          · intro i x c1 l1 z1 b b1
            rcases get i x c1 with ⟨hi, e1⟩ | ⟨i', x', rfl, hi, e1, rfl⟩
            · obtain ⟨f1, f2, f3, _⟩ := hagX i hi
              exact g.ext2B i x e1 l1 (f3.symm.trans z1) b ((Cx.blk_eq f1 f2).1 b1)
            · obtain ⟨f1, f2, f3, _⟩ := hagY i' hi
              rw [shift_live] at l1
              intro hh
              have h4 := hYobj _ ((hs.g.obj b).2 ⟨i', x', e1, l1, f3.symm.trans z1, (Cx.blk_eq f1 f2).1 b1⟩)
              have := g.ext1 _ hh
              omega
          · intro i sz es c1
            rcases get i _ c1 with ⟨hi, e1⟩ | ⟨i', x', rfl, hi, e1, e⟩
            · obtain ⟨_, _, _, f4⟩ := hagX i hi
              rw [f4]; exact g.rws i sz es e1
            · obtain ⟨_, _, _, f4⟩ := hagY i' hi
              rw [f4]
              cases x' <;> simp [Ob.shift] at e <;> try (split at e <;> cases e)
              exact hs.g.rws i' _ _ e1
          · intro i x c1
            rcases get i x c1 with ⟨hi, e1⟩ | ⟨i', x', rfl, hi, e1, rfl⟩
            · exact ORel.step (Cx.keeps hkX rfl) (by simp [Cx.join]) hagX hi (fun hl hz c hc => hall _ (g.ltB i x e1 hl hz c hc)) (g.rel i x e1)
            · rw [← hnX]
              exact ORel.shift X.n hkY (by simp [Cx.join]) hagY hi (fun _ _ => rfl) (hs.g.rel i' x' e1)
        · rw [← hnX]
          exact h2.shift X.n hkY (by simp [Cx.join]) hagY
      · exact hk.elim
    cases e with
    | normal => obtain ⟨Y, s, e1, e2, e3⟩ := hq; exact key Y s e1 e2 e3
    | ret => obtain ⟨Y, s, e1, e2, e3⟩ := hq; exact key Y s e1 e2 e3
    | exit i => obtain ⟨Y, s, _, _, hk⟩ := hq; exact hk.elim
    | goto l => exact hq.elim
    | panic ch => exact hq.elim
    | outgrown => exact hq.elim
  · exact hE.elim
theorem new_fnG (g0 : List Ob → List Ob) (hg0 : Ghost g0) {P : Program} {K : TypeId → Option TK} {Γ : List (FuncId × En)} {f : FuncId} {fn : Func} {c : Code} {rs : List ResultVar} {E : List AV → (AV → List Ob → Prop) → Prop} (hm : P.follows .mixedOrders = true) (hK : KOk P K) (hΓ : GSound P Γ) (hf : P.funcs[f]? = some fn) (hb : fn.body = some c) (hrs : fn.results.toList = rs)
    (hcall : ∀ args w, (callFunc f args).run P w = .ok (.enter f args) w) (h : ∀ as q, E as q → aCode K Γ c (kRetF K rs fun av o => q av (g0 o)) ⟨as ++ List.replicate (fn.ntmps - as.length) .jk, []⟩) : ESound P f (newE E) := (new_fnN g0 hg0 hm hK hΓ hf hb hrs hcall h).full
theorem new_fn {P : Program} {K : TypeId → Option TK} {Γ : List (FuncId × En)} {f : FuncId} {fn : Func} {c : Code} {rs : List ResultVar} {E : List AV → (AV → List Ob → Prop) → Prop} (hm : P.follows .mixedOrders = true) (hK : KOk P K) (hΓ : GSound P Γ) (hf : P.funcs[f]? = some fn) (hb : fn.body = some c) (hrs : fn.results.toList = rs)
    (hcall : ∀ args w, (callFunc f args).run P w = .ok (.enter f args) w) (h : ∀ as q, E as q → aCode K Γ c (kRetF K rs q) ⟨as ++ List.replicate (fn.ntmps - as.length) .jk, []⟩) : ESound P f (newE E) :=
  new_fnG id ghost_id hm hK hΓ hf hb hrs hcall h
theorem ref_fn {P : Program} {K : TypeId → Option TK} {Γ : List (FuncId × En)} {f : FuncId} {fn : Func} {c : Code} {rs : List ResultVar} {E : List AV → List Ob → (AV → List Ob → Prop) → Prop} (hm : P.follows .mixedOrders = true) (hK : KOk P K) (hΓ : GSound P Γ) (hf : P.funcs[f]? = some fn) (hb : fn.body = some c) (hrs : fn.results.toList = rs)
    (hcall : ∀ args w, (callFunc f args).run P w = .ok (.enter f args) w) (h : ∀ as o q, E as o q → aCode K Γ c (kRetF K rs q) ⟨as ++ List.replicate (fn.ntmps - as.length) .jk, o⟩) : RSound P f E := by
  refine ⟨hcall, fun X o gv as vs q g hgh hT hlen hrel hE => ?_⟩
  have hst : SRel X.w ⟨X.obj, X.ext, gv⟩ X ⟨as ++ List.replicate (fn.ntmps - as.length) .jk, o⟩ { tmps := vs ++ Array.replicate (fn.ntmps - vs.size) undef, defers := [] } :=
    ⟨by simp [hlen], fun i hi => by
      rw [List.getElem_append]
      split
      · rename_i hlt
        rw [getD_append_left (by omega)]
        exact hrel i hlt
      · simp only [List.getElem_replicate]; exact .jk, rfl, g, rfl, ⟨rfl, rfl, rfl, Nat.le_refl _, fun _ _ _ => rfl⟩, fun b hb => .inl hb, hgh, hT⟩
  refine calls_of_wp hf hb (wp_mono (code_sound (w0 := X.w) (own0 := ⟨X.obj, X.ext, gv⟩) hm hK hΓ c hst (h as o q hE)) fun e a' w' hq => ?_)
  have key : ∀ (Y : Cx) (s : S), Y.w = w' → SRel X.w ⟨X.obj, X.ext, gv⟩ Y s a' → (match resL K s rs with | some l => q (resAV l) s.o | none => False) →
      a'.defers = [] ∧ ∃ v, (results fn a'.tmps).run P w' = .ok v w' ∧ ∃ v_1 av o' X', Ending.returned v = .returned v_1 ∧ q av o' ∧ X'.w = w' ∧ GRel X' o' ∧ GhRel X' o' gv ∧ VRel X' av v_1 ∧ X'.ext = X.ext ∧ Fr X.w X.obj w' ∧ ∀ b, X'.obj b → X.obj b ∨ X.w.heap.size ≤ b := by
    rintro Y s rfl hs hk
    split at hk
    · rename_i rl hrl
      obtain ⟨v, h1, h2⟩ := results_sound (P := P) hrs hK hs hrl
      exact ⟨hs.defers, v, h1, v, _, _, Y, rfl, hk, rfl, hs.g, hs.gh, h2, hs.ext, hs.fr, hs.new⟩
    · exact hk.elim
  cases e with
  | normal => obtain ⟨Y, s, e1, e2, e3⟩ := hq; exact key Y s e1 e2 e3
  | ret => obtain ⟨Y, s, e1, e2, e3⟩ := hq; exact key Y s e1 e2 e3
  | exit i => obtain ⟨Y, s, _, _, hk⟩ := hq; exact hk.elim
  | goto l => exact hq.elim
  | panic ch => exact hq.elim
  | outgrown => exact hq.elim
theorem gsound_ref {P : Program} {f : FuncId} {E : List AV → List Ob → (AV → List Ob → Prop) → Prop} {Γ : List (FuncId × En)} (h : RSound P f E) (hΓ : GSound P Γ) : GSound P ((f, .ref E) :: Γ) := gsound_cons (e := .ref E) h hΓ
theorem gsound_full {P : Program} {f : FuncId} {E : Ent} {Γ : List (FuncId × En)} (h : ESound P f E) (hΓ : GSound P Γ) : GSound P ((f, .full E) :: Γ) := gsound_cons (e := .full E) h hΓ
end Go.AM
