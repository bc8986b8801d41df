import Derived.Test.YtchpfeblinnoiaaGreatDoorAmUpd
set_option linter.unusedSimpArgs false
set_option linter.unusedVariables false
set_option linter.unnecessarySimpa false
namespace Go.AM
open Go.RowKit
section
variable {P : Program} {X : Cx} {a : Act} {o : Oper} {K : TypeId → Option TK} {s : S} {q : Q1} {w0 : World} {own0 : O0} {next : Act → World → Prop} {Q : Exit → Act → World → Prop} {Γ : List (FuncId × En)}
theorem cell_cellV {x : AV} {v : Value} (h : x.cell = true) (hv : VRel X x v) : cellV v = true := by
  cases hv with
  | d h => cases h with
    | v hx => cases v <;> first | rfl | (simp [plainV] at hx)
    | _ => rfl
  | jk => simp [AV.cell] at h
  | opt => simp [AV.cell] at h
  | tp => simp [AV.cell] at h
  | ag => simp [AV.cell] at h
  | _ => rfl
theorem cells_cellV {x : AV} {v : Value} (hc : (cellsOfAV x).all AV.cell = true) (hv : VRel X x v) : ∀ u ∈ v.cells.toList, cellV u = true := by
  obtain ⟨h1, h2⟩ := cells_rel hc hv
  intro u hu
  obtain ⟨j, hj, rfl⟩ := List.getElem_of_mem hu
  have hj' : j < v.cells.size := by simpa using hj
  have hj2 : j < (cellsOfAV x).length := by omega
  have hcj : (cellsOfAV x)[j].cell = true := List.all_eq_true.1 hc _ (List.getElem_mem _)
  have := h2 j hj2
  have e : v.cells.getD j undef = v.cells.toList[j] := by simp [Array.getD_eq_getD_getElem?, hj']
  rw [e] at this
  exact cell_cellV hcj this
theorem splice_length {cs vs : List AV} {off : Nat} (h : off + vs.length ≤ cs.length) : (splice cs off vs).length = cs.length := by
  simp [splice]; omega
theorem splice_get {cs vs : List AV} {off : Nat} (h : off + vs.length ≤ cs.length) {j : Nat} (hj : j < (splice cs off vs).length) : (splice cs off vs)[j] = if h1 : off ≤ j ∧ j < off + vs.length then vs[j - off]'(by omega) else cs[j]'(by rw [splice_length h] at hj; exact hj) := by
  have hj' := hj
  rw [splice_length h] at hj'
  have hj0 : j < (cs.take off ++ vs ++ cs.drop (off + vs.length)).length := hj
  show (cs.take off ++ vs ++ cs.drop (off + vs.length))[j]'hj0 = _
  by_cases h1 : j < off
  · rw [dif_neg (by omega), List.getElem_append_left (by simp; omega), List.getElem_append_left (by simp; omega)]
    simp
  · by_cases h2 : j < off + vs.length
    · rw [dif_pos ⟨by omega, h2⟩, List.getElem_append_left (by simp; omega), List.getElem_append_right (by simp; omega)]
      simp only [List.length_take]
      congr 1
      omega
    · rw [dif_neg (by omega), List.getElem_append_right (by simp; omega)]
      simp only [List.length_append, List.length_take, List.getElem_drop]
      congr 1
      omega
theorem spl_rel {cs vs : List AV} {arr : Array Value} {ws : List Value} {off : Nat} (hl : arr.size = cs.length) (hr : ∀ (j : Nat) (h : j < cs.length), VRel X cs[j] (arr.getD j undef)) (hl2 : ws.length = vs.length)
    (hr2 : ∀ (j : Nat) (h : j < vs.length), VRel X vs[j] (ws.getD j undef)) (hoff : off + vs.length ≤ cs.length) :
    (spl arr off ws).size = (splice cs off vs).length ∧ ∀ (j : Nat) (h : j < (splice cs off vs).length), VRel X (splice cs off vs)[j] ((spl arr off ws).getD j undef) := by
  refine ⟨by rw [spl_size, splice_length hoff, hl], fun j hj => ?_⟩
  have hj' := hj
  rw [splice_length hoff] at hj'
  rw [splice_get hoff hj, spl_get _ _ _ _ (by omega)]
  by_cases h1 : off ≤ j ∧ j < off + vs.length
  · rw [dif_pos h1, if_pos (by omega)]
    exact hr2 _ _
  · rw [dif_neg h1, if_neg (by omega)]
    exact hr j hj'
theorem szIs_ok {t : TypeId} {n : Nat} (h : szIs K t n = true) : ∃ k, K t = some k ∧ k.sz = n := by
  unfold szIs at h
  split at h
  · rename_i i hi; exact ⟨i, hi, by simpa using h⟩
  · cases h
theorem szPos_ok {t : TypeId} (h : szPos K t = true) : ∃ k, K t = some k ∧ k.sz ≠ 0 := by
  unfold szPos at h
  split at h
  · rename_i i hi; exact ⟨i, hi, by simpa using h⟩
  · cases h
theorem store_ex {t : TypeId} {x y : Operand} {i off : Nat} (e : s.ev x = .rf i off) (hK : KOk P K) (hs : SRel w0 own0 X s a) (ho : o.op = .store t x y) (h : aOp K Γ s (.store t x y) q) :
    ∃ obj cs cs', s.o[i]? = some (.box cs) ∧ X.z i = false ∧ (execOp a.eval o).run P X.w = .ok .skip (X.upd i obj).w ∧ SRel w0 own0 (X.upd i obj) ⟨s.t, s.o.set i (.box cs')⟩ a ∧ q .jk (s.o.set i (.box cs')) none := by
  simp only [aOp, e] at h
  have hx := ev_sound hs x
  have hy := ev_sound hs y
  · rw [e] at hx
    obtain ⟨ea, hi⟩ := inv_rf hx
    split at h
    · rename_i cs ho'
      obtain ⟨h0, hq⟩ := chk_iff.1 h
      simp only [Bool.and_eq_true, decide_eq_true_eq] at h0
      obtain ⟨⟨⟨hc, hsi⟩, _⟩, hoff⟩ := h0
      obtain ⟨k, hk, hksz⟩ := szIs_ok hsi
      obtain ⟨hz, arr, T, h1, h2, h3⟩ := hs.g.rel i _ ho'
      obtain ⟨c1, c2⟩ := cells_rel hc hy
      obtain ⟨tinf, hti, hsz, _, _⟩ := (hK t k hk).info
      have hrun := run_storeCells (P := P) (b := X.b i) (off := off) (T := T) (a.eval y).cells.toList 0 arr h1 (by simp; omega) (cells_cellV hc hy)
      obtain ⟨d1, d2⟩ := spl_rel (X := X) (ws := (a.eval y).cells.toList) (vs := cellsOfAV (s.ev y)) (off := off) h2 h3 (by simpa using c1) (fun j hj => by
        have := c2 j hj
        have hj' : j < (a.eval y).cells.size := by omega
        simpa [List.getD_eq_getElem?_getD, Array.getD_eq_getD_getElem?, hj'] using this) hoff
      have hkp := upd_keeps hs.g ho' rfl hz (.cells (spl arr off (a.eval y).cells.toList) T (0, 0))
      have hnew : ORel (X.upd i (.cells (spl arr off (a.eval y).cells.toList) T (0, 0))) i (.box (splice cs off (cellsOfAV (s.ev y)))) := by
        refine ⟨hz, spl arr off (a.eval y).cells.toList, T, ?_, d1, fun j hj => (d2 j hj).step hkp (Nat.le_refl _) (fun _ _ => ⟨rfl, rfl, rfl, rfl⟩)⟩
        show (X.upd i _).w.heap[X.b i]? = _
        rw [heap_upd, if_pos ⟨rfl, size_of_heap h1⟩]
      refine ⟨_, cs, _, ho', hz, ?_, upd_srel hs false ho' rfl hz (ob' := .box (splice cs off (cellsOfAV (s.ev y)))) rfl (by simp) (by simp) hnew, hq⟩
      have hne : ¬ (a.eval y).cells.size ≠ tinf.size := by omega
      simp only [Nat.add_zero] at hrun
      simp [execOp, ho, Instr.storeAt, Instr.sureAddr, ea, storeVar, sizeOf, typeInfo, program, Sem.run, hti, hne, hrun]
      rw [if_pos (by omega)]
      rfl
    · exact h.elim
theorem o_storeB {t : TypeId} {x y : Operand} {i off : Nat} (e : s.ev x = .rf i off) (hK : KOk P K) (hs : SRel w0 own0 X s a) (hT : Then w0 own0 s a q fun v w => next (a.put o.dst v) w) (ho : o.op = .store t x y) (h : aOp K Γ s (.store t x y) q) : o.wp P a X.w next Q := by
  obtain ⟨obj, cs, cs', _, _, h1, h2, h3⟩ := store_ex e hK hs ho h
  exact then_skip' (kl := none) h2 hT h1 h3
theorem nbeq {i j : Nat} (h : i ≠ j) : Nat.beq i j = false := by
  cases hh : Nat.beq i j with
  | false => rfl
  | true => exact absurd (Nat.eq_of_beq_eq_true hh) h
theorem putM_keys (b : Nat) (r : Rec) : ∀ l, (putM b r l).map (fun e => (e.1, e.2.1)) = l.map fun e => (e.1, e.2.1)
  | [] => rfl
  | e :: l => by
    unfold putM
    split
    · rfl
    · simp [putM_keys b r l]
theorem putM_mem {b : Nat} {r : Rec} : ∀ {l : List (Key × Nat × Rec)}, (l.map (·.2.1)).Nodup → ∀ e ∈ putM b r l, (e.2.1 = b ∧ e.2.2 = r) ∨ (e ∈ l ∧ e.2.1 ≠ b)
  | [], _, e, h => absurd h (by simp [putM])
  | x :: l, hn, e, h => by
    rw [List.map_cons, List.nodup_cons] at hn
    unfold putM at h
    split at h
    · rename_i hx
      rcases List.mem_cons.1 h with rfl | h
      · exact .inl ⟨hx, rfl⟩
      · refine .inr ⟨List.mem_cons_of_mem _ h, fun e1 => hn.1 ?_⟩
        rw [hx, ← e1]
        exact List.mem_map_of_mem (f := fun x : Key × Nat × Rec => x.2.1) h
    · rename_i hx
      rcases List.mem_cons.1 h with rfl | h
      · exact .inr ⟨by simp, hx⟩
      · rcases putM_mem hn.2 e h with h | ⟨h1, h2⟩
        · exact .inl h
        · exact .inr ⟨List.mem_cons_of_mem _ h1, h2⟩
theorem same_keys {l l' : List (Key × Nat × Rec)} (h : l'.map (fun e => (e.1, e.2.1)) = l.map fun e => (e.1, e.2.1)) : l'.length = l.length ∧ (∀ (j : Nat) (h : j < l'.length) (h' : j < l.length), l'[j].1 = l[j].1 ∧ l'[j].2.1 = l[j].2.1) ∧ l'.map (·.2.1) = l.map (·.2.1) := by
  have hl : l'.length = l.length := by simpa using congrArg List.length h
  refine ⟨hl, fun j hj hj' => ?_, ?_⟩
  · have : (l'.map fun e => (e.1, e.2.1))[j]'(by simpa using hj) = (l.map fun e => (e.1, e.2.1))[j]'(by simpa using hj') := by simp only [h]
    simp only [List.getElem_map, Prod.mk.injEq] at this
    exact this
  · have := congrArg (List.map Prod.snd) h
    simpa [List.map_map, Function.comp_def] using this
theorem FamP.put {f : FamD} {own : Nat → Prop} {w w' : World} {b0 : Nat} {fp : Nat → Prop} (h : FamP f own w b0 fp) {b : Nat} {r : Rec} (hm : MemP f.sh r w' b) (hk : ∀ c, c ≠ b → w'.heap[c]? = w.heap[c]?) (hb : b ≠ b0) : FamP ⟨f.kk, f.sh, putM b r f.l⟩ own w' b0 fp := by
  obtain ⟨h1, h2, h3, h4⟩ := h
  obtain ⟨e1, e2, e3⟩ := same_keys (putM_keys b r f.l)
  refine ⟨fun e he => ?_, ?_, by rw [e3]; exact h3, fun e he => ?_⟩
  · rcases List.getElem_of_mem he with ⟨j, hj, rfl⟩
    have hj' : j < f.l.length := by rw [← e1]; exact hj
    show ((putM b r f.l)[j]'hj).1.kind = _
    rw [(e2 j hj hj').1]
    exact h1 _ (List.getElem_mem hj')
  · obtain ⟨me, clock, g1, g2, g3, g4, g5⟩ := h2
    refine ⟨me, clock, (hk _ (fun e => hb e.symm)).trans g1, by rw [g2]; exact e1.symm, g3, g4, fun j hj hj2 => ?_⟩
    have hj' : j < f.l.length := by rw [← e1]; exact hj2
    show KRel ((putM b r f.l)[j]'hj2).1 _ ∧ _ = f.sh.ref ((putM b r f.l)[j]'hj2).2.1
    rw [(e2 j hj2 hj').1, (e2 j hj2 hj').2]
    exact g5 j hj hj'
  · rcases putM_mem h3 e he with ⟨rfl, rfl⟩ | ⟨g1, g2⟩
    · have : e.2.1 ∈ f.l.map (·.2.1) := by rw [← e3]; exact List.mem_map_of_mem (f := fun x : Key × Nat × Rec => x.2.1) he
      obtain ⟨x, hx, ex⟩ := List.mem_map.1 this
      exact ⟨hb, by rw [← ex]; exact (h4 x hx).2.1, hm⟩
    · exact ⟨(h4 e g1).1, (h4 e g1).2.1, (h4 e g1).2.2.heap (hk _ g2)⟩
theorem o_storeF {t : TypeId} {x y : Operand} {ad : Addr} (e : s.ev x = .d (.v (.pointer (some ad)))) (hK : KOk P K) (hs : SRel w0 own0 X s a) (hT : Then w0 own0 s a q fun v w => next (a.put o.dst v) w) (ho : o.op = .store t x y) (h : aOp K Γ s (.store t x y) q) : o.wp P a X.w next Q := by
  obtain ⟨b, off, sp⟩ := ad
  cases sp with
  | some _ => simp only [aOp, e] at h
  | none =>
  simp only [aOp, e] at h
  have hx := ev_sound hs x
  have hy := ev_sound hs y
  rw [e] at hx
  have ea := (inv_v hx).1
  split at h
  · rename_i i f hff
    obtain ⟨R, hi, ht⟩ := findF_at hff
    obtain ⟨hz, hfam⟩ := fam_at hs.g hi ht
    split at h
    · rename_i ks hsh
      obtain ⟨h0, r, hr, hq⟩ := chk_iff.1 h
      simp only [Bool.and_eq_true] at h0
      obtain ⟨⟨hsi, _⟩, hfit⟩ := h0
      obtain ⟨k, hk, hksz⟩ := szIs_ok hsi
      obtain ⟨tinf, hti, hsz, _, _⟩ := (hK t k hk).info
      obtain ⟨m, hm, rfl, rfl⟩ := recF_mem hr
      obtain ⟨hne, hfp, hmem⟩ := hfam.2.2.2 m hm
      rw [hsh] at hmem
      obtain ⟨arr, T, h1, h2, h3⟩ := hmem
      -- the value, and its cell
      obtain ⟨fk, hfk⟩ : ∃ fk, ks[off]? = some fk := by
        cases hh : ks[off]? with
        | some fk => exact ⟨fk, rfl⟩
        | none => rw [hh] at hfit; simp [fitK] at hfit
      have hoff : off < ks.length := (List.getElem?_eq_some_iff.1 hfk).1
      have hfk' : ks[off] = fk := (List.getElem?_eq_some_iff.1 hfk).2
      rw [hfk] at hfit
      have hval : (a.eval y).cells = #[a.eval y] ∧ plainV (a.eval y) = true ∧ cellV (a.eval y) = true ∧ fk.val (m.2.2.put off (s.ev y)) off = a.eval y ∧ ∀ (j : Nat) (fj : FK), j ≠ off → fj.val (m.2.2.put off (s.ev y)) j = fj.val m.2.2 j := by
        unfold fitK at hfit
        split at hfit
        · rename_i k0 j0 n0 e1 e2
          cases e1
          rw [e2] at hy
          obtain ⟨ev, hp⟩ := inv_v hy
          have : j0 = k0 := by simpa using hfit
          subst this
          rw [ev, e2]
          refine ⟨rfl, hp, rfl, by simp [FK.val, Rec.put], fun j fj hj => ?_⟩
          cases fj
          · simp only [FK.val, Rec.put]
            rw [nbeq hj]
          · rfl
        · rename_i s0 e1 e2
          cases e1
          rw [e2] at hy
          obtain ⟨ev, hp⟩ := inv_v hy
          rw [ev, e2]
          refine ⟨rfl, hp, rfl, by simp [FK.val, Rec.put], fun j fj hj => ?_⟩
          cases fj
          · rfl
          · simp only [FK.val, Rec.put]
            rw [nbeq hj]
        · cases hfit
      obtain ⟨c1, c2, c3, c4, c5⟩ := hval
      have hrun := run_storeCells (P := P) (b := m.2.1) (off := off) (T := T) (a.eval y).cells.toList 0 arr h1 (by rw [c1]; simp; omega) (fun v hv => by rw [c1] at hv; simp at hv; rw [hv]; exact c3)
      have hX : (X.updC m.2.1 (.cells (spl arr off (a.eval y).cells.toList) T (0, 0))).w = World.setRow X.w m.2.1 (spl arr off (a.eval y).cells.toList) T := rfl
      have hmem' : MemP (.box ks) (m.2.2.put off (s.ev y)) (X.updC m.2.1 (.cells (spl arr off (a.eval y).cells.toList) T (0, 0))).w m.2.1 := by
        refine ⟨spl arr off (a.eval y).cells.toList, T, ?_, by rw [spl_size]; exact h2, fun j hj => ?_⟩
        · rw [heap_updC, if_pos ⟨rfl, size_of_heap h1⟩]
        · rw [spl_get _ _ _ _ (by rw [c1]; simp; omega), c1]
          by_cases hj' : j = off
          · subst hj'
            rw [if_pos (by simp)]
            simp only [Nat.sub_self, Array.toList, List.getD_cons_zero]
            rw [hfk', c4]
            exact ⟨c2, rfl⟩
          · rw [if_neg (by simp; omega), c5 j _ hj']
            exact h3 j hj
      have hnew : ORel (X.updC m.2.1 (.cells (spl arr off (a.eval y).cells.toList) T (0, 0))) i (.bun (famR ⟨f.kk, .box ks, putM m.2.1 (m.2.2.put off (s.ev y)) f.l⟩)) := by
        refine ⟨hz, ?_⟩
        have := FamP.put (w' := (X.updC m.2.1 (.cells (spl arr off (a.eval y).cells.toList) T (0, 0))).w) hfam (b := m.2.1) (r := m.2.2.put off (s.ev y)) (by rw [hsh]; exact hmem') (fun c hc => by rw [heap_updC, if_neg (fun e => hc e.1.symm)]) hne
        rw [hsh] at this
        exact this
      refine then_skip' (kl := none) (updC_srel hs hi rfl hz (.inr hfp) rfl (by simp) hnew) hT ?_ hq
      have hne : ¬ (a.eval y).cells.size ≠ tinf.size := by rw [c1]; simp; omega
      simp only [Nat.add_zero] at hrun
      simp [execOp, ho, Instr.storeAt, Instr.sureAddr, ea, storeVar, sizeOf, typeInfo, program, Sem.run, hti, hne, hrun]
      rw [if_pos (by rw [c1]; simp; omega)]
      rfl
    · exact h.elim
  · exact h.elim
theorem field_of {t : TypeId} {fs : List (Nat × TypeId)} (hu : UOk P t (.struct fs)) {f off : Nat} {ft : TypeId} (hf : fs[f]? = some (off, ft)) :
    ∃ fields fld, P.underlying t = some (.struct fields) ∧ fields[f]? = some fld ∧ fld.offset = off ∧ fld.type = ft := by
  obtain ⟨fields, h1, h2⟩ := hu
  rw [← h2] at hf
  simp only [List.getElem?_map, Option.map_eq_some_iff, Prod.mk.injEq] at hf
  obtain ⟨fld, h3, h4, h5⟩ := hf
  exact ⟨fields, fld, h1, by simpa using h3, h4, h5⟩
theorem y_fieldAddr {C : World → Prop} {k0 : AV → Prop} {t : TypeId} {x : Operand} {f : Nat} (hK : KOk P K) (hs : SRel w0 own0 X s a) (ho : o.op = .fieldAddr t x f) (h : aOp K Γ s (.fieldAddr t x f) fun v _ _ => k0 v) : Yields P C X a o k0 := by
  simp only [aOp] at h
  have hx := ev_sound hs x
  split at h
  · rename_i fs hkd
    split at h
    · rename_i off ft hf
      replace h := chk_iff.1 h
      obtain ⟨h0, h⟩ := h
      obtain ⟨i, hi, hsz⟩ := szPos_ok h0
      obtain ⟨fields, fld, hu, hfld, hoff, hty⟩ := field_of (kd_ok hK hkd) hf
      obtain ⟨tinf, hti, hsz', _, _⟩ := (hK ft i hi).info
      have hne : ¬ tinf.size = 0 := by omega
      have run : ∀ b p, a.eval x = .pointer (some ⟨b, p, none⟩) → ∀ w, (execOp a.eval o).run P w = .ok (.value (.pointer (some ⟨b, p + off, none⟩))) w := by
        intro b p e w
        simp [execOp, ho, Instr.fieldAt, run_under hu, hfld, Instr.sureAddr, e, fieldPlace, sizeOf, typeInfo, program, Sem.run, hty, hti, hne, addr_add, hoff]
      split at h
      · rename_i j p e
        rw [e] at hx
        cases hv : a.eval x <;> rw [hv] at hx <;> cases hx
        rename_i h1 h2
        exact ⟨_, _, fun w _ => run _ _ hv w, .rf h1 h2, h⟩
      · rename_i r sz j p e
        rw [e] at hx
        obtain ⟨hv, h1⟩ := inv_rp hx
        refine ⟨_, _, fun w _ => run _ _ hv w, ?_, h⟩
        have := VRel.rp (X := X) (r := r) (sz := sz) (i := j) (off := p + off) h1
        rwa [← Nat.add_assoc] at this
      · rename_i c e
        rw [e] at hx
        obtain ⟨b, p, hv, g, h1, h2, h3⟩ := inv_ep hx
        refine ⟨_, _, fun w _ => run _ _ hv w, .ep (fun j => g (off + j)) (fun hl => ?_) (fun j hj => ?_) (fun j hj => ?_), h⟩
        · simp only [List.length_drop] at hl
          exact h1 (by omega)
        · simp only [List.length_drop] at hj
          have := h2 (off + j) (by omega)
          rwa [← Nat.add_assoc] at this
        · simp only [List.length_drop] at hj
          simp only [List.getElem_drop]
          exact h3 (off + j) (by omega)
      · rename_i b p e
        rw [e] at hx
        exact ⟨_, _, fun w _ => run _ _ (inv_v hx).1 w, mkv rfl, h⟩
      · exact h.elim
    · exact h.elim
  · exact h.elim
theorem o_fieldAddr {t : TypeId} {x : Operand} {f : Nat} (hK : KOk P K) (hs : SRel w0 own0 X s a) (hT : Then w0 own0 s a q fun v w => next (a.put o.dst v) w) (ho : o.op = .fieldAddr t x f) (h : aOp K Γ s (.fieldAddr t x f) q) : o.wp P a X.w next Q := by
  obtain ⟨v, av, hr, hv, hk⟩ := y_fieldAddr (P := P) (C := Below X.w.heap.size X.w) (k0 := fun v => q v s.o none) (Γ := Γ) hK hs ho (by simp only [aOp] at h ⊢; exact h)
  exact then_value hs hT (hr _ (Below.refl _ _)) hv hk
theorem y_indexAddr {C : World → Prop} {k0 : AV → Prop} {t : TypeId} {x y : Operand} (hK : KOk P K) (hs : SRel w0 own0 X s a) (ho : o.op = .indexAddr t x y) (h : aOp K Γ s (.indexAddr t x y) fun v _ _ => k0 v) : Yields P C X a o k0 := by
  simp only [aOp] at h
  have hx := ev_sound hs x
  have hy := ev_sound hs y
  split at h
  · rename_i e hkd
    have hu := kd_ok hK hkd
    split at h
    · rename_i k hk
      obtain ⟨tinf, hti, hsz, _, _⟩ := (hK e k hk).info
      split at h
      · rename_i es ik n ex ey
        rw [ex] at hx
        rw [ey] at hy
        have e2 := inv_int hy
        obtain ⟨⟨h0, hn⟩, hc, hq⟩ := h
        have hlt : n.toNat < es.length := by omega
        have hce : es.getD n.toNat [] = es[n.toNat] := by rw [List.getD_eq_getElem?_getD, List.getElem?_eq_getElem hlt]; rfl
        rw [hce] at hc hq
        obtain ⟨_, ⟨rfl, _⟩ | ⟨b, off, cap, sz, gg, ev, hcap, hz, hb, hs', hcell, hr⟩⟩ := inv_sl hx
        · simp at hlt
        · have hszz : sz = k.sz := by rw [← hs' _ hlt]; exact hc
          subst hszz
          refine ⟨.pointer (some ⟨b, off + n.toNat * k.sz, none⟩), _, fun w _ => ?_, .ep (fun j => gg n.toNat j) (fun _ => hb (by omega)) (fun j hj => ?_) (fun j hj => ?_), hq⟩
          · have h00 : ¬ es.length = 0 := by omega
            simp [execOp, ho, Instr.indexAt, ev, e2, asIntOf, run_under hu, h0, hn, sizeOf, typeInfo, program, Sem.run, hti, hsz, addr_add]
          · have := hcell n.toNat j hlt (by omega)
            rwa [← Nat.add_assoc] at this
          · exact hr n.toNat hlt j hj
      · rename_i r m ik n ex ey
        rw [ex] at hx
        rw [ey] at hy
        have e2 := inv_int hy
        obtain ⟨⟨h0, h1⟩, hq⟩ := h
        obtain ⟨hr, ⟨_, hm, ev⟩ | ⟨_, rfl, _⟩⟩ := inv_vw hx
        · refine ⟨.pointer (some ⟨X.b r, n.toNat * k.sz + 0, none⟩), _, fun w _ => ?_, .rp hr, hq⟩
          simp [execOp, ho, Instr.indexAt, ev, e2, asIntOf, run_under hu, h0, h1, sizeOf, typeInfo, program, Sem.run, hti, hsz, addr_add]
        · omega
      · exact h.elim
    · exact h.elim
  · rename_i len e hkd
    have hu := kd_ok hK hkd
    split at h
    · rename_i k hk
      obtain ⟨tinf, hti, hsz, _, _⟩ := (hK e k hk).info
      split at h
      · rename_i j off ik n ex ey
        rw [ex] at hx
        rw [ey] at hy
        have e2 := inv_int hy
        obtain ⟨⟨h0, h1⟩, hq⟩ := h
        cases hv : a.eval x <;> rw [hv] at hx <;> cases hx
        rename_i g1 g2
        refine ⟨.pointer (some ⟨X.b j, off + n.toNat * k.sz, none⟩), _, fun w _ => ?_, .rf g1 g2, hq⟩
        simp [execOp, ho, Instr.indexAt, hv, e2, asIntOf, run_under hu, Instr.sureAddr, h0, h1, sizeOf, typeInfo, program, Sem.run, hti, hsz, addr_add]
      · exact h.elim
    · exact h.elim
  · exact h.elim
theorem o_indexAddr {t : TypeId} {x y : Operand} (hK : KOk P K) (hs : SRel w0 own0 X s a) (hT : Then w0 own0 s a q fun v w => next (a.put o.dst v) w) (ho : o.op = .indexAddr t x y) (h : aOp K Γ s (.indexAddr t x y) q) : o.wp P a X.w next Q := by
  obtain ⟨v, av, hr, hv, hk⟩ := y_indexAddr (P := P) (C := Below X.w.heap.size X.w) (k0 := fun v => q v s.o none) (Γ := Γ) hK hs ho (by simp only [aOp] at h ⊢; exact h)
  exact then_value hs hT (hr _ (Below.refl _ _)) hv hk
theorem o_makeMap {t : TypeId} {r : Option Operand} (hs : SRel w0 own0 X s a) (hT : Then w0 own0 s a q fun v w => next (a.put o.dst v) w) (ho : o.op = .makeMap t r) (h : aOp K Γ s (.makeMap t r) q) : o.wp P a X.w next Q := by
  simp only [aOp] at h
  split at h
  · split at h
    · rename_i kk hkk
      obtain ⟨hr, hq⟩ := chk_iff.1 h
      have hr : r = none := by simpa using hr
      have hq : ∃ kk', q (.mp s.o.length) (s.o ++ [.map kk' []]) none := by
        split at hq
        · exact ⟨_, hq⟩
        · exact ⟨_, hq⟩
      obtain ⟨kk', hq⟩ := hq
      have hnew : ORel (X.push (.map #[] 0) (cc 0 0) false) X.n (.map kk' []) :=
        ⟨by simp [Cx.push], by simp, #[], 0, by simp only [Cx.push, if_true]; exact heap_alloc_new _ _, rfl, fun j hj => absurd hj (by simp), fun j k hj => absurd hj (by simp), fun j hj => absurd hj (by simp)⟩
      refine then_value' (X' := X.push (.map #[] 0) (cc 0 0) false) (push_srel hs rfl (by simp) hnew) hT (v := .map (some X.w.heap.size)) ?_ ?_ hq
      · simp [execOp, ho, hr, Instr.makeMap, newObj, Sem.run, Cx.push]
      · have := VRel.mp (X := X.push (.map #[] 0) (cc 0 0) false) (i := X.n) (by simp [Cx.push]) (by simp [Cx.push])
        rw [← hs.g.n]
        simpa [Cx.push] using this
    · exact h.elim
  · exact h.elim
end
end Go.AM
