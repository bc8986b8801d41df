import Derived.Test.YtchpfeblinnoiaaGreatDoorAmSeal
set_option linter.unusedSimpArgs false
set_option linter.unusedVariables false
set_option linter.unnecessarySimpa false
namespace Go.AM
open Go.RowKit
mutual
theorem toD_own {X : Cx} {o : List Ob} : ∀ {x : AV} {d : D} {v : Value}, (x.views = false ∨ o = []) → VRel X x v → x.toD o = some d → DRel X.own X.w d v
  | .d x, d, v, _, hv, h => by
    simp only [AV.toD, Option.some.injEq] at h; subst h
    cases hv with | d hd => exact hd
  | .nl, d, v, _, hv, h => by
    simp only [AV.toD, Option.some.injEq] at h; subst h
    cases hv; exact .nil
  | .vw r n, d, v, hw, hv, h => by
    rcases hw with hw | rfl
    · simp [AV.views] at hw
    · simp [AV.toD] at h
  | .fn f fs cs, d, v, hw, hv, h => by
    have hw1 : viewsL fs = false ∨ o = [] := hw.imp (fun h => by simp only [AV.views, Bool.or_eq_false_iff] at h; exact h.1) id
    have hw2 : viewsL cs = false ∨ o = [] := hw.imp (fun h => by simp only [AV.views, Bool.or_eq_false_iff] at h; exact h.2) id
    simp only [AV.toD] at h
    split at h
    · rename_i p q h1 h2
      simp only [Option.some.injEq] at h; subst h
      cases hv with
      | fn l1 l2 r1 r2 =>
        obtain ⟨m1, m2⟩ := toDL_own hw1 h1
        obtain ⟨n1, n2⟩ := toDL_own hw2 h2
        exact .fn (by omega) (by omega) (fun i hi => m2 i (by omega) hi _ (r1 i (by omega))) (fun i hi => n2 i (by omega) hi _ (r2 i (by omega)))
    · cases h
  | .rf _ _, _, _, _, _, h => by simp [AV.toD] at h
  | .rp _ _ _ _, _, _, _, _, h => by simp [AV.toD] at h
  | .ep _, _, _, _, _, h => by simp [AV.toD] at h
  | .mp _, _, _, _, _, h => by simp [AV.toD] at h
  | .ag _, _, _, _, _, h => by simp [AV.toD] at h
  | .tp _, _, _, _, _, h => by simp [AV.toD] at h
  | .opt _ _, _, _, _, _, h => by simp [AV.toD] at h
  | .jk, _, _, _, _, h => by simp [AV.toD] at h
theorem toDL_own {X : Cx} {o : List Ob} : ∀ {l : List AV} {ds : List D}, (viewsL l = false ∨ o = []) → toDL o l = some ds → ds.length = l.length ∧ ∀ (i : Nat) (h : i < l.length) (h' : i < ds.length) (v : Value), VRel X l[i] v → DRel X.own X.w ds[i] v
  | [], ds, _, h => by
    simp only [toDL, Option.some.injEq] at h; subst h
    exact ⟨rfl, fun i h => absurd h (by simp)⟩
  | x :: l, ds, hw, h => by
    have hw1 : x.views = false ∨ o = [] := hw.imp (fun h => by simp only [viewsL, Bool.or_eq_false_iff] at h; exact h.1) id
    have hw2 : viewsL l = false ∨ o = [] := hw.imp (fun h => by simp only [viewsL, Bool.or_eq_false_iff] at h; exact h.2) id
    simp only [toDL] at h
    split at h
    · rename_i p q h1 h2
      simp only [Option.some.injEq] at h; subst h
      obtain ⟨m1, m2⟩ := toDL_own (X := X) hw2 h2
      refine ⟨by simp [m1], fun i hi hi' v hv => ?_⟩
      cases i with
      | zero => exact toD_own (x := x) hw1 hv h1
      | succ i => exact m2 i (by simpa using hi) (by simpa using hi') v (by simpa using hv)
    · cases h
end
theorem views_cells {x : AV} (h : x.views = false) : viewsL (cellsOfAV x) = false := by
  cases x <;> simp only [cellsOfAV, viewsL, Bool.or_false] <;> first | exact h | simpa [AV.views] using h
section
variable {P : Program} {X : Cx} {a : Act} {o : Oper} {K : TypeId → Option TK} {s : S} {q : Q1} {w0 : World} {own0 : O0} {next : Act → World → Prop} {Q : Exit → Act → World → Prop} {Γ : List (FuncId × En)}
theorem foldl_spl (ws : List Value) : ∀ (arr : Array Value) (off k : Nat), ((ws.zipIdx k).foldl (fun cs (p : Value × Nat) => cs.setIfInBounds (off + p.2) p.1) arr) = spl arr (off + k) ws := by
  induction ws with
  | nil => intro arr off k; rfl
  | cons w ws ih => intro arr off k; simp only [List.zipIdx_cons, List.foldl_cons, spl]; rw [ih]; rfl
theorem foldl_spl' (ws : Array Value) (arr : Array Value) (off : Nat) : (ws.zipIdx.foldl (fun cs (p : Value × Nat) => cs.setIfInBounds (off + p.2) p.1) arr) = spl arr off ws.toList := by
  rw [← Array.foldl_toList, Array.toList_zipIdx, foldl_spl]; rfl
theorem fill_sound {place : Nat → Option (Nat × Nat)} {off : Nat → Option Nat} : ∀ {parts : List (Nat × AV)} {vs : List (Nat × Value)} {cs : List AV} {arr : Array Value},
    vs.length = parts.length → (∀ (i : Nat) (h : i < parts.length) (h' : i < vs.length), vs[i].1 = parts[i].1 ∧ VRel X parts[i].2 vs[i].2) →
    (∀ p ∈ parts, (cellsOfAV p.2).all AV.cell = true ∧ ∃ k, place p.1 = some (k, (cellsOfAV p.2).length) ∧ off p.1 = some k ∧ k + (cellsOfAV p.2).length ≤ cs.length) →
    arr.size = cs.length → (∀ (j : Nat) (h : j < cs.length), VRel X cs[j] (arr.getD j undef)) →
    ∃ cs' arr', fillAV cs parts off = some cs' ∧ Instr.fill place arr vs = some arr' ∧ arr'.size = cs'.length ∧ cs'.length = cs.length ∧ ∀ (j : Nat) (h : j < cs'.length), VRel X cs'[j] (arr'.getD j undef)
  | [], [], cs, arr, _, _, _, h1, h2 => ⟨cs, arr, rfl, rfl, h1, rfl, h2⟩
  | [], _ :: _, _, _, hl, _, _, _, _ => by simp at hl
  | _ :: _, [], _, _, hl, _, _, _, _ => by simp at hl
  | (i, x) :: parts, (i', v) :: vs, cs, arr, hl, hv, hp, h1, h2 => by
    obtain ⟨hi0, hv0⟩ := hv 0 (by simp) (by simp)
    simp only [List.getElem_cons_zero] at hi0 hv0
    subst hi0
    obtain ⟨hc, k, hpl, hoff, hb⟩ := hp (i', x) (by simp)
    simp only at hpl hoff hb hc
    obtain ⟨c1, c2⟩ := cells_rel hc hv0
    obtain ⟨d1, d2⟩ := spl_rel (X := X) (ws := v.cells.toList) (vs := cellsOfAV x) (off := k) h1 h2 (by simpa using c1) (fun j hj => by
      have := c2 j hj
      have hj' : j < v.cells.size := by omega
      simpa [List.getD_eq_getElem?_getD, Array.getD_eq_getD_getElem?, hj'] using this) hb
    have hlen := splice_length (cs := cs) (vs := cellsOfAV x) (off := k) hb
    obtain ⟨cs', arr', e1, e2, e3, e4, e5⟩ := fill_sound (place := place) (off := off) (parts := parts) (vs := vs) (cs := splice cs k (cellsOfAV x)) (arr := spl arr k v.cells.toList) (by simpa using hl)
      (fun j hj hj' => by have := hv (j + 1) (by simp; omega) (by simp; omega); simpa using this) (fun p hp' => by rw [hlen]; exact hp p (by simp [hp'])) d1 d2
    refine ⟨cs', arr', ?_, ?_, e3, e4.trans hlen, e5⟩
    · simp only [fillAV, hoff]; exact e1
    · simp only [Instr.fill, hpl]
      rw [if_neg (by rw [c1]; simp; omega), foldl_spl']
      exact e2
def partsV (a : Act) (parts : Array (Nat × Operand)) : List (Nat × Value) := (parts.map fun (i, x) => (i, a.eval x)).toList
theorem parts_len (s : S) (a : Act) (parts : Array (Nat × Operand)) : (partsV a parts).length = (parts.toList.map fun p => (p.1, s.ev p.2)).length := by simp [partsV]
theorem parts_rel (hs : SRel w0 own0 X s a) (parts : Array (Nat × Operand)) (i : Nat) (h : i < (parts.toList.map fun p => (p.1, s.ev p.2)).length) (h' : i < (partsV a parts).length) :
    (partsV a parts)[i].1 = (parts.toList.map fun p => (p.1, s.ev p.2))[i].1 ∧ VRel X (parts.toList.map fun p => (p.1, s.ev p.2))[i].2 (partsV a parts)[i].2 := by
  simp only [partsV, Array.toList_map, List.getElem_map]
  exact ⟨trivial, ev_sound hs _⟩
theorem run_sizeOf {t : TypeId} {k : TK} (hK : KOk P K) (hk : K t = some k) (w : World) : (sizeOf t).run P w = .ok k.sz w := by
  obtain ⟨tinf, hti, hsz, _, _⟩ := (hK t k hk).info
  simp [sizeOf, typeInfo, program, Sem.run, hti, hsz]
theorem places_run (hK : KOk P K) : ∀ (fields : List Field), (∀ p ∈ fields.map (fun f => (f.offset, f.type)), ∃ k, K p.2 = some k) → ∀ w, (fields.mapM (fun f => do pure (f.offset, ← sizeOf f.type)) : Sem (List (Nat × Nat))).run P w = .ok (fields.map fun f => (f.offset, ((K f.type).map (·.sz)).getD 0)) w
  | [], _, w => by simp
  | f :: l, h, w => by
    obtain ⟨k, hk⟩ := h (f.offset, f.type) (by simp)
    have ih := places_run hK l (fun p hp => h p (by simp only [List.map_cons, List.mem_cons]; exact .inr hp)) w
    have hsz := run_sizeOf hK hk w
    simp only [List.mapM_cons, Sem.run_bind, hsz, Result.andThen_ok, Sem.run_pure] at ih ⊢
    rw [ih]
    simp [hk]
theorem partOk_ok {fs : List (Nat × TypeId)} {sz f n : Nat} (h : partOk K fs sz f n = true) : ∃ off ft k, fs[f]? = some (off, ft) ∧ K ft = some k ∧ k.sz = n ∧ off + k.sz ≤ sz := by
  unfold partOk at h
  split at h
  · rename_i off ft hf
    split at h
    · rename_i k hk
      simp only [Bool.and_eq_true, decide_eq_true_eq] at h
      exact ⟨off, ft, k, hf, hk, h.1, h.2⟩
    · cases h
  · cases h
theorem o_build {t : TypeId} {parts : Array (Nat × Operand)} (hK : KOk P K) (hs : SRel w0 own0 X s a) (hT : Then w0 own0 s a q fun v w => next (a.put o.dst v) w) (ho : o.op = .build t parts) (h : aOp K Γ s (.build t parts) q) : o.wp P a X.w next Q := by
  simp only [aOp] at h
  split at h
  · rename_i i hi
    have ti := hK t i hi
    split at h
    · rename_i fs hkd
      replace h := chk_iff.1 h
      obtain ⟨h0, h⟩ := h
      simp only [Bool.and_eq_true, decide_eq_true_eq] at h0
      obtain ⟨⟨hall0, hp0⟩, hz⟩ := h0
      have hall : ∀ p ∈ fs, ∃ k, K p.2 = some k := fun p hp => Option.isSome_iff_exists.1 (List.all_eq_true.1 hall0 p hp)
      have hp : ∀ p ∈ parts.toList, (cellsOfAV (s.ev p.2)).all AV.cell = true ∧ ∃ off ft k, fs[p.1]? = some (off, ft) ∧ K ft = some k ∧ k.sz = (cellsOfAV (s.ev p.2)).length ∧ off + k.sz ≤ i.sz := by
        intro p hp
        have h1 := List.all_eq_true.1 hp0 p hp
        obtain ⟨h1, h2⟩ := Bool.and_eq_true_iff.1 h1
        exact ⟨h1, partOk_ok h2⟩
      obtain ⟨z, hr, z1, z2, _, _⟩ := run_zero ti hz
      have hu : UOk P t (.struct fs) := by have := ti.kd; rwa [hkd] at this
      obtain ⟨fields, hu1, hu2⟩ := hu
      have hplaces := places_run hK fields.toList (by rw [hu2]; exact hall) X.w
      obtain ⟨cs', arr', e1, e2, e3, e4, e5⟩ := fill_sound (X := X) (place := fun i => ((fields.map fun f => (f.offset, ((K f.type).map (·.sz)).getD 0)))[i]?) (off := fun j => (fs[j]?).map (·.1)) (parts_len s a parts) (parts_rel hs parts) (cs := i.zero) (arr := z.cells) (fun p hp' => by
        simp only [List.mem_map] at hp'
        obtain ⟨p0, hp0, rfl⟩ := hp'
        obtain ⟨hc, off, ft, k, hf, hk, hksz, hb⟩ := hp p0 hp0
        refine ⟨hc, off, ?_, by simp [hf], by rw [hz, ← hksz]; exact hb⟩
        rw [← hu2] at hf
        simp only [List.getElem?_map, Option.map_eq_some_iff, Prod.mk.injEq] at hf
        obtain ⟨fld, h3, h4, h5⟩ := hf
        have h3' : fields[p0.1]? = some fld := by simpa using h3
        simp [h3', h4, h5, hk, hksz]) (by rw [z1, hz]) (fun j hj => z2 X j hj)
      rw [e1] at h
      refine then_value hs hT (v := .agg arr') ?_ (.ag e3 e5) h
      have hm : (fields.mapM fun f => do pure (f.offset, ← sizeOf f.type) : Sem (Array (Nat × Nat))).run P X.w = .ok (fields.map fun f => (f.offset, ((K f.type).map (·.sz)).getD 0)) X.w := by
        rw [Array.mapM_eq_mapM_toList]
        simp only [Sem.run_map]
        rw [hplaces]
        simp only [Result.andThen_ok]
        congr 1
        exact Array.toList_inj.1 (by simp)
      simp only [execOp, ho, Instr.build, Sem.run_bind, hr, Result.andThen_ok, run_under hu1, hm]
      have e2' : Instr.fill (fun x => (fields.map fun f => (f.offset, ((K f.type).map (·.sz)).getD 0))[x]?) z.cells (parts.map fun (i, x) => (i, a.eval x)).toList = some arr' := e2
      rw [e2']
      simp
    · rename_i n e hkd
      have hu : P.underlying t = some (.array n e) := by have := ti.kd; rwa [hkd] at this
      split at h
      · rename_i k hk
        replace h := chk_iff.1 h
        obtain ⟨h0, h⟩ := h
        simp only [Bool.and_eq_true, decide_eq_true_eq] at h0
        obtain ⟨hp0, hz⟩ := h0
        have hp : ∀ p ∈ parts.toList, (cellsOfAV (s.ev p.2)).all AV.cell = true ∧ k.sz = (cellsOfAV (s.ev p.2)).length ∧ p.1 * k.sz + k.sz ≤ i.sz := by
          intro p hp
          have h1 := List.all_eq_true.1 hp0 p hp
          simp only [Bool.and_eq_true, decide_eq_true_eq] at h1
          exact ⟨h1.1.1, h1.1.2, h1.2⟩
        obtain ⟨z, hr, z1, z2, _, _⟩ := run_zero ti hz
        obtain ⟨tinf, hti, hsz, _, _⟩ := (hK e k hk).info
        obtain ⟨cs', arr', e1, e2, e3, e4, e5⟩ := fill_sound (X := X) (place := fun i => some (i * k.sz, k.sz)) (off := fun j => some (j * k.sz)) (parts_len s a parts) (parts_rel hs parts) (cs := i.zero) (arr := z.cells) (fun p hp' => by
          simp only [List.mem_map] at hp'
          obtain ⟨p0, hp0, rfl⟩ := hp'
          obtain ⟨hc, hksz, hb⟩ := hp p0 hp0
          exact ⟨hc, _, by rw [hksz], rfl, by rw [hz, ← hksz]; exact hb⟩) (by rw [z1, hz]) (fun j hj => z2 X j hj)
        rw [e1] at h
        refine then_value hs hT (v := .agg arr') ?_ (.ag e3 e5) h
        simp only [execOp, ho, Instr.build, Sem.run_bind, hr, Result.andThen_ok, run_under hu, run_sizeOf hK hk]
        have e2' : Instr.fill (fun i => some (i * k.sz, k.sz)) z.cells (parts.map fun (i, x) => (i, a.eval x)).toList = some arr' := e2
        rw [e2']
        simp
      · exact h.elim
    · exact h.elim
  · exact h.elim
theorem y_build {C : World → Prop} {Γ : List (FuncId × En)} {k : AV → Prop} {t : TypeId} {parts : Array (Nat × Operand)} (hK : KOk P K) (hs : SRel w0 own0 X s a) (ho : o.op = .build t parts) (h : aOp K Γ s (.build t parts) fun v _ _ => k v) : Yields P C X a o k := by
  simp only [aOp] at h
  split at h
  · rename_i i hi
    have ti := hK t i hi
    split at h
    · rename_i fs hkd
      replace h := chk_iff.1 h
      obtain ⟨h0, h⟩ := h
      simp only [Bool.and_eq_true, decide_eq_true_eq] at h0
      obtain ⟨⟨hall0, hp0⟩, hz⟩ := h0
      have hall : ∀ p ∈ fs, ∃ k, K p.2 = some k := fun p hp => Option.isSome_iff_exists.1 (List.all_eq_true.1 hall0 p hp)
      have hp : ∀ p ∈ parts.toList, (cellsOfAV (s.ev p.2)).all AV.cell = true ∧ ∃ off ft k, fs[p.1]? = some (off, ft) ∧ K ft = some k ∧ k.sz = (cellsOfAV (s.ev p.2)).length ∧ off + k.sz ≤ i.sz := by
        intro p hp
        have h1 := List.all_eq_true.1 hp0 p hp
        obtain ⟨h1, h2⟩ := Bool.and_eq_true_iff.1 h1
        exact ⟨h1, partOk_ok h2⟩
      obtain ⟨z, hr, z1, z2, _, _⟩ := run_zero ti hz
      have hu : UOk P t (.struct fs) := by have := ti.kd; rwa [hkd] at this
      obtain ⟨fields, hu1, hu2⟩ := hu
      have hplaces := places_run hK fields.toList (by rw [hu2]; exact hall)
      obtain ⟨cs', arr', e1, e2, e3, e4, e5⟩ := fill_sound (X := X) (place := fun i => ((fields.map fun f => (f.offset, ((K f.type).map (·.sz)).getD 0)))[i]?) (off := fun j => (fs[j]?).map (·.1)) (parts_len s a parts) (parts_rel hs parts) (cs := i.zero) (arr := z.cells) (fun p hp' => by
        simp only [List.mem_map] at hp'
        obtain ⟨p0, hp0, rfl⟩ := hp'
        obtain ⟨hc, off, ft, k, hf, hk, hksz, hb⟩ := hp p0 hp0
        refine ⟨hc, off, ?_, by simp [hf], by rw [hz, ← hksz]; exact hb⟩
        rw [← hu2] at hf
        simp only [List.getElem?_map, Option.map_eq_some_iff, Prod.mk.injEq] at hf
        obtain ⟨fld, h3, h4, h5⟩ := hf
        have h3' : fields[p0.1]? = some fld := by simpa using h3
        simp [h3', h4, h5, hk, hksz]) (by rw [z1, hz]) (fun j hj => z2 X j hj)
      rw [e1] at h
      refine ⟨.agg arr', _, fun w' _ => ?_, .ag e3 e5, h⟩
      have hm : (fields.mapM fun f => do pure (f.offset, ← sizeOf f.type) : Sem (Array (Nat × Nat))).run P w' = .ok (fields.map fun f => (f.offset, ((K f.type).map (·.sz)).getD 0)) w' := by
        rw [Array.mapM_eq_mapM_toList]
        simp only [Sem.run_map]
        rw [hplaces]
        simp only [Result.andThen_ok]
        congr 1
        exact Array.toList_inj.1 (by simp)
      simp only [execOp, ho, Instr.build, Sem.run_bind, hr, Result.andThen_ok, run_under hu1, hm]
      have e2' : Instr.fill (fun x => (fields.map fun f => (f.offset, ((K f.type).map (·.sz)).getD 0))[x]?) z.cells (parts.map fun (i, x) => (i, a.eval x)).toList = some arr' := e2
      rw [e2']
      simp
    · rename_i n e hkd
      have hu : P.underlying t = some (.array n e) := by have := ti.kd; rwa [hkd] at this
      split at h
      · rename_i k hk
        replace h := chk_iff.1 h
        obtain ⟨h0, h⟩ := h
        simp only [Bool.and_eq_true, decide_eq_true_eq] at h0
        obtain ⟨hp0, hz⟩ := h0
        have hp : ∀ p ∈ parts.toList, (cellsOfAV (s.ev p.2)).all AV.cell = true ∧ k.sz = (cellsOfAV (s.ev p.2)).length ∧ p.1 * k.sz + k.sz ≤ i.sz := by
          intro p hp
          have h1 := List.all_eq_true.1 hp0 p hp
          simp only [Bool.and_eq_true, decide_eq_true_eq] at h1
          exact ⟨h1.1.1, h1.1.2, h1.2⟩
        obtain ⟨z, hr, z1, z2, _, _⟩ := run_zero ti hz
        obtain ⟨tinf, hti, hsz, _, _⟩ := (hK e k hk).info
        obtain ⟨cs', arr', e1, e2, e3, e4, e5⟩ := fill_sound (X := X) (place := fun i => some (i * k.sz, k.sz)) (off := fun j => some (j * k.sz)) (parts_len s a parts) (parts_rel hs parts) (cs := i.zero) (arr := z.cells) (fun p hp' => by
          simp only [List.mem_map] at hp'
          obtain ⟨p0, hp0, rfl⟩ := hp'
          obtain ⟨hc, hksz, hb⟩ := hp p0 hp0
          exact ⟨hc, _, by rw [hksz], rfl, by rw [hz, ← hksz]; exact hb⟩) (by rw [z1, hz]) (fun j hj => z2 X j hj)
        rw [e1] at h
        refine ⟨.agg arr', _, fun w' _ => ?_, .ag e3 e5, h⟩
        simp only [execOp, ho, Instr.build, Sem.run_bind, hr, Result.andThen_ok, run_under hu, run_sizeOf hK hk]
        have e2' : Instr.fill (fun i => some (i * k.sz, k.sz)) z.cells (parts.map fun (i, x) => (i, a.eval x)).toList = some arr' := e2
        rw [e2']
        simp
      · exact h.elim
    · exact h.elim
  · exact h.elim
def RowsRel (X : Cx) (own : Nat → Prop) (sz : Nat) (es : List (List D)) (arr : Array Value) : Prop :=
  (∀ (k : Nat) (h : k < es.length), es[k].length = sz) ∧ ∀ (k : Nat) (hk : k < es.length) (j : Nat) (hj : j < es[k].length), DRel own X.w es[k][j] (arr.getD (k * sz + j) undef)
theorem idx_lt {k n sz j : Nat} (hk : k < n) (hj : j < sz) : k * sz + j < n * sz := by
  have : (k + 1) * sz ≤ n * sz := Nat.mul_le_mul_right _ (by omega)
  rw [Nat.add_mul] at this; omega
theorem fillD_sound {sz n : Nat} {off : Nat → Option Nat} : ∀ {parts : List (Nat × AV)} {vs : List (Nat × Value)} {es : List (List D)} {arr : Array Value},
    vs.length = parts.length → (∀ (i : Nat) (h : i < parts.length) (h' : i < vs.length), vs[i].1 = parts[i].1 ∧ VRel X parts[i].2 vs[i].2) →
    (∀ p ∈ parts, p.1 < n ∧ (cellsOfAV p.2).all AV.cell = true ∧ p.2.views = false ∧ sz = (cellsOfAV p.2).length) →
    es.length = n → arr.size = n * sz → RowsRel X X.own sz es arr → ∀ {es' : List (List D)} {ob : List Ob}, fillD es parts ob = some es' →
    ∃ arr', Instr.fill (fun i => some (i * sz, sz)) arr vs = some arr' ∧ arr'.size = n * sz ∧ es'.length = n ∧ RowsRel X X.own sz es' arr'
  | [], [], es, arr, _, _, _, hn, ha, hr, es', ob, h => by
    simp only [fillD, Option.some.injEq] at h; subst h
    exact ⟨arr, rfl, ha, hn, hr⟩
  | [], _ :: _, _, _, hl, _, _, _, _, _, _, _, _ => by simp at hl
  | _ :: _, [], _, _, hl, _, _, _, _, _, _, _, _ => by simp at hl
  | (i, x) :: parts, (i', v) :: vs, es, arr, hl, hv, hp, hn, ha, hr, es', ob, h => by
    obtain ⟨hi0, hv0⟩ := hv 0 (by simp) (by simp)
    simp only [List.getElem_cons_zero] at hi0 hv0
    subst hi0
    obtain ⟨hlt, hc, hw, hsz⟩ := hp (i', x) (by simp)
    simp only at hlt hc hw hsz
    obtain ⟨c1, c2⟩ := cells_rel hc hv0
    simp only [fillD] at h
    split at h
    · rename_i c hcd
      obtain ⟨m1, m2⟩ := toDL_own (X := X) (.inl (views_cells hw)) hcd
      have hb : i' * sz + sz ≤ arr.size := by
        rw [ha]
        have : (i' + 1) * sz ≤ n * sz := Nat.mul_le_mul_right _ (by omega)
        rw [Nat.add_mul] at this; omega
      obtain ⟨arr', e1, e2, e3, e4⟩ := fillD_sound (sz := sz) (n := n) (off := off) (parts := parts) (vs := vs) (es := es.set i' c) (arr := spl arr (i' * sz) v.cells.toList) (by simpa using hl)
        (fun j hj hj' => by have := hv (j + 1) (by simp; omega) (by simp; omega); simpa using this) (fun p hp' => hp p (by simp [hp'])) (by simp [hn]) (by rw [spl_size, ha]) ⟨fun k hk => by
          simp only [List.length_set] at hk
          rw [List.getElem_set]
          split
          · omega
          · exact hr.1 k hk, fun k hk j hj => by
          simp only [List.length_set] at hk
          have hj' := hj
          rw [List.getElem_set] at hj'
          rw [spl_get _ _ _ _ (by simp; omega)]
          by_cases hki : i' = k
          · subst hki
            rw [if_pos rfl] at hj'
            have e : (es.set i' c)[i'][j] = c[j] := by simp
            rw [e, if_pos ⟨by omega, by simp; omega⟩]
            have hj2 : j < (cellsOfAV x).length := by omega
            have := m2 j hj2 hj' _ (c2 j hj2)
            have hjv : j < v.cells.size := by omega
            have e2 : i' * sz + j - i' * sz = j := by omega
            rw [e2]
            simpa [List.getD_eq_getElem?_getD, Array.getD_eq_getD_getElem?, hjv] using this
          · rw [if_neg hki] at hj'
            have e : (es.set i' c)[k][j] = es[k][j] := by simp [List.getElem_set, hki]
            have hks := hr.1 k hk
            rw [e, if_neg]
            · exact hr.2 k hk j hj'
            · rintro ⟨q1, q2⟩
              simp only [Array.length_toList] at q2
              rcases Nat.lt_trichotomy i' k with h1 | h1 | h1
              · have : (i' + 1) * sz ≤ k * sz := Nat.mul_le_mul_right _ (by omega)
                rw [Nat.add_mul] at this; omega
              · exact hki h1
              · have : (k + 1) * sz ≤ i' * sz := Nat.mul_le_mul_right _ (by omega)
                rw [Nat.add_mul] at this; omega⟩ h
      refine ⟨arr', ?_, e2, e3, e4⟩
      simp only [Instr.fill]
      rw [if_neg (by rw [c1]; simp; omega), foldl_spl']
      exact e1
    · cases h
theorem zeroRow_rel {z : List D} {zv : Array Value} {n sz : Nat} (hz : z.length = sz) (hzv : zv.size = sz) (hr : ∀ (j : Nat) (h : j < z.length), DRel X.own X.w z[j] (zv.getD j undef)) :
    RowsRel X X.own sz (List.replicate n z) ((Array.range (n * sz)).map fun i => zv[i % zv.size]!) := by
  refine ⟨fun k hk => by simp [hz], fun k hk j hj => ?_⟩
  simp only [List.length_replicate] at hk
  simp only [List.getElem_replicate] at hj ⊢
  have hj' : j < sz := by omega
  have hlt : k * sz + j < n * sz := idx_lt hk hj'
  have e : ((Array.range (n * sz)).map fun i => zv[i % zv.size]!).getD (k * sz + j) undef = zv.getD j undef := by
    have hm : (k * sz + j) % sz = j := by rw [Nat.mul_comm, Nat.mul_add_mod, Nat.mod_eq_of_lt hj']
    have hj2 : j < zv.size := by omega
    simp only [Array.getD_eq_getD_getElem?, Array.getElem?_map, Array.getElem?_range, hlt, if_true, Option.map_some, Option.getD_some, hzv, hm, hj2, getElem?_pos zv j hj2]
    rw [getElem!_pos zv j hj2]
  rw [e]; exact hr j hj
theorem spliceD_length {cs vs : List D} {off : Nat} (h : off + vs.length ≤ cs.length) : (spliceD cs off vs).length = cs.length := by
  simp [spliceD]; omega
theorem spliceD_get {cs vs : List D} {off : Nat} (h : off + vs.length ≤ cs.length) {j : Nat} (hj : j < (spliceD cs off vs).length) : (spliceD cs off vs)[j] = if h1 : off ≤ j ∧ j < off + vs.length then vs[j - off]'(by omega) else cs[j]'(by rw [spliceD_length h] at hj; exact hj) := by
  have hj' := hj
  rw [spliceD_length h] at hj'
  have hj0 : j < (cs.take off ++ vs ++ cs.drop (off + vs.length)).length := hj
  show (cs.take off ++ vs ++ cs.drop (off + vs.length))[j]'hj0 = _
  by_cases h1 : j < off
  · rw [dif_neg (by omega), List.getElem_append_left (by simp; omega), List.getElem_append_left (by simp; omega)]
    simp
  · by_cases h2 : j < off + vs.length
    · rw [dif_pos ⟨by omega, h2⟩, List.getElem_append_left (by simp; omega), List.getElem_append_right (by simp; omega)]
      simp only [List.length_take]
      congr 1
      omega
    · rw [dif_neg (by omega), List.getElem_append_right (by simp; omega)]
      simp only [List.length_append, List.length_take, List.getElem_drop]
      congr 1
      omega
theorem one_cells {x : AV} (h : x.one = true) : cellsOfAV x = [x] ∧ (cellsOfAV x).all AV.cell = true := by
  cases x <;> simp [AV.one] at h <;> simp [cellsOfAV, AV.cell]
theorem fillP_sound {n : Nat} : ∀ {parts : List (Nat × AV)} {vs : List (Nat × Value)} {es : List AV} {arr : Array Value},
    vs.length = parts.length → (∀ (i : Nat) (h : i < parts.length) (h' : i < vs.length), vs[i].1 = parts[i].1 ∧ VRel X parts[i].2 vs[i].2) →
    (∀ p ∈ parts, p.1 < n ∧ p.2.firm = true ∧ p.2.one = true) →
    es.length = n → arr.size = n → (∀ x ∈ es, x.firm = true ∧ x.one = true) → (∀ (j : Nat) (h : j < es.length), VRel X es[j] (arr.getD j undef)) →
    ∃ arr', Instr.fill (fun i => some (i * 1, 1)) arr vs = some arr' ∧ arr'.size = n ∧ (fillP es parts).length = n ∧ (∀ x ∈ fillP es parts, x.firm = true ∧ x.one = true) ∧ ∀ (j : Nat) (h : j < (fillP es parts).length), VRel X (fillP es parts)[j] (arr'.getD j undef)
  | [], [], es, arr, _, _, _, hn, ha, hf, hr => ⟨arr, rfl, ha, hn, hf, hr⟩
  | [], _ :: _, _, _, hl, _, _, _, _, _, _ => by simp at hl
  | _ :: _, [], _, _, hl, _, _, _, _, _, _ => by simp at hl
  | (i, x) :: parts, (i', v) :: vs, es, arr, hl, hv, hp, hn, ha, hf, hr => by
    obtain ⟨hi0, hv0⟩ := hv 0 (by simp) (by simp)
    simp only [List.getElem_cons_zero] at hi0 hv0
    subst hi0
    obtain ⟨hlt, hfi, hon⟩ := hp (i', x) (by simp)
    simp only at hlt hfi hon
    obtain ⟨ec, hc⟩ := one_cells hon
    obtain ⟨c1, c2⟩ := cells_rel hc hv0
    have c3 := c2 0 (by rw [ec]; simp)
    simp only [ec, List.getElem_cons_zero] at c3
    rw [ec] at c1
    simp only [List.length_cons, List.length_nil] at c1
    simp only [fillP]
    obtain ⟨arr', e1, e2, e3, e4, e5⟩ := fillP_sound (n := n) (parts := parts) (vs := vs) (es := es.set i' x) (arr := spl arr (i' * 1) v.cells.toList) (by simpa using hl)
      (fun j hj hj' => by have := hv (j + 1) (by simp; omega) (by simp; omega); simpa using this) (fun p hp' => hp p (by simp [hp'])) (by simp [hn]) (by rw [spl_size, ha]) (fun z hz => by
        rcases List.mem_or_eq_of_mem_set hz with hm | rfl
        · exact hf z hm
        · exact ⟨hfi, hon⟩) (fun k hk => by
        simp only [List.length_set] at hk
        rw [spl_get _ _ _ _ (by simp; omega)]
        rw [List.getElem_set]
        by_cases hki : i' = k
        · subst hki
          rw [if_pos rfl, if_pos ⟨by omega, by simp; omega⟩]
          have hjv : 0 < v.cells.size := by omega
          simpa [List.getD_eq_getElem?_getD, Array.getD_eq_getD_getElem?, hjv] using c3
        · rw [if_neg hki, if_neg (by simp; omega)]
          exact hr k hk)
    refine ⟨arr', ?_, e2, e3, e4, e5⟩
    simp only [Instr.fill]
    rw [if_neg (by rw [c1]; simp; omega), foldl_spl']
    exact e1
theorem o_storeR {t : TypeId} {x y : Operand} {r sz i off : Nat} (e : s.ev x = .rp r sz i off) (hK : KOk P K) (hs : SRel w0 own0 X s a) (hT : Then w0 own0 s a q fun v w => next (a.put o.dst v) w) (ho : o.op = .store t x y) (h : aOp K Γ s (.store t x y) q) : o.wp P a X.w next Q := by
  simp only [aOp, e] at h
  have hx := ev_sound hs x
  have hy := ev_sound hs y
  rw [e] at hx
  have ea : a.eval x = .pointer (some ⟨X.b r, i * sz + off, none⟩) := by
    generalize a.eval x = v at hx
    cases hx; rfl
  split at h
  · rename_i sz' es ho'
    replace h := chk_iff.1 h
    obtain ⟨h0, h⟩ := h
    simp only [Bool.and_eq_true, decide_eq_true_eq, Bool.not_eq_true'] at h0
    obtain ⟨⟨⟨⟨hszz, hc⟩, hw⟩, hsi⟩, _⟩ := h0
    subst sz'
    split at h
    · rename_i ds hds
      obtain ⟨⟨hi, hoff⟩, hq⟩ := h
      obtain ⟨k, hk, hksz⟩ := szIs_ok hsi
      have ege : es.getD i [] = es[i] := by simp [List.getD_eq_getElem?_getD, hi]
      rw [ege] at hoff hq
      obtain ⟨p1, p2, ⟨_, hnil⟩ | ⟨hz, arr, T, h1, h2, h3, h4, h5, h6⟩⟩ := hs.g.rel r _ ho'
      · subst hnil; exact absurd hi (by simp)
      have hsz := h5 i hi
      rw [wholeD_eq hsz] at hq
      obtain ⟨c1, c2⟩ := cells_rel hc hy
      obtain ⟨m1, m2⟩ := toDL_own (X := X) (.inl (views_cells hw)) hds
      obtain ⟨tinf, hti, hszt, _, _⟩ := (hK t k hk).info
      have hfit : (i + 1) * sz ≤ arr.size := by
        have : (i + 1) * sz ≤ es.length * sz := Nat.mul_le_mul_right _ (by omega)
        have : es.length * sz ≤ (X.c r).1 * sz := Nat.mul_le_mul_right _ h4
        omega
      rw [Nat.add_mul, Nat.one_mul] at hfit
      have hrun := run_storeCells (P := P) (b := X.b r) (off := i * sz + off) (T := T) (a.eval y).cells.toList 0 arr h1 (by simp; omega) (cells_cellV hc hy)
      have hkp := upd_keeps hs.g ho' rfl hz (.cells (spl arr (i * sz + off) (a.eval y).cells.toList) T (0, 0))
      have hnew : ORel (X.upd r (.cells (spl arr (i * sz + off) (a.eval y).cells.toList) T (0, 0))) r (.row sz (es.set i (spliceD es[i] off ds))) := by
        refine ⟨p1, by simpa using p2, .inr ⟨hz, spl arr (i * sz + off) (a.eval y).cells.toList, T, ?_, by rw [List.length_set]; exact h2, by rw [spl_size]; exact h3, by rw [List.length_set]; exact h4, fun m hm => ?_, fun m hm j hj => ?_⟩⟩
        · show (X.upd r _).w.heap[X.b r]? = _
          rw [heap_upd, if_pos ⟨rfl, size_of_heap h1⟩]
        · simp only [List.length_set] at hm
          rw [List.getElem_set]
          split
          · rw [spliceD_length hoff]; exact hsz
          · exact h5 m hm
        · simp only [List.length_set] at hm
          have hbnd : i * sz + off + (a.eval y).cells.toList.length ≤ arr.size := by simp; omega
          by_cases hmi : i = m
          · subst hmi
            have e1 : (es.set i (spliceD es[i] off ds))[i]'(by simpa using hm) = spliceD es[i] off ds := by simp
            have hj1 : j < (spliceD es[i] off ds).length := by rw [e1] at hj; exact hj
            have hj2 : j < sz := by rw [spliceD_length hoff, hsz] at hj1; exact hj1
            have e2 : (es.set i (spliceD es[i] off ds))[i][j] = (spliceD es[i] off ds)[j] := by simp
            rw [e2, spliceD_get hoff, spl_get _ _ _ _ (by omega)]
            by_cases hin : off ≤ j ∧ j < off + ds.length
            · rw [dif_pos hin, if_pos (by simp; omega)]
              have e3 : i * sz + j - (i * sz + off) = j - off := by omega
              rw [e3]
              have hj3 : j - off < (cellsOfAV (s.ev y)).length := by omega
              have := m2 (j - off) hj3 (by omega) _ (c2 (j - off) hj3)
              have hjv : j - off < (a.eval y).cells.size := by omega
              have := this.mono hkp
              simpa [List.getD_eq_getElem?_getD, Array.getD_eq_getD_getElem?, hjv] using this
            · rw [dif_neg hin, if_neg (by simp; omega)]
              exact (h6 i hi j (by omega)).mono hkp
          · have e1 : (es.set i (spliceD es[i] off ds))[m]'(by simpa using hm) = es[m] := by simp [List.getElem_set, hmi]
            have hj1 : j < es[m].length := by rw [e1] at hj; exact hj
            have hj2 : j < sz := by rw [h5 m hm] at hj1; exact hj1
            have e2 : (es.set i (spliceD es[i] off ds))[m][j] = es[m][j] := by simp [List.getElem_set, hmi]
            have hmb : m * sz + j < arr.size := by
              have : (m + 1) * sz ≤ es.length * sz := Nat.mul_le_mul_right _ (by omega)
              have h7 : es.length * sz ≤ (X.c r).1 * sz := Nat.mul_le_mul_right _ h4
              rw [Nat.add_mul] at this; omega
            rw [e2, spl_get _ _ _ _ hbnd, if_neg]
            · exact (h6 m hm j hj1).mono hkp
            · rintro ⟨q1, q2⟩
              simp only [Array.length_toList] at q2
              rcases Nat.lt_trichotomy i m with hlt | hlt | hlt
              · have : (i + 1) * sz ≤ m * sz := Nat.mul_le_mul_right _ (by omega)
                rw [Nat.add_mul] at this; omega
              · exact hmi hlt
              · have : (m + 1) * sz ≤ i * sz := Nat.mul_le_mul_right _ (by omega)
                rw [Nat.add_mul] at this; omega
      refine then_skip' (upd_srel hs false ho' rfl hz (ob' := .row sz (es.set i (spliceD es[i] off ds))) rfl (fun _ _ _ => hs.g.rws r sz es ho') (by simp) hnew) hT ?_ hq
      have hne : ¬ (a.eval y).cells.size ≠ tinf.size := by omega
      simp only [Nat.add_zero] at hrun
      simp [execOp, ho, Instr.storeAt, Instr.sureAddr, ea, storeVar, sizeOf, typeInfo, program, Sem.run, hti, hne, hrun]
      rw [if_pos (by omega)]
      rfl
    · exact h.elim
  · rename_i es ho'
    obtain ⟨h0, hie, hq⟩ := chk_iff.1 h
    simp only [Bool.and_eq_true, decide_eq_true_eq] at h0
    obtain ⟨⟨⟨⟨rfl, rfl⟩, hfirm⟩, hone⟩, hsi⟩ := h0
    obtain ⟨k, hk, hksz⟩ := szIs_ok hsi
    obtain ⟨ec, hc⟩ := one_cells hone
    obtain ⟨p0, p1, p2, ⟨_, hnil⟩ | ⟨hz, arr, T, h1, h2, h3, h4, h5⟩⟩ := hs.g.rel r _ ho'
    · subst hnil; exact absurd hie (by simp)
    obtain ⟨c1, c2⟩ := cells_rel hc hy
    have c3 := c2 0 (by rw [ec]; simp)
    simp only [ec, List.getElem_cons_zero] at c3
    rw [ec] at c1
    simp only [List.length_cons, List.length_nil] at c1
    obtain ⟨tinf, hti, hszt, _, _⟩ := (hK t k hk).info
    have ea : a.eval x = .pointer (some ⟨X.b r, i, none⟩) := by simpa using ea
    have hrun := run_storeCells (P := P) (b := X.b r) (off := i) (T := T) (a.eval y).cells.toList 0 arr h1 (by simp; omega) (cells_cellV hc hy)
    have hkp := upd_keeps hs.g ho' rfl hz (.cells (spl arr i (a.eval y).cells.toList) T (0, 0))
    have hst := fun {x : AV} {v : Value} (h : VRel X x v) => h.step (X' := X.upd r (.cells (spl arr i (a.eval y).cells.toList) T (0, 0))) hkp (Nat.le_refl _) (fun _ _ => ⟨rfl, rfl, rfl, rfl⟩)
    have hnew : ORel (X.upd r (.cells (spl arr i (a.eval y).cells.toList) T (0, 0))) r (.pow (es.set i (s.ev y))) := by
      refine ⟨p0, by simpa using p1, fun z hz' => ?_, .inr ⟨hz, spl arr i (a.eval y).cells.toList, T, ?_, by rw [List.length_set]; exact h2, by rw [spl_size]; exact h3, by rw [List.length_set]; exact h4, fun m hm => ?_⟩⟩
      · rcases List.mem_or_eq_of_mem_set hz' with hm | rfl
        · exact p2 z hm
        · exact ⟨hfirm, hone⟩
      · show (X.upd r _).w.heap[X.b r]? = _
        rw [heap_upd, if_pos ⟨rfl, size_of_heap h1⟩]
      · simp only [List.length_set] at hm
        rw [spl_get _ _ _ _ (by simp; omega)]
        rw [List.getElem_set]
        by_cases hmi : i = m
        · subst hmi
          rw [if_pos rfl, if_pos ⟨Nat.le_refl _, by simp; omega⟩]
          have := hst c3
          have hjv : 0 < (a.eval y).cells.size := by omega
          simpa [List.getD_eq_getElem?_getD, Array.getD_eq_getD_getElem?, hjv] using this
        · rw [if_neg hmi, if_neg (by simp; omega)]
          exact hst (h5 m hm)
    refine then_skip' (upd_srel hs false ho' rfl hz (ob' := .pow (es.set i (s.ev y))) rfl (by simp) (by simp) hnew) hT ?_ hq
    have hne : ¬ (a.eval y).cells.size ≠ tinf.size := by omega
    simp only [Nat.add_zero] at hrun
    simp [execOp, ho, Instr.storeAt, Instr.sureAddr, ea, storeVar, sizeOf, typeInfo, program, Sem.run, hti, hne, hrun]
    rw [if_pos (by omega)]
    rfl
  · exact h.elim
theorem o_store {t : TypeId} {x y : Operand} (hK : KOk P K) (hs : SRel w0 own0 X s a) (hT : Then w0 own0 s a q fun v w => next (a.put o.dst v) w) (ho : o.op = .store t x y) (h : aOp K Γ s (.store t x y) q) : o.wp P a X.w next Q := by
  cases e : s.ev x with
  | rf i off => exact o_storeB e hK hs hT ho h
  | rp r sz i off => exact o_storeR e hK hs hT ho h
  | d x0 =>
    by_cases hp : ∃ ad, x0 = .v (.pointer (some ad))
    · obtain ⟨ad, rfl⟩ := hp
      exact o_storeF e hK hs hT ho h
    · simp only [aOp, e] at h
      split at h
      · rename_i b off he
        exact absurd ⟨_, AV.d.inj he⟩ hp
      · rename_i he; cases he
      · rename_i he; cases he
      · exact h.elim
  | _ => simp only [aOp, e] at h
theorem o_buildSlice {t : TypeId} {n : Nat} {parts : Array (Nat × Operand)} (hK : KOk P K) (hs : SRel w0 own0 X s a) (hT : Then w0 own0 s a q fun v w => next (a.put o.dst v) w) (ho : o.op = .buildSlice t n parts) (h : aOp K Γ s (.buildSlice t n parts) q) : o.wp P a X.w next Q := by
  simp only [aOp] at h
  split at h
  · rename_i e hkd
    have hu := kd_ok hK hkd
    split at h
    · rename_i i hi
      have ti := hK e i hi
      split at h
      · replace h := chk_iff.1 h
        obtain ⟨h0, h⟩ := h
        simp only [Bool.and_eq_true, decide_eq_true_eq, Bool.not_eq_true'] at h0
        obtain ⟨⟨⟨⟨⟨hs1, hn⟩, hz⟩, hag⟩, hz1⟩, hp0⟩ := h0
        have hp : ∀ p ∈ parts.toList, p.1 < n ∧ (s.ev p.2).firm = true ∧ (s.ev p.2).one = true := by
          intro p hp
          have h1 := List.all_eq_true.1 hp0 p hp
          simp only [Bool.and_eq_true, decide_eq_true_eq] at h1
          exact ⟨h1.1.1, h1.1.2, h1.2⟩
        obtain ⟨zv, hr, z1, z2, _, _⟩ := run_zero ti (by omega)
        obtain ⟨zx, hzx⟩ : ∃ zx, i.zero = [zx] := by
          match i.zero, hz with
          | [z], _ => exact ⟨z, rfl⟩
        have hzx1 : zx.firm = true ∧ zx.one = true := by
          have := List.all_eq_true.1 hz1 zx (by rw [hzx]; simp)
          simpa using this
        have hz2 : VRel X zx (zv.cells.getD 0 undef) := by
          have := z2 X 0 (by rw [hzx]; simp)
          simpa [hzx] using this
        rw [hzx] at h
        simp only [List.getD_cons_zero] at h
        obtain ⟨arr', e1, e2, e3, e4, e5⟩ := fillP_sound (X := X) (n := n) (es := List.replicate n zx) (arr := (Array.range (n * 1)).map fun j => zv.cells[j % zv.cells.size]!) (parts_len s a parts) (parts_rel hs parts) (fun p hp' => by
          simp only [List.mem_map] at hp'
          obtain ⟨p0, hp0, rfl⟩ := hp'
          exact hp p0 hp0) (by simp) (by simp) (fun x hx => by rw [List.eq_of_mem_replicate hx]; exact hzx1) (fun j hj => by
          simp only [List.length_replicate] at hj
          have hm : j % zv.cells.size = 0 := by rw [z1, hs1]; omega
          have hj2 : 0 < zv.cells.size := by omega
          simp only [List.getElem_replicate, Array.getD_eq_getD_getElem?, Array.getElem?_map, Array.getElem?_range, Nat.mul_one, hj, if_true, Option.map_some, Option.getD_some, hm]
          rw [getElem!_pos zv.cells 0 hj2]
          simpa [Array.getD_eq_getD_getElem?, hj2] using hz2)
        have hkp := push_keeps hs.g (.cells arr' e) (cc n n) true
        have hnew : ORel (X.push (.cells arr' e) (cc n n) true) X.n (.pow (fillP (List.replicate n zx) (parts.toList.map fun p => (p.1, s.ev p.2)))) := by
          refine ⟨by simp [Cx.push], by unfold LIM; omega, e4, .inr ⟨by simp [Cx.push], arr', e, by simp only [Cx.push, if_true]; exact heap_alloc_new _ _, by simp [Cx.push, e3], by simp [Cx.push, e2], by simp [Cx.push, e3], fun j hj => (e5 j hj).step hkp (by simp [Cx.push]) (push_agree X _ (cc n n) true)⟩⟩
        refine then_value' (X' := X.push (.cells arr' e) (cc n n) true) (push_srel hs rfl (fun _ _ _ => rfl) hnew) hT (v := .slice (some ⟨X.w.heap.size, 0, none⟩) n n) ?_ ?_ h
        · have e1' : Instr.fill (fun j => some (j * i.sz, i.sz)) ((Array.range (n * i.sz)).map fun j => zv.cells[j % zv.cells.size]!) (parts.map fun (i, x) => (i, a.eval x)).toList = some arr' := by rw [hs1]; exact e1
          have hb : ¬ n * i.sz > 16777216 := by rw [hs1]; omega
          by_cases h0 : n * i.sz = 0
          · have hzz : ∀ f : Nat → Value, (Array.range 0).map f = #[] := by intro f; simp
            simp only [h0, hzz] at e1'
            simp only [execOp, ho, Instr.buildSlice, Sem.run_bind, run_under hu, Result.andThen_ok, run_sizeOf hK hi, h0, if_true, gt_iff_lt, Nat.not_lt_zero, if_false, Sem.run_pure, hzz, e1']
            simp [newRow, newObj, Sem.run, Cx.push]
          · simp only [execOp, ho, Instr.buildSlice, Sem.run_bind, run_under hu, Result.andThen_ok, run_sizeOf hK hi]
            rw [if_neg (show ¬ n * i.sz > 2 ^ 24 from hb), if_neg h0]
            simp only [Sem.run_bind, hr, Result.andThen_ok, Sem.run_pure, e1']
            simp [newRow, newObj, Sem.run, Cx.push]
        · have := VRel.vw (X := X.push (.cells arr' e) (cc n n) true) (r := X.n) (n := n) (by simp [Cx.push]) (by simp [Cx.push]) (by simp [Cx.push])
          rw [← hs.g.n]
          simpa [Cx.push] using this
      replace h := chk_iff.1 h
      obtain ⟨h0, h⟩ := h
      simp only [Bool.and_eq_true, decide_eq_true_eq] at h0
      obtain ⟨⟨⟨hpos, hbig⟩, hz⟩, hp0⟩ := h0
      have hp : ∀ p ∈ parts.toList, p.1 < n ∧ (cellsOfAV (s.ev p.2)).all AV.cell = true ∧ (s.ev p.2).views = false ∧ i.sz = (cellsOfAV (s.ev p.2)).length := by
        intro p hp
        have h1 := List.all_eq_true.1 hp0 p hp
        simp only [Bool.and_eq_true, decide_eq_true_eq, Bool.not_eq_true'] at h1
        exact ⟨h1.1.1.1, h1.1.1.2, h1.1.2, h1.2⟩
      obtain ⟨zv, hr, z1, z2, _, _⟩ := run_zero ti hz
      split at h
      case h_2 => exact h.elim
      rename_i z hzd
      split at h
      · rename_i es hfill
        obtain ⟨m1, m2⟩ := toDL_own (X := X) (o := []) (l := i.zero) (ds := z) (.inr rfl) hzd
        obtain ⟨arr', e1, e2, e3, e4⟩ := fillD_sound (X := X) (sz := i.sz) (n := n) (off := fun _ => none) (parts_len s a parts) (parts_rel hs parts) (fun p hp' => by
          simp only [List.mem_map] at hp'
          obtain ⟨p0, hp0, rfl⟩ := hp'
          exact hp p0 hp0) (by simp) (by simp) (zeroRow_rel (X := X) (n := n) (zv := zv.cells) (by rw [m1, hz]) z1 (fun j hj => m2 j (by omega) hj _ (z2 X j (by omega)))) hfill
        have hn : n ≤ 16777216 := by
          have : n * 1 ≤ n * i.sz := Nat.mul_le_mul_left _ hpos
          omega
        have hkp := push_keeps hs.g (.cells arr' e) (cc n n) true
        have hnew : ORel (X.push (.cells arr' e) (cc n n) true) X.n (.row i.sz es) := by
          refine ⟨hpos, by unfold LIM; omega, .inr ⟨by simp [Cx.push], arr', e, by simp only [Cx.push, if_true]; exact heap_alloc_new _ _, by simp [Cx.push, e3], by simp [Cx.push, e2], by simp [Cx.push, e3], e4.1, fun k hk j hj => (e4.2 k hk j hj).mono hkp⟩⟩
        refine then_value' (X' := X.push (.cells arr' e) (cc n n) true) (push_srel hs rfl (fun _ _ _ => rfl) hnew) hT (v := .slice (some ⟨X.w.heap.size, 0, none⟩) n n) ?_ ?_ h
        · have e1' : Instr.fill (fun j => some (j * i.sz, i.sz)) ((Array.range (n * i.sz)).map fun j => zv.cells[j % zv.cells.size]!) (parts.map fun (i, x) => (i, a.eval x)).toList = some arr' := e1
          have hb : ¬ n * i.sz > 16777216 := by omega
          by_cases h0 : n * i.sz = 0
          · have hzz : ∀ f : Nat → Value, (Array.range 0).map f = #[] := by intro f; simp
            simp only [h0, hzz] at e1'
            simp only [execOp, ho, Instr.buildSlice, Sem.run_bind, run_under hu, Result.andThen_ok, run_sizeOf hK hi, h0, if_true, gt_iff_lt, Nat.not_lt_zero, if_false, Sem.run_pure, hzz, e1']
            simp [newRow, newObj, Sem.run, Cx.push]
          · simp only [execOp, ho, Instr.buildSlice, Sem.run_bind, run_under hu, Result.andThen_ok, run_sizeOf hK hi]
            rw [if_neg (show ¬ n * i.sz > 2 ^ 24 from hb), if_neg h0]
            simp only [Sem.run_bind, hr, Result.andThen_ok, Sem.run_pure, e1']
            simp [newRow, newObj, Sem.run, Cx.push]
        · have := VRel.vw (X := X.push (.cells arr' e) (cc n n) true) (r := X.n) (n := n) (by simp [Cx.push]) (by simp [Cx.push]) (by simp [Cx.push])
          rw [← hs.g.n]
          simpa [Cx.push] using this
      · exact h.elim
    · exact h.elim
  · exact h.elim
end
end Go.AM
