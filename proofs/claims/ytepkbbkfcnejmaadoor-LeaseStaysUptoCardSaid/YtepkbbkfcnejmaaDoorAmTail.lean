import Derived.Test.YtepkbbkfcnejmaaDoorAmBun
set_option linter.unusedSimpArgs false
set_option linter.unusedVariables false
namespace Go.AM
open Go.RowKit
section
variable {P : Program} {X : Cx} {a : Act} {K : TypeId → Option TK} {s : S} {w0 : World} {own0 : O0} {Q : Exit → Act → World → Prop} {Γ : List (FuncId × En)}
theorem ops_sound2 {ops : Array Oper} (hK : KOk P K) (hΓ : GSound P Γ) (l2 : List Oper) : ∀ (l : List Oper) {X : Cx} {s : S} {a : Act} {k : S → Prop}, SRel w0 own0 X s a → aOps K Γ ops l k s →
    (∀ X' s' a', SRel w0 own0 X' s' a' → k s' → wpList P ops Q l2 a' X'.w) → wpList P ops Q (l ++ l2) a X.w
  | [], X, s, a, k, hs, h, hk => hk X s a hs h
  | o :: rest, X, s, a, k, hs, h, hk => by
    unfold aOps at h
    rw [List.cons_append]
    unfold wpList
    have go : aStep K Γ s o.op (fun av s' => aOps K Γ ops rest k (s'.put o.dst av)) → o.wp P a X.w (wpList P ops Q (rest ++ l2)) Q := fun h =>
      step_sound hK hΓ hs (fun X' v av s' hq hs' hv => ops_sound2 hK hΓ l2 rest (put_srel hs' hv o.dst) hq hk) h
    have no : aOps K Γ ops rest k (s.put o.dst (.tp [])) → wpList P ops Q (rest ++ l2) (a.put o.dst undef) X.w := fun h =>
      ops_sound2 hK hΓ l2 rest (put_srel hs nothing_rel o.dst) h hk
    split at h
    · rename_i hg
      rw [if_pos (by simp [Region.wanted, hg])]
      exact .inl (go h)
    · rename_i j want hg
      split at h
      · rename_i d hd
        split at h
        · rename_i b hb
          have hw := wanted_of hs hg hd hb
          rw [hw]
          cases b <;> rw [lit_self hb] at h <;> cases want <;> simp only [bcase] at h
          · exact .inl (go h)
          · exact no h
          · exact no h
          · exact .inl (go h)
        · rename_i hb
          rw [if_neg (by rw [wanted_none hs hg hd hb]; simp)]
          exact no h
        · exact h.elim
      · exact h.elim
def tailD (z : List D) (l : Nat) (es : List (List D)) : List (List D) := es.take l ++ List.replicate (es.length - l) z
def tail2 (K : TypeId → Option TK) (o2 o3 : Oper) (k : S → Prop) (s : S) : Prop :=
  match o2.guard, o2.op, o2.dst, o3.guard, o3.op with
  | none, .slice t x (some lo) none none, some d, none, .call c => match c.callee, c.args.toList, c.argTypes.toList with
    | .builtin .clear, [.tmp d'], [t'] => chk (Nat.beq d d' && decide (d < s.t.length)) <| match s.ev x, s.ev lo, kdOf K t, kdOf K t' with
      | .vw r n, .d (.v (.int _ l)), some (.slice e), some (.slice e') => match s.o[r]?, K e, K e' with
        | some (.row sz es), some ke, some i => match toDL [] i.zero with
          | some z => chk (decide (sz = 1) && decide (ke.sz = 1) && decide (i.sz = 1) && decide (i.zero.length = 1) && i.zero.all AV.cell && !viewsL i.zero && decide (z.length = 1))
            ((0 ≤ l ∧ l ≤ n ∧ n = es.length) ∧ k ((⟨s.t.set d .jk, s.o.set r (.row 1 (tailD z l.toNat es))⟩ : S).put o3.dst (.tp [])))
          | none => False
        | _, _, _ => False
      | _, _, _, _ => False
    | _, _, _ => False
  | _, _, _, _, _ => False
def tailB (K : TypeId → Option TK) (Γ : List (FuncId × En)) (ops : Array Oper) (l1 : List Oper) (o2 o3 : Oper) : Kont → S → Prop := fun q s => aOps K Γ ops l1 (tail2 K o2 o3 (q .nor)) s
theorem zeroCells_one (z : Value) (n : Nat) : (Builtin.zeroCells #[z] n).toList = List.replicate n z := by
  unfold Builtin.zeroCells
  apply List.ext_getElem
  · simp
  · intro i h1 h2
    simp [Nat.mod_one]
theorem tail_sound {ops : Array Oper} (hK : KOk P K) {o2 o3 : Oper} {k : S → Prop} (hs : SRel w0 own0 X s a) (h : tail2 K o2 o3 k s) (hk : ∀ X' s' a', SRel w0 own0 X' s' a' → k s' → Q .normal a' X'.w) : wpList P ops Q [o2, o3] a X.w := by
  unfold tail2 at h
  split at h
  · rename_i t x lo d c hg2 ho2 hd2 hg3 ho3
    split at h
    · rename_i d' t' hc hargs htys
      replace h := chk_iff.1 h
      obtain ⟨h0, h⟩ := h
      simp only [Bool.and_eq_true, decide_eq_true_eq] at h0
      obtain ⟨hdd, hdl⟩ := h0
      obtain rfl := Nat.eq_of_beq_eq_true hdd
      have ha : c.args = #[.tmp d] := by rw [← Array.toArray_toList (xs := c.args), hargs]
      have ht : c.argTypes = #[t'] := by rw [← Array.toArray_toList (xs := c.argTypes), htys]
      have hx := ev_sound hs x
      have hl := ev_sound hs lo
      split at h
      · rename_i r n ik l e e' ex el hkd hkd'
        have hu := kd_ok hK hkd
        have hu' := kd_ok hK hkd'
        rw [ex] at hx
        rw [el] at hl
        have e3 := inv_int hl
        split at h
        · rename_i sz es ke i hr hke hke'
          split at h
          · rename_i z hz
            replace h := chk_iff.1 h
            obtain ⟨h1, ⟨hl0, hln, hn⟩, hq⟩ := h
            simp only [Bool.and_eq_true, decide_eq_true_eq, Bool.not_eq_true'] at h1
            obtain ⟨⟨⟨⟨⟨⟨rfl, hk1⟩, hi1⟩, hzl⟩, hzc⟩, hzv⟩, hz1⟩ := h1
            subst hn
            obtain ⟨zv, hrz, z1, z2, _, _⟩ := run_zero (hK e' i hke') (by omega)
            obtain ⟨zx, hzx⟩ : ∃ zx, zv.cells = #[zx] := by
              have h1 : zv.cells.toList.length = 1 := by simp; omega
              match hh : zv.cells.toList, h1 with
              | [y], _ => exact ⟨y, by rw [← Array.toArray_toList (xs := zv.cells), hh]⟩
            obtain ⟨dz, hdz⟩ : ∃ dz, z = [dz] := by
              match z, hz1 with
              | [dz], _ => exact ⟨dz, rfl⟩
            subst hdz
            have hrel : ∀ Y : Cx, DRel Y.own Y.w dz zx := fun Y => by
              obtain ⟨m1, m2⟩ := toDL_own (X := Y) (o := []) (.inl hzv) hz
              exact m2 0 (by omega) (by simp) zx (by have := z2 Y 0 (by omega); rw [hzx] at this; simpa using this)
            have hcz : cellV zx = true := by
              have := cells_cellV (X := X) (x := .ag i.zero) (v := .agg zv.cells) hzc (.ag (by rw [z1]; omega) (fun j hj => z2 X j hj)) zx (by show zx ∈ zv.cells.toList; rw [hzx]; simp)
              exact this
            -- the slice
            have run2 : ∀ v, (Instr.slice t (a.eval x) (some (a.eval lo)) none none).run P X.w = .ok v X.w → wpList P ops Q [o3] (a.put (some d) v) X.w → o2.wp P a X.w (wpList P ops Q [o3]) Q := fun v hr h => by
              unfold Oper.wp
              have : (execOp a.eval o2).run P X.w = .ok (.value v) X.w := by
                simp [execOp, ho2, Instr.sliceAt, run_under hu, hr]
              rw [this]
              simp only [Oper.upon]
              rw [hd2]
              exact h
            have ev' : ∀ v, (a.put (some d) v).eval (.tmp d) = v := fun v => by
              have : d < a.tmps.size := by rw [hs.len]; exact hdl
              simp [Act.eval, Act.put, this]
            have run3 : ∀ v w', (Builtin.clear_ #[t'] o3.type #[v]).run P X.w = .ok (.tuple #[]) w' → (execOp (a.put (some d) v).eval o3).run P X.w = .ok (.value (.tuple #[])) w' := by
              intro v w' hr
              simp [execOp, ho3, resolve, hc, ha, ht, invoke, builtin, ev', hr]
            have fin : ∀ v X', (Instr.slice t (a.eval x) (some (a.eval lo)) none none).run P X.w = .ok v X.w → (Builtin.clear_ #[t'] o3.type #[v]).run P X.w = .ok (.tuple #[]) X'.w → SRel w0 own0 X' ⟨s.t, s.o.set r (.row 1 (tailD [dz] l.toNat es))⟩ a → wpList P ops Q [o2, o3] a X.w := by
              intro v X' hr2 hr3 hs'
              unfold wpList
              rw [if_pos (by simp [Region.wanted, hg2])]
              refine .inl (run2 v hr2 ?_)
              unfold wpList
              rw [if_pos (by simp [Region.wanted, hg3])]
              refine .inl ?_
              unfold Oper.wp
              rw [run3 v _ hr3]
              have hs2 := put_srel (put_srel hs' (VRel.jk (v := v)) (some d)) (VRel.tp (X := X') (cs := []) (arr := #[]) rfl (fun j h => absurd h (by simp))) o3.dst
              exact hk X' _ _ hs2 hq
            obtain ⟨_, p2, hrow⟩ := hs.g.rel r _ hr
            obtain ⟨hrn, ⟨hz', ⟨hm1, hm2⟩, ev⟩ | ⟨hz', hn0, ev⟩⟩ := inv_vw hx
            · rcases hrow with ⟨hz2, _⟩ | ⟨_, arr, T, g1, hlen, g2, g3, g4, g5⟩
              · rw [hz'] at hz2; cases hz2
              have hcap : (X.c r).1 ≤ arr.size := by simpa using g2
              by_cases hfull : es.length - l.toNat = 0
              · -- nothing is cleared
                have hsl : tailD [dz] l.toNat es = es := by
                  unfold tailD
                  rw [hfull, List.replicate_zero, List.append_nil, List.take_of_length_le (by omega)]
                have hset : s.o.set r (.row 1 es) = s.o := by
                  apply List.ext_getElem?
                  intro j
                  rw [List.getElem?_set]
                  by_cases hj : r = j
                  · subst hj; rw [if_pos rfl, if_pos (lt_of_get hr), hr]
                  · rw [if_neg hj]
                refine fin (.slice (if (X.c r).1 = l.toNat then some ⟨X.b r, 0, none⟩ else some ⟨X.b r, l.toNat, none⟩) 0 ((X.c r).1 - l.toNat)) X ?_ ?_ (by rw [hsl, hset]; exact hs)
                · simp [ev, Instr.slice, run_under hu, Instr.sliceBounds, run_sliceBound (y := es.length) X.w e3 hl0 (by omega), run_sizeOf hK hke, hk1, addr_add]
                  exact hfull
                · split <;> simp [Builtin.clear_, run_under hu']
              · have hne : ¬ (X.c r).1 = l.toNat := by omega
                have hrun := run_storeCells (P := P) (b := X.b r) (off := l.toNat) (T := T) (List.replicate (es.length - l.toNat) zx) 0 arr g1 (by simp; omega) (fun v hv => by rw [(List.mem_replicate.1 hv).2]; exact hcz)
                simp only [Nat.add_zero] at hrun
                have hkp := upd_keeps hs.g hr rfl hz' (.cells (spl arr l.toNat (List.replicate (es.length - l.toNat) zx)) T (0, 0))
                have htl : (tailD [dz] l.toNat es).length = es.length := by
                  unfold tailD
                  rw [List.length_append, List.length_take, List.length_replicate]; omega
                have hget0 : ∀ k : Nat, k < es.length → (tailD [dz] l.toNat es)[k]? = if k < l.toNat then es[k]? else some [dz] := fun k hk => by
                  unfold tailD
                  by_cases hlt : k < l.toNat
                  · rw [if_pos hlt, List.getElem?_append_left (by rw [List.length_take]; omega), List.getElem?_take_of_lt hlt]
                  · rw [if_neg hlt, List.getElem?_append_right (by rw [List.length_take]; omega), List.getElem?_replicate, if_pos (by rw [List.length_take]; omega)]
                have hget : ∀ (k : Nat) (h : k < (tailD [dz] l.toNat es).length), (k < l.toNat ∧ ∃ h' : k < es.length, (tailD [dz] l.toNat es)[k] = es[k]) ∨ (l.toNat ≤ k ∧ (tailD [dz] l.toNat es)[k] = [dz]) := fun k hk => by
                  have hk0 := hk
                  rw [htl] at hk0
                  have := hget0 k hk0
                  rw [List.getElem?_eq_getElem hk] at this
                  by_cases hlt : k < l.toNat
                  · rw [if_pos hlt, List.getElem?_eq_getElem hk0] at this
                    exact .inl ⟨hlt, hk0, Option.some.inj this⟩
                  · rw [if_neg hlt] at this
                    exact .inr ⟨by omega, Option.some.inj this⟩
                have hnew : ORel (X.upd r (.cells (spl arr l.toNat (List.replicate (es.length - l.toNat) zx)) T (0, 0))) r (.row 1 (tailD [dz] l.toNat es)) := by
                  refine ⟨by omega, by rw [htl]; exact p2, .inr ⟨hz', spl arr l.toNat (List.replicate (es.length - l.toNat) zx), T, ?_, by rw [htl]; exact hlen, by rw [spl_size]; exact g2, by rw [htl]; exact g3, fun k hk => ?_, fun k hk j hj => ?_⟩⟩
                  · show (X.upd r _).w.heap[X.b r]? = _
                    rw [heap_upd, if_pos ⟨rfl, size_of_heap g1⟩]
                  · rcases hget k hk with ⟨_, h', e⟩ | ⟨_, e⟩
                    · rw [e]; exact g4 k h'
                    · rw [e]; rfl
                  · have hk0 : k < es.length := by rw [← htl]; exact hk
                    rw [spl_get _ _ _ _ (by simp; omega)]
                    rcases hget k hk with ⟨hlt, h', e⟩ | ⟨hle, e⟩
                    · simp only [e] at hj ⊢
                      have hj0 : j = 0 := by have := g4 k h'; omega
                      subst hj0
                      rw [if_neg (by omega)]
                      exact (g5 k h' 0 hj).mono hkp
                    · simp only [e] at hj ⊢
                      have hj0 : j = 0 := by simpa using hj
                      subst hj0
                      rw [if_pos (by simp; omega)]
                      have e0 : (List.replicate (es.length - l.toNat) zx).getD (k * 1 + 0 - l.toNat) undef = zx := by
                        rw [List.getD_eq_getElem?_getD, List.getElem?_replicate, if_pos (by omega)]; rfl
                      rw [e0]
                      exact hrel _
                refine fin (.slice (some ⟨X.b r, l.toNat, none⟩) (es.length - l.toNat) ((X.c r).1 - l.toNat)) _ ?_ ?_ (upd_srel hs false hr rfl hz' (ob' := .row 1 (tailD [dz] l.toNat es)) rfl (fun _ _ _ => hs.g.rws r _ _ hr) (by simp) hnew)
                · simp [ev, Instr.slice, run_under hu, Instr.sliceBounds, run_sliceBound (y := es.length) X.w e3 hl0 (by omega), run_sizeOf hK hke, hk1, addr_add, hne]
                · obtain ⟨m, hm⟩ : ∃ m, es.length - l.toNat = m + 1 := ⟨es.length - l.toNat - 1, by omega⟩
                  have hzc2 := zeroCells_one zx (es.length - l.toNat)
                  rw [hm] at hrun hzc2 ⊢
                  simp [Builtin.clear_, run_under hu', hrz, hzx, hzc2, hrun]
                  rfl
            · -- nil
              have hnil : es = [] := List.eq_nil_of_length_eq_zero hn0
              subst hnil
              have hl00 : l.toNat = 0 := by omega
              have hsl : tailD [dz] l.toNat [] = [] := by simp [tailD]
              have hset : s.o.set r (.row 1 []) = s.o := by
                apply List.ext_getElem?
                intro j
                rw [List.getElem?_set]
                by_cases hj : r = j
                · subst hj; rw [if_pos rfl, if_pos (lt_of_get hr), hr]
                · rw [if_neg hj]
              refine fin (.slice none 0 0) X ?_ ?_ (by rw [hsl, hset]; exact hs)
              · simp [ev, Instr.slice, run_under hu, Instr.sliceBounds, run_sliceBound (y := 0) X.w e3 hl0 (by omega), run_sizeOf hK hke, hk1, hl00]
              · simp [Builtin.clear_, run_under hu']
          · exact h.elim
        · exact h.elim
      · exact h.elim
    · exact h.elim
  · exact h.elim
theorem tail_bsound (hK : KOk P K) (hΓ : GSound P Γ) {id : Nat} {ops : Array Oper} {l1 : List Oper} {o2 o3 : Oper} (hl : ops.toList = l1 ++ [o2, o3]) : BSound P (.region id ops false) (tailB K Γ ops l1 o2 o3) := fun {w0 own0 X s act q} hs h => by
  refine wp_region_list ?_
  rw [hl]
  exact ops_sound2 hK hΓ [o2, o3] l1 hs h fun X' s' a' hs' hk => tail_sound hK hs' hk fun X2 s2 a2 hs2 hk2 => ⟨X2, s2, rfl, hs2, hk2⟩
end
def famO (kk : KK) (sh : Shp) (i : Nat) (o : List Ob) : List Ob := match o[i]? with
  | some (.map _ []) => o.set i (.bun (famR ⟨kk, sh, []⟩))
  | _ => o
theorem famO_ghost (kk : KK) (sh : Shp) (i : Nat) : Ghost (famO kk sh i) := fun w0 own0 Y s a hs => by
  refine ⟨Y, rfl, ?_, fun _ _ h => h⟩
  unfold famO
  split
  · rename_i k0 hj
    obtain ⟨hz, _, me, clock, h1, h2, h3, h4, _⟩ := hs.g.rel i _ hj
    exact swap_srel hs hj rfl hz rfl (fun _ _ e => nomatch e) ⟨hz, fun e he => absurd he (by simp), ⟨me, clock, h1, by simpa using h2, h3, h4, fun j hj hl => absurd hl (by simp)⟩, by simp, fun e he => absurd he (by simp)⟩
  · exact hs
end Go.AM
