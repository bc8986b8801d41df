import Derived.Test.YtfdecpfcphghlaaDoorAmGrow
set_option linter.unusedSimpArgs false
set_option linter.unusedVariables false
set_option linter.unnecessarySimpa false
namespace Go.AM
open Go.RowKit

theorem bbeq (a b : ByteArray) : (a == b) = decide (a = b) := by
  rw [Bool.eq_iff_iff, decide_eq_true_eq]
  exact Go.MapKept.bytes_beq a b
section
variable {P : Program} {X : Cx} {a : Act} {o : Oper} {K : TypeId → Option TK} {s : S} {q : Q1} {w0 : World} {own0 : O0} {next : Act → World → Prop} {Q : Exit → Act → World → Prop} {Γ : List (FuncId × En)}

def kkDesc : KK → TypeDesc
  | .str => .string
  | .int k => .int k
  | .strs _ => .invalid

theorem kk_ok (hK : KOk P K) {t : TypeId} {kk : KK} (h : kkOf K t = some kk) : P.underlying t = some (kkDesc kk) := by
  unfold kkOf at h
  split at h
  · rename_i i hi
    have hu := (hK t i hi).kd
    split at h
    · rename_i hkd; rw [hkd] at hu; cases h; exact hu
    · rename_i k hkd; rw [hkd] at hu; cases h; exact hu
    · cases h
  · cases h

theorem sameNow_key {k k' : Key} {v v' : Value} {kk : KK} (h1 : k.kind = kk) (h2 : k'.kind = kk) (hkk : ∀ n, kk ≠ .strs n) (r1 : KRel k v) (r2 : KRel k' v') : Instr.sameNow (kkDesc kk) v v' = some (decide (k' = k)) := by
  cases k with
  | s b =>
    cases k' with
    | s b' =>
      simp only [KRel] at r1 r2
      simp only [Key.kind] at h1
      subst h1; subst r1; subst r2
      simp only [Instr.sameNow, kkDesc, bbeq]
      congr 1
      rw [Bool.eq_iff_iff]
      simp
      exact eq_comm
    | i k n => rw [← h1] at h2; simp [Key.kind] at h2
    | ss l => rw [← h1] at h2; simp [Key.kind] at h2
  | i ik n =>
    cases k' with
    | s b' => rw [← h1] at h2; simp [Key.kind] at h2
    | i ik' n' =>
      simp only [KRel] at r1 r2
      simp only [Key.kind] at h1 h2
      subst h1
      simp at h2
      subst r1; subst r2; subst h2
      simp only [Instr.sameNow, kkDesc]
      simp
      rw [Bool.eq_iff_iff]
      simp
      exact eq_comm
    | ss l => rw [← h1] at h2; simp [Key.kind] at h2
  | ss l => exact absurd h1.symm (hkk _)

theorem findNow_sound {k : Key} {v : Value} {kk : KK} (hk : k.kind = kk) (hkk : ∀ n, kk ≠ .strs n) (hv : KRel k v) : ∀ (ents : List (Key × AV)) (me : List MapEntry) (i : Nat), me.length = ents.length → (∀ e ∈ ents, e.1.kind = kk) →
    (∀ (j : Nat) (h : j < ents.length) (h' : j < me.length), KRel ents[j].1 me[j].key) →
    (findKeyA k ents = none ∧ Instr.findNow (kkDesc kk) v me i = some none ∧ (∀ x, setKeyA k x ents = ents ++ [(k, x)])) ∨
    (∃ (j : Nat) (h : j < ents.length) (h' : j < me.length), findKeyA k ents = some ents[j].2 ∧ Instr.findNow (kkDesc kk) v me i = some (some (i + j, me[j].val)) ∧ ents[j].1 = k ∧ (∀ x, setKeyA k x ents = ents.set j (k, x)))
  | [], [], i, _, _, _ => .inl ⟨rfl, rfl, fun x => rfl⟩
  | [], _ :: _, _, hl, _, _ => by simp at hl
  | _ :: _, [], _, hl, _, _ => by simp at hl
  | (k', u) :: ents, e :: me, i, hl, hall, hr => by
    have h0 : KRel k' e.key := hr 0 (by simp) (by simp)
    have hs := sameNow_key hk (hall (k', u) (by simp)) hkk hv h0
    by_cases he : k' = k
    · refine .inr ⟨0, by simp, by simp, ?_, ?_, ?_, fun x => ?_⟩
      · simp [findKeyA, he]
      · simp [Instr.findNow, hs, he]
      · simpa using he
      · simp [setKeyA, he]
    · have ih := findNow_sound hk hkk hv ents me (i + 1) (by simpa using hl) (fun e he => hall e (by simp [he])) (fun j h h' => hr (j + 1) (by simp; omega) (by simp; omega))
      rcases ih with ⟨h1, h2, h3⟩ | ⟨j, hj, hj', h1, h2, h3, h4⟩
      · refine .inl ⟨by simp [findKeyA, he, h1], by simp [Instr.findNow, hs, he, h2], fun x => by simp [setKeyA, he, h3]⟩
      · refine .inr ⟨j + 1, by simp; omega, by simp; omega, by simp [findKeyA, he, h1], ?_, by simpa using h3, fun x => by simp [setKeyA, he, h4]⟩
        simp only [Instr.findNow, hs, he, decide_false, h2, List.getElem_cons_succ]
        congr 3; omega

theorem key_rel {x : AV} {v : Value} {k : Key} (hv : VRel X x v) (h : keyOf x = some k) (hne : ∀ l, k ≠ .ss l) : KRel k v := by
  unfold keyOf at h
  split at h
  · split at h
    · cases h; exact absurd rfl (hne _)
    · cases h
  · cases h; exact (inv_str hv).1
  · cases h; exact inv_int hv
  · cases h

theorem run_checkKey {t : TypeId} {kk : KK} (hkk : ∀ n, kk ≠ .strs n) (hu : P.underlying t = some (kkDesc kk)) (em : Bool) (v : Value) (w : World) : (Instr.checkKey em 10000 t v).run P w = .ok () w := by
  show (Instr.checkKey em (9999 + 1) t v).run P w = _
  unfold Instr.checkKey
  cases kk with
  | str => simp [run_under hu, kkDesc]
  | int k => simp [run_under hu, kkDesc]
  | strs n => exact absurd rfl (hkk n)

theorem run_findKey {t : TypeId} {kk : KK} (hu : P.underlying t = some (kkDesc kk)) {v : Value} {es : List MapEntry} {r : Option (Nat × Value)} (h : Instr.findNow (kkDesc kk) v es 0 = some r) (w : World) : (Instr.findKey t v es).run P w = .ok r w := by
  simp [Instr.findKey, run_under hu, h]

theorem kk_ne {t : TypeId} {kk : KK} (h : kkOf K t = some kk) : ∀ n, kk ≠ KK.strs n := by
  unfold kkOf at h
  split at h
  · split at h <;> cases h <;> intro n hh <;> cases hh
  · cases h

theorem kind_ne {k : Key} {kk : KK} (h : k.kind = kk) (hkk : ∀ n, kk ≠ .strs n) : ∀ l, k ≠ .ss l := by
  rintro l rfl
  exact hkk _ h.symm

theorem ldAV_zero {e : TypeId} {k : TK} {z : Value} {kk : AV → Prop} (hK : KOk P K) (hk : K e = some k) (hz : k.zero.length = k.sz) (hr : ∀ (j : Nat) (h : j < k.zero.length), VRel X k.zero[j] (z.cells.getD j undef)) (h1 : z.cells.size = k.sz)
    (hag : k.agg = true → ∃ arr, z = .agg arr) (hna : k.agg = false → z.cells = #[z]) (h : ldAV K e k.zero kk) : ∃ av, VRel X av z ∧ kk av := by
  unfold ldAV at h
  rw [hk] at h
  simp only at h
  cases hg : k.agg with
  | true =>
    obtain ⟨arr, rfl⟩ := hag hg
    rw [hg] at h
    simp only [if_true] at h
    refine ⟨_, .ag ?_ (fun j hj => ?_), (chk_iff.1 h).2⟩
    · simp [Value.cells] at h1; simp; omega
    · simp only [List.length_take] at hj
      simp only [List.getElem_take]
      exact hr j (by omega)
  | false =>
    rw [hg] at h
    simp only [Bool.false_eq_true, if_false] at h
    split at h
    · rename_i c rest hzero
      refine ⟨c, ?_, h⟩
      have := hr 0 (by rw [hzero]; simp)
      rw [hna hg] at this
      simpa [hzero] using this
    · exact h.elim

theorem o_lookup {t : TypeId} {x y : Operand} {ok : Bool} (hK : KOk P K) (hs : SRel w0 own0 X s a) (hT : Then w0 own0 s a q fun v w => next (a.put o.dst v) w) (ho : o.op = .lookup t x y ok) (h : aOp K Γ s (.lookup t x y ok) q) : o.wp P a X.w next Q := by
  simp only [aOp] at h
  have hx := ev_sound hs x
  have hy := ev_sound hs y
  split at h
  · rename_i kt e hkd
    have hu := kd_ok hK hkd
    split at h
    · rename_i k ky hk hky
      replace h := chk_iff.1 h
      obtain ⟨hz, h⟩ := h
      have hz : k.zero.length = k.sz := by simpa using hz
      obtain ⟨z, hr, z1, z2, z3, z4⟩ := run_zero (hK e k hk) hz
      have fin : ∀ (v : Value) (av : AV) (b : Bool), VRel X av v → q (if ok then .tp [av, .d (.v (.bool b))] else av) s.o none →
          (Instr.lookup t (a.eval x) (a.eval y) ok).run P X.w = .ok (if ok then .tuple #[v, .bool b] else v) X.w → o.wp P a X.w next Q := by
        intro v av b hv hq hrun
        refine then_value hs hT (v := if ok then .tuple #[v, .bool b] else v) (by simp [execOp, ho, hrun]) ?_ hq
        cases ok with
        | false => exact hv
        | true =>
          refine .tp (by simp) (fun j hj => ?_)
          match j, hj with
          | 0, _ => exact hv
          | 1, _ => exact mkv rfl
      split at h
      · rename_i ex
        replace h := chk_iff.1 h
        obtain ⟨hkk, h⟩ := h
        have hkk : kkOf K kt = some ky.kind := by simpa using hkk
        rw [ex] at hx
        have ev := (inv_v hx).1
        obtain ⟨av, hav, hq⟩ := ldAV_zero (X := X) hK hk hz (fun j hj => z2 X j hj) z1 z3 z4 h
        refine fin z av false hav hq ?_
        have hn := kk_ne hkk
        have hf := run_findKey (P := P) (v := a.eval y) (es := []) (r := none) (kk_ok hK hkk) rfl
        simp [Instr.lookup, run_under hu, ev, run_checkKey hn (kk_ok hK hkk), hf, hr]
      · rename_i j ex
        rw [ex] at hx
        obtain ⟨ev, _⟩ := inv_mp hx
        split at h
        · rename_i kk ents hj
          replace h := chk_iff.1 h
          obtain ⟨h0, h⟩ := h
          simp only [Bool.and_eq_true, decide_eq_true_eq] at h0
          obtain ⟨hkk, hkind⟩ := h0
          replace h := lkK_find h
          have hn := kk_ne hkk
          obtain ⟨_, hall, me, clock, hh, hsz, _, _, hent⟩ := hs.g.rel j _ hj
          have hf := findNow_sound hkind hn (key_rel hy hky (kind_ne hkind hn)) ents me.toList 0 (by simpa using hsz) hall (fun j h1 h2 => by
            have := (hent j h1 (by simpa using h2)).1
            simpa using this)
          rcases hf with ⟨f1, f2, _⟩ | ⟨i, hi, hi', f1, f2, _, _⟩
          · rw [f1] at h
            obtain ⟨av, hav, hq⟩ := ldAV_zero (X := X) hK hk hz (fun j hj => z2 X j hj) z1 z3 z4 h
            refine fin z av false hav hq ?_
            simp [Instr.lookup, run_under hu, ev, getObj, Sem.run, hh, run_checkKey hn (kk_ok hK hkk), run_findKey (P := P) (kk_ok hK hkk) f2, hr]
          · rw [f1] at h
            have hi2 : i < me.size := by simpa using hi'
            refine fin me[i].val ents[i].2 true (hent i hi hi2).2.2 h ?_
            simp [Instr.lookup, run_under hu, ev, getObj, Sem.run, hh, run_checkKey hn (kk_ok hK hkk), run_findKey (P := P) (kk_ok hK hkk) f2, hr]
        · exact h.elim
      · exact h.elim
    · exact h.elim
  · exact h.elim

theorem sameBits_key {k : Key} {v v' : Value} (h1 : KRel k v) (h2 : KRel k v') (hne : ∀ l, k ≠ .ss l) : Instr.sameBits 10000 v v' = true := by
  cases k with
  | s b => simp only [KRel] at h1 h2; subst h1; subst h2; simp [Instr.sameBits, bbeq]
  | i k n => simp only [KRel] at h1 h2; subst h1; subst h2; simp [Instr.sameBits]
  | ss l => exact absurd rfl (hne l)

theorem o_update {t : TypeId} {m x y : Operand} (hK : KOk P K) (hs : SRel w0 own0 X s a) (hT : Then w0 own0 s a q fun v w => next (a.put o.dst v) w)
    (hex : (execOp a.eval o) = (do Instr.mapUpdate t (a.eval m) (a.eval x) (a.eval y); pure .skip)) (h : aOp K Γ s (.mapUpdate t m x y) q) : o.wp P a X.w next Q := by
  simp only [aOp] at h
  have hm := ev_sound hs m
  have hx := ev_sound hs x
  have hy := ev_sound hs y
  split at h
  · rename_i kt e hkd
    have hu := kd_ok hK hkd
    split at h
    · rename_i ky j hky em
      rw [em] at hm
      obtain ⟨ev, _⟩ := inv_mp hm
      split at h
      · rename_i kk ents hj
        replace h := chk_iff.1 h
        obtain ⟨h0, h⟩ := h
        simp only [Bool.and_eq_true, decide_eq_true_eq] at h0
        obtain ⟨⟨hkk, hkind⟩, hfirm⟩ := h0
        have hq := stK_set h
        have hn := kk_ne hkk
        have hkr := key_rel hx hky (kind_ne hkind hn)
        obtain ⟨hz, hall, me, clock, hh, hsz, hborn, hinj, hent⟩ := hs.g.rel j _ hj
        have hf := findNow_sound hkind hn hkr ents me.toList 0 (by simpa using hsz) hall (fun j h1 h2 => by
          have := (hent j h1 (by simpa using h2)).1
          simpa using this)
        have step : ∀ (me' : Array MapEntry) (clock' : Nat), (Instr.mapUpdate t (a.eval m) (a.eval x) (a.eval y)).run P X.w = .ok () { X.w with heap := X.w.heap.setIfInBounds (X.b j) (.map me' clock') } →
            me'.size = (setKeyA ky (s.ev y) ents).length → (∀ e ∈ setKeyA ky (s.ev y) ents, e.1.kind = kk) → (∀ (i : Nat) (h : i < me'.size), me'[i].born < clock') → (∀ (i k : Nat) (hi : i < me'.size) (hk : k < me'.size), me'[i].born = me'[k].born → i = k) →
            (∀ (i : Nat) (h : i < (setKeyA ky (s.ev y) ents).length) (h' : i < me'.size), KRel (setKeyA ky (s.ev y) ents)[i].1 me'[i].key ∧ (setKeyA ky (s.ev y) ents)[i].2.firm = true ∧ VRel X (setKeyA ky (s.ev y) ents)[i].2 me'[i].val) → o.wp P a X.w next Q := by
          intro me' clock' hrun g1 g2 g3 g4 g5
          have hkp := upd_keeps hs.g hj rfl hz (.map me' clock')
          have hnew : ORel (X.upd j (.map me' clock')) j (.map kk (setKeyA ky (s.ev y) ents)) := by
            refine ⟨hz, g2, me', clock', ?_, g1, g3, g4, fun i hi hi' => ⟨(g5 i hi hi').1, (g5 i hi hi').2.1, (g5 i hi hi').2.2.step hkp (Nat.le_refl _) (fun _ _ => ⟨rfl, rfl, rfl, rfl⟩)⟩⟩
            show (X.upd j _).w.heap[X.b j]? = _
            rw [heap_upd, if_pos ⟨rfl, size_of_heap hh⟩]
          refine then_skip' (upd_srel hs false hj rfl hz (ob' := .map kk (setKeyA ky (s.ev y) ents)) rfl (by simp) (by simp) hnew) hT ?_ hq
          rw [hex]
          simp only [Sem.run_bind, hrun, Result.andThen_ok]
          rfl
        rcases hf with ⟨f1, f2, f3⟩ | ⟨i, hi, hi', f1, f2, f3, f4⟩
        · refine step (me.push { key := a.eval x, val := a.eval y, born := clock }) (clock + 1) ?_ ?_ ?_ ?_ ?_ ?_
          · simp [Instr.mapUpdate, run_under hu, ev, getObj, setObj, Sem.run, hh, run_checkKey hn (kk_ok hK hkk), run_findKey (P := P) (kk_ok hK hkk) f2]
          · rw [f3]; simp [hsz]
          · rw [f3]
            intro e he
            rcases List.mem_append.1 he with he | he
            · exact hall e he
            · simp at he; subst he; exact hkind
          · intro i hi
            rw [Array.getElem_push]
            split
            · have := hborn i (by assumption); omega
            · simp
          · intro i k hi hk he
            rw [Array.getElem_push, Array.getElem_push] at he
            simp only [Array.size_push] at hi hk
            split at he <;> split at he
            · exact hinj i k (by assumption) (by assumption) he
            · have := hborn i (by assumption); simp at he; omega
            · have := hborn k (by assumption); simp at he; omega
            · omega
          · rw [f3]
            intro i hi hi'
            simp only [List.getElem_append, Array.getElem_push]
            simp only [List.length_append, List.length_cons, List.length_nil] at hi
            by_cases hlt : i < ents.length
            · have hlt' : i < me.size := by omega
              simp only [hlt, hlt', dif_pos]
              exact hent i hlt hlt'
            · have hlt' : ¬ i < me.size := by omega
              simp only [hlt, hlt', dif_neg, not_false_eq_true]
              have : i - ents.length = 0 := by omega
              simp only [this, List.getElem_cons_zero]
              exact ⟨hkr, hfirm, hy⟩
        · have hi2 : i < me.size := by simpa using hi'
          have hkold : KRel ky me[i].key := by rw [← f3]; exact (hent i hi hi2).1
          simp only [Nat.zero_add] at f2
          refine step (me.modify i fun e => { e with key := a.eval x, val := a.eval y }) clock ?_ ?_ ?_ ?_ ?_ ?_
          · have hsb := sameBits_key hkold hkr (kind_ne hkind hn)
            simp [Instr.mapUpdate, run_under hu, ev, getObj, setObj, Sem.run, hh, run_checkKey hn (kk_ok hK hkk), run_findKey (P := P) (kk_ok hK hkk) f2, hi2, Instr.keyThatStays, hsb]
          · rw [f4]; simp [hsz]
          · rw [f4]
            intro e he
            rcases List.mem_or_eq_of_mem_set he with he | he
            · exact hall e he
            · subst he; exact hkind
          · intro k hk
            simp only [Array.size_modify] at hk
            rw [Array.getElem_modify]
            split
            · exact hborn k hk
            · exact hborn k hk
          · intro k l hk hl he
            simp only [Array.size_modify] at hk hl
            rw [Array.getElem_modify, Array.getElem_modify] at he
            refine hinj k l hk hl ?_
            split at he <;> split at he <;> exact he
          · rw [f4]
            intro k hk hk'
            simp only [List.length_set] at hk
            simp only [Array.size_modify] at hk'
            rw [Array.getElem_modify]
            simp only [List.getElem_set]
            by_cases hik : i = k
            · subst hik
              simp only [if_true]
              exact ⟨hkr, hfirm, hy⟩
            · simp only [hik, if_false]
              exact hent k hk hk'
      · exact h.elim
    · exact h.elim
  · exact h.elim
end
end Go.AM
