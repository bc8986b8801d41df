import Derived.Test.YtchpfeblinnoiaaGreatDoorAmGrow
import Derived.ChangeKeysEq
set_option linter.unusedSimpArgs false
set_option linter.unusedVariables false
set_option linter.unnecessarySimpa false
namespace Go.AM
open Go.RowKit
theorem bbeq (a b : ByteArray) : (a == b) = decide (a = b) := by
  rw [Bool.eq_iff_iff, decide_eq_true_eq]
  exact Go.MapKept.bytes_beq a b
section
variable {P : Program} {X : Cx} {a : Act} {o : Oper} {K : TypeId → Option TK} {s : S} {q : Q1} {w0 : World} {own0 : O0} {next : Act → World → Prop} {Q : Exit → Act → World → Prop} {Γ : List (FuncId × En)}
def kkDesc : KK → TypeDesc
  | .str => .string
  | .int k => .int k
  | _ => .invalid
inductive KKOk (P : Program) (t : TypeId) : KK → Prop
  | str (h : P.underlying t = some .string) : KKOk P t .str
  | int {k : IntKind} (h : P.underlying t = some (.int k)) : KKOk P t (.int k)
  | strs {e : TypeId} {i : TypeInfo} (h : P.underlying t = some (.array 2 e)) (he : P.underlying e = some .string) (hi : P.info? e = some i) (hs : i.size = 1) : KKOk P t (.strs 2)
theorem kk_ok (hK : KOk P K) {t : TypeId} {kk : KK} (h : kkOf K t = some kk) : KKOk P t kk := by
  unfold kkOf at h
  split at h
  · rename_i i hi
    have hu := (hK t i hi).kd
    split at h
    · rename_i hkd; rw [hkd] at hu; cases h; exact .str hu
    · rename_i k hkd; rw [hkd] at hu; cases h; exact .int hu
    · rename_i n e hkd
      rw [hkd] at hu
      split at h
      · rename_i k hk
        by_cases h0 : (decide (n = 2) && decide (k.sz = 1) && k.kd.isStr) = true
        · rw [if_pos h0] at h
          cases h
          simp only [Bool.and_eq_true, decide_eq_true_eq] at h0
          obtain ⟨⟨hn, h2⟩, h3⟩ := h0
          subst hn
          obtain ⟨ti, h4, h5, _⟩ := (hK e k hk).info
          refine .strs hu ?_ h4 (h5.trans h2)
          have hu2 := (hK e k hk).kd
          revert h3 hu2
          cases k.kd <;> intro h3 hu2 <;> first | exact hu2 | cases h3
        · rw [if_neg h0] at h
          cases h
      · cases h
    · cases h
  · cases h
theorem kkok_bare {t : TypeId} {kk : KK} (h : KKOk P t kk) (hn : ∀ n, kk ≠ .strs n) : P.underlying t = some (kkDesc kk) := by
  cases h with
  | str h => exact h
  | int h => exact h
  | strs h => exact absurd rfl (hn _)
theorem sameNow_key {k k' : Key} {v v' : Value} {kk : KK} (h1 : k.kind = kk) (h2 : k'.kind = kk) (hkk : ∀ n, kk ≠ .strs n) (r1 : KRel k v) (r2 : KRel k' v') : Instr.sameNow (kkDesc kk) v v' = some (decide (k' = k)) := by
  cases k with
  | s b =>
    cases k' with
    | s b' =>
      simp only [KRel] at r1 r2
      simp only [Key.kind] at h1
      subst h1; subst r1; subst r2
      simp only [Instr.sameNow, kkDesc, bbeq]
      congr 1
      rw [Bool.eq_iff_iff]
      simp
      exact eq_comm
    | i k n => rw [← h1] at h2; simp [Key.kind] at h2
    | ss l => rw [← h1] at h2; simp [Key.kind] at h2
  | i ik n =>
    cases k' with
    | s b' => rw [← h1] at h2; simp [Key.kind] at h2
    | i ik' n' =>
      simp only [KRel] at r1 r2
      simp only [Key.kind] at h1 h2
      subst h1
      simp at h2
      subst r1; subst r2; subst h2
      simp only [Instr.sameNow, kkDesc]
      simp
      rw [Bool.eq_iff_iff]
      simp
      exact eq_comm
    | ss l => rw [← h1] at h2; simp [Key.kind] at h2
  | ss l => exact absurd h1.symm (hkk _)
theorem findNow_sound {k : Key} {v : Value} {kk : KK} (hk : k.kind = kk) (hkk : ∀ n, kk ≠ .strs n) (hv : KRel k v) : ∀ (ents : List (Key × AV)) (me : List MapEntry) (i : Nat), me.length = ents.length → (∀ e ∈ ents, e.1.kind = kk) →
    (∀ (j : Nat) (h : j < ents.length) (h' : j < me.length), KRel ents[j].1 me[j].key) →
    (findKeyA k ents = none ∧ Instr.findNow (kkDesc kk) v me i = some none ∧ (∀ x, setKeyA k x ents = ents ++ [(k, x)]) ∧ delKeyA k ents = ents) ∨
    (∃ (j : Nat) (h : j < ents.length) (h' : j < me.length), findKeyA k ents = some ents[j].2 ∧ Instr.findNow (kkDesc kk) v me i = some (some (i + j, me[j].val)) ∧ ents[j].1 = k ∧ (∀ x, setKeyA k x ents = ents.set j (k, x)) ∧ delKeyA k ents = ents.eraseIdx j)
  | [], [], i, _, _, _ => .inl ⟨rfl, rfl, fun x => rfl, rfl⟩
  | [], _ :: _, _, hl, _, _ => by simp at hl
  | _ :: _, [], _, hl, _, _ => by simp at hl
  | (k', u) :: ents, e :: me, i, hl, hall, hr => by
    have h0 : KRel k' e.key := hr 0 (by simp) (by simp)
    have hs := sameNow_key hk (hall (k', u) (by simp)) hkk hv h0
    by_cases he : k' = k
    · refine .inr ⟨0, by simp, by simp, ?_, ?_, ?_, fun x => ?_, ?_⟩
      · simp [findKeyA, he]
      · simp [Instr.findNow, hs, he]
      · simpa using he
      · simp [setKeyA, he]
      · simp [delKeyA, he]
    · have ih := findNow_sound hk hkk hv ents me (i + 1) (by simpa using hl) (fun e he => hall e (by simp [he])) (fun j h h' => hr (j + 1) (by simp; omega) (by simp; omega))
      rcases ih with ⟨h1, h2, h3, h4⟩ | ⟨j, hj, hj', h1, h2, h3, h4, h5⟩
      · refine .inl ⟨by simp [findKeyA, he, h1], by simp [Instr.findNow, hs, he, h2], fun x => by simp [setKeyA, he, h3], by simp [delKeyA, he, h4]⟩
      · refine .inr ⟨j + 1, by simp; omega, by simp; omega, by simp [findKeyA, he, h1], ?_, by simpa using h3, fun x => by simp [setKeyA, he, h4], by simp [delKeyA, he, h5]⟩
        simp only [Instr.findNow, hs, he, decide_false, h2, List.getElem_cons_succ]
        congr 3; omega
theorem strsOf_rel : ∀ {l : List AV} {r : List ByteArray} {vs : List Value}, strsOf l = some r → vs.length = l.length → (∀ (j : Nat) (h : j < l.length), VRel X l[j] (vs.getD j undef)) → vs = r.map Value.string
  | [], r, vs, h, hl, _ => by
    cases h
    simpa using hl
  | x :: l, r, vs, h, hl, hr => by
    cases vs with
    | nil => simp at hl
    | cons v vs =>
      have h0 := hr 0 (by simp)
      unfold strsOf at h
      split at h
      · cases ‹_ :: _ = []›
      · rename_i s l' he
        cases he
        split at h
        · rename_i r' hr'
          cases h
          have e := (inv_str h0).1
          have e : v = .string s := by simpa using e
          rw [strsOf_rel (vs := vs) hr' (by simpa using hl) (fun j hj => by
            have := hr (j + 1) (by simpa using hj)
            rwa [List.getElem_cons_succ, List.getD_cons_succ] at this), e]
          rfl
        · cases h
      · cases h
theorem key_rel {x : AV} {v : Value} {k : Key} (hv : VRel X x v) (h : keyOf x = some k) : KRel k v := by
  unfold keyOf at h
  split at h
  · split at h
    · rename_i l r hr
      cases h
      obtain ⟨arr, rfl, h1, h2⟩ := inv_ag hv
      have := strsOf_rel (X := X) (vs := arr.toList) hr (by simpa using h1) (fun j hj => by simpa [List.getD_eq_getElem?_getD, Array.getD_eq_getD_getElem?] using h2 j hj)
      show Value.agg arr = _
      rw [← this]
    · cases h
  · cases h; exact (inv_str hv).1
  · cases h; exact inv_int hv
  · cases h
theorem kind_two {k : Key} (h : k.kind = .strs 2) : ∃ a b, k = .ss [a, b] := by
  cases k with
  | s b => cases h
  | i k n => cases h
  | ss l =>
    simp only [Key.kind, KK.strs.injEq] at h
    match l, h with
    | [a, b], _ => exact ⟨a, b, rfl⟩
theorem size_one {e : TypeId} {i : TypeInfo} (hi : P.info? e = some i) (hs : i.size = 1) : P.cellsOf e = 1 := by
  simp [Program.cellsOf, hi, hs]
theorem run_size_one {e : TypeId} {i : TypeInfo} (hi : P.info? e = some i) (hs : i.size = 1) (w : World) : (sizeOf e).run P w = .ok 1 w := by
  rw [Go.run_sizeOf w hi, size_one hi hs]
theorem part_str {e : TypeId} (he : P.underlying e = some .string) {arr : Array Value} {i : Nat} {v : Value} (h : arr[i]? = some v) (w : World) : (part e arr i).run P w = .ok v w := by
  unfold part isAgg
  simp only [Sem.run_bind, run_under he, Result.andThen_ok]
  simp [h]
theorem run_checkKey {t : TypeId} {kk : KK} (hu : KKOk P t kk) {k : Key} (hk : k.kind = kk) {v : Value} (hv : KRel k v) (em : Bool) (w : World) : (Instr.checkKey em 10000 t v).run P w = .ok () w := by
  show (Instr.checkKey em (9999 + 1) t v).run P w = _
  cases hu with
  | str hu => unfold Instr.checkKey; simp [run_under hu]
  | int hu => unfold Instr.checkKey; simp [run_under hu]
  | @strs e i hu he hi hs =>
    obtain ⟨a, b, rfl⟩ := kind_two hk
    subst hv
    have one : ∀ (s : ByteArray) w, (Instr.checkKey em 9999 e (.string s)).run P w = .ok () w := fun s w => by
      show (Instr.checkKey em (9998 + 1) e _).run P w = _
      unfold Instr.checkKey; simp [run_under he]
    have p0 : ∀ w, (part e #[Value.string a, Value.string b] 0).run P w = .ok (.string a) w := fun w => part_str he rfl w
    have p1 : ∀ w, (part e #[Value.string a, Value.string b] 1).run P w = .ok (.string b) w := fun w => part_str he rfl w
    unfold Instr.checkKey
    simp only [Sem.run_bind, run_under hu, Result.andThen_ok, List.map_cons, List.map_nil]
    simp only [Std.Legacy.Range.forIn_eq_forIn_range', Std.Legacy.Range.size, Nat.sub_zero, Nat.add_one_sub_one, Nat.div_one, List.range'_succ, List.range'_zero, List.forIn_cons, List.forIn_nil, Sem.run_bind, Sem.run_pure, Result.andThen_ok, run_size_one hi hs, Nat.zero_mul, Nat.one_mul, Nat.mul_one, Nat.zero_add, p0, p1, one]
theorem equal_two {t e : TypeId} {i : TypeInfo} (hu : P.underlying t = some (.array 2 e)) (he : P.underlying e = some .string) (hi : P.info? e = some i) (hs : i.size = 1) (a b c d : ByteArray) (w : World) :
    (Op.equal t (.agg #[.string a, .string b]) (.agg #[.string c, .string d])).run P w = .ok (decide (Key.ss [c, d] = Key.ss [a, b])) w := by
  have hc : P.cellsOf e = 1 := size_one hi hs
  have p0 : ∀ (x y : ByteArray) w, (part e #[Value.string x, Value.string y] 0).run P w = .ok (.string x) w := fun x y w => part_str he rfl w
  have p1 : ∀ (x y : ByteArray) w, (part e #[Value.string x, Value.string y] 1).run P w = .ok (.string y) w := fun x y w => part_str he rfl w
  show (Op.equalIn (9999 + 1) t _ _).run P w = _
  rw [run_equalIn_array w 9999 _ _ hu hi, hc, show List.range 2 = [0, 1] from rfl]
  simp only [Op.eqItems, Nat.zero_mul, Nat.one_mul, Sem.run_bind, p0, p1, Result.andThen_ok, run_equalIn_string _ _ e _ _ he, bytes_eq_iff]
  by_cases h1 : a = c
  · subst h1
    by_cases h2 : b = d
    · subst h2; simp [p1, run_equalIn_string _ _ e _ _ he, bytes_eq_iff]
    · have h2' : ¬ d = b := fun e => h2 e.symm
      simp [h2, h2', p1, run_equalIn_string _ _ e _ _ he, bytes_eq_iff]
  · have h1' : ¬ c = a := fun e => h1 e.symm
    simp [h1, h1']
theorem findAsk_sound {t : TypeId} {k : Key} {v : Value} (hu : KKOk P t (.strs 2)) (hk : k.kind = .strs 2) (hv : KRel k v) (w : World) : ∀ (ents : List (Key × AV)) (me : List MapEntry) (i : Nat), me.length = ents.length → (∀ e ∈ ents, e.1.kind = .strs 2) →
    (∀ (j : Nat) (h : j < ents.length) (h' : j < me.length), KRel ents[j].1 me[j].key) →
    (findKeyA k ents = none ∧ (Instr.findAsking t v me i).run P w = .ok none w ∧ (∀ x, setKeyA k x ents = ents ++ [(k, x)]) ∧ delKeyA k ents = ents) ∨
    (∃ (j : Nat) (h : j < ents.length) (h' : j < me.length), findKeyA k ents = some ents[j].2 ∧ (Instr.findAsking t v me i).run P w = .ok (some (i + j, me[j].val)) w ∧ ents[j].1 = k ∧ (∀ x, setKeyA k x ents = ents.set j (k, x)) ∧ delKeyA k ents = ents.eraseIdx j)
  | [], [], i, _, _, _ => .inl ⟨rfl, rfl, fun x => rfl, rfl⟩
  | [], _ :: _, _, hl, _, _ => by simp at hl
  | _ :: _, [], _, hl, _, _ => by simp at hl
  | (k', u) :: ents, e :: me, i, hl, hall, hr => by
    have h0 : KRel k' e.key := hr 0 (by simp) (by simp)
    have hs : (Op.equal t v e.key).run P w = .ok (decide (k' = k)) w := by
      obtain ⟨a, b, rfl⟩ := kind_two hk
      obtain ⟨c, d, rfl⟩ := kind_two (hall (k', u) (by simp))
      cases hu with
      | strs h1 h2 h3 h4 =>
        rw [show v = .agg #[.string a, .string b] from hv, show e.key = .agg #[.string c, .string d] from h0]
        exact equal_two h1 h2 h3 h4 a b c d w
    by_cases he : k' = k
    · refine .inr ⟨0, by simp, by simp, ?_, ?_, ?_, fun x => ?_, ?_⟩
      · simp [findKeyA, he]
      · simp [Instr.findAsking, hs, he]
      · simpa using he
      · simp [setKeyA, he]
      · simp [delKeyA, he]
    · have ih := findAsk_sound hu hk hv w ents me (i + 1) (by simpa using hl) (fun e he => hall e (by simp [he])) (fun j h h' => hr (j + 1) (by simp; omega) (by simp; omega))
      rcases ih with ⟨h1, h2, h3, h4⟩ | ⟨j, hj, hj', h1, h2, h3, h4, h5⟩
      · refine .inl ⟨by simp [findKeyA, he, h1], by simp [Instr.findAsking, hs, he, h2], fun x => by simp [setKeyA, he, h3], by simp [delKeyA, he, h4]⟩
      · refine .inr ⟨j + 1, by simp; omega, by simp; omega, by simp [findKeyA, he, h1], ?_, by simpa using h3, fun x => by simp [setKeyA, he, h4], by simp [delKeyA, he, h5]⟩
        simp only [Instr.findAsking, Sem.run_bind, hs, he, decide_false, Result.andThen_ok, Bool.false_eq_true, if_false, h2, List.getElem_cons_succ]
        congr 3; omega
theorem findNow_two {n : Nat} {e : TypeId} {v : Value} : ∀ (me : List MapEntry) (i : Nat), Instr.findNow (.array n e) v me i = none ∨ me = []
  | [], _ => .inr rfl
  | x :: me, i => .inl (by simp [Instr.findNow, Instr.sameNow])
theorem findK_sound {t : TypeId} {k : Key} {v : Value} {kk : KK} (hu : KKOk P t kk) (hk : k.kind = kk) (hv : KRel k v) (w : World) (ents : List (Key × AV)) (me : List MapEntry) (hl : me.length = ents.length) (hall : ∀ e ∈ ents, e.1.kind = kk)
    (hr : ∀ (j : Nat) (h : j < ents.length) (h' : j < me.length), KRel ents[j].1 me[j].key) :
    (findKeyA k ents = none ∧ (Instr.findKey t v me).run P w = .ok none w ∧ (∀ x, setKeyA k x ents = ents ++ [(k, x)]) ∧ delKeyA k ents = ents) ∨
    (∃ (j : Nat) (h : j < ents.length) (h' : j < me.length), findKeyA k ents = some ents[j].2 ∧ (Instr.findKey t v me).run P w = .ok (some (j, me[j].val)) w ∧ ents[j].1 = k ∧ (∀ x, setKeyA k x ents = ents.set j (k, x)) ∧ delKeyA k ents = ents.eraseIdx j) := by
  by_cases hn : ∀ n, kk ≠ .strs n
  · have hb := kkok_bare hu hn
    rcases findNow_sound hk hn hv ents me 0 hl hall hr with ⟨h1, h2, h3⟩ | ⟨j, hj, hj', h1, h2, h3⟩
    · exact .inl ⟨h1, by simp [Instr.findKey, run_under hb, h2], h3⟩
    · exact .inr ⟨j, hj, hj', h1, by simp [Instr.findKey, run_under hb, h2], h3⟩
  · cases hu with
    | str hu => exact absurd (fun n h => by cases h) hn
    | int hu => exact absurd (fun n h => by cases h) hn
    | @strs e i h1 h2 h3 h4 =>
      have hf : (Instr.findKey t v me).run P w = (Instr.findAsking t v me 0).run P w := by
        rcases findNow_two (n := 2) (e := e) (v := v) me 0 with h | rfl
        · simp [Instr.findKey, run_under h1, h]
        · simp [Instr.findKey, run_under h1, Instr.findNow, Instr.findAsking]
      rw [hf]
      rcases findAsk_sound (.strs h1 h2 h3 h4) hk hv w ents me 0 hl hall hr with h | ⟨j, hj, hj', q1, q2, q3⟩
      · exact .inl h
      · exact .inr ⟨j, hj, hj', q1, by simpa using q2, q3⟩
theorem ldAV_zero {e : TypeId} {k : TK} {z : Value} {kk : AV → Prop} (hK : KOk P K) (hk : K e = some k) (hz : k.zero.length = k.sz) (hr : ∀ (j : Nat) (h : j < k.zero.length), VRel X k.zero[j] (z.cells.getD j undef)) (h1 : z.cells.size = k.sz)
    (hag : k.agg = true → ∃ arr, z = .agg arr) (hna : k.agg = false → z.cells = #[z]) (h : ldAV K e k.zero kk) : ∃ av, VRel X av z ∧ kk av := by
  unfold ldAV at h
  rw [hk] at h
  simp only at h
  cases hg : k.agg with
  | true =>
    obtain ⟨arr, rfl⟩ := hag hg
    rw [hg] at h
    simp only [if_true] at h
    refine ⟨_, .ag ?_ (fun j hj => ?_), (chk_iff.1 h).2⟩
    · simp [Value.cells] at h1; simp; omega
    · simp only [List.length_take] at hj
      simp only [List.getElem_take]
      exact hr j (by omega)
  | false =>
    rw [hg] at h
    simp only [Bool.false_eq_true, if_false] at h
    split at h
    · rename_i c rest hzero
      refine ⟨c, ?_, h⟩
      have := hr 0 (by rw [hzero]; simp)
      rw [hna hg] at this
      simpa [hzero] using this
    · exact h.elim
theorem findK_at {t : TypeId} {k : Key} {v : Value} {kk : KK} (hu : KKOk P t kk) (hk : k.kind = kk) (hv : KRel k v) (w w' : World) (ents : List (Key × AV)) (me : List MapEntry) (hl : me.length = ents.length) (hall : ∀ e ∈ ents, e.1.kind = kk)
    (hr : ∀ (j : Nat) (h : j < ents.length) (h' : j < me.length), KRel ents[j].1 me[j].key) {i : Nat} (hi : i < ents.length) (hi' : i < me.length) (h : (Instr.findKey t v me).run P w = .ok (some (i, me[i].val)) w) : (Instr.findKey t v me).run P w' = .ok (some (i, me[i].val)) w' := by
  by_cases hn : ∀ n, kk ≠ .strs n
  · have hb := kkok_bare hu hn
    rcases findNow_sound hk hn hv ents me 0 hl hall hr with ⟨_, h2, _⟩ | ⟨j, hj, hj', _, h2, _⟩
    · simp [Instr.findKey, run_under hb, h2] at h
    · simp [Instr.findKey, run_under hb, h2] at h
      obtain ⟨rfl, _⟩ := h
      simp [Instr.findKey, run_under hb, h2]
  · cases hu with
    | str hu => exact absurd (fun n h => by cases h) hn
    | int hu => exact absurd (fun n h => by cases h) hn
    | @strs e ii h1 h2 h3 h4 =>
      have hf : ∀ w, (Instr.findKey t v me).run P w = (Instr.findAsking t v me 0).run P w := fun w => by
        rcases findNow_two (n := 2) (e := e) (v := v) me 0 with h | rfl
        · simp [Instr.findKey, run_under h1, h]
        · simp [Instr.findKey, run_under h1, Instr.findNow, Instr.findAsking]
      rw [hf] at h ⊢
      have key : ∀ (ents : List (Key × AV)) (me : List MapEntry) (n : Nat) (r : Option (Nat × Value)), me.length = ents.length → (∀ e ∈ ents, e.1.kind = .strs 2) → (∀ (j : Nat) (h : j < ents.length) (h' : j < me.length), KRel ents[j].1 me[j].key) →
          (Instr.findAsking t v me n).run P w = .ok r w → (Instr.findAsking t v me n).run P w' = .ok r w' := by
        intro ents
        induction ents with
        | nil =>
          intro me n r hl _ _ h
          have : me = [] := List.eq_nil_of_length_eq_zero (by simpa using hl)
          subst this
          simp [Instr.findAsking] at h ⊢
          exact h
        | cons p ents ih =>
          intro me n r hl hall hr h
          cases me with
          | nil => simp at hl
          | cons e1 me =>
            have h0 : KRel p.1 e1.key := hr 0 (by simp) (by simp)
            obtain ⟨a, b, rfl⟩ := kind_two hk
            obtain ⟨c, d, hp⟩ := kind_two (hall p (by simp))
            have hs : ∀ w, (Op.equal t v e1.key).run P w = .ok (decide (Key.ss [c, d] = Key.ss [a, b])) w := fun w => by
              rw [hp] at h0
              rw [show v = .agg #[.string a, .string b] from hv, show e1.key = .agg #[.string c, .string d] from h0]
              exact equal_two h1 h2 h3 h4 a b c d w
            unfold Instr.findAsking at h ⊢
            simp only [Sem.run_bind, hs, Result.andThen_ok] at h ⊢
            by_cases hd : Key.ss [c, d] = Key.ss [a, b]
            · simp [hd] at h ⊢; exact h
            · simp [hd] at h ⊢
              exact ih me (n + 1) r (by simpa using hl) (fun e he => hall e (by simp [he])) (fun j h h' => hr (j + 1) (by simp; omega) (by simp; omega)) h
      exact key ents me 0 _ hl hall hr h
theorem ldAV_mk {e : TypeId} {k : TK} {kk : AV → Prop} (hk : K e = some k) (hz : k.zero.length = k.sz) (hne : k.agg = true ∨ 1 ≤ k.zero.length) (h : kk (zeroA k.agg k.zero)) : ldAV K e k.zero kk := by
  unfold ldAV
  rw [hk]
  simp only
  cases hg : k.agg with
  | true =>
    rw [hg] at h
    simp only [if_true]
    refine chk_iff.2 ⟨by simp [hz], ?_⟩
    rw [← hz, List.take_length]
    exact h
  | false =>
    rw [hg] at h hne
    simp only [Bool.false_eq_true, if_false]
    simp only [zeroA] at h
    split
    · rename_i c l hc
      rw [hc] at h
      exact h
    · rename_i hc
      rw [hc] at hne
      simp at hne
theorem ref_inj {sh : Shp} {b c : Nat} (h : sh.ref b = sh.ref c) : b = c := by
  cases sh <;> simp [Shp.ref] at h <;> exact h
theorem find_blk (sh : Shp) (ky : Key) : ∀ l, findKeyA ky (entsF sh l) = (blkF ky l).map fun b => .d (.v (sh.ref b))
  | [] => rfl
  | e :: l => by
    simp only [entsF, List.map_cons, findKeyA, blkF]
    split
    · rfl
    · exact find_blk sh ky l
theorem del_idx {sh : Shp} {ky : Key} : ∀ {l : List (Key × Nat × Rec)} (i : Nat) (hi : i < l.length), (l.map (·.2.1)).Nodup → findKeyA ky (entsF sh l) = some (.d (.v (sh.ref l[i].2.1))) → l[i].1 = ky → delF ky l = l.eraseIdx i
  | [], i, hi, _, _, _ => absurd hi (by simp)
  | e :: l, 0, _, _, _, hk => by
    simp only [List.getElem_cons_zero] at hk
    simp [delF, hk]
  | e :: l, i + 1, hi, hn, hf, hk => by
    rw [List.map_cons, List.nodup_cons] at hn
    simp only [List.getElem_cons_succ] at hf hk
    simp only [entsF, List.map_cons, findKeyA] at hf
    unfold delF
    split
    · rename_i he
      rw [if_pos he] at hf
      have := ref_inj (D.v.inj (AV.d.inj (Option.some.inj hf)))
      exact absurd (this ▸ List.mem_map_of_mem (f := fun x : Key × Nat × Rec => x.2.1) (List.getElem_mem (by simpa using hi))) hn.1
    · rename_i he
      rw [if_neg he] at hf
      rw [List.eraseIdx_cons_succ, del_idx i (by simpa using hi) hn.2 hf hk]
theorem fam_find {f : FamD} {t : TypeId} {ky : Key} {v : Value} (hu : KKOk P t f.kk) (hk : ky.kind = f.kk) (hv : KRel ky v) {me : Array MapEntry} (hkinds : ∀ e ∈ f.l, e.1.kind = f.kk) (hsz : me.size = f.l.length) (hent : ∀ (j : Nat) (h : j < me.size), ∀ h' : j < f.l.length, KRel f.l[j].1 me[j].key ∧ me[j].val = f.sh.ref f.l[j].2.1) (w : World) :
    (blkF ky f.l = none ∧ (Instr.findKey t v me.toList).run P w = .ok none w) ∨ ∃ (i : Nat) (hi : i < f.l.length) (hi' : i < me.size), blkF ky f.l = some f.l[i].2.1 ∧ (∀ w, (Instr.findKey t v me.toList).run P w = .ok (some (i, me[i].val)) w) ∧ f.l[i].1 = ky ∧ findKeyA ky (entsF f.sh f.l) = some (.d (.v (f.sh.ref f.l[i].2.1))) := by
  have hl : (entsF f.sh f.l).length = f.l.length := by simp [entsF]
  have h1 : me.toList.length = (entsF f.sh f.l).length := by simpa [entsF] using hsz
  have h2 : ∀ e ∈ entsF f.sh f.l, e.1.kind = f.kk := fun e he => by
    obtain ⟨x, hx, rfl⟩ := List.mem_map.1 he
    exact hkinds x hx
  have h3 : ∀ (j : Nat) (h : j < (entsF f.sh f.l).length) (h' : j < me.toList.length), KRel (entsF f.sh f.l)[j].1 me.toList[j].key := fun j h h' => by
    have := (hent j (by simpa using h') (by omega)).1
    simpa [entsF] using this
  have hfb := find_blk f.sh ky f.l
  rcases findK_sound hu hk hv w (entsF f.sh f.l) me.toList h1 h2 h3 with ⟨f1, f2, _⟩ | ⟨i, hi, hi', f1, f4, f3, _⟩
  · refine .inl ⟨?_, f2⟩
    rw [f1] at hfb
    cases hb : blkF ky f.l with
    | none => rfl
    | some b => rw [hb] at hfb; cases hfb
  · have hi2 : i < me.size := by simpa using hi'
    have e1 : (entsF f.sh f.l)[i].2 = .d (.v (f.sh.ref f.l[i].2.1)) := by simp [entsF]
    refine .inr ⟨i, by omega, hi2, ?_, fun w' => ?_, by simpa [entsF] using f3, by rw [f1, e1]⟩
    · rw [f1, e1] at hfb
      cases hb : blkF ky f.l with
      | none => rw [hb] at hfb; cases hfb
      | some b =>
        rw [hb] at hfb
        have h0 : f.sh.ref f.l[i].2.1 = f.sh.ref b := by simpa using hfb
        rw [ref_inj h0]
    · have := findK_at hu hk hv w w' (entsF f.sh f.l) me.toList h1 h2 h3 hi hi' f4
      simpa using this
theorem y_lookupG {C : World → Prop} {k0 : AV → Prop} {t : TypeId} {x y : Operand} {ok : Bool} (hK : KOk P K) (hs : SRel w0 own0 X s a)
    (hO : ∀ j ob, s.ev x = .mp j → s.o[j]? = some ob → ob.live = true → X.z j = false → ∀ w', C w' → w'.heap[X.b j]? = X.w.heap[X.b j]?) (hO2 : ∀ b, s.ev x = .d (.v (.map (some b))) → b < X.w.heap.size → ∀ w', C w' → w'.heap[b]? = X.w.heap[b]?) (ho : o.op = .lookup t x y ok) (h : aOp K Γ s (.lookup t x y ok) fun v _ _ => k0 v) : Yields P C X a o k0 := by
  simp only [aOp] at h
  have hx := ev_sound hs x
  have hy := ev_sound hs y
  split at h
  · rename_i kt e hkd
    have hu := kd_ok hK hkd
    split at h
    · rename_i k ky hk hky
      replace h := chk_iff.1 h
      obtain ⟨hz, h⟩ := h
      have hz : k.zero.length = k.sz := by simpa using hz
      obtain ⟨z, hr, z1, z2, z3, z4⟩ := run_zero (hK e k hk) hz
      have fin : ∀ (v : Value) (av : AV) (b : Bool), VRel X av v → k0 (if ok then .tp [av, .d (.v (.bool b))] else av) →
          (∀ w', C w' → (Instr.lookup t (a.eval x) (a.eval y) ok).run P w' = .ok (if ok then .tuple #[v, .bool b] else v) w') → Yields P C X a o k0 := by
        intro v av b hv hq hrun
        refine ⟨if ok then .tuple #[v, .bool b] else v, _, fun w' hw' => by simp [execOp, ho, hrun w' hw'], ?_, hq⟩
        cases ok with
        | false => exact hv
        | true =>
          refine .tp (by simp) (fun j hj => ?_)
          match j, hj with
          | 0, _ => exact hv
          | 1, _ => exact mkv rfl
      split at h
      · rename_i ex
        replace h := chk_iff.1 h
        obtain ⟨hkk, h⟩ := h
        have hkk : kkOf K kt = some ky.kind := by simpa using hkk
        rw [ex] at hx
        have ev := (inv_v hx).1
        obtain ⟨av, hav, hq⟩ := ldAV_zero (X := X) hK hk hz (fun j hj => z2 X j hj) z1 z3 z4 h
        refine fin z av false hav hq fun w' hw' => ?_
        have hn := kk_ok hK hkk
        have hkr := key_rel hy hky
        rcases findK_sound hn rfl hkr w' [] [] rfl (by simp) (fun j h => absurd h (by simp)) with ⟨_, hf, _⟩ | ⟨j, hj, _⟩
        · simp [Instr.lookup, run_under hu, ev, run_checkKey hn rfl hkr, hf, hr]
        · exact absurd hj (by simp)
      · rename_i j ex
        rw [ex] at hx
        obtain ⟨ev, _⟩ := inv_mp hx
        split at h
        · rename_i kk ents hj
          replace h := chk_iff.1 h
          obtain ⟨h0, h⟩ := h
          simp only [Bool.and_eq_true, decide_eq_true_eq] at h0
          obtain ⟨hkk, hkind⟩ := h0
          replace h : (match findKeyA ky ents with | some v => ∃ u, u = v ∧ k0 (if ok then .tp [u, .d (.v (.bool true))] else u) | none => ldAV K e k.zero fun z => k0 (if ok then .tp [z, .d (.v (.bool false))] else z)) := by
            split at h
            · obtain ⟨hne, h⟩ := chk_iff.1 h
              obtain ⟨v0, h1, h2⟩ := exK_spec h
              cases hfk : findKeyA ky ents with
              | none =>
                have eo : getO ky ents (zeroA k.agg k.zero) = zeroA k.agg k.zero := by simp [getO, hfk]
                have eh : hasK ky ents = false := by simp [hasK, hfk]
                rw [← h1, eo, eh] at h2
                exact ldAV_mk hk hz (by simpa using hne) h2
              | some v =>
                have eo : getO ky ents (zeroA k.agg k.zero) = v := by simp [getO, hfk]
                have eh : hasK ky ents = true := by simp [hasK, hfk]
                rw [← h1, eo, eh] at h2
                exact ⟨v, rfl, h2⟩
            · replace h := lkK_find h
              cases hfk : findKeyA ky ents with
              | none => rw [hfk] at h; exact h
              | some v => rw [hfk] at h; exact ⟨v, rfl, h⟩
          have hn := kk_ok hK hkk
          obtain ⟨hzj, hall, me, clock, hh, hsz, _, _, hent⟩ := hs.g.rel j _ hj
          have hkr := key_rel hy hky
          have hhw : ∀ w', C w' → w'.heap[X.b j]? = some (.map me clock) := fun w' hw' => (hO j _ ex hj rfl hzj w' hw').trans hh
          have hf := fun w' => findK_sound (P := P) hn hkind hkr w' ents me.toList (by simpa using hsz) (fun e he => (hall e he).1) (fun j h1 h2 => by
            have := (hent j h1 (by simpa using h2)).1
            simpa using this)
          rcases hf X.w with ⟨f1, _, _⟩ | ⟨i, hi, hi', f1, f4, f3, _⟩
          · rw [f1] at h
            obtain ⟨av, hav, hq⟩ := ldAV_zero (X := X) hK hk hz (fun j hj => z2 X j hj) z1 z3 z4 h
            refine fin z av false hav hq fun w' hw' => ?_
            have hh := hhw w' hw'
            have f2 : (Instr.findKey kt (a.eval y) me.toList).run P w' = .ok none w' := by
              rcases hf w' with ⟨_, f2, _⟩ | ⟨i, _, _, f1', _⟩
              · exact f2
              · rw [f1] at f1'; cases f1'
            simp [Instr.lookup, run_under hu, ev, getObj, getObj, Sem.run, hh, run_checkKey hn hkind hkr, f2, hr]
          · rw [f1] at h
            obtain ⟨u, rfl, h⟩ := h
            have hi2 : i < me.size := by simpa using hi'
            have hfv : ∀ w', (Instr.findKey kt (a.eval y) me.toList).run P w' = .ok (some (i, me.toList[i].val)) w' := fun w' => findK_at hn hkind hkr X.w w' ents me.toList (by simpa using hsz) (fun e he => (hall e he).1) (fun j h1 h2 => by
              have := (hent j h1 (by simpa using h2)).1
              simpa using this) hi hi' f4
            refine fin me[i].val ents[i].2 true (hent i hi hi2).2.2 h fun w' hw' => ?_
            have hh := hhw w' hw'
            have f2 := hfv w'
            simp [Instr.lookup, run_under hu, ev, getObj, getObj, Sem.run, hh, run_checkKey hn hkind hkr, f2, hr]
        · rename_i R hj
          split at h
          · rename_i f hft
            obtain ⟨h0, h⟩ := chk_iff.1 h
            simp only [Bool.and_eq_true, decide_eq_true_eq] at h0
            obtain ⟨hkk, hkind⟩ := h0
            have hn := kk_ok hK hkk
            obtain ⟨hzj, hkinds, ⟨me, clock, hh, hsz, _, _, hent⟩, _⟩ := fam_at hs.g hj hft
            have hkr := key_rel hy hky
            have hhw : ∀ w', C w' → w'.heap[X.b j]? = some (.map me clock) := fun w' hw' => (hO j _ ex hj rfl hzj w' hw').trans hh
            have hf := fam_find (P := P) hn hkind hkr hkinds hsz hent
            rcases hf X.w with ⟨f1, _⟩ | ⟨i, hi, hi', f1, f2, _, _⟩
            · replace h := bcase_f h (by simp [hasF, f1])
              obtain ⟨av, hav, hq⟩ := ldAV_zero (X := X) hK hk hz (fun j hj => z2 X j hj) z1 z3 z4 h
              refine fin z av false hav hq fun w' hw' => ?_
              have hh := hhw w' hw'
              have f2 : (Instr.findKey kt (a.eval y) me.toList).run P w' = .ok none w' := by
                rcases hf w' with ⟨_, f2⟩ | ⟨i, _, _, f1', _⟩
                · exact f2
                · rw [f1] at f1'; cases f1'
              simp [Instr.lookup, run_under hu, ev, getObj, getObj, Sem.run, hh, run_checkKey hn hkind hkr, f2, hr]
            · obtain ⟨b, hb, h⟩ := bcase_t h (by simp [hasF, f1])
              rw [f1] at hb
              cases hb
              have e1 := (hent i hi' hi).2
              refine fin me[i].val (.d (.v (f.sh.ref f.l[i].2.1))) true ?_ h fun w' hw' => ?_
              · rw [e1]; exact mkv (by cases f.sh <;> rfl)
              · have hh := hhw w' hw'
                have f2 := f2 w'
                simp [Instr.lookup, run_under hu, ev, getObj, getObj, Sem.run, hh, run_checkKey hn hkind hkr, f2, hr]
          · exact h.elim
        · exact h.elim
      · rename_i b ex
        rw [ex] at hx
        have ev := (inv_v hx).1
        split at h
        · rename_i i f hff
          split at h
          · rename_i kk hsh
            obtain ⟨h0, h⟩ := chk_iff.1 h
            simp only [Bool.and_eq_true, decide_eq_true_eq] at h0
            obtain ⟨hkk, hkind⟩ := h0
            have hn := kk_ok hK hkk
            have hkr := key_rel hy hky
            obtain ⟨av, hav, hzv, r, hrec, hq⟩ := ldAV_zero (X := X) hK hk hz (fun j hj => z2 X j hj) z1 z3 z4 h
            subst hzv
            have hzs := (inv_v hav).1
            obtain ⟨R, hi, ht'⟩ := findF_at hff
            obtain ⟨hzz, hfam⟩ := fam_at hs.g hi ht'
            obtain ⟨m, hm, rfl, rfl⟩ := recF_mem hrec
            obtain ⟨_, hfp, hmem⟩ := hfam.2.2.2 m hm
            rw [hsh] at hmem
            simp only [MemP] at hmem
            obtain ⟨hkinds, me, clock, hh, hsz, _, _, hent⟩ := hmem
            have hlt := hs.g.ltB i _ hi rfl hzz _ (.inr hfp)
            have hhw : ∀ w', C w' → w'.heap[m.2.1]? = some (.map me clock) := fun w' hw' => (hO2 _ ex hlt w' hw').trans hh
            have hf := fun w' => findK_sound (P := P) hn hkind hkr w' m.2.2.m me.toList (by simpa using hsz) hkinds (fun j h1 h2 => by
              have := (hent j (by simpa using h2) h1).1
              simpa using this)
            rcases hf X.w with ⟨f1, _, _⟩ | ⟨n, hi1, hi', f1, f4, f3, _⟩
            · have e1 : getS ky m.2.2.m = ⟨#[]⟩ := by simp [getS, f1]
              have e2 : hasK ky m.2.2.m = false := by simp [hasK, f1]
              rw [e1, e2] at hq
              refine fin z (.d (.v (.string ⟨#[]⟩))) false hav hq fun w' hw' => ?_
              have hh := hhw w' hw'
              have f2 : (Instr.findKey kt (a.eval y) me.toList).run P w' = .ok none w' := by
                rcases hf w' with ⟨_, f2, _⟩ | ⟨i, _, _, f1', _⟩
                · exact f2
                · rw [f1] at f1'; cases f1'
              simp [Instr.lookup, run_under hu, ev, getObj, getObj, Sem.run, hh, run_checkKey hn hkind hkr, f2, hr]
            · have hi2 : n < me.size := by simpa using hi'
              obtain ⟨_, x0, g1, g3, g2⟩ := hent n hi2 hi1
              have e1 : getS ky m.2.2.m = x0 := by simp [getS, f1, g1, strA]
              have e2 : hasK ky m.2.2.m = true := by simp [hasK, f1]
              rw [e1, e2] at hq
              have hfv : ∀ w', (Instr.findKey kt (a.eval y) me.toList).run P w' = .ok (some (n, me.toList[n].val)) w' := fun w' => findK_at hn hkind hkr X.w w' m.2.2.m me.toList (by simpa using hsz) hkinds (fun j h1 h2 => by
                have := (hent j (by simpa using h2) h1).1
                simpa using this) hi1 hi' f4
              refine fin me[n].val (.d (.v (.string x0))) true (by rw [g2]; exact mkv g3) hq fun w' hw' => ?_
              have hh := hhw w' hw'
              have f2 := hfv w'
              simp [Instr.lookup, run_under hu, ev, getObj, getObj, Sem.run, hh, run_checkKey hn hkind hkr, f2, hr]
          · exact h.elim
        · exact h.elim
      · exact h.elim
    · exact h.elim
  · exact h.elim
theorem o_lookup {t : TypeId} {x y : Operand} {ok : Bool} (hK : KOk P K) (hs : SRel w0 own0 X s a) (hT : Then w0 own0 s a q fun v w => next (a.put o.dst v) w) (ho : o.op = .lookup t x y ok) (h : aOp K Γ s (.lookup t x y ok) q) : o.wp P a X.w next Q := by
  obtain ⟨v, av, hr, hv, hk⟩ := y_lookupG (P := P) (o := o) (C := fun w' => w' = X.w) (k0 := fun v => q v s.o none) (Γ := Γ) hK hs (fun _ _ _ _ _ _ w' hw' => by rw [hw']) (fun _ _ _ w' hw' => by rw [hw']) ho (by simp only [aOp] at h ⊢; exact h)
  exact then_value hs hT (hr _ rfl) hv hk
theorem sameBits_key {k : Key} {v v' : Value} (h1 : KRel k v) (h2 : KRel k v') : Instr.sameBits 10000 v v' = true := by
  cases k with
  | s b => simp only [KRel] at h1 h2; subst h1; subst h2; simp [Instr.sameBits, bbeq]
  | i k n => simp only [KRel] at h1 h2; subst h1; subst h2; simp [Instr.sameBits]
  | ss l =>
    simp only [KRel] at h1 h2
    subst h1; subst h2
    show Instr.sameBits (9999 + 1) _ _ = true
    simp only [Instr.sameBits, beq_self_eq_true, Bool.true_and, List.all_eq_true]
    intro p hp
    obtain ⟨x, hx, rfl⟩ : ∃ x : ByteArray, x ∈ l ∧ p = (.string x, .string x) := by
      obtain ⟨i, hi, e⟩ := List.getElem_of_mem hp
      rw [List.getElem_zip] at e
      simp at hi
      refine ⟨l[i], List.getElem_mem _, ?_⟩
      rw [← e]
      simp
    show Instr.sameBits (9998 + 1) (.string x) (.string x) = true
    simp [Instr.sameBits, bbeq]
def TurnEx (P : Program) (w0 : World) (own0 : O0) (X : Cx) (s : S) (a : Act) (o : Oper) (q : Q1) (i : Nat) (n : Next) (av : AV) : Prop :=
  ∃ obj ob ob', s.o[i]? = some ob ∧ ob.live = true ∧ ob'.live = true ∧ X.z i = false ∧ (execOp a.eval o).run P X.w = .ok n (X.upd i obj).w ∧ SRel w0 own0 (X.upd i obj) ⟨s.t, s.o.set i ob'⟩ a ∧ q av (s.o.set i ob') none
theorem update_ex {t : TypeId} {m x y : Operand} (hK : KOk P K) (hs : SRel w0 own0 X s a)
    (hnb : ∀ j R, s.ev m = .mp j → s.o[j]? ≠ some (.bun R)) (hnr : ∀ b, s.ev m ≠ .d (.v (.map (some b)))) (hex : (execOp a.eval o) = (do Instr.mapUpdate t (a.eval m) (a.eval x) (a.eval y); pure .skip)) (h : aOp K Γ s (.mapUpdate t m x y) q) : ∃ j, s.ev m = .mp j ∧ TurnEx P w0 own0 X s a o q j .skip .jk := by
  simp only [aOp] at h
  have hm := ev_sound hs m
  have hx := ev_sound hs x
  have hy := ev_sound hs y
  split at h
  · rename_i kt e hkd
    have hu := kd_ok hK hkd
    split at h
    · rename_i ky j hky em
      rw [em] at hm
      obtain ⟨ev, _⟩ := inv_mp hm
      split at h
      · rename_i R hR
        exact absurd hR (hnb j R em)
      · rename_i kk ents hj
        replace h := chk_iff.1 h
        obtain ⟨h0, h⟩ := h
        simp only [Bool.and_eq_true, decide_eq_true_eq] at h0
        obtain ⟨⟨⟨hkk, hkind⟩, hfirm⟩, hrig⟩ := h0
        have hrig : kk.isSy = true → (s.ev y).rigid = true := fun h => by rw [h] at hrig; simpa using hrig
        have hq : q .jk (s.o.set j (.map kk (setKeyA ky (s.ev y) ents))) none := by
          split at h
          · exact h
          · exact stK_set h
        have hn := kk_ok hK hkk
        have hkr := key_rel hx hky
        obtain ⟨hz, hall, me, clock, hh, hsz, hborn, hinj, hent⟩ := hs.g.rel j _ hj
        have hf := findK_sound hn hkind hkr X.w ents me.toList (by simpa using hsz) (fun e he => (hall e he).1) (fun j h1 h2 => by
          have := (hent j h1 (by simpa using h2)).1
          simpa using this)
        have step : ∀ (me' : Array MapEntry) (clock' : Nat), (Instr.mapUpdate t (a.eval m) (a.eval x) (a.eval y)).run P X.w = .ok () { X.w with heap := X.w.heap.setIfInBounds (X.b j) (.map me' clock') } →
            me'.size = (setKeyA ky (s.ev y) ents).length → (∀ e ∈ setKeyA ky (s.ev y) ents, e.1.kind = kk.base ∧ (kk.isSy = true → e.2.rigid = true)) → (∀ (i : Nat) (h : i < me'.size), me'[i].born < clock') → (∀ (i k : Nat) (hi : i < me'.size) (hk : k < me'.size), me'[i].born = me'[k].born → i = k) →
            (∀ (i : Nat) (h : i < (setKeyA ky (s.ev y) ents).length) (h' : i < me'.size), KRel (setKeyA ky (s.ev y) ents)[i].1 me'[i].key ∧ (setKeyA ky (s.ev y) ents)[i].2.firm = true ∧ VRel X (setKeyA ky (s.ev y) ents)[i].2 me'[i].val) → ∃ j, s.ev m = .mp j ∧ TurnEx P w0 own0 X s a o q j .skip .jk := by
          intro me' clock' hrun g1 g2 g3 g4 g5
          have hkp := upd_keeps hs.g hj rfl hz (.map me' clock')
          have hnew : ORel (X.upd j (.map me' clock')) j (.map kk (setKeyA ky (s.ev y) ents)) := by
            refine ⟨hz, g2, me', clock', ?_, g1, g3, g4, fun i hi hi' => ⟨(g5 i hi hi').1, (g5 i hi hi').2.1, (g5 i hi hi').2.2.step hkp (Nat.le_refl _) (fun _ _ => ⟨rfl, rfl, rfl, rfl⟩)⟩⟩
            show (X.upd j _).w.heap[X.b j]? = _
            rw [heap_upd, if_pos ⟨rfl, size_of_heap hh⟩]
          refine ⟨j, em, .map me' clock', _, _, hj, rfl, rfl, hz, ?_, upd_srel hs false hj rfl hz (ob' := .map kk (setKeyA ky (s.ev y) ents)) rfl (by simp) (by simp) hnew, hq⟩
          rw [hex]
          simp only [Sem.run_bind, hrun, Result.andThen_ok]
          rfl
        rcases hf with ⟨f1, f2, f3, _⟩ | ⟨i, hi, hi', f1, f2, f3, f4, _⟩
        · refine step (me.push { key := a.eval x, val := a.eval y, born := clock }) (clock + 1) ?_ ?_ ?_ ?_ ?_ ?_
          · simp [Instr.mapUpdate, run_under hu, ev, getObj, setObj, Sem.run, hh, run_checkKey hn hkind hkr, f2]
          · rw [f3]; simp [hsz]
          · rw [f3]
            intro e he
            rcases List.mem_append.1 he with he | he
            · exact hall e he
            · simp at he; subst he; exact ⟨hkind, hrig⟩
          · intro i hi
            rw [Array.getElem_push]
            split
            · have := hborn i (by assumption); omega
            · simp
          · intro i k hi hk he
            rw [Array.getElem_push, Array.getElem_push] at he
            simp only [Array.size_push] at hi hk
            split at he <;> split at he
            · exact hinj i k (by assumption) (by assumption) he
            · have := hborn i (by assumption); simp at he; omega
            · have := hborn k (by assumption); simp at he; omega
            · omega
          · rw [f3]
            intro i hi hi'
            simp only [List.getElem_append, Array.getElem_push]
            simp only [List.length_append, List.length_cons, List.length_nil] at hi
            by_cases hlt : i < ents.length
            · have hlt' : i < me.size := by omega
              simp only [hlt, hlt', dif_pos]
              exact hent i hlt hlt'
            · have hlt' : ¬ i < me.size := by omega
              simp only [hlt, hlt', dif_neg, not_false_eq_true]
              have : i - ents.length = 0 := by omega
              simp only [this, List.getElem_cons_zero]
              exact ⟨hkr, hfirm, hy⟩
        · have hi2 : i < me.size := by simpa using hi'
          have hkold : KRel ky me[i].key := by rw [← f3]; exact (hent i hi hi2).1
          refine step (me.modify i fun e => { e with key := a.eval x, val := a.eval y }) clock ?_ ?_ ?_ ?_ ?_ ?_
          · have hsb := sameBits_key hkold hkr
            simp [Instr.mapUpdate, run_under hu, ev, getObj, setObj, Sem.run, hh, run_checkKey hn hkind hkr, f2, hi2, Instr.keyThatStays, hsb]
          · rw [f4]; simp [hsz]
          · rw [f4]
            intro e he
            rcases List.mem_or_eq_of_mem_set he with he | he
            · exact hall e he
            · subst he; exact ⟨hkind, hrig⟩
          · intro k hk
            simp only [Array.size_modify] at hk
            rw [Array.getElem_modify]
            split
            · exact hborn k hk
            · exact hborn k hk
          · intro k l hk hl he
            simp only [Array.size_modify] at hk hl
            rw [Array.getElem_modify, Array.getElem_modify] at he
            refine hinj k l hk hl ?_
            split at he <;> split at he <;> exact he
          · rw [f4]
            intro k hk hk'
            simp only [List.length_set] at hk
            simp only [Array.size_modify] at hk'
            rw [Array.getElem_modify]
            simp only [List.getElem_set]
            by_cases hik : i = k
            · subst hik
              simp only [if_true]
              exact ⟨hkr, hfirm, hy⟩
            · simp only [hik, if_false]
              exact hent k hk hk'
      · exact h.elim
    · rename_i b _ em
      exact absurd em (hnr b)
    · exact h.elim
  · exact h.elim
theorem fitL_spec : ∀ {ks : List FK} {cs : List AV}, fitL ks cs = true → cs.length = ks.length ∧ ∀ (j : Nat) (h : j < ks.length) (h' : j < cs.length), fitK (some ks[j]) cs[j] = true
  | [], [], _ => ⟨rfl, fun j h => absurd h (by simp)⟩
  | [], _ :: _, h => by cases h
  | _ :: _, [], h => by cases h
  | k :: ks, x :: cs, h => by
    simp only [fitL, Bool.and_eq_true] at h
    obtain ⟨h1, h2⟩ := fitL_spec h.2
    refine ⟨by simp [h1], fun j hj hj' => ?_⟩
    cases j with
    | zero => exact h.1
    | succ j => exact h2 j (by simpa using hj) (by simpa using hj')
theorem box_mem {ks : List FK} {cs : List AV} {p : Nat} (hf : fitL ks cs = true) (h : ORel X p (.box cs)) : MemP (.box ks) ⟨fun n => intA (cs.getD n .jk), fun n => strA (cs.getD n .jk), []⟩ X.w (X.b p) := by
  obtain ⟨_, arr, T, h1, h2, h3⟩ := h
  obtain ⟨e1, e2⟩ := fitL_spec hf
  refine ⟨arr, T, h1, by omega, fun j hj => ?_⟩
  have hj' : j < cs.length := by omega
  have hfit := e2 j hj hj'
  have hv := h3 j hj'
  have hg : cs.getD j .jk = cs[j] := by simp [List.getD_eq_getElem?_getD, List.getElem?_eq_getElem hj']
  unfold fitK at hfit
  split at hfit
  · rename_i k0 j0 n0 e1 e2
    have : j0 = k0 := by simpa using hfit
    subst this
    rw [Option.some.inj e1]
    rw [e2] at hv hg
    obtain ⟨ev, hp⟩ := inv_v hv
    simp only [FK.val, hg]
    exact ⟨hp, ev⟩
  · rename_i s0 e1 e2
    rw [Option.some.inj e1]
    rw [e2] at hv hg
    obtain ⟨ev, hp⟩ := inv_v hv
    simp only [FK.val, hg]
    exact ⟨hp, ev⟩
  · cases hfit
theorem FamP.add {f : FamD} {own : Nat → Prop} {w w' : World} {b0 : Nat} {fp : Nat → Prop} (h : FamP f own w b0 fp) {ky : Key} {b : Nat} {r : Rec} (hk : ky.kind = f.kk) (hb : newF b f.l) (hb0 : b ≠ b0) (hfp : fp b) (hm : MemP f.sh r w' b) (hh : ∀ c, c ≠ b0 → w'.heap[c]? = w.heap[c]?)
    (hmap : MapW w' b0 (f.l.length + 1) fun j e => (∀ h : j < f.l.length, KRel f.l[j].1 e.key ∧ e.val = f.sh.ref f.l[j].2.1) ∧ (j = f.l.length → KRel ky e.key ∧ e.val = f.sh.ref b)) : FamP ⟨f.kk, f.sh, f.l ++ [(ky, b, r)]⟩ own w' b0 fp := by
  obtain ⟨h1, _, h3, h4⟩ := h
  refine ⟨fun e he => ?_, ?_, ?_, fun e he => ?_⟩
  · rcases List.mem_append.1 he with he | he
    · exact h1 e he
    · simp at he; subst he; exact hk
  · obtain ⟨me, clock, g1, g2, g3, g4, g5⟩ := hmap
    refine ⟨me, clock, g1, by simp [g2], g3, g4, fun j hj hj' => ?_⟩
    simp only [List.length_append, List.length_cons, List.length_nil] at hj'
    by_cases hlt : j < f.l.length
    · simp only [List.getElem_append_left hlt]
      exact (g5 j hj).1 hlt
    · have : j = f.l.length := by omega
      subst this
      simp only [List.getElem_append_right (Nat.le_refl _), Nat.sub_self, List.getElem_cons_zero]
      exact (g5 _ hj).2 rfl
  · rw [List.map_append]
    refine List.nodup_append.2 ⟨h3, by simp, fun x hx y hy e => ?_⟩
    simp at hy
    obtain ⟨z, hz, rfl⟩ := List.mem_map.1 hx
    exact hb z hz (e.trans hy)
  · rcases List.mem_append.1 he with he | he
    · exact ⟨(h4 e he).1, (h4 e he).2.1, (h4 e he).2.2.heap (hh _ (h4 e he).1)⟩
    · simp at he; subst he; exact ⟨hb0, hfp, hm⟩
theorem FamP.more {f : FamD} {own : Nat → Prop} {w : World} {b0 : Nat} {fp fp' : Nat → Prop} (h : FamP f own w b0 fp) (hf : ∀ b, fp b → fp' b) : FamP f own w b0 fp' :=
  ⟨h.1, h.2.1, h.2.2.1, fun e he => ⟨(h.2.2.2 e he).1, hf _ (h.2.2.2 e he).2.1, (h.2.2.2 e he).2.2⟩⟩
theorem turnR (hs : SRel w0 own0 X s a) {i : Nat} {R : Rep} {f : FamD} {kk : KK} (hi : s.o[i]? = some (.bun R)) (ht : R.tag = some f) (hsh : f.sh = .map kk) {m : Key × Nat × Rec} (hm : m ∈ f.l) {me' : Array MapEntry} {clock' : Nat} {ents : List (Key × AV)}
    (g0 : ∀ e ∈ ents, e.1.kind = kk) (g1 : me'.size = ents.length) (g2 : ∀ (j : Nat) (h : j < me'.size), me'[j].born < clock') (g3 : ∀ (j k : Nat) (hj : j < me'.size) (hk : k < me'.size), me'[j].born = me'[k].born → j = k)
    (g4 : ∀ (j : Nat) (h : j < me'.size) (h' : j < ents.length), KRel ents[j].1 me'[j].key ∧ ∃ x : ByteArray, ents[j].2 = .d (.v (.string x)) ∧ plainV (.string x) = true ∧ me'[j].val = .string x) :
    SRel w0 own0 (X.updC m.2.1 (.map me' clock')) ⟨s.t, s.o.set i (.bun (famR ⟨f.kk, .map kk, putM m.2.1 ⟨m.2.2.i, m.2.2.s, ents⟩ f.l⟩))⟩ a := by
  obtain ⟨hz, hfam⟩ := fam_at hs.g hi ht
  obtain ⟨hne, hfp, hmem⟩ := hfam.2.2.2 m hm
  have hlt := hs.g.ltB i _ hi rfl hz _ (.inr hfp)
  refine updC_srel hs hi rfl hz (.inr hfp) rfl (by simp) ⟨hz, ?_⟩
  have := FamP.put (w' := (X.updC m.2.1 (.map me' clock')).w) hfam (b := m.2.1) (r := ⟨m.2.2.i, m.2.2.s, ents⟩) (by rw [hsh]; exact ⟨g0, me', clock', by rw [heap_updC, if_pos ⟨rfl, hlt⟩], g1, g2, g3, g4⟩) (fun c hc => by rw [heap_updC, if_neg (fun e => hc e.1.symm)]) hne
  rw [hsh] at this
  exact this
theorem map_mem {kk kk3 : KK} {p : Nat} (h : ORel X p (.map kk3 [])) : MemP (.map kk) ⟨fun _ => 0, fun _ => ⟨#[]⟩, []⟩ X.w (X.b p) := by
  obtain ⟨_, _, me, clock, h1, h2, h3, h4, _⟩ := h
  exact ⟨fun e he => absurd he (by simp), me, clock, h1, by simpa using h2, h3, h4, fun j hj hj' => absurd hj' (by simp)⟩
theorem raw_at (hs : SRel w0 own0 X s a) {i b : Nat} {f : FamD} {kk : KK} {r : Rec} (hff : findF s.o 0 = some (i, f)) (hsh : f.sh = .map kk) (hr : recF b f.l = some r) : ∃ R m, s.o[i]? = some (.bun R) ∧ R.tag = some f ∧ m ∈ f.l ∧ m.2.1 = b ∧ m.2.2 = r ∧ (∀ e ∈ r.m, e.1.kind = kk) ∧
    ∃ (me : Array MapEntry) (clock : Nat), X.w.heap[b]? = some (.map me clock) ∧ me.size = r.m.length ∧ (∀ (j : Nat) (h : j < me.size), me[j].born < clock) ∧ (∀ (j k : Nat) (hj : j < me.size) (hk : k < me.size), me[j].born = me[k].born → j = k) ∧
      ∀ (j : Nat) (h : j < me.size) (h' : j < r.m.length), KRel r.m[j].1 me[j].key ∧ ∃ x : ByteArray, r.m[j].2 = .d (.v (.string x)) ∧ plainV (.string x) = true ∧ me[j].val = .string x := by
  obtain ⟨R, hi, ht'⟩ := findF_at hff
  obtain ⟨hzz, hfam⟩ := fam_at hs.g hi ht'
  obtain ⟨m, hm, rfl, rfl⟩ := recF_mem hr
  obtain ⟨_, hfp, hmem⟩ := hfam.2.2.2 m hm
  rw [hsh] at hmem
  simp only [MemP] at hmem
  obtain ⟨hkinds, me, clock, hh, hsz, g1, g2, hent⟩ := hmem
  exact ⟨R, m, hi, ht', hm, rfl, rfl, hkinds, me, clock, hh, hsz, g1, g2, hent⟩
theorem o_updateR {t : TypeId} {m x y : Operand} {b : Nat} (em : s.ev m = .d (.v (.map (some b)))) (hK : KOk P K) (hs : SRel w0 own0 X s a) (hT : Then w0 own0 s a q fun v w => next (a.put o.dst v) w)
    (hex : (execOp a.eval o) = (do Instr.mapUpdate t (a.eval m) (a.eval x) (a.eval y); pure .skip)) (h : aOp K Γ s (.mapUpdate t m x y) q) : o.wp P a X.w next Q := by
  simp only [aOp, em] at h
  have hm := ev_sound hs m
  have hx := ev_sound hs x
  have hy := ev_sound hs y
  rw [em] at hm
  have ev := (inv_v hm).1
  split at h
  · rename_i kt e hkd
    have hu := kd_ok hK hkd
    split at h
    · rename_i ej
      cases ej
    · rename_i ky b' hky ej
      cases ej
      split at h
      · rename_i j f v hff ey
        rw [ey] at hy
        have evy := (inv_v hy).1
        split at h
        · rename_i kk hsh
          obtain ⟨h0, r, hr, hq⟩ := chk_iff.1 h
          simp only [Bool.and_eq_true, decide_eq_true_eq] at h0
          obtain ⟨hkk, hkind⟩ := h0
          have hn := kk_ok hK hkk
          have hkr := key_rel hx hky
          obtain ⟨R, mm, hj, ht, hmm, rfl, rfl, hkinds, me, clock, hh, hsz, hborn, hinj, hent⟩ := raw_at hs hff hsh hr
          have hf := findK_sound hn hkind hkr X.w mm.2.2.m me.toList (by simpa using hsz) hkinds (fun j h1 h2 => by
            have := (hent j (by simpa using h2) h1).1
            simpa using this)
          have step : ∀ (me' : Array MapEntry) (clock' : Nat), (Instr.mapUpdate t (a.eval m) (a.eval x) (a.eval y)).run P X.w = .ok () { X.w with heap := X.w.heap.setIfInBounds mm.2.1 (.map me' clock') } →
              SRel w0 own0 (X.updC mm.2.1 (.map me' clock')) ⟨s.t, s.o.set j (.bun (famR ⟨f.kk, .map kk, putM mm.2.1 ⟨mm.2.2.i, mm.2.2.s, setKeyA ky (.d (.v (.string v))) mm.2.2.m⟩ f.l⟩))⟩ a → o.wp P a X.w next Q := by
            intro me' clock' hrun hs2
            refine then_skip' (kl := none) hs2 hT ?_ hq
            rw [hex]
            simp only [Sem.run_bind, hrun, Result.andThen_ok]
            rfl
          rcases hf with ⟨f1, f2, f3, _⟩ | ⟨i, hi, hi', f1, f2, f3, f4, _⟩
          · refine step (me.push { key := a.eval x, val := a.eval y, born := clock }) (clock + 1) ?_ (turnR hs hj ht hsh hmm ?_ ?_ ?_ ?_ ?_)
            · simp [Instr.mapUpdate, run_under hu, ev, getObj, setObj, Sem.run, hh, run_checkKey hn hkind hkr, f2]
            · rw [f3]
              intro e he
              rcases List.mem_append.1 he with he | he
              · exact hkinds e he
              · simp at he; subst he; exact hkind
            · rw [f3]; simp [hsz]
            · intro i hi
              rw [Array.getElem_push]
              split
              · have := hborn i (by assumption); omega
              · simp
            · intro i k hi hk he
              rw [Array.getElem_push, Array.getElem_push] at he
              simp only [Array.size_push] at hi hk
              split at he <;> split at he
              · exact hinj i k (by assumption) (by assumption) he
              · have := hborn i (by assumption); simp at he; omega
              · have := hborn k (by assumption); simp at he; omega
              · omega
            · rw [f3]
              intro i hi' hi
              simp only [List.getElem_append, Array.getElem_push]
              simp only [List.length_append, List.length_cons, List.length_nil] at hi
              by_cases hlt : i < mm.2.2.m.length
              · have hlt' : i < me.size := by omega
                simp only [hlt, hlt', dif_pos]
                exact hent i hlt' hlt
              · have hlt' : ¬ i < me.size := by omega
                simp only [hlt, hlt', dif_neg, not_false_eq_true]
                have : i - mm.2.2.m.length = 0 := by omega
                simp only [this, List.getElem_cons_zero]
                exact ⟨hkr, v, rfl, (inv_v hy).2, evy⟩
          · have hi2 : i < me.size := by simpa using hi'
            have hkold : KRel ky me[i].key := by rw [← f3]; exact (hent i hi2 hi).1
            refine step (me.modify i fun e => { e with key := a.eval x, val := a.eval y }) clock ?_ (turnR hs hj ht hsh hmm ?_ ?_ ?_ ?_ ?_)
            · have hsb := sameBits_key hkold hkr
              simp [Instr.mapUpdate, run_under hu, ev, getObj, setObj, Sem.run, hh, run_checkKey hn hkind hkr, f2, hi2, Instr.keyThatStays, hsb]
            · rw [f4]
              intro e he
              rcases List.mem_or_eq_of_mem_set he with he | he
              · exact hkinds e he
              · subst he; exact hkind
            · rw [f4]; simp [hsz]
            · intro k hk
              simp only [Array.size_modify] at hk
              rw [Array.getElem_modify]
              split
              · exact hborn k hk
              · exact hborn k hk
            · intro k l hk hl he
              simp only [Array.size_modify] at hk hl
              rw [Array.getElem_modify, Array.getElem_modify] at he
              refine hinj k l hk hl ?_
              split at he <;> split at he <;> exact he
            · rw [f4]
              intro k hk' hk
              simp only [List.length_set] at hk
              simp only [Array.size_modify] at hk'
              rw [Array.getElem_modify]
              simp only [List.getElem_set]
              by_cases hik : i = k
              · subst hik
                simp only [if_true]
                exact ⟨hkr, v, rfl, (inv_v hy).2, evy⟩
              · simp only [hik, if_false]
                exact hent k hk' hk
        · exact h.elim
      · exact h.elim
    · exact h.elim
  · exact h.elim
theorem o_updateF {t : TypeId} {m x y : Operand} {j : Nat} {R : Rep} (em : s.ev m = .mp j) (hj : s.o[j]? = some (.bun R)) (hK : KOk P K) (hs : SRel w0 own0 X s a) (hT : Then w0 own0 s a q fun v w => next (a.put o.dst v) w)
    (hex : (execOp a.eval o) = (do Instr.mapUpdate t (a.eval m) (a.eval x) (a.eval y); pure .skip)) (h : aOp K Γ s (.mapUpdate t m x y) q) : o.wp P a X.w next Q := by
  simp only [aOp, em] at h
  have hm := ev_sound hs m
  have hx := ev_sound hs x
  have hy := ev_sound hs y
  rw [em] at hm
  obtain ⟨ev, _⟩ := inv_mp hm
  split at h
  · rename_i kt e hkd
    have hu := kd_ok hK hkd
    split at h
    · rename_i ky j' hky ej
      cases ej
      split at h
      rotate_left
      · rename_i h'; rw [hj] at h'; cases h'
      · exact h.elim
      rename_i R' hR
      rw [hj] at hR
      cases hR
      split at h
      · rename_i f p hft ey
        rw [ey] at hy
        obtain ⟨evy, _⟩ := inv_rf hy
        split at h
        · rename_i ks cs hsh hp
          obtain ⟨h0, hnk, hq⟩ := chk_iff.1 h
          simp only [Bool.and_eq_true, decide_eq_true_eq] at h0
          obtain ⟨⟨⟨hkk, hkind⟩, hpj⟩, hfit⟩ := h0
          have hn := kk_ok hK hkk
          have hkr := key_rel hx hky
          obtain ⟨hzj, hfam⟩ := fam_at hs.g hj hft
          have hbox := hs.g.rel p _ hp
          have hzp : X.z p = false := hbox.1
          have hmem := box_mem hfit hbox
          rw [← hsh] at hmem
          obtain ⟨hkinds, ⟨me, clock, hh, hsz, hborn, hinj, hent⟩, hnd, hmb⟩ := hfam
          have hfam : FamP f X.own X.w (X.b j) (X.c j).fp := ⟨hkinds, ⟨me, clock, hh, hsz, hborn, hinj, hent⟩, hnd, hmb⟩
          have hbpj : X.b p ≠ X.b j := fun e => hpj (hs.g.inj p j _ _ hp hj rfl rfl hzp hzj e)
          have hnew : newF (X.b p) f.l := fun e he ee => hpj (hs.g.injB p j _ _ hp hj rfl rfl hzp hzj (X.b p) (.inl rfl) (.inr (ee ▸ (hmb e he).2.1)))
          -- the box goes beneath the map
          have hs1 := absorb_srel (ob' := .bun (famR f)) hs hj hp rfl rfl hzj hzp hpj rfl (fun _ _ e => by cases e) ⟨hzj, by
            show FamP f X.own X.w (X.b j) ((X.fpAt j fun b => (X.c j).fp b ∨ X.blk p b).c j).fp
            have : ((X.fpAt j fun b => (X.c j).fp b ∨ X.blk p b).c j).fp = fun b => (X.c j).fp b ∨ X.blk p b := by simp [Cx.fpAt]
            rw [this]
            exact hfam.more fun b hb => .inl hb⟩
          have hjn := lt_of_get hj
          have hj1 : ((s.o.set p .gone).set j (.bun (famR f)))[j]? = some (.bun (famR f)) := by
            rw [List.getElem?_set, if_pos rfl, if_pos (by simpa using hjn)]
          -- and the map turns
          generalize hX1 : (X.fpAt j fun b => (X.c j).fp b ∨ X.blk p b) = X1 at hs1
          have hb1 : X1.b j = X.b j := by rw [← hX1]; rfl
          have hw1 : X1.w = X.w := by rw [← hX1]; rfl
          have hfp1 : (X1.c j).fp (X.b p) := by rw [← hX1]; simp [Cx.fpAt]; exact .inr (.inl rfl)
          have hfpm : ∀ b, (X.c j).fp b → (X1.c j).fp b := fun b hb => by rw [← hX1]; simp [Cx.fpAt]; exact .inl hb
          have hz1 : X1.z j = false := by rw [← hX1]; exact hzj
          have hown1 : X1.own = X.own := by rw [← hX1]; rfl
          have hheap : ∀ c, (X1.updC (X1.b j) (.map (me.push { key := a.eval x, val := a.eval y, born := clock }) (clock + 1))).w.heap[c]? = if X.b j = c ∧ c < X.w.heap.size then some (.map (me.push { key := a.eval x, val := a.eval y, born := clock }) (clock + 1)) else X.w.heap[c]? := fun c => by
            rw [heap_updC, hb1, hw1]
          have hnewO : ORel (X1.updC (X1.b j) (.map (me.push { key := a.eval x, val := a.eval y, born := clock }) (clock + 1))) j (.bun (famR ⟨f.kk, .box ks, f.l ++ [(ky, X.b p, ⟨fun n => intA (cs.getD n .jk), fun n => strA (cs.getD n .jk), []⟩)]⟩)) := by
            refine ⟨hz1, ?_⟩
            show FamP _ X1.own (X1.updC (X1.b j) _).w (X1.b j) (X1.c j).fp
            rw [← hsh, hown1, hb1]
            refine FamP.add (w := X.w) (hfam.more hfpm) hkind hnew hbpj hfp1 (hmem.heap ?_) (fun c hc => ?_) ⟨me.push { key := a.eval x, val := a.eval y, born := clock }, clock + 1, ?_, by simp [hsz], fun i hi => ?_, fun i k hi hk he => ?_, fun i hi => ?_⟩
            · rw [← hb1, hheap, if_neg (fun e => hbpj e.1.symm)]
            · rw [← hb1, hheap, if_neg (fun e => hc e.1.symm)]
            · rw [← hb1, hheap, if_pos ⟨hb1.symm, by rw [hb1]; exact size_of_heap hh⟩]
            · rw [Array.getElem_push]
              split
              · have := hborn i (by assumption); omega
              · simp
            · rw [Array.getElem_push, Array.getElem_push] at he
              simp only [Array.size_push] at hi hk
              split at he <;> split at he
              · exact hinj i k (by assumption) (by assumption) he
              · have := hborn i (by assumption); simp at he; omega
              · have := hborn k (by assumption); simp at he; omega
              · omega
            · rw [Array.getElem_push]
              simp only [Array.size_push] at hi
              split
              · rename_i hlt
                exact ⟨hent i hlt, fun e => by omega⟩
              · refine ⟨fun h => by omega, fun _ => ⟨hkr, ?_⟩⟩
                rw [hsh]
                exact evy
          have hs2 := updC_srel (c := X1.b j) (obj := .map (me.push { key := a.eval x, val := a.eval y, born := clock }) (clock + 1)) hs1 hj1 rfl hz1 (.inl rfl) rfl (by simp) hnewO
          rw [List.set_set] at hs2
          refine then_skip' (kl := none) hs2 hT ?_ (hq (X.b p) hnew)
          rw [hex]
          have hrun : (Instr.mapUpdate t (a.eval m) (a.eval x) (a.eval y)).run P X.w = .ok () { X.w with heap := X.w.heap.setIfInBounds (X.b j) (.map (me.push { key := a.eval x, val := a.eval y, born := clock }) (clock + 1)) } := by
            rcases fam_find (P := P) hn hkind hkr hkinds hsz hent X.w with ⟨_, f2⟩ | ⟨i, _, _, f1, _⟩
            · simp [Instr.mapUpdate, run_under hu, ev, getObj, setObj, Sem.run, hh, run_checkKey hn hkind hkr, f2]
            · simp [hasF, f1] at hnk
          simp only [Sem.run_bind, hrun, Result.andThen_ok]
          show _ = Result.ok Next.skip { X1.w with heap := X1.w.heap.setIfInBounds (X1.b j) _ }
          rw [hb1, hw1]
          rfl
        · exact h.elim
      · rename_i f p hft ey
        rw [ey] at hy
        obtain ⟨evy, _⟩ := inv_mp hy
        split at h
        · rename_i kk2 kk3 hsh hp
          obtain ⟨h0, hnk, hq⟩ := chk_iff.1 h
          simp only [Bool.and_eq_true, decide_eq_true_eq] at h0
          obtain ⟨⟨hkk, hkind⟩, hpj⟩ := h0
          have hn := kk_ok hK hkk
          have hkr := key_rel hx hky
          obtain ⟨hzj, hfam⟩ := fam_at hs.g hj hft
          have hbox := hs.g.rel p _ hp
          have hzp : X.z p = false := hbox.1
          have hmem := map_mem (kk := kk2) hbox
          rw [← hsh] at hmem
          obtain ⟨hkinds, ⟨me, clock, hh, hsz, hborn, hinj, hent⟩, hnd, hmb⟩ := hfam
          have hfam : FamP f X.own X.w (X.b j) (X.c j).fp := ⟨hkinds, ⟨me, clock, hh, hsz, hborn, hinj, hent⟩, hnd, hmb⟩
          have hbpj : X.b p ≠ X.b j := fun e => hpj (hs.g.inj p j _ _ hp hj rfl rfl hzp hzj e)
          have hnew : newF (X.b p) f.l := fun e he ee => hpj (hs.g.injB p j _ _ hp hj rfl rfl hzp hzj (X.b p) (.inl rfl) (.inr (ee ▸ (hmb e he).2.1)))
          -- the box goes beneath the map
          have hs1 := absorb_srel (ob' := .bun (famR f)) hs hj hp rfl rfl hzj hzp hpj rfl (fun _ _ e => by cases e) ⟨hzj, by
            show FamP f X.own X.w (X.b j) ((X.fpAt j fun b => (X.c j).fp b ∨ X.blk p b).c j).fp
            have : ((X.fpAt j fun b => (X.c j).fp b ∨ X.blk p b).c j).fp = fun b => (X.c j).fp b ∨ X.blk p b := by simp [Cx.fpAt]
            rw [this]
            exact hfam.more fun b hb => .inl hb⟩
          have hjn := lt_of_get hj
          have hj1 : ((s.o.set p .gone).set j (.bun (famR f)))[j]? = some (.bun (famR f)) := by
            rw [List.getElem?_set, if_pos rfl, if_pos (by simpa using hjn)]
          -- and the map turns
          generalize hX1 : (X.fpAt j fun b => (X.c j).fp b ∨ X.blk p b) = X1 at hs1
          have hb1 : X1.b j = X.b j := by rw [← hX1]; rfl
          have hw1 : X1.w = X.w := by rw [← hX1]; rfl
          have hfp1 : (X1.c j).fp (X.b p) := by rw [← hX1]; simp [Cx.fpAt]; exact .inr (.inl rfl)
          have hfpm : ∀ b, (X.c j).fp b → (X1.c j).fp b := fun b hb => by rw [← hX1]; simp [Cx.fpAt]; exact .inl hb
          have hz1 : X1.z j = false := by rw [← hX1]; exact hzj
          have hown1 : X1.own = X.own := by rw [← hX1]; rfl
          have hheap : ∀ c, (X1.updC (X1.b j) (.map (me.push { key := a.eval x, val := a.eval y, born := clock }) (clock + 1))).w.heap[c]? = if X.b j = c ∧ c < X.w.heap.size then some (.map (me.push { key := a.eval x, val := a.eval y, born := clock }) (clock + 1)) else X.w.heap[c]? := fun c => by
            rw [heap_updC, hb1, hw1]
          have hnewO : ORel (X1.updC (X1.b j) (.map (me.push { key := a.eval x, val := a.eval y, born := clock }) (clock + 1))) j (.bun (famR ⟨f.kk, .map kk2, f.l ++ [(ky, X.b p, ⟨fun _ => 0, fun _ => ⟨#[]⟩, []⟩)]⟩)) := by
            refine ⟨hz1, ?_⟩
            show FamP _ X1.own (X1.updC (X1.b j) _).w (X1.b j) (X1.c j).fp
            rw [← hsh, hown1, hb1]
            refine FamP.add (w := X.w) (hfam.more hfpm) hkind hnew hbpj hfp1 (hmem.heap ?_) (fun c hc => ?_) ⟨me.push { key := a.eval x, val := a.eval y, born := clock }, clock + 1, ?_, by simp [hsz], fun i hi => ?_, fun i k hi hk he => ?_, fun i hi => ?_⟩
            · rw [← hb1, hheap, if_neg (fun e => hbpj e.1.symm)]
            · rw [← hb1, hheap, if_neg (fun e => hc e.1.symm)]
            · rw [← hb1, hheap, if_pos ⟨hb1.symm, by rw [hb1]; exact size_of_heap hh⟩]
            · rw [Array.getElem_push]
              split
              · have := hborn i (by assumption); omega
              · simp
            · rw [Array.getElem_push, Array.getElem_push] at he
              simp only [Array.size_push] at hi hk
              split at he <;> split at he
              · exact hinj i k (by assumption) (by assumption) he
              · have := hborn i (by assumption); simp at he; omega
              · have := hborn k (by assumption); simp at he; omega
              · omega
            · rw [Array.getElem_push]
              simp only [Array.size_push] at hi
              split
              · rename_i hlt
                exact ⟨hent i hlt, fun e => by omega⟩
              · refine ⟨fun h => by omega, fun _ => ⟨hkr, ?_⟩⟩
                rw [hsh]
                exact evy
          have hs2 := updC_srel (c := X1.b j) (obj := .map (me.push { key := a.eval x, val := a.eval y, born := clock }) (clock + 1)) hs1 hj1 rfl hz1 (.inl rfl) rfl (by simp) hnewO
          rw [List.set_set] at hs2
          refine then_skip' (kl := none) hs2 hT ?_ (hq (X.b p) hnew)
          rw [hex]
          have hrun : (Instr.mapUpdate t (a.eval m) (a.eval x) (a.eval y)).run P X.w = .ok () { X.w with heap := X.w.heap.setIfInBounds (X.b j) (.map (me.push { key := a.eval x, val := a.eval y, born := clock }) (clock + 1)) } := by
            rcases fam_find (P := P) hn hkind hkr hkinds hsz hent X.w with ⟨_, f2⟩ | ⟨i, _, _, f1, _⟩
            · simp [Instr.mapUpdate, run_under hu, ev, getObj, setObj, Sem.run, hh, run_checkKey hn hkind hkr, f2]
            · simp [hasF, f1] at hnk
          simp only [Sem.run_bind, hrun, Result.andThen_ok]
          show _ = Result.ok Next.skip { X1.w with heap := X1.w.heap.setIfInBounds (X1.b j) _ }
          rw [hb1, hw1]
          rfl
        · exact h.elim
      · exact h.elim
    · rename_i ej
      cases ej
    · exact h.elim
  · exact h.elim
theorem o_update {t : TypeId} {m x y : Operand} (hK : KOk P K) (hs : SRel w0 own0 X s a) (hT : Then w0 own0 s a q fun v w => next (a.put o.dst v) w)
    (hex : (execOp a.eval o) = (do Instr.mapUpdate t (a.eval m) (a.eval x) (a.eval y); pure .skip)) (h : aOp K Γ s (.mapUpdate t m x y) q) : o.wp P a X.w next Q := by
  by_cases hb : ∃ j R, s.ev m = .mp j ∧ s.o[j]? = some (.bun R)
  · obtain ⟨j, R, h1, h2⟩ := hb
    exact o_updateF h1 h2 hK hs hT hex h
  · by_cases hr : ∃ b, s.ev m = .d (.v (.map (some b)))
    · obtain ⟨b, hr⟩ := hr
      exact o_updateR hr hK hs hT hex h
    obtain ⟨j, _, obj, ob, ob', _, _, _, _, h1, h2, h3⟩ := update_ex hK hs (fun j R h1 h2 => hb ⟨j, R, h1, h2⟩) (fun b e => hr ⟨b, e⟩) hex h
    exact then_skip' (kl := none) h2 hT h1 h3
theorem born_nd {me : Array MapEntry} (h : ∀ (j k : Nat) (hj : j < me.size) (hk : k < me.size), me[j].born = me[k].born → j = k) : (me.toList.map (·.born)).Nodup := by
  rw [List.Nodup, List.pairwise_iff_getElem]
  intro i j hi hj hij e
  simp only [List.length_map, Array.length_toList] at hi hj
  simp only [List.getElem_map, Array.getElem_toList] at e
  have := h i j hi hj e
  omega
theorem itOf_mem : ∀ {o : List Ob} {d : ItD}, itOf o = some d → ∃ (i : Nat) (R : Rep), o[i]? = some (.bun R) ∧ R.it = some d
  | [], d, h => by cases h
  | x :: o, d, h => by
    have tail : itOf o = some d → ∃ (i : Nat) (R : Rep), (x :: o)[i]? = some (.bun R) ∧ R.it = some d := fun h => by
      obtain ⟨i, R, h1, h2⟩ := itOf_mem h
      exact ⟨i + 1, R, h1, h2⟩
    cases x with
    | bun R =>
      simp only [itOf] at h
      split at h
      · rename_i d' hd
        cases h
        exact ⟨0, R, rfl, hd⟩
      · exact tail h
    | _ => exact tail (by simpa only [itOf] using h)
theorem krel_fun {k : Key} {u v : Value} (h1 : KRel k u) (h2 : KRel k v) : u = v := by
  cases k <;> exact Eq.trans h1 (Eq.symm h2)
theorem krel_inj {k k' : Key} {v : Value} (h1 : KRel k v) (h2 : KRel k' v) : k = k' := by
  have e : ∀ (l l' : List ByteArray), l.map Value.string = l'.map Value.string → l = l' := fun l => by
    induction l with
    | nil => intro l' h; cases l' with
      | nil => rfl
      | cons _ _ => simp at h
    | cons a l ih => intro l' h; cases l' with
      | nil => simp at h
      | cons b l' =>
        simp only [List.map_cons, List.cons.injEq, Value.string.injEq] at h
        rw [h.1, ih l' h.2]
  cases k <;> cases k' <;> simp only [KRel] at h1 h2 <;> subst h1 <;> first
    | (cases h2; done)
    | (cases h2; rfl)
    | (simp only [Value.agg.injEq] at h2; have := e _ _ (by simpa using h2); rw [this])
theorem delete_ex {c : Call} (hK : KOk P K) (hs : SRel w0 own0 X s a) (ho : o.op = .call c) (hc : c.callee = .builtin .delete) (hnr : ∀ x b, c.args.toList.head? = some x → s.ev x ≠ .d (.v (.map (some b)))) (h : aOp K Γ s (.call c) q) :
    ((execOp a.eval o).run P X.w = .ok (.value (.tuple #[])) X.w ∧ q (.tp []) s.o none) ∨ ∃ x j, c.args.toList.head? = some x ∧ s.ev x = .mp j ∧ TurnEx P w0 own0 X s a o q j (.value (.tuple #[])) (.tp []) := by
  simp only [aOp, hc] at h
  split at h
  · rename_i xa ia t ts hargs htys
    obtain ⟨x, y, hargs'⟩ : ∃ x y, c.args.toList = [x, y] := by
      match hh : c.args.toList with
      | [] => rw [hh] at hargs; simp at hargs
      | [_] => rw [hh] at hargs; simp at hargs
      | [x, y] => exact ⟨x, y, rfl⟩
      | _ :: _ :: _ :: _ => rw [hh] at hargs; simp at hargs
    rw [hargs'] at hargs
    simp only [List.map_cons, List.map_nil, List.cons.injEq, and_true] at hargs
    obtain ⟨hxa, hya⟩ := hargs
    have ha : c.args = #[x, y] := by rw [← Array.toArray_toList (xs := c.args), hargs']
    have ht : c.argTypes = (t :: ts).toArray := by rw [← Array.toArray_toList (xs := c.argTypes), htys]
    have hx := ev_sound hs x
    have hy := ev_sound hs y
    rw [hxa] at hx
    rw [hya] at hy
    have run : ∀ v w', (Builtin.delete_ (t :: ts).toArray o.type #[a.eval x, a.eval y]).run P X.w = .ok v w' → (execOp a.eval o).run P X.w = .ok (.value v) w' := by
      intro v w' hr
      simp [execOp, ho, resolve, hc, ha, ht, invoke, builtin, hr]
    split at h
    · rename_i kt e hkd
      have hu := kd_ok hK hkd
      split at h
      · rename_i ky hky
        have hkr := key_rel hy hky
        split at h
        · obtain ⟨hkk, hq⟩ := chk_iff.1 h
          have hkk : kkOf K kt = some ky.kind := by simpa using hkk
          have ev := (inv_v hx).1
          refine .inl ⟨run _ _ ?_, hq⟩
          simp [Builtin.delete_, run_under hu, ev, run_checkKey (kk_ok hK hkk) rfl hkr]
        · rename_i j
          obtain ⟨ev, _⟩ := inv_mp hx
          split at h
          · rename_i kk ents hj
            obtain ⟨h0, h⟩ := chk_iff.1 h
            simp only [Bool.and_eq_true, decide_eq_true_eq] at h0
            obtain ⟨hkk, hkind⟩ := h0
            have hq : q (.tp []) (s.o.set j (.map kk (delKeyA ky ents))) none := by
              split at h
              · exact h
              · exact dlK_del h
            have hn := kk_ok hK hkk
            obtain ⟨hz, hall, me, clock, hh, hsz, hborn, hinj, hent⟩ := hs.g.rel j _ hj
            have hf := findK_sound hn hkind hkr X.w ents me.toList (by simpa using hsz) (fun e he => (hall e he).1) (fun j h1 h2 => by
              have := (hent j h1 (by simpa using h2)).1
              simpa using this)
            have step : ∀ (me' : Array MapEntry), (Builtin.delete_ (t :: ts).toArray o.type #[a.eval x, a.eval y]).run P X.w = .ok (.tuple #[]) { X.w with heap := X.w.heap.setIfInBounds (X.b j) (.map me' clock) } →
                me'.size = (delKeyA ky ents).length → (∀ e ∈ delKeyA ky ents, e.1.kind = kk.base ∧ (kk.isSy = true → e.2.rigid = true)) → (∀ (i : Nat) (h : i < me'.size), me'[i].born < clock) → (∀ (i k : Nat) (hi : i < me'.size) (hk : k < me'.size), me'[i].born = me'[k].born → i = k) →
                (∀ (i : Nat) (h : i < (delKeyA ky ents).length) (h' : i < me'.size), KRel (delKeyA ky ents)[i].1 me'[i].key ∧ (delKeyA ky ents)[i].2.firm = true ∧ VRel X (delKeyA ky ents)[i].2 me'[i].val) → ((execOp a.eval o).run P X.w = .ok (.value (.tuple #[])) X.w ∧ q (.tp []) s.o none) ∨ ∃ x j, c.args.toList.head? = some x ∧ s.ev x = .mp j ∧ TurnEx P w0 own0 X s a o q j (.value (.tuple #[])) (.tp []) := by
              intro me' hrun g1 g2 g3 g4 g5
              have hkp := upd_keeps hs.g hj rfl hz (.map me' clock)
              have hnew : ORel (X.upd j (.map me' clock)) j (.map kk (delKeyA ky ents)) := by
                refine ⟨hz, g2, me', clock, ?_, g1, g3, g4, fun i hi hi' => ⟨(g5 i hi hi').1, (g5 i hi hi').2.1, (g5 i hi hi').2.2.step hkp (Nat.le_refl _) (fun _ _ => ⟨rfl, rfl, rfl, rfl⟩)⟩⟩
                show (X.upd j _).w.heap[X.b j]? = _
                rw [heap_upd, if_pos ⟨rfl, size_of_heap hh⟩]
              exact .inr ⟨x, j, by rw [hargs']; rfl, hxa, .map me' clock, _, _, hj, rfl, rfl, hz, run _ _ hrun, upd_srel hs false hj rfl hz (ob' := .map kk (delKeyA ky ents)) rfl (by simp) (by simp) hnew, hq⟩
            rcases hf with ⟨f1, f2, f3, f5⟩ | ⟨i, hi, hi', f1, f2, f3, f4, f5⟩
            · refine step me ?_ (by rw [f5]; exact hsz) (by rw [f5]; exact hall) hborn hinj (by rw [f5]; exact hent)
              simp [Builtin.delete_, run_under hu, ev, getObj, setObj, Sem.run, hh, run_checkKey hn hkind hkr, f2]
            · have hi2 : i < me.size := by simpa using hi'
              have hsz' : (me.eraseIdx i hi2).size = ents.length - 1 := by simp [hsz]
              have get : ∀ (k : Nat) (h : k < (me.eraseIdx i hi2).size), ∃ (m : Nat) (hm : m < me.size) (hm' : m < ents.length), m = (if k < i then k else k + 1) ∧ (me.eraseIdx i hi2)[k] = me[m] := by
                intro k hk
                have hk' : k < me.size - 1 := by simpa using hk
                rw [Array.getElem_eraseIdx]
                split
                · exact ⟨k, by omega, by omega, by simp [*], rfl⟩
                · exact ⟨k + 1, by omega, by omega, by simp [*], rfl⟩
              refine step (me.eraseIdx i hi2) ?_ ?_ ?_ ?_ ?_ ?_
              · simp [Builtin.delete_, run_under hu, ev, getObj, setObj, Sem.run, hh, run_checkKey hn hkind hkr, f2, Array.eraseIdxIfInBounds, hi2]
              · rw [f5, List.length_eraseIdx_of_lt hi]; simp [hsz]
              · rw [f5]
                exact fun e he => hall e (List.mem_of_mem_eraseIdx he)
              · intro k hk
                obtain ⟨m, hm, _, _, e⟩ := get k hk
                rw [e]; exact hborn m hm
              · intro k l hk hl he
                obtain ⟨m, hm, _, em, e⟩ := get k hk
                obtain ⟨m', hm', _, em', e'⟩ := get l hl
                rw [e, e'] at he
                have := hinj m m' hm hm' he
                subst this
                split at em <;> split at em' <;> omega
              · rw [f5]
                intro k hk hk'
                obtain ⟨m, hm, hm', em, e⟩ := get k hk'
                have e2 : (ents.eraseIdx i)[k] = ents[m] := by
                  rw [List.getElem_eraseIdx]
                  subst em
                  split <;> simp_all
                rw [e2, e]
                exact hent m hm' hm
          · rename_i R hj
            split at h
            · rename_i f hft
              obtain ⟨h0, h⟩ := chk_iff.1 h
              simp only [Bool.and_eq_true, decide_eq_true_eq] at h0
              obtain ⟨hkk, hkind⟩ := h0
              have hn := kk_ok hK hkk
              obtain ⟨hzj, hkinds, ⟨me, clock, hh, hsz, hborn, hinj, hent⟩, hnd, hmb⟩ := fam_at hs.g hj hft
              have hcase : q (.tp []) (s.o.set j (.bun (famR ⟨f.kk, f.sh, delF ky f.l⟩))) none ∨ ∃ Z dl d n l va, R.fd = some (Z, dl) ∧ itOf s.o = some d ∧ d.vis = n :: l ∧ d.cur = some (ia, va) ∧ Z = d.Z ∧ q (.tp []) (s.o.set j (.bun (frdR ⟨f.kk, f.sh, delF ky f.l⟩ Z (n :: dl)))) none := by
                split at h
                · rename_i Z dl d e1 e2
                  split at h
                  · rename_i n l ka va e3 e4
                    obtain ⟨h1, h2, h3⟩ := h
                    subst h2
                    exact .inr ⟨Z, dl, d, n, l, va, e1, e2, e3, e4, h1, h3⟩
                  · exact h.elim
                · exact .inl h
              have step : ∀ (me' : Array MapEntry), (Builtin.delete_ (t :: ts).toArray o.type #[a.eval x, a.eval y]).run P X.w = .ok (.tuple #[]) { X.w with heap := X.w.heap.setIfInBounds (X.b j) (.map me' clock) } →
                  me'.size = (delF ky f.l).length → (∀ e ∈ delF ky f.l, e ∈ f.l) → ((delF ky f.l).map (·.2.1)).Nodup → (∀ (i : Nat) (h : i < me'.size), me'[i].born < clock) → (∀ (i k : Nat) (hi : i < me'.size) (hk : k < me'.size), me'[i].born = me'[k].born → i = k) →
                  (∀ (i : Nat) (h' : i < me'.size) (h : i < (delF ky f.l).length), KRel (delF ky f.l)[i].1 me'[i].key ∧ me'[i].val = f.sh.ref (delF ky f.l)[i].2.1) →
                  (∀ e ∈ me'.toList, e ∈ me.toList) → (∀ e ∈ me.toList, e ∈ me'.toList ∨ KRel ky e.key) → (∀ e ∈ me'.toList, KRel ky e.key → ∃ e2 ∈ me.toList, KRel ky e2.key ∧ e2.born ≠ e.born) → ((execOp a.eval o).run P X.w = .ok (.value (.tuple #[])) X.w ∧ q (.tp []) s.o none) ∨ ∃ x j, c.args.toList.head? = some x ∧ s.ev x = .mp j ∧ TurnEx P w0 own0 X s a o q j (.value (.tuple #[])) (.tp []) := by
                intro me' hrun g1 g2 g6 g3 g4 g5 gA gB gC
                have hh' : (X.upd j (.map me' clock)).w.heap[X.b j]? = some (.map me' clock) := by rw [heap_upd, if_pos ⟨rfl, size_of_heap hh⟩]
                have hfam : FamP ⟨f.kk, f.sh, delF ky f.l⟩ (X.upd j (.map me' clock)).own (X.upd j (.map me' clock)).w ((X.upd j (.map me' clock)).b j) ((X.upd j (.map me' clock)).c j).fp := by
                  refine ⟨fun e he => hkinds e (g2 e he), ⟨me', clock, ?_, g1, g3, g4, g5⟩, g6, fun e he => ?_⟩
                  · exact hh'
                  · obtain ⟨q1, q2, q3⟩ := hmb e (g2 e he)
                    refine ⟨q1, q2, q3.heap ?_⟩
                    rw [heap_upd, if_neg (fun e => q1 e.1.symm)]
                rcases hcase with hq | ⟨Z, dl, d, n, l, va, e1, e2, e3, e4, e5, hq⟩
                · exact .inr ⟨x, j, by rw [hargs']; rfl, hxa, .map me' clock, _, _, hj, rfl, rfl, hzj, run _ _ hrun, upd_srel hs false hj rfl hzj (ob' := .bun (famR ⟨f.kk, f.sh, delF ky f.l⟩)) rfl (by simp) (by simp) ⟨hzj, hfam⟩, hq⟩
                · obtain ⟨zb, me0, hz0, hz1, hz2, hz3, hz4⟩ := R.fdOK Z dl e1 _ _ _ _ (hs.g.rel j _ hj).2
                  have hz5 : X.w.heap[X.b j]? = some (.map me0 Z.clk) := by rw [← zb]; exact hz0
                  rw [hh] at hz5
                  cases hz5
                  obtain ⟨i1, R1, hi1, hR1⟩ := itOf_mem e2
                  have hit := R1.itOK d hR1 _ _ _ _ (hs.g.rel i1 _ hi1).2
                  obtain ⟨n', l', hn', hv', _, _, hka⟩ := hit.cur _ _ e4
                  rw [e3] at hv'
                  obtain ⟨rfl, rfl⟩ := List.cons.inj hv'
                  subst e5
                  have hkn : KRel ky d.Z.me[n].key := by
                    rcases hka with hka | ⟨hka, hpl⟩
                    · rw [hka] at hky; exact absurd hky (by simp [keyOf])
                    · rw [hka] at hky hy
                      exact key_rel (X := X) (.d (.v hpl)) hky
                  have hfd : FdP d.Z (n :: dl) (X.upd j (.map me' d.Z.clk)).w := by
                    refine ⟨me', by rw [zb]; exact hh', born_nd g4, fun e he => ?_, fun m hm hnm => ?_, hz4⟩
                    · obtain ⟨m, hm, hmd, rfl⟩ := hz2 e (gA e he)
                      refine ⟨m, hm, fun h => ?_, rfl⟩
                      rcases List.mem_cons.1 h with rfl | h
                      · obtain ⟨e2, he2, hk2, hb2⟩ := gC _ he hkn
                        obtain ⟨m2, hm2, _, rfl⟩ := hz2 e2 he2
                        exact hb2 (by have := hz4 m2 m hm2 hm (krel_fun hk2 hkn); subst this; rfl)
                      · exact hmd h
                    · rw [List.mem_cons, not_or] at hnm
                      rcases gB _ (hz3 m hm hnm.2) with h | h
                      · exact h
                      · exact absurd (hz4 m n hm hn' (krel_fun h hkn)) hnm.1
                  exact .inr ⟨x, j, by rw [hargs']; rfl, hxa, .map me' d.Z.clk, _, _, hj, rfl, rfl, hzj, run _ _ hrun, upd_srel hs false hj rfl hzj (ob' := .bun (frdR ⟨f.kk, f.sh, delF ky f.l⟩ d.Z (n :: dl))) rfl (by simp) (by simp) ⟨hzj, hfam, zb, hfd⟩, hq⟩
              rcases fam_find (P := P) hn hkind hkr hkinds hsz hent X.w with ⟨f1, f2⟩ | ⟨i, hi, hi2, f1, f2, f3, f4⟩
              · have hd : delF ky f.l = f.l := by
                  have : ∀ l, blkF ky l = none → delF ky l = l := fun l => by
                    induction l with
                    | nil => intro _; rfl
                    | cons e l ih =>
                      intro hb
                      unfold blkF at hb
                      unfold delF
                      split at hb
                      · cases hb
                      · rename_i he
                        rw [if_neg he, ih hb]
                  exact this _ f1
                refine step me ?_ (by rw [hd]; exact hsz) (by rw [hd]; exact fun _ h => h) (by rw [hd]; exact hnd) hborn hinj (by rw [hd]; exact hent) (fun _ h => h) (fun _ h => .inl h) (fun e he hk => ?_)
                · simp [Builtin.delete_, run_under hu, ev, getObj, setObj, Sem.run, hh, run_checkKey hn hkind hkr, f2]
                · obtain ⟨k, hk1, rfl⟩ := List.getElem_of_mem he
                  have hk2 : k < me.size := by simpa using hk1
                  have hk3 : k < f.l.length := by rw [← hsz]; exact hk2
                  have := (hent k hk2 hk3).1
                  have e1 : f.l[k].1 = ky := krel_inj this (by simpa using hk)
                  have : ∀ l : List (Key × Nat × Rec), blkF ky l = none → ∀ e ∈ l, e.1 ≠ ky := fun l => by
                    induction l with
                    | nil => intro _ e he; cases he
                    | cons x l ih =>
                      intro hb e he
                      unfold blkF at hb
                      split at hb
                      · cases hb
                      · rename_i hx
                        rcases List.mem_cons.1 he with rfl | he
                        · exact hx
                        · exact ih hb e he
                  exact absurd e1 (this _ f1 _ (List.getElem_mem hk3))
              · have hd := del_idx i hi hnd f4 f3
                have get : ∀ (k : Nat) (h : k < (me.eraseIdx i hi2).size), ∃ (m : Nat) (hm : m < me.size) (hm' : m < f.l.length), m = (if k < i then k else k + 1) ∧ (me.eraseIdx i hi2)[k] = me[m] := by
                  intro k hk
                  have hk' : k < me.size - 1 := by simpa using hk
                  rw [Array.getElem_eraseIdx]
                  split
                  · exact ⟨k, by omega, by omega, by simp [*], rfl⟩
                  · exact ⟨k + 1, by omega, by omega, by simp [*], rfl⟩
                have f2 := f2 X.w
                refine step (me.eraseIdx i hi2) ?_ ?_ ?_ ?_ ?_ ?_ ?_ (fun e he => ?_) (fun e he => ?_) (fun e he hk => ?_)
                · simp [Builtin.delete_, run_under hu, ev, getObj, setObj, Sem.run, hh, run_checkKey hn hkind hkr, f2, Array.eraseIdxIfInBounds, hi2]
                · rw [hd, List.length_eraseIdx_of_lt hi]; simp [hsz]
                · rw [hd]
                  exact fun e he => List.mem_of_mem_eraseIdx he
                · rw [hd]
                  exact hnd.sublist ((List.eraseIdx_sublist f.l i).map _)
                · intro k hk
                  obtain ⟨m, hm, _, _, e⟩ := get k hk
                  rw [e]; exact hborn m hm
                · intro k l hk hl he
                  obtain ⟨m, hm, _, em, e⟩ := get k hk
                  obtain ⟨m', hm', _, em', e'⟩ := get l hl
                  rw [e, e'] at he
                  have := hinj m m' hm hm' he
                  subst this
                  split at em <;> split at em' <;> omega
                · intro k hk' hk
                  obtain ⟨m, hm, hm', em, e⟩ := get k hk'
                  have e2 : (delF ky f.l)[k] = f.l[m] := by
                    have : (delF ky f.l)[k]? = f.l[m]? := by
                      rw [hd, List.getElem?_eraseIdx, em]
                      split <;> rfl
                    rw [List.getElem?_eq_getElem hk, List.getElem?_eq_getElem hm'] at this
                    exact Option.some.inj this
                  rw [e2, e]
                  exact hent m hm hm'
                · rw [Array.toList_eraseIdx] at he
                  exact List.mem_of_mem_eraseIdx he
                · obtain ⟨k, hk1, rfl⟩ := List.getElem_of_mem he
                  by_cases hki : k = i
                  · subst hki
                    have := (hent k hi2 hi).1
                    rw [f3] at this
                    exact .inr (by simpa using this)
                  · refine .inl ?_
                    rw [Array.toList_eraseIdx]
                    exact List.mem_eraseIdx_iff_getElem.2 ⟨k, hk1, hki, rfl⟩
                · rw [Array.toList_eraseIdx] at he
                  obtain ⟨k, hk1, hki, rfl⟩ := List.mem_eraseIdx_iff_getElem.1 he
                  refine ⟨me[i], by simp, by have := (hent i hi2 hi).1; rw [f3] at this; exact this, fun eb => hki ?_⟩
                  exact (hinj i k hi2 (by simpa using hk1) (by simpa using eb)).symm
            · exact h.elim
          · exact h.elim
        · rename_i b
          exact absurd hxa (hnr x b (by rw [hargs']; rfl))
        · exact h.elim
      · exact h.elim
    · exact h.elim
  · exact h.elim
theorem o_deleteR {c : Call} {x0 : Operand} {b : Nat} (hx0 : c.args.toList.head? = some x0) (ex : s.ev x0 = .d (.v (.map (some b)))) (hK : KOk P K) (hs : SRel w0 own0 X s a) (hT : Then w0 own0 s a q fun v w => next (a.put o.dst v) w) (ho : o.op = .call c) (hc : c.callee = .builtin .delete) (h : aOp K Γ s (.call c) q) : o.wp P a X.w next Q := by
  simp only [aOp, hc] at h
  split at h
  · rename_i xa ia t ts hargs htys
    obtain ⟨x, y, hargs'⟩ : ∃ x y, c.args.toList = [x, y] := by
      match hh : c.args.toList with
      | [] => rw [hh] at hargs; simp at hargs
      | [_] => rw [hh] at hargs; simp at hargs
      | [x, y] => exact ⟨x, y, rfl⟩
      | _ :: _ :: _ :: _ => rw [hh] at hargs; simp at hargs
    rw [hargs'] at hargs
    simp only [List.map_cons, List.map_nil, List.cons.injEq, and_true] at hargs
    obtain ⟨hxa, hya⟩ := hargs
    have ha : c.args = #[x, y] := by rw [← Array.toArray_toList (xs := c.args), hargs']
    have ht : c.argTypes = (t :: ts).toArray := by rw [← Array.toArray_toList (xs := c.argTypes), htys]
    have hx := ev_sound hs x
    have hy := ev_sound hs y
    rw [hxa] at hx
    rw [hya] at hy
    have run : ∀ v w', (Builtin.delete_ (t :: ts).toArray o.type #[a.eval x, a.eval y]).run P X.w = .ok v w' → (execOp a.eval o).run P X.w = .ok (.value v) w' := by
      intro v w' hr
      simp [execOp, ho, resolve, hc, ha, ht, invoke, builtin, hr]
    have hxx : x0 = x := by rw [hargs'] at hx0; exact (Option.some.inj hx0).symm
    subst hxx
    rw [ex] at hxa
    subst hxa
    split at h
    · rename_i kt e hkd
      have hu := kd_ok hK hkd
      split at h
      · rename_i ky hky
        have hkr := key_rel hy hky
        have ev := (inv_v hx).1
        simp only at h
        split at h
        · rename_i j f hff
          split at h
          · rename_i kk hsh
            obtain ⟨h0, r, hr, hq⟩ := chk_iff.1 h
            simp only [Bool.and_eq_true, decide_eq_true_eq] at h0
            obtain ⟨hkk, hkind⟩ := h0
            have hn := kk_ok hK hkk
            obtain ⟨R, mm, hj, ht', hmm, rfl, rfl, hkinds, me, clock, hh, hsz, hborn, hinj, hent⟩ := raw_at hs hff hsh hr
            have hf := findK_sound hn hkind hkr X.w mm.2.2.m me.toList (by simpa using hsz) hkinds (fun j h1 h2 => by
              have := (hent j (by simpa using h2) h1).1
              simpa using this)
            have step : ∀ (me' : Array MapEntry), (Builtin.delete_ (t :: ts).toArray o.type #[a.eval x0, a.eval y]).run P X.w = .ok (.tuple #[]) { X.w with heap := X.w.heap.setIfInBounds mm.2.1 (.map me' clock) } →
                SRel w0 own0 (X.updC mm.2.1 (.map me' clock)) ⟨s.t, s.o.set j (.bun (famR ⟨f.kk, .map kk, putM mm.2.1 ⟨mm.2.2.i, mm.2.2.s, delKeyA ky mm.2.2.m⟩ f.l⟩))⟩ a → o.wp P a X.w next Q := fun me' hrun hs2 =>
              then_value' (kl := none) hs2 hT (run _ _ hrun) (.tp rfl (fun j h => absurd h (by simp))) hq
            rcases hf with ⟨f1, f2, f3, f5⟩ | ⟨i, hi, hi', f1, f2, f3, f4, f5⟩
            · refine step me ?_ (turnR hs hj ht' hsh hmm (by rw [f5]; exact hkinds) (by rw [f5]; exact hsz) hborn hinj (by rw [f5]; exact hent))
              simp [Builtin.delete_, run_under hu, ev, getObj, setObj, Sem.run, hh, run_checkKey hn hkind hkr, f2]
            · have hi2 : i < me.size := by simpa using hi'
              have get : ∀ (k : Nat) (h : k < (me.eraseIdx i hi2).size), ∃ (m : Nat) (hm : m < me.size) (hm' : m < mm.2.2.m.length), m = (if k < i then k else k + 1) ∧ (me.eraseIdx i hi2)[k] = me[m] := by
                intro k hk
                have hk' : k < me.size - 1 := by simpa using hk
                rw [Array.getElem_eraseIdx]
                split
                · exact ⟨k, by omega, by omega, by simp [*], rfl⟩
                · exact ⟨k + 1, by omega, by omega, by simp [*], rfl⟩
              refine step (me.eraseIdx i hi2) ?_ (turnR hs hj ht' hsh hmm ?_ ?_ ?_ ?_ ?_)
              · simp [Builtin.delete_, run_under hu, ev, getObj, setObj, Sem.run, hh, run_checkKey hn hkind hkr, f2, Array.eraseIdxIfInBounds, hi2]
              · rw [f5]
                exact fun e he => hkinds e (List.mem_of_mem_eraseIdx he)
              · rw [f5, List.length_eraseIdx_of_lt hi]; simp [hsz]
              · intro k hk
                obtain ⟨m, hm, _, _, e⟩ := get k hk
                rw [e]; exact hborn m hm
              · intro k l hk hl he
                obtain ⟨m, hm, _, em, e⟩ := get k hk
                obtain ⟨m', hm', _, em', e'⟩ := get l hl
                rw [e, e'] at he
                have := hinj m m' hm hm' he
                subst this
                split at em <;> split at em' <;> omega
              · rw [f5]
                intro k hk' hk
                obtain ⟨m, hm, hm', em, e⟩ := get k hk'
                have e2 : (mm.2.2.m.eraseIdx i)[k] = mm.2.2.m[m] := by
                  rw [List.getElem_eraseIdx]
                  subst em
                  split <;> simp_all
                rw [e2, e]
                exact hent m hm hm'
          · exact h.elim
        · exact h.elim
      · exact h.elim
    · exact h.elim
  · exact h.elim
theorem o_delete {c : Call} (hK : KOk P K) (hs : SRel w0 own0 X s a) (hT : Then w0 own0 s a q fun v w => next (a.put o.dst v) w) (ho : o.op = .call c) (hc : c.callee = .builtin .delete) (h : aOp K Γ s (.call c) q) : o.wp P a X.w next Q := by
  by_cases hr : ∃ x b, c.args.toList.head? = some x ∧ s.ev x = .d (.v (.map (some b)))
  · obtain ⟨x, b, h1, h2⟩ := hr
    exact o_deleteR h1 h2 hK hs hT ho hc h
  rcases delete_ex hK hs ho hc (fun x b h1 h2 => hr ⟨x, b, h1, h2⟩) h with ⟨h1, h2⟩ | ⟨_, j, _, _, obj, ob, ob', _, _, _, _, h1, h2, h3⟩
  · exact then_value hs hT h1 (.tp rfl (fun j h => absurd h (by simp))) h2
  · exact then_value' (kl := none) h2 hT h1 (.tp rfl (fun j h => absurd h (by simp))) h3
theorem o_clear {c : Call} (hK : KOk P K) (hs : SRel w0 own0 X s a) (hT : Then w0 own0 s a q fun v w => next (a.put o.dst v) w) (ho : o.op = .call c) (hc : c.callee = .builtin .clear) (h : aOp K Γ s (.call c) q) : o.wp P a X.w next Q := by
  simp only [aOp, hc] at h
  split at h
  · rename_i xa t hargs htys
    obtain ⟨x, hargs'⟩ : ∃ x, c.args.toList = [x] := by
      match hh : c.args.toList with
      | [] => rw [hh] at hargs; simp at hargs
      | [x] => exact ⟨x, rfl⟩
      | _ :: _ :: _ => rw [hh] at hargs; simp at hargs
    rw [hargs'] at hargs
    simp only [List.map_cons, List.map_nil, List.cons.injEq, and_true] at hargs
    have ha : c.args = #[x] := by rw [← Array.toArray_toList (xs := c.args), hargs']
    have ht : c.argTypes = #[t] := by rw [← Array.toArray_toList (xs := c.argTypes), htys]
    have hx := ev_sound hs x
    rw [hargs] at hx
    have run : ∀ v w', (Builtin.clear_ #[t] o.type #[a.eval x]).run P X.w = .ok v w' → (execOp a.eval o).run P X.w = .ok (.value v) w' := by
      intro v w' hr
      simp [execOp, ho, resolve, hc, ha, ht, invoke, builtin, hr]
    split at h
    · rename_i kt e hkd
      have hu := kd_ok hK hkd
      split at h
      · have ev := (inv_v hx).1
        refine then_value hs hT (v := .tuple #[]) (run _ _ ?_) (.tp rfl (fun j h => absurd h (by simp))) h
        simp [Builtin.clear_, run_under hu, ev]
      · rename_i j
        obtain ⟨ev, _⟩ := inv_mp hx
        split at h
        · rename_i kk ents hj
          obtain ⟨hz, hall, me, clock, hh, hsz, hborn, hinj, hent⟩ := hs.g.rel j _ hj
          have hnew : ORel (X.upd j (.map #[] clock)) j (.map kk []) := by
            refine ⟨hz, by simp, #[], clock, ?_, rfl, by simp, by simp, by simp⟩
            show (X.upd j _).w.heap[X.b j]? = _
            rw [heap_upd, if_pos ⟨rfl, size_of_heap hh⟩]
          refine then_value' (upd_srel hs false hj rfl hz (ob' := .map kk []) rfl (by simp) (by simp) hnew) hT (v := .tuple #[]) (run _ _ ?_) (.tp rfl (fun j h => absurd h (by simp))) h
          simp [Builtin.clear_, run_under hu, ev, getObj, setObj, Sem.run, hh]
          rfl
        · exact h.elim
      · have ev := (inv_v hx).1
        split at h
        · rename_i j f hff
          split at h
          · rename_i kk hsh
            obtain ⟨r, hr, hq⟩ := h
            obtain ⟨R, mm, hj, ht', hmm, rfl, rfl, hkinds, me, clock, hh, hsz, hborn, hinj, hent⟩ := raw_at hs hff hsh hr
            have hs2 := turnR (me' := #[]) (clock' := clock) (ents := []) hs hj ht' hsh hmm (by simp) rfl (by simp) (by simp) (by simp)
            refine then_value' (kl := none) hs2 hT (v := .tuple #[]) (run _ _ ?_) (.tp rfl (fun j h => absurd h (by simp))) hq
            simp [Builtin.clear_, run_under hu, ev, getObj, setObj, Sem.run, hh]
            rfl
          · exact h.elim
        · exact h.elim
      · exact h.elim
    · exact h.elim
  · exact h.elim
end
end Go.AM
