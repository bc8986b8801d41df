import Derived.Test.YtchpfeblinnoiaaGreatDoorAmEval
import Derived.Laws.StructEq
set_option linter.unusedSimpArgs false
set_option linter.unusedVariables false
namespace Go.AM
open Go.RowKit
def UOk (P : Program) (t : TypeId) : Kd → Prop
  | .bool => P.underlying t = some .bool
  | .int k => P.underlying t = some (.int k)
  | .str => P.underlying t = some .string
  | .slice e => P.underlying t = some (.slice e)
  | .ptr e => P.underlying t = some (.pointer e)
  | .map k e => P.underlying t = some (.map k e)
  | .array n e => P.underlying t = some (.array n e)
  | .func => ∃ a b c, P.underlying t = some (.func a b c)
  | .struct fs => ∃ fields : Array Field, P.underlying t = some (.struct fields) ∧ fields.toList.map (fun f => (f.offset, f.type)) = fs
  | .other => True
def eqOkB (P : Program) (t : TypeId) : Bool := !P.stoodInHeld t && !P.eqGuardType P.depth t && match P.underlying t with | some (.struct fs) => fs.toList.all (fun f => f.name != "_") | _ => false
structure TOk (P : Program) (t : TypeId) (i : TK) : Prop where
  info : ∃ ti, P.info? t = some ti ∧ ti.size = i.sz ∧ ti.bytes = i.bytes ∧
    (i.zero.length = i.sz → ∃ z, ti.zero = some z ∧ z.cells.size = i.sz ∧ (∀ (X : Cx) (j : Nat) (h : j < i.zero.length), VRel X i.zero[j] (z.cells.getD j undef)) ∧
      (i.agg = true → ∃ arr, z = .agg arr) ∧ (i.agg = false → z.cells = #[z]))
  agg : ∀ w, (isAgg t).run P w = .ok i.agg w
  kd : UOk P t i.kd
  cmp : i.cmp = true → eqOkB P t = true
  und : ∃ d, P.underlying t = some d
def KOk (P : Program) (K : TypeId → Option TK) : Prop := ∀ t i, K t = some i → TOk P t i
theorem runK_ok {P : Program} {K : TypeId → Option TK} (hK : KOk P K) : KOk P (runK K) := fun t i h => by
  unfold runK at h
  split at h
  · rename_i j hj
    cases h
    have := hK t j hj
    exact ⟨this.info, this.agg, this.kd, this.cmp, this.und⟩
  · cases h
theorem kd_ok {P : Program} {K : TypeId → Option TK} (hK : KOk P K) {t : TypeId} {k : Kd} (h : kdOf K t = some k) : UOk P t k := by
  unfold kdOf at h
  split at h
  · rename_i i hi; cases h; exact (hK t i hi).kd
  · cases h
theorem SRel.tabs {w0 : World} {own0 : O0} {X : Cx} {s : S} {a : Act} (h : SRel w0 own0 X s a) : Tabs X.own X.w := fun x hx => by
  obtain ⟨h1, h2, h3, h4⟩ := h.tab x hx
  have e := h.fr.keep x.g h2 fun hh => h1 (.inl hh)
  refine ⟨fun hh => hh.elim (fun hh => (h.new _ hh).elim (fun q => h1 (.inl q)) (fun q => Nat.lt_irrefl _ (Nat.lt_of_lt_of_le h2 q))) (fun hh => h1 (.inr (h.ext ▸ hh))), Nat.lt_of_lt_of_le h2 h.fr.size, fun j hj => (cell_of_block (a := ⟨x.g, j, none⟩) e).trans (h3 j hj), fun he => by rw [e]; exact h4 he⟩
theorem ev_sound {w0 : World} {own0 : O0} {X : Cx} {s : S} {a : Act} (h : SRel w0 own0 X s a) (x : Operand) : VRel X (s.ev x) (a.eval x) := by
  cases x with
  | tmp t =>
    simp only [S.ev, Act.eval]
    by_cases ht : t < s.t.length
    · rw [List.getD_eq_getElem?_getD, List.getElem?_eq_getElem ht]
      exact h.slot t ht
    · rw [List.getD_eq_getElem?_getD, List.getElem?_eq_none (Nat.le_of_not_lt ht)]
      exact .jk
  | const v =>
    simp only [S.ev, Act.eval]
    split
    · rename_i hv; exact .d (.v hv)
    · split
      · exact .nl
      · exact .jk
  | global g => exact .jk
  | func f => exact .fn rfl rfl (fun i h => absurd h (by simp)) (fun i h => absurd h (by simp))
theorem strip_sound {X : Cx} {x : AV} {v : Value} {k : AV → Prop} (hv : VRel X x v) (h : strip x k) : ∃ y, VRel X y v ∧ k y := ⟨x, hv, h⟩
theorem stripL_sound {X : Cx} : ∀ {l : List AV} {vs : List Value} {k : List AV → Prop}, l.length = vs.length → (∀ (i : Nat) (h : i < l.length) (h' : i < vs.length), VRel X l[i] vs[i]) → stripL l k →
    ∃ ys : List AV, ys.length = vs.length ∧ (∀ (i : Nat) (h : i < ys.length) (h' : i < vs.length), VRel X ys[i] vs[i]) ∧ k ys
  | [], [], k, _, _, h => ⟨[], rfl, fun i h => absurd h (by simp), h⟩
  | [], _ :: _, _, hl, _, _ => by simp at hl
  | _ :: _, [], _, hl, _, _ => by simp at hl
  | x :: l, v :: vs, k, hl, hr, h => by
    simp only [stripL] at h
    obtain ⟨y, hy, h⟩ := strip_sound (hr 0 (by simp) (by simp)) h
    obtain ⟨ys, hys, hr', hk⟩ := stripL_sound (by simpa using hl) (fun i h1 h2 => hr (i + 1) (by simp; omega) (by simp; omega)) h
    refine ⟨y :: ys, by simp [hys], fun i h1 h2 => ?_, hk⟩
    cases i with
    | zero => simpa using hy
    | succ i => simpa using hr' i (by simpa using h1) (by simpa using h2)
theorem isKd_ok {K : TypeId → Option TK} {t : TypeId} {p : KdT} (h : isKd K t p = true) : ∃ i, K t = some i ∧ i.kd.isT p = true := by
  unfold isKd at h
  split at h
  · rename_i i hi; exact ⟨i, hi, h⟩
  · cases h
theorem isKd_bool {K : TypeId → Option TK} {t : TypeId} (h : isKd K t .bool = true) : ∃ i, K t = some i ∧ i.kd = .bool := by
  obtain ⟨i, hi, h⟩ := isKd_ok h
  refine ⟨i, hi, ?_⟩
  cases e : i.kd <;> rw [e] at h <;> first | rfl | cases h
theorem isKd_str {K : TypeId → Option TK} {t : TypeId} (h : isKd K t .str = true) : ∃ i, K t = some i ∧ i.kd = .str := by
  obtain ⟨i, hi, h⟩ := isKd_ok h
  refine ⟨i, hi, ?_⟩
  cases e : i.kd <;> rw [e] at h <;> first | rfl | cases h
theorem isKd_func {K : TypeId → Option TK} {t : TypeId} (h : isKd K t .func = true) : ∃ i, K t = some i ∧ i.kd = .func := by
  obtain ⟨i, hi, h⟩ := isKd_ok h
  refine ⟨i, hi, ?_⟩
  cases e : i.kd <;> rw [e] at h <;> first | rfl | cases h
theorem isKd_slice {K : TypeId → Option TK} {t : TypeId} (h : isKd K t .slice = true) : ∃ i e, K t = some i ∧ i.kd = .slice e := by
  obtain ⟨i, hi, hk⟩ := isKd_ok h
  revert hk
  cases hkd : i.kd <;> intro hk <;> first | exact ⟨i, _, hi, hkd⟩ | cases hk
theorem isKd_ptr {K : TypeId → Option TK} {t : TypeId} (h : isKd K t .ptr = true) : ∃ i e, K t = some i ∧ i.kd = .ptr e := by
  obtain ⟨i, hi, h⟩ := isKd_ok h
  cases e : i.kd <;> rw [e] at h <;> first | exact ⟨i, _, hi, e⟩ | cases h
theorem isKd_map {K : TypeId → Option TK} {t : TypeId} (h : isKd K t .map = true) : ∃ i a e, K t = some i ∧ i.kd = .map a e := by
  obtain ⟨i, hi, h⟩ := isKd_ok h
  cases e : i.kd <;> rw [e] at h <;> first | exact ⟨i, _, _, hi, e⟩ | cases h
section
variable {X : Cx} {v : Value}
theorem inv_v {x : Value} (h : VRel X (.d (.v x)) v) : v = x ∧ plainV x = true := by
  cases h with | d h => cases h with | v hx => exact ⟨rfl, hx⟩
theorem inv_int {k : IntKind} {n : Int} (h : VRel X (.d (.v (.int k n))) v) : v = .int k n := (inv_v h).1
theorem inv_bool {b : Bool} (h : VRel X (.d (.v (.bool b))) v) : v = .bool b := (inv_v h).1
theorem inv_str {b : ByteArray} (h : VRel X (.d (.v (.string b))) v) : v = .string b ∧ b.size ≤ LIM := by
  obtain ⟨h1, h2⟩ := inv_v h
  exact ⟨h1, by simpa [plainV] using h2⟩
theorem inv_ag {cs : List AV} (h : VRel X (.ag cs) v) : ∃ arr, v = .agg arr ∧ arr.size = cs.length ∧ ∀ (j : Nat) (h : j < cs.length), VRel X cs[j] (arr.getD j undef) := by
  cases h with | ag hl hr => exact ⟨_, rfl, hl, hr⟩
theorem inv_tp {cs : List AV} (h : VRel X (.tp cs) v) : ∃ arr, v = .tuple arr ∧ arr.size = cs.length ∧ ∀ (j : Nat) (h : j < cs.length), VRel X cs[j] (arr.getD j undef) := by
  cases h with | tp hl hr => exact ⟨_, rfl, hl, hr⟩
end
theorem mkv {X : Cx} {x : Value} (h : plainV x = true) : VRel X (.d (.v x)) x := .d (.v h)
theorem bytes_eq_iff (a b : ByteArray) : (a.toList == b.toList) = decide (a = b) := by
  rw [Bool.eq_iff_iff]
  simp only [beq_iff_eq, decide_eq_true_eq]
  constructor
  · intro h
    rw [ByteArray.toList_eq, ByteArray.toList_eq] at h
    have h' : a.data = b.data := Array.toList_inj.1 h
    cases a; cases b; simpa using h'
  · rintro rfl; rfl
def Yields (P : Program) (C : World → Prop) (X : Cx) (a : Act) (o : Oper) (k : AV → Prop) : Prop :=
  ∃ v av, (∀ w', C w' → (execOp a.eval o).run P w' = .ok (.value v) w') ∧ VRel X av v ∧ k av
section
variable {P : Program} {C : World → Prop} {X : Cx} {a : Act} {o : Oper}
def Sld (C : World → Prop) (X : Cx) : Prop := ∀ w', C w' → ∀ b, b < X.w.heap.size → ¬ X.own b → w'.heap[b]? = X.w.heap[b]?
theorem sld_below {X : Cx} : Sld (Below X.w.heap.size X.w) X := fun w' h b hb _ => h.block b hb
theorem aInt_sound {op : BinOp} {t t2 : TypeId} {x y : Operand} {ka kb : IntKind} {m n : Int} {k : AV → Prop} (ho : o.op = .binOp op t x y t2) (hx : a.eval x = .int ka m) (hy : a.eval y = .int kb n)
    (h : aInt op ka m kb n k) : Yields P C X a o k := by
  unfold aInt at h
  replace h := chk_iff.1 h
  obtain ⟨h0, h⟩ := h
  have h0 : ka = kb := by simpa using h0
  subst h0
  split at h <;> first | exact h.elim | skip
  all_goals
    first
    | (obtain ⟨hb, h2⟩ := h; refine ⟨_, _, fun w' hw' => ?_, mkv rfl, h2⟩; simp [execOp, ho, hx, hy, eqGuard, binOp, Op.intArith, Op.intDiv, Op.intCmp, Op.intBits, andZ, orZ, hb])
    | (refine ⟨_, _, fun w' hw' => ?_, mkv rfl, h⟩; simp [execOp, ho, hx, hy, eqGuard, binOp, Op.intArith, Op.intDiv, Op.intCmp, Op.intBits, andZ, orZ])
theorem aStr_sound {op : BinOp} {t t2 : TypeId} {x y : Operand} {m n : ByteArray} {k : AV → Prop} (ho : o.op = .binOp op t x y t2) (hx : a.eval x = .string m) (hy : a.eval y = .string n)
    (h : aStr op m n k) : Yields P C X a o k := by
  unfold aStr at h
  split at h <;> first | exact h.elim | skip
  · obtain ⟨h1, h2⟩ := h
    refine ⟨_, _, fun w' hw' => ?_, mkv (x := .string (m ++ n)) (by simp [plainV, ByteArray.size_append]; omega), h2⟩
    have : ¬ ((m.size + n.size : Nat) : Int) > IntKind.i64.max := by unfold LIM at h1; simp [IntKind.max, IntKind.signed, IntKind.bits]; omega
    simp only [execOp, ho, hx, hy, eqGuard, binOp, Op.stringOp, this, if_false]
    simp
  all_goals
    refine ⟨_, _, fun w' hw' => ?_, mkv rfl, h⟩
    simp [execOp, ho, hx, hy, eqGuard, binOp, Op.stringOp, bytes_eq_iff]
theorem run_under {t : TypeId} {d : TypeDesc} (h : P.underlying t = some d) (w : World) : (underlying t).run P w = .ok d w := by
  simp [underlying, program, Sem.run, h]
theorem inv_func {f : Fn} {fs cs : List AV} {v : Value} (h : VRel X (.fn f fs cs) v) : ∃ a b, v = .func f a b := by
  cases h with | fn h1 h2 r1 r2 => exact ⟨_, _, rfl⟩
theorem inv_dfunc {f : Fn} {fs cs : List D} {v : Value} (h : VRel X (.d (.fn f fs cs)) v) : ∃ a b, v = .func f a b := by
  cases h with | d h => cases h with | fn h1 h2 r1 r2 => exact ⟨_, _, rfl⟩
theorem inv_rf {i off : Nat} {v : Value} (h : VRel X (.rf i off) v) : v = .pointer (some ⟨X.b i, off, none⟩) ∧ i < X.n := by
  cases h with | rf h hr => exact ⟨rfl, h⟩
theorem inv_mp {i : Nat} {v : Value} (h : VRel X (.mp i) v) : v = .map (some (X.b i)) ∧ i < X.n := by
  cases h with | mp h hr => exact ⟨rfl, h⟩
theorem inv_vw {r n : Nat} {v : Value} (h : VRel X (.vw r n) v) : r < X.n ∧ ((X.z r = false ∧ (n ≤ (X.c r).2 ∧ n ≤ (X.c r).1) ∧ v = .slice (some ⟨X.b r, 0, none⟩) n (X.c r).1) ∨ (X.z r = true ∧ n = 0 ∧ v = .slice none 0 0)) := by
  cases h with
  | vw h hz hn => exact ⟨h, .inl ⟨hz, hn, rfl⟩⟩
  | vz h hz => exact ⟨h, .inr ⟨hz, rfl, rfl⟩⟩
theorem inv_nl {v : Value} (h : VRel X .nl v) : v = .slice none 0 0 := by cases h; rfl
theorem equal_of {t : TypeId} (x y : Value) (b : Bool) (w : World) (h : ∀ n, (Op.equalIn (n + 1) t x y).run P w = .ok b w) : (Op.equal t x y).run P w = .ok b w := by
  simp only [Op.equal, Op.maxDepth]; exact h 9999
theorem eq_bool {t : TypeId} (hu : P.underlying t = some .bool) (a b : Bool) (w : World) : (Op.equal t (.bool a) (.bool b)).run P w = .ok (a == b) w :=
  equal_of _ _ _ _ fun n => by unfold Op.equalIn; simp [run_under hu]
theorem eq_func_nil {t : TypeId} {u1 u2 u3} (hu : P.underlying t = some (.func u1 u2 u3)) (f : Fn) (x y : Array Value) (w : World) : (Op.equal t (.func f x y) .nilFunc).run P w = .ok false w :=
  equal_of _ _ _ _ fun n => by unfold Op.equalIn; simp [run_under hu]
theorem eq_nil_nil {t : TypeId} {u1 u2 u3} (hu : P.underlying t = some (.func u1 u2 u3)) (w : World) : (Op.equal t .nilFunc .nilFunc).run P w = .ok true w :=
  equal_of _ _ _ _ fun n => by unfold Op.equalIn; simp [run_under hu]
theorem eq_ptr_nil {t e : TypeId} (hu : P.underlying t = some (.pointer e)) (x : Option Addr) (w : World) : (Op.equal t (.pointer x) (.pointer none)).run P w = .ok x.isNone w :=
  equal_of _ _ _ _ fun n => by unfold Op.equalIn; cases x <;> simp [run_under hu]
theorem eq_slice_nil {t e : TypeId} (hu : P.underlying t = some (.slice e)) (x : Option Addr) (n c : Nat) (w : World) : (Op.equal t (.slice x n c) (.slice none 0 0)).run P w = .ok x.isNone w :=
  equal_of _ _ _ w fun n => by unfold Op.equalIn; cases x <;> simp [run_under hu]
theorem eq_map_nil {t e e' : TypeId} (hu : P.underlying t = some (.map e e')) (x : Option Nat) (w : World) : (Op.equal t (.map x) (.map none)).run P w = .ok x.isNone w :=
  equal_of _ _ _ _ fun n => by unfold Op.equalIn; cases x <;> simp [run_under hu]
theorem eqCells_sound {K : TypeId → Option TK} (hK : KOk P K) (d : Nat) (w : World) {xs ys : List AV} {ax ay : Array Value} (lx : ax.size = xs.length) (ly : ay.size = ys.length)
    (rx : ∀ (j : Nat) (h : j < xs.length), VRel X xs[j] (ax.getD j undef)) (ry : ∀ (j : Nat) (h : j < ys.length), VRel X ys[j] (ay.getD j undef)) :
    ∀ (fs : List Field) (r : Bool), (∀ f ∈ fs, f.name ≠ "_") → eqCells K (fs.map fun f => (f.offset, f.type)) xs ys = some r → (Op.eqFields (d + 1) ax ay fs).run P w = .ok r w
  | [], r, _, h => by
    simp only [List.map_nil, eqCells, Option.some.injEq] at h
    subst h; rfl
  | f :: fs, r, hn, h => by
    simp only [List.map_cons, eqCells] at h
    have hne := hn f (by simp)
    have at' : ∀ {l : List AV} {arr : Array Value} {x : AV}, arr.size = l.length → (∀ (j : Nat) (h : j < l.length), VRel X l[j] (arr.getD j undef)) → l.getD f.offset .jk = x → x ≠ .jk → ∃ v, arr[f.offset]? = some v ∧ VRel X x v := by
      intro l arr x h1 h2 h3 h4
      rw [List.getD_eq_getElem?_getD] at h3
      by_cases hlt : f.offset < l.length
      · rw [List.getElem?_eq_getElem hlt] at h3
        have h3 : l[f.offset] = x := h3
        have h5 : f.offset < arr.size := by omega
        refine ⟨arr[f.offset], Array.getElem?_eq_getElem h5, ?_⟩
        have := h2 f.offset hlt
        rw [h3] at this
        simpa [Array.getD_eq_getD_getElem?, h5] using this
      · rw [List.getElem?_eq_none (by omega)] at h3
        exact absurd h3.symm h4
    have go : ∀ (a b : Value) (e : Bool) (td : TypeDesc), P.underlying f.type = some td → (match td with | .struct _ | .array _ _ => true | _ => false) = false → ax[f.offset]? = some a → ay[f.offset]? = some b → (Op.equalIn (d + 1) f.type a b).run P w = .ok e w → (eqCells K (fs.map fun f => (f.offset, f.type)) xs ys).map (fun r => e && r) = some r →
        (Op.eqFields (d + 1) ax ay (f :: fs)).run P w = .ok r w := by
      intro a b e td hu hag ha hb he hr
      obtain ⟨r', hr', rfl⟩ := Option.map_eq_some_iff.1 hr
      have ih := eqCells_sound hK d w lx ly rx ry fs r' (fun g hg => hn g (by simp [hg])) hr'
      have hpart : ∀ (arr : Array Value) (v : Value), arr[f.offset]? = some v → (part f.type arr f.offset).run P w = .ok v w := by
        intro arr v hv
        unfold part isAgg
        simp only [Sem.run_bind, run_under hu, Result.andThen_ok]
        cases td <;> simp at hag <;> simp [hv]
      unfold Op.eqFields
      simp only [ne_eq, hne, not_false_eq_true, if_true, Sem.run_bind, hpart ax a ha, hpart ay b hb, Result.andThen_ok, he]
      cases e
      · simp
      · simpa using ih
    split at h
    · rename_i a b h1 h2 hk
      obtain ⟨va, e1, v1⟩ := at' lx rx h1 (by simp)
      obtain ⟨vb, e2, v2⟩ := at' ly ry h2 (by simp)
      have i1 := (inv_str v1).1
      have i2 := (inv_str v2).1
      subst i1 i2
      refine go _ _ _ _ (kd_ok hK hk) rfl e1 e2 ?_ h
      rw [run_equalIn_string w d f.type a b (kd_ok hK hk), bytes_eq_iff]
    · rename_i j a j' b kk h1 h2 hk
      split at h
      · rename_i hj
        subst hj
        obtain ⟨va, e1, v1⟩ := at' lx rx h1 (by simp)
        obtain ⟨vb, e2, v2⟩ := at' ly ry h2 (by simp)
        have i1 := inv_int v1
        have i2 := inv_int v2
        subst i1 i2
        exact go _ _ _ _ (kd_ok hK hk) rfl e1 e2 (run_equalIn_int w d f.type j _ a b (kd_ok hK hk)) h
      · cases h
    · rename_i a b h1 h2 hk
      obtain ⟨va, e1, v1⟩ := at' lx rx h1 (by simp)
      obtain ⟨vb, e2, v2⟩ := at' ly ry h2 (by simp)
      have i1 := inv_bool v1
      have i2 := inv_bool v2
      subst i1 i2
      exact go _ _ _ _ (kd_ok hK hk) rfl e1 e2 (run_equalIn_bool' w d f.type a b (kd_ok hK hk)) h
    · cases h
set_option maxHeartbeats 1000000 in
theorem aBin_sound {K : TypeId → Option TK} (hK : KOk P K) {op : BinOp} {t t2 : TypeId} {x y : Operand} {p q : AV} {k : AV → Prop} (ho : o.op = .binOp op t x y t2)
    (hx : VRel X p (a.eval x)) (hy : VRel X q (a.eval y)) (h : aBin K op t p q k) : Yields P C X a o k := by
  unfold aBin at h
  split at h
  · rename_i xs ys
    split at h
    · rename_i i hi
      split at h
      · rename_i fs hkd
        obtain ⟨hc, h⟩ := chk_iff.1 h
        split at h
        · rename_i r hr
          obtain ⟨ax, e1, lx, rx⟩ := inv_ag hx
          obtain ⟨ay, e2, ly, ry⟩ := inv_ag hy
          have ti := hK t i hi
          have hu := ti.kd
          rw [hkd] at hu
          obtain ⟨fields, hu, hfs⟩ := hu
          have hq := ti.cmp hc
          simp only [eqOkB, hu, Bool.and_eq_true, Bool.not_eq_true', List.all_eq_true, bne_iff_ne] at hq
          obtain ⟨⟨q1, q2⟩, q3⟩ := hq
          have hf : P.fieldsOf t = fields := by simp only [Program.fieldsOf, hu]
          have hrun : ∀ w', (Op.equalIn 10000 t (.agg ax) (.agg ay)).run P w' = .ok r w' := fun w' => by
            rw [run_equalIn_struct w' 9999 t ax ay (by rw [hf]; exact hu) q1, hf]
            exact eqCells_sound hK 9998 w' lx ly rx ry fields.toList r q3 (by rw [hfs]; exact hr)
          split at h <;> first | exact h.elim | skip
          · refine ⟨_, _, fun w' hw' => ?_, mkv rfl, h⟩
            simp [execOp, ho, e1, e2, run_eqGuard_agg w' _ t x y ax ay q2, run_eql_struct w' t ax ay, hrun]
          · refine ⟨_, _, fun w' hw' => ?_, mkv rfl, h⟩
            simp [execOp, ho, e1, e2, run_eqGuard_agg w' _ t x y ax ay q2, run_neq_struct w' t ax ay, hrun]
        · exact h.elim
      · exact h.elim
    · exact h.elim
  · exact aInt_sound ho (inv_int hx) (inv_int hy) h
  · exact aStr_sound ho (inv_str hx).1 (inv_str hy).1 h
  · replace h := chk_iff.1 h
    obtain ⟨h0, h⟩ := h
    obtain ⟨i, hi, hk⟩ := isKd_bool h0
    have hu : P.underlying t = some .bool := by have := (hK t i hi).kd; rw [hk] at this; exact this
    have e1 := inv_bool hx
    have e2 := inv_bool hy
    split at h <;> first | exact h.elim | skip
    all_goals
      refine ⟨_, _, fun w' hw' => ?_, mkv rfl, h⟩
      simp [execOp, ho, e1, e2, eqGuard, binOp, eq_bool hu]
  · replace h := chk_iff.1 h
    obtain ⟨h0, h⟩ := h
    obtain ⟨i, hi, hk⟩ := isKd_func h0
    have hu := (hK t i hi).kd
    rw [hk] at hu
    obtain ⟨u1, u2, u3, hu⟩ := hu
    obtain ⟨f1, f2, e1⟩ := inv_func hx
    have e2 := (inv_v hy).1
    split at h <;> first | exact h.elim | skip
    all_goals
      refine ⟨_, _, fun w' hw' => ?_, mkv rfl, h⟩
      simp [execOp, ho, e1, e2, eqGuard, binOp, eq_func_nil hu]
  · replace h := chk_iff.1 h
    obtain ⟨h0, h⟩ := h
    obtain ⟨i, hi, hk⟩ := isKd_func h0
    have hu := (hK t i hi).kd
    rw [hk] at hu
    obtain ⟨u1, u2, u3, hu⟩ := hu
    obtain ⟨f1, f2, e1⟩ := inv_dfunc hx
    have e2 := (inv_v hy).1
    split at h <;> first | exact h.elim | skip
    all_goals
      refine ⟨_, _, fun w' hw' => ?_, mkv rfl, h⟩
      simp [execOp, ho, e1, e2, eqGuard, binOp, eq_func_nil hu]
  · replace h := chk_iff.1 h
    obtain ⟨h0, h⟩ := h
    obtain ⟨i, hi, hk⟩ := isKd_func h0
    have hu := (hK t i hi).kd
    rw [hk] at hu
    obtain ⟨u1, u2, u3, hu⟩ := hu
    have e1 := (inv_v hx).1
    have e2 := (inv_v hy).1
    split at h <;> first | exact h.elim | skip
    all_goals
      refine ⟨_, _, fun w' hw' => ?_, mkv rfl, h⟩
      simp [execOp, ho, e1, e2, eqGuard, binOp, eq_nil_nil hu]
  · replace h := chk_iff.1 h
    obtain ⟨h0, h⟩ := h
    obtain ⟨i, e, hi, hk⟩ := isKd_ptr h0
    have hu : P.underlying t = some (.pointer e) := by have := (hK t i hi).kd; rw [hk] at this; exact this
    have e1 := (inv_rf hx).1
    have e2 := (inv_v hy).1
    split at h <;> first | exact h.elim | skip
    all_goals
      refine ⟨_, _, fun w' hw' => ?_, mkv rfl, h⟩
      simp [execOp, ho, e1, e2, eqGuard, binOp, eq_ptr_nil hu]
  · replace h := chk_iff.1 h
    obtain ⟨h0, h⟩ := h
    obtain ⟨i, e, hi, hk⟩ := isKd_ptr h0
    have hu : P.underlying t = some (.pointer e) := by have := (hK t i hi).kd; rw [hk] at this; exact this
    have e1 := (inv_v hx).1
    have e2 := (inv_v hy).1
    split at h <;> first | exact h.elim | skip
    all_goals
      refine ⟨_, _, fun w' hw' => ?_, mkv rfl, h⟩
      simp [execOp, ho, e1, e2, eqGuard, binOp, eq_ptr_nil hu]
  · replace h := chk_iff.1 h
    obtain ⟨h0, h⟩ := h
    obtain ⟨i, e, e', hi, hk⟩ := isKd_map h0
    have hu : P.underlying t = some (.map e e') := by have := (hK t i hi).kd; rw [hk] at this; exact this
    have e1 := (inv_v hx).1
    have e2 := (inv_v hy).1
    split at h <;> first | exact h.elim | skip
    all_goals
      refine ⟨_, _, fun w' hw' => ?_, mkv rfl, h⟩
      simp [execOp, ho, e1, e2, eqGuard, binOp, eq_map_nil hu]
  · replace h := chk_iff.1 h
    obtain ⟨h0, h⟩ := h
    obtain ⟨i, e, hi, hk⟩ := isKd_ptr h0
    have hu : P.underlying t = some (.pointer e) := by have := (hK t i hi).kd; rw [hk] at this; exact this
    have e1 := (inv_v hx).1
    have e2 := (inv_v hy).1
    split at h <;> first | exact h.elim | skip
    all_goals
      refine ⟨_, _, fun w' hw' => ?_, mkv rfl, h⟩
      simp [execOp, ho, e1, e2, eqGuard, binOp, eq_ptr_nil hu]
  · replace h := chk_iff.1 h
    obtain ⟨h0, hn0, h⟩ := h
    obtain ⟨i, e, hi, hk⟩ := isKd_slice h0
    have hu : P.underlying t = some (.slice e) := by have := (hK t i hi).kd; rw [hk] at this; exact this
    have e2 := inv_nl hy
    obtain ⟨_, ⟨_, _, e1⟩ | ⟨_, e0, _⟩⟩ := inv_vw hx
    · split at h <;> first | exact h.elim | skip
      all_goals
        refine ⟨_, _, fun w' hw' => ?_, mkv rfl, h⟩
        simp [execOp, ho, e1, e2, eqGuard, binOp, eq_slice_nil hu]
    · omega
  · replace h := chk_iff.1 h
    obtain ⟨h0, h⟩ := h
    obtain ⟨i, e, e', hi, hk⟩ := isKd_map h0
    have hu : P.underlying t = some (.map e e') := by have := (hK t i hi).kd; rw [hk] at this; exact this
    have e1 := (inv_mp hx).1
    have e2 := (inv_v hy).1
    split at h <;> first | exact h.elim | skip
    all_goals
      refine ⟨_, _, fun w' hw' => ?_, mkv rfl, h⟩
      simp [execOp, ho, e1, e2, eqGuard, binOp, eq_map_nil hu]
  · replace h := chk_iff.1 h
    obtain ⟨h0, h⟩ := h
    obtain ⟨i, e, e', hi, hk⟩ := isKd_map h0
    have hu : P.underlying t = some (.map e e') := by have := (hK t i hi).kd; rw [hk] at this; exact this
    have e1 := (inv_v hx).1
    have e2 := (inv_v hy).1
    split at h <;> first | exact h.elim | skip
    all_goals
      refine ⟨_, _, fun w' hw' => ?_, mkv rfl, h⟩
      simp [execOp, ho, e1, e2, eqGuard, binOp, eq_map_nil hu]
  · exact h.elim
theorem fam_at {o : List Ob} {i : Nat} {R : Rep} {f : FamD} (g : GRel X o) (hi : o[i]? = some (.bun R)) (ht : R.tag = some f) : X.z i = false ∧ FamP f X.own X.w (X.b i) (X.c i).fp := by
  obtain ⟨hz, hp⟩ := g.rel i _ hi
  exact ⟨hz, R.tagOK f ht _ _ _ _ hp⟩
theorem findF_spec : ∀ {l : List Ob} {n i : Nat} {f : FamD}, findF l n = some (i, f) → ∃ R, n ≤ i ∧ l[i - n]? = some (.bun R) ∧ R.tag = some f
  | [], _, _, _, h => by cases h
  | x :: l, n, i, f, h => by
    have tail : findF l (n + 1) = some (i, f) → ∃ R, n ≤ i ∧ (x :: l)[i - n]? = some (.bun R) ∧ R.tag = some f := fun h => by
      obtain ⟨R, h1, h2, h3⟩ := findF_spec h
      refine ⟨R, by omega, ?_, h3⟩
      rw [show i - n = (i - (n + 1)) + 1 by omega]
      exact h2
    cases x with
    | bun R =>
      simp only [findF] at h
      split at h
      · rename_i g hg
        cases h
        exact ⟨R, Nat.le_refl _, by simp, hg⟩
      · exact tail h
    | _ => exact tail (by simpa only [findF] using h)
theorem findF_at {l : List Ob} {i : Nat} {f : FamD} (h : findF l 0 = some (i, f)) : ∃ R, l[i]? = some (.bun R) ∧ R.tag = some f := by
  obtain ⟨R, _, h2, h3⟩ := findF_spec h
  exact ⟨R, by simpa using h2, h3⟩
theorem recF_mem : ∀ {l : List (Key × Nat × Rec)} {b : Nat} {r : Rec}, recF b l = some r → ∃ e ∈ l, e.2.1 = b ∧ e.2.2 = r
  | [], _, _, h => by cases h
  | e :: l, b, r, h => by
    unfold recF at h
    split at h
    · rename_i he
      cases h
      exact ⟨e, by simp, he, rfl⟩
    · obtain ⟨x, h1, h2⟩ := recF_mem h
      exact ⟨x, by simp [h1], h2⟩
theorem cellsR_get : ∀ (ks : List FK) (r : Rec) (n : Nat), (cellsR ks r n).length = ks.length ∧ ∀ (j : Nat) (h : j < (cellsR ks r n).length) (h' : j < ks.length), (cellsR ks r n)[j] = .d (.v (ks[j].val r (n + j)))
  | [], r, n => ⟨rfl, fun j h => absurd h (by simp [cellsR])⟩
  | k :: l, r, n => by
    obtain ⟨h1, h2⟩ := cellsR_get l r (n + 1)
    cases k <;>
    · refine ⟨by simp [cellsR, h1], fun j hj hj' => ?_⟩
      cases j with
      | zero => simp [cellsR, FK.val]
      | succ j =>
        simp only [cellsR, List.getElem_cons_succ]
        rw [h2 j (by rw [h1]; simpa using hj') (by simpa using hj')]
        rw [show n + 1 + j = n + (j + 1) by omega]
theorem cells_mem {ks : List FK} {r : Rec} {b : Nat} {w : World} (hm : MemP (.box ks) r w b) : ∃ arr T, w.heap[b]? = some (.cells arr T (0, 0)) ∧ arr.size = ks.length ∧ ∀ (j : Nat) (h : j < (cellsR ks r 0).length), VRel X (cellsR ks r 0)[j] (arr.getD j undef) := by
  obtain ⟨arr, T, h1, h2, h3⟩ := hm
  refine ⟨arr, T, h1, h2, fun j hj => ?_⟩
  obtain ⟨e1, e2⟩ := cellsR_get ks r 0
  have hj' : j < ks.length := by omega
  rw [e2 j hj hj', (h3 j hj').2, Nat.zero_add]
  exact .d (.v (h3 j hj').1)
end
end Go.AM
