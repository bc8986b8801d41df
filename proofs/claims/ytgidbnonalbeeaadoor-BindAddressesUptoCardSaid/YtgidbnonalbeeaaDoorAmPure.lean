import Derived.Test.YtgidbnonalbeeaaDoorAmRel
set_option linter.unusedSimpArgs false
set_option linter.unusedVariables false
set_option linter.unnecessarySimpa false
namespace Go.AM
open Go.RowKit
section
variable {P : Program} {X : Cx} {a : Act} {o : Oper} {K : TypeId → Option TK} {s : S} {k : AV → Prop} {w0 : World} {own0 : O0}

theorem p_move {x : Operand} (hs : SRel w0 own0 X s a) (ho : o.op = .move x) (h : strip (s.ev x) k) : Yields P X a o k := by
  obtain ⟨y, hy, hk⟩ := strip_sound (ev_sound hs x) h
  exact ⟨_, y, fun w' hw' => by simp [execOp, ho], hy, hk⟩

theorem p_unOp {op : UnOp} {t : TypeId} {x : Operand} (hs : SRel w0 own0 X s a) (ho : o.op = .unOp op t x) (h : aPure K s (.unOp op t x) k) : Yields P X a o k := by
  simp only [aPure] at h
  obtain ⟨y, hy, h⟩ := strip_sound (ev_sound hs x) h
  split at h
  · have e := inv_bool hy
    exact ⟨_, _, fun w' hw' => by simp [execOp, ho, Op.unary, e], mkv rfl, h⟩
  · have e := inv_int hy
    exact ⟨_, _, fun w' hw' => by simp [execOp, ho, Op.unary, Op.intArith, e]; rfl, mkv rfl, by simpa using h⟩
  · exact h.elim

theorem p_extract {x : Operand} {i : Nat} (hs : SRel w0 own0 X s a) (ho : o.op = .extract x i) (h : aPure K s (.extract x i) k) : Yields P X a o k := by
  simp only [aPure] at h
  obtain ⟨y, hy, h⟩ := strip_sound (ev_sound hs x) h
  split at h
  · rename_i vs
    obtain ⟨arr, e, hl, hr⟩ := inv_tp hy
    obtain ⟨hi, hk⟩ := chk_iff.1 h
    have hi : i < vs.length := by simpa using hi
    have h1 := hr i hi
    refine ⟨arr.getD i undef, _, fun w' hw' => ?_, h1, by rwa [List.getD_eq_getElem?_getD, List.getElem?_eq_getElem hi] at hk⟩
    have hi' : i < arr.size := by omega
    simp [execOp, ho, e, Instr.extract, hi']
  · exact h.elim

theorem p_index {t : TypeId} {x i : Operand} (hK : KOk P K) (hs : SRel w0 own0 X s a) (ho : o.op = .index t x i) (h : aPure K s (.index t x i) k) : Yields P X a o k := by
  simp only [aPure] at h
  obtain ⟨y, hy, h1⟩ := strip_sound (ev_sound hs x) h
  clear h
  obtain ⟨z, hz, h⟩ := strip_sound (ev_sound hs i) h1
  clear h1
  split at h
  · rename_i b ki n hkd
    have e1 := (inv_str hy).1
    have e2 := inv_int hz
    have hu := kd_ok hK hkd
    obtain ⟨⟨h1, h2⟩, hk⟩ := h
    refine ⟨_, _, fun w' hw' => ?_, mkv rfl, hk⟩
    have hn : n.toNat < b.size := by omega
    have hn' : n.toNat < b.data.size := hn
    have hg : b[n.toNat]? = some (b.data.toList.getD n.toNat 0) := by
      rw [getElem?_pos b n.toNat hn]
      simp only [List.getD_eq_getElem?_getD, ByteArray.getElem_eq_getElem_data, Array.getElem?_toList, getElem?_pos b.data n.toNat hn', Option.getD_some]
    simp [execOp, ho, e1, e2, Instr.index, asIntOf, run_under hu, h1, hg]
  · exact h.elim

theorem p_convert {t t' : TypeId} {x : Operand} (hK : KOk P K) (hs : SRel w0 own0 X s a) (ho : o.op = .convert t t' x) (h : aPure K s (.convert t t' x) k) : Yields P X a o k := by
  simp only [aPure] at h
  obtain ⟨y, hy, h⟩ := strip_sound (ev_sound hs x) h
  split at h
  · rename_i ki n j hkd
    obtain ⟨hi0, hk⟩ := chk_iff.1 h
    obtain ⟨i, hi⟩ := Option.isSome_iff_exists.1 hi0
    obtain ⟨d, hd⟩ := (hK t i hi).und
    have hu := kd_ok hK hkd
    have e := inv_int hy
    refine ⟨_, _, fun w' hw' => ?_, mkv rfl, hk⟩
    simp [execOp, ho, e, convert, run_under hd, run_under hu, Conv.intToInt]
  · rename_i b hkd
    obtain ⟨h0, hk⟩ := chk_iff.1 h
    obtain ⟨i, hi, hk1⟩ := isKd_str h0
    have hd : P.underlying t = some .string := by have := (hK t i hi).kd; rw [hk1] at this; exact this
    have hu := kd_ok hK hkd
    obtain ⟨e, hb⟩ := inv_str hy
    refine ⟨_, _, fun w' hw' => ?_, mkv (x := .string b) (by simpa [plainV] using hb), hk⟩
    simp [execOp, ho, e, convert, run_under hd, run_under hu]
  · exact h.elim

theorem p_field {t : TypeId} {x : Operand} {f : Nat} (hK : KOk P K) (hs : SRel w0 own0 X s a) (ho : o.op = .field t x f) (h : aPure K s (.field t x f) k) : Yields P X a o k := by
  simp only [aPure] at h
  obtain ⟨y, hy, h⟩ := strip_sound (ev_sound hs x) h
  split at h
  · rename_i cs fs hkd
    obtain ⟨arr, e, hl, hr⟩ := inv_ag hy
    obtain ⟨fields, hu, hfs⟩ := kd_ok hK hkd
    split at h
    · rename_i off ft hf
      rw [← hfs] at hf
      simp only [List.getElem?_map, Option.map_eq_some_iff, Prod.mk.injEq] at hf
      obtain ⟨fld, hfld, hoff, hty⟩ := hf
      have hfld' : fields[f]? = some fld := by simpa using hfld
      split at h
      · rename_i i hi
        have ti := hK ft i hi
        obtain ⟨tinf, hti, hsz, _, _⟩ := ti.info
        split at h
        · rename_i hag
          obtain ⟨hb, hk⟩ := chk_iff.1 h
          have hb : off + i.sz ≤ cs.length := by simpa using hb
          refine ⟨.agg (arr.extract off (off + i.sz)), _, fun w' hw' => ?_, .ag (by simp; omega) (fun j hj => ?_), hk⟩
          · simp [execOp, ho, e, Instr.field, run_under hu, hfld', hoff, hty, part, ti.agg, hag, asAgg, sizeOf, typeInfo, program, Sem.run, hti, hsz]
          · simp only [List.length_take, List.length_drop] at hj
            have := hr (off + j) (by omega)
            simp only [List.getElem_take, List.getElem_drop]
            have e2 : (arr.extract off (off + i.sz)).getD j undef = arr.getD (off + j) undef := by
              simp only [Array.getD_eq_getD_getElem?]
              rw [Array.getElem?_extract]
              have : j < min (off + i.sz) arr.size - off := by omega
              simp [this]
            rw [e2]; exact this
        · rename_i hag
          obtain ⟨hb, hk⟩ := chk_iff.1 h
          have hb : off < cs.length := by simpa using hb
          refine ⟨arr.getD off undef, cs[off], fun w' hw' => ?_, hr off hb, ?_⟩
          · have hb' : off < arr.size := by omega
            simp [execOp, ho, e, Instr.field, run_under hu, hfld', hoff, hty, part, ti.agg, hag, asAgg, hb']
          · rwa [List.getD_eq_getElem?_getD, List.getElem?_eq_getElem hb] at hk
      · exact h.elim
    · exact h.elim
  · exact h.elim

theorem map_rel (hs : SRel w0 own0 X s a) (l : Array Operand) (i : Nat) (h : i < (l.toList.map s.ev).length) (h' : i < (l.toList.map a.eval).length) : VRel X (l.toList.map s.ev)[i] (l.toList.map a.eval)[i] := by
  simp only [List.getElem_map]
  exact ev_sound hs _

theorem p_makeFunc {fn : Fn} {fs cs : Array Operand} (hs : SRel w0 own0 X s a) (ho : o.op = .makeFunc fn fs cs) (h : aPure K s (.makeFunc fn fs cs) k) : Yields P X a o k := by
  simp only [aPure] at h
  obtain ⟨y, hy, hyr, h⟩ := stripL_sound (by simp) (map_rel hs fs) h
  obtain ⟨z, hz, hzr, h⟩ := stripL_sound (by simp) (map_rel hs cs) h
  simp only [List.length_map, Array.length_toList] at hy hz
  refine ⟨.func fn (fs.map a.eval) (cs.map a.eval), _, fun w' hw' => by simp [execOp, ho, Instr.makeFunc], .fn (by simp [hy]) (by simp [hz]) (fun i hi => ?_) (fun i hi => ?_), h⟩
  · have := hyr i hi (by simp; omega)
    simp only [List.getElem_map] at this
    have e : (fs.map a.eval).getD i undef = a.eval fs.toList[i] := by
      have : i < fs.size := by omega
      simp [Array.getD_eq_getD_getElem?, this]
    rw [e]; exact this
  · have := hzr i hi (by simp; omega)
    simp only [List.getElem_map] at this
    have e : (cs.map a.eval).getD i undef = a.eval cs.toList[i] := by
      have : i < cs.size := by omega
      simp [Array.getD_eq_getD_getElem?, this]
    rw [e]; exact this

theorem inv_rp {r sz i off : Nat} {v : Value} (h : VRel X (.rp r sz i off) v) : v = .pointer (some ⟨X.b r, i * sz + off, none⟩) ∧ r < X.n := by
  cases h with | rp h => exact ⟨rfl, h⟩
theorem inv_ep {c : List D} {v : Value} (h : VRel X (.ep c) v) : ∃ b off, v = .pointer (some ⟨b, off, none⟩) ∧ ∃ g : Nat → Value, (0 < c.length → ¬ X.own b) ∧ (∀ j, j < c.length → X.w.cell? ⟨b, off + j, none⟩ = some (g j)) ∧
    ∀ (j : Nat) (h : j < c.length), DRel X.own X.w c[j] (g j) := by
  cases h with | ep g h1 h2 h3 => exact ⟨_, _, rfl, g, h1, h2, h3⟩

theorem p_nilCheck {x : Operand} (hs : SRel w0 own0 X s a) (ho : o.op = .nilCheck x) (h : aPure K s (.nilCheck x) k) : Yields P X a o k := by
  simp only [aPure] at h
  obtain ⟨y, hy, h⟩ := strip_sound (ev_sound hs x) h
  split at h
  · exact ⟨a.eval x, _, fun w' hw' => by simp [execOp, ho, (inv_rf hy).1], hy, h⟩
  · exact ⟨a.eval x, _, fun w' hw' => by simp [execOp, ho, (inv_rp hy).1], hy, h⟩
  · obtain ⟨b, off, e, _⟩ := inv_ep hy
    exact ⟨a.eval x, _, fun w' hw' => by simp [execOp, ho, e], hy, h⟩
  · obtain ⟨p, q, e⟩ := inv_func hy
    exact ⟨a.eval x, _, fun w' hw' => by simp [execOp, ho, e], hy, h⟩
  · obtain ⟨p, q, e⟩ := inv_dfunc hy
    exact ⟨a.eval x, _, fun w' hw' => by simp [execOp, ho, e], hy, h⟩
  · exact h.elim

theorem inv_sl {es : List (List D)} {v : Value} (h : VRel X (.d (.sl es)) v) : es.length ≤ LIM ∧ ((es = [] ∧ ∃ ad cap, v = .slice ad 0 cap) ∨ ∃ b off cap sz, ∃ gg : Nat → Nat → Value, v = .slice (some ⟨b, off, none⟩) es.length cap ∧ es.length ≤ cap ∧ 0 < sz ∧
    (0 < es.length → ¬ X.own b) ∧ (∀ (i : Nat) (h : i < es.length), es[i].length = sz) ∧ (∀ i j, i < es.length → j < sz → X.w.cell? ⟨b, off + (i * sz + j), none⟩ = some (gg i j)) ∧
    ∀ (i : Nat) (hi : i < es.length) (j : Nat) (hj : j < es[i].length), DRel X.own X.w es[i][j] (gg i j)) := by
  cases h with | d h => cases h with
    | nil => exact ⟨by simp, .inl ⟨rfl, _, _, rfl⟩⟩
    | sl sz hz gg hl hcap hb hsz hc hr => exact ⟨hl, .inr ⟨_, _, _, sz, gg, rfl, hcap, hz, hb, hsz, hc, hr⟩⟩

/-- The slice of a slice, as a value. -/
theorem inv_sl_shape {es : List (List D)} {v : Value} (h : VRel X (.d (.sl es)) v) : ∃ ad cap, v = .slice ad es.length cap ∧ es.length ≤ cap := by
  obtain ⟨_, ⟨rfl, ad, cap, rfl⟩ | ⟨b, off, cap, sz, gg, e, hc, _⟩⟩ := inv_sl h
  · exact ⟨ad, cap, rfl, by simp⟩
  · exact ⟨_, _, e, hc⟩

theorem p_len {c : Call} (hK : KOk P K) (hs : SRel w0 own0 X s a) (ho : o.op = .call c) (hc : c.callee = .builtin .len) (h : aPure K s (.call c) k) : Yields P X a o k := by
  simp only [aPure, hc] at h
  split at h
  · rename_i x t hargs htys
    obtain ⟨y, hy, h1⟩ := strip_sound (ev_sound hs x) h
    clear h
    have ha : c.args = #[x] := by rw [← Array.toArray_toList (xs := c.args), hargs]
    have ht : c.argTypes = #[t] := by rw [← Array.toArray_toList (xs := c.argTypes), htys]
    have run : ∀ (d : TypeDesc) (n : Int), P.underlying t = some d → (∀ w', Below X.w.heap.size X.w w' → (Builtin.len_ c.argTypes o.type #[a.eval x]).run P w' = .ok (.int .i64 n) w') → ∀ w', Below X.w.heap.size X.w w' → (execOp a.eval o).run P w' = .ok (.value (.int .i64 n)) w' := by
      intro d n hu hr w' hw'
      have hr := hr w' hw'
      simp [execOp, ho, resolve, hc, ha, invoke, builtin, hr]
    split at h1
    · rename_i es e hkd
      have hu := kd_ok hK hkd
      obtain ⟨ad, cap, e, _⟩ := inv_sl_shape hy
      refine ⟨_, _, run _ es.length hu fun w' hw' => ?_, mkv rfl, h1 (inv_sl hy).1⟩
      simp [Builtin.len_, ht, e, run_under hu, goInt]
    · rename_i b hkd
      have hu := kd_ok hK hkd
      obtain ⟨e, hb⟩ := inv_str hy
      refine ⟨_, _, run _ b.size hu fun w' hw' => ?_, mkv rfl, h1 hb⟩
      simp [Builtin.len_, ht, e, run_under hu, goInt]
    · rename_i r n e hkd
      have hu := kd_ok hK hkd
      obtain ⟨_, ⟨_, _, e⟩ | ⟨_, rfl, e⟩⟩ := inv_vw hy
      · refine ⟨_, _, run _ n hu fun w' hw' => ?_, mkv rfl, h1⟩
        simp [Builtin.len_, ht, e, run_under hu, goInt]
      · refine ⟨_, _, run _ 0 hu fun w' hw' => ?_, mkv rfl, h1⟩
        simp [Builtin.len_, ht, e, run_under hu, goInt]
    · rename_i e hkd
      have hu := kd_ok hK hkd
      have e := inv_nl hy
      refine ⟨_, _, run _ 0 hu fun w' hw' => ?_, mkv rfl, h1⟩
      simp [Builtin.len_, ht, e, run_under hu, goInt]
    · rename_i i kt et hkd
      have hu := kd_ok hK hkd
      obtain ⟨e, hi⟩ := inv_mp hy
      split at h1
      · rename_i kk ents hents
        have := hs.g.rel i _ hents
        obtain ⟨hzz, _, me, clock, hh, hsz, _⟩ := this
        refine ⟨_, _, run _ ents.length hu fun w' hw' => ?_, mkv rfl, h1⟩
        have hh' := (hw'.block (X.b i) (hs.g.lt i _ hents rfl (by assumption))).trans hh
        simp [Builtin.len_, ht, e, run_under hu, goInt, getObj, Sem.run, hh', hsz]
      · exact h1.elim
    · rename_i kt et hkd
      have hu := kd_ok hK hkd
      have e := (inv_v hy).1
      refine ⟨_, _, run _ 0 hu fun w' hw' => ?_, mkv rfl, h1⟩
      simp [Builtin.len_, ht, e, run_under hu, goInt]
    · exact h1.elim
  · exact h.elim

theorem minL_sound {m : Int → Int → Int} {f : Value → Value → Sem Value} {ik : IntKind} (hf : ∀ a b w, (f (.int ik a) (.int ik b)).run P w = .ok (.int ik (m a b)) w) : ∀ {l : List AV} {vs : List Value} {x : Int} {kk : Int → Prop},
    l.length = vs.length → (∀ (i : Nat) (h : i < l.length) (h' : i < vs.length), VRel X l[i] vs[i]) → minL m ik x l kk → ∃ n, (∀ w', (vs.foldlM f (.int ik x)).run P w' = .ok (.int ik n) w') ∧ kk n
  | [], [], x, kk, _, _, h => ⟨x, by simp, h⟩
  | [], _ :: _, _, _, hl, _, _ => by simp at hl
  | _ :: _, [], _, _, hl, _, _ => by simp at hl
  | y :: l, v :: vs, x, kk, hl, hr, h => by
    unfold minL at h
    split at h
    · rename_i heq; cases heq
    · rename_i heq
      obtain ⟨rfl, rfl⟩ := List.cons.inj heq
      obtain ⟨rfl, h⟩ := h
      have e : v = .int _ _ := inv_int (hr 0 (by simp) (by simp))
      obtain ⟨n, hn, hk⟩ := minL_sound hf (by simpa using hl) (fun i h1 h2 => hr (i + 1) (by simp; omega) (by simp; omega)) h
      refine ⟨n, fun w' => ?_, hk⟩
      subst e
      simp [List.foldlM_cons, hf, hn]
    · exact h.elim

theorem p_min {c : Call} (hs : SRel w0 own0 X s a) (ho : o.op = .call c) (hc : c.callee = .builtin .min) (h : aPure K s (.call c) k) : Yields P X a o k := by
  simp only [aPure, hc] at h
  obtain ⟨y, hy, hyr, h1⟩ := stripL_sound (by simp) (map_rel hs c.args) h
  clear h
  simp only [List.length_map, Array.length_toList] at hy
  split at h1
  · rename_i j x r
    have hpos : 0 < c.args.size := by simp at hy; omega
    obtain ⟨a0, rest, hargs⟩ : ∃ a0 rest, c.args.toList = a0 :: rest := by
      cases hh : c.args.toList with
      | nil => rw [← Array.length_toList, hh] at hpos; simp at hpos
      | cons a0 rest => exact ⟨a0, rest, rfl⟩
    simp only [hargs] at hyr
    have e0 : a.eval a0 = .int j x := inv_int (show VRel X (AV.d (D.v (.int j x))) (a.eval a0) from hyr 0 (by simp) (by simp))
    have hlen : r.length = rest.length := by
      rw [← Array.length_toList, hargs] at hy; simpa using hy
    obtain ⟨n, hn, hk⟩ := minL_sound (P := P) (f := Builtin.min2) (vs := rest.map a.eval) (by intro p q w; simp [Builtin.min2]) (by simpa using hlen) (fun i h1 h2 => by
      have := hyr (i + 1) (by simp; omega) (by simpa using h2)
      simpa using this) h1
    refine ⟨_, _, fun w' hw' => ?_, mkv rfl, hk⟩
    simp [execOp, ho, resolve, hc, invoke, builtin, Builtin.min_, hargs, e0, hn]
  · exact h1.elim

theorem p_max {c : Call} (hs : SRel w0 own0 X s a) (ho : o.op = .call c) (hc : c.callee = .builtin .max) (h : aPure K s (.call c) k) : Yields P X a o k := by
  simp only [aPure, hc] at h
  obtain ⟨y, hy, hyr, h1⟩ := stripL_sound (by simp) (map_rel hs c.args) h
  clear h
  simp only [List.length_map, Array.length_toList] at hy
  split at h1
  · rename_i j x r
    have hpos : 0 < c.args.size := by simp at hy; omega
    obtain ⟨a0, rest, hargs⟩ : ∃ a0 rest, c.args.toList = a0 :: rest := by
      cases hh : c.args.toList with
      | nil => rw [← Array.length_toList, hh] at hpos; simp at hpos
      | cons a0 rest => exact ⟨a0, rest, rfl⟩
    simp only [hargs] at hyr
    have e0 : a.eval a0 = .int j x := inv_int (show VRel X (AV.d (D.v (.int j x))) (a.eval a0) from hyr 0 (by simp) (by simp))
    have hlen : r.length = rest.length := by
      rw [← Array.length_toList, hargs] at hy; simpa using hy
    obtain ⟨n, hn, hk⟩ := minL_sound (P := P) (f := Builtin.max2) (vs := rest.map a.eval) (by intro p q w; simp [Builtin.max2]) (by simpa using hlen) (fun i h1 h2 => by
      have := hyr (i + 1) (by simp; omega) (by simpa using h2)
      simpa using this) h1
    refine ⟨_, _, fun w' hw' => ?_, mkv rfl, hk⟩
    simp [execOp, ho, resolve, hc, invoke, builtin, Builtin.max_, hargs, e0, hn]
  · exact h1.elim

theorem run_sliceBound {x : Value} {ik : IntKind} {n : Int} {y : Nat} {code : BoundsCode} (w : World) (hx : x = .int ik n) (h0 : 0 ≤ n) (h1 : n ≤ y) : (Instr.sliceBound x y code).run P w = .ok n.toNat w := by
  subst hx; simp [Instr.sliceBound, asIntOf, h0, h1]

/-- A piece of a sealed slice. -/
theorem sl_piece {es : List (List D)} {v : Value} {sz : Nat} (l h : Nat) (hsz : 0 < l → ∀ c ∈ es, c.length = sz) (hlh : l ≤ h) (hh : h ≤ es.length) (hv : VRel X (.d (.sl es)) v) :
    ∃ ad cap, v = .slice ad es.length cap ∧ es.length ≤ cap ∧ VRel X (.d (.sl ((es.take h).drop l))) (.slice (if cap = l then ad else ad.map (·.add (l * sz))) (h - l) (cap - l)) := by
  obtain ⟨hlim, ⟨rfl, ad, cap, rfl⟩ | ⟨b, off, cap, sz', gg, e, hc, hz, hb, hs, hcell, hr⟩⟩ := inv_sl hv
  · refine ⟨ad, cap, rfl, by simp, ?_⟩
    have : l = 0 := by simp at hh; omega
    subst this
    have : h = 0 := by simpa using hh
    subst this
    exact .d .nil
  · refine ⟨_, _, e, hc, ?_⟩
    have hlen : ((es.take h).drop l).length = h - l := by simp; omega
    rw [← hlen]
    by_cases h0 : 0 < h - l
    · have hne : ¬ cap = l := by omega
      have hmul : l * sz = l * sz' := by
        by_cases hl0 : 0 < l
        · have hsz' : sz = sz' := by rw [← hs 0 (by omega)]; exact (hsz hl0 _ (List.getElem_mem _)).symm
          rw [hsz']
        · have : l = 0 := by omega
          simp [this]
      rw [if_neg hne, hmul]
      have hadd : (Addr.mk b off none).add (l * sz') = ⟨b, off + l * sz', none⟩ := by
        unfold Addr.add; split
        · rename_i h; rw [h]; rfl
        · rfl
      simp only [Option.map_some, hadd]
      refine .d (.sl sz' hz (fun i j => gg (l + i) j) (by omega) (by omega) (fun _ => hb (by omega)) (fun i hi => ?_) (fun i j hi hj => ?_) (fun i hi j hj => ?_))
      · simp only [List.getElem_drop, List.getElem_take]; exact hs _ (by omega)
      · have := hcell (l + i) j (by omega) hj
        rw [← this]; congr 2; rw [Nat.add_mul]; omega
      · simp only [List.getElem_drop, List.getElem_take] at hj ⊢
        exact hr (l + i) (by omega) j hj
    · have hemp : (es.take h).drop l = [] := List.eq_nil_of_length_eq_zero (by omega)
      rw [hemp]
      have : ∃ ad, (if cap = l then some (Addr.mk b off none) else (some (Addr.mk b off none)).map (·.add (l * sz))) = some ⟨b, ad, none⟩ := by
        split
        · exact ⟨off, rfl⟩
        · refine ⟨off + l * sz, ?_⟩
          simp only [Option.map_some, Addr.add]; split
          · rename_i h; simp [h]
          · rfl
      obtain ⟨ad, had⟩ := this
      rw [had]
      exact .d (.sl (es := []) 1 (by omega) (fun _ _ => undef) (by simp) (by simp) (fun h => absurd h (by simp)) (fun i hi => absurd hi (by simp)) (fun i j hi => absurd hi (by simp)) (fun i hi => absurd hi (by simp)))

theorem szok_ok {e : TypeId} {es : List (List D)} (h : SzOk K e es) : ∃ i, K e = some i ∧ ∀ c ∈ es, c.length = i.sz := by
  unfold SzOk at h
  split at h
  · rename_i i hi; exact ⟨i, hi, h⟩
  · exact h.elim

theorem p_slice {t : TypeId} {x : Operand} {lo hi : Option Operand} (hK : KOk P K) (hs : SRel w0 own0 X s a) (ho : o.op = .slice t x lo hi none) (h : aPure K s (.slice t x lo hi none) k) : Yields P X a o k := by
  simp only [aPure] at h
  obtain ⟨y, hy, h1⟩ := strip_sound (ev_sound hs x) h
  clear h
  split at h1
  · rename_i b ik hb elo ehi hkd
    have hu := kd_ok hK hkd
    obtain ⟨e, hl⟩ := inv_str hy
    obtain ⟨⟨hi', rfl⟩, e2⟩ : (∃ hi', hi = some hi') ∧ True := by cases hi <;> simp_all
    simp only [Option.map_some, Option.some.injEq] at ehi
    have e3 := inv_int (ehi ▸ ev_sound hs hi')
    have elo' : lo = none := by simpa using elo
    obtain ⟨⟨q1, q2⟩, hk⟩ := h1
    refine ⟨_, _, fun w' hw' => ?_, mkv (x := .string (b.extract 0 hb.toNat)) (by simp [plainV, ByteArray.size_extract]; omega), hk⟩
    simp [execOp, ho, elo', e, Instr.sliceAt, Instr.slice, run_under hu, Instr.sliceBounds, run_sliceBound w' e3 q1 q2]
  · rename_i b ik lb elo ehi hkd
    have hu := kd_ok hK hkd
    obtain ⟨e, hl⟩ := inv_str hy
    obtain ⟨⟨lo', rfl⟩, e2⟩ : (∃ lo', lo = some lo') ∧ True := by cases lo <;> simp_all
    simp only [Option.map_some, Option.some.injEq] at elo
    have e3 := inv_int (elo ▸ ev_sound hs lo')
    have ehi' : hi = none := by simpa using ehi
    obtain ⟨⟨q1, q2⟩, hk⟩ := h1
    refine ⟨_, _, fun w' hw' => ?_, mkv (x := .string (b.extract lb.toNat b.size)) (by simp [plainV, ByteArray.size_extract]; omega), hk⟩
    simp [execOp, ho, ehi', e, Instr.sliceAt, Instr.slice, run_under hu, Instr.sliceBounds, run_sliceBound w' e3 q1 q2]
  · rename_i b ik lb ik2 hb elo ehi hkd
    have hu := kd_ok hK hkd
    obtain ⟨e, hl⟩ := inv_str hy
    obtain ⟨⟨lo', rfl⟩, e2⟩ : (∃ lo', lo = some lo') ∧ True := by cases lo <;> simp_all
    obtain ⟨⟨hi', rfl⟩, e2⟩ : (∃ hi', hi = some hi') ∧ True := by cases hi <;> simp_all
    simp only [Option.map_some, Option.some.injEq] at elo ehi
    have e3 := inv_int (elo ▸ ev_sound hs lo')
    have e4 := inv_int (ehi ▸ ev_sound hs hi')
    obtain ⟨⟨q1, q2, q3⟩, hk⟩ := h1
    refine ⟨_, _, fun w' hw' => ?_, mkv (x := .string (b.extract lb.toNat hb.toNat)) (by simp [plainV, ByteArray.size_extract]; omega), hk⟩
    simp [execOp, ho, e, Instr.sliceAt, Instr.slice, run_under hu, Instr.sliceBounds, run_sliceBound w' e4 (Int.le_trans q1 q2) q3, run_sliceBound (y := hb.toNat) w' e3 q1 (by omega)]
  · rename_i es ik hb el elo ehi hkd
    have hu := kd_ok hK hkd
    obtain ⟨⟨hi', rfl⟩, e2⟩ : (∃ hi', hi = some hi') ∧ True := by cases hi <;> simp_all
    simp only [Option.map_some, Option.some.injEq] at ehi
    have e3 := inv_int (ehi ▸ ev_sound hs hi')
    have elo' : lo = none := by simpa using elo
    obtain ⟨⟨q1, q2⟩, hk⟩ := h1
    obtain ⟨hi0, hk⟩ := chk_iff.1 hk
    obtain ⟨i, hi⟩ := Option.isSome_iff_exists.1 hi0
    obtain ⟨tinf, hti, hsz, _, _⟩ := (hK el i hi).info
    obtain ⟨ad, cap, e, hcap, hr⟩ := sl_piece (sz := tinf.size) 0 hb.toNat (fun h => absurd h (by simp)) (by omega) (by omega) hy
    refine ⟨_, _, fun w' hw' => ?_, by simpa using hr, hk⟩
    simp [execOp, ho, elo', e, Instr.sliceAt, Instr.slice, run_under hu, Instr.sliceBounds, run_sliceBound (y := cap) w' e3 q1 (by omega), sizeOf, typeInfo, program, Sem.run, hti]
  · rename_i es ik lb el elo ehi hkd
    have hu := kd_ok hK hkd
    obtain ⟨⟨lo', rfl⟩, e2⟩ : (∃ lo', lo = some lo') ∧ True := by cases lo <;> simp_all
    simp only [Option.map_some, Option.some.injEq] at elo
    have e3 := inv_int (elo ▸ ev_sound hs lo')
    have ehi' : hi = none := by simpa using ehi
    obtain ⟨⟨q1, q2⟩, hsz0, hk⟩ := h1
    obtain ⟨i, hi, hall⟩ := szok_ok hsz0
    obtain ⟨tinf, hti, hsz, _, _⟩ := (hK el i hi).info
    obtain ⟨ad, cap, e, hcap, hr⟩ := sl_piece (sz := tinf.size) lb.toNat es.length (fun h => by rw [hsz]; exact hall) (by omega) (by omega) hy
    refine ⟨_, _, fun w' hw' => ?_, by simpa using hr, hk⟩
    simp [execOp, ho, ehi', e, Instr.sliceAt, Instr.slice, run_under hu, Instr.sliceBounds, run_sliceBound (y := es.length) w' e3 q1 (by omega), sizeOf, typeInfo, program, Sem.run, hti]
  · rename_i es ik lb ik2 hb el elo ehi hkd
    have hu := kd_ok hK hkd
    obtain ⟨⟨lo', rfl⟩, e2⟩ : (∃ lo', lo = some lo') ∧ True := by cases lo <;> simp_all
    obtain ⟨⟨hi', rfl⟩, e2⟩ : (∃ hi', hi = some hi') ∧ True := by cases hi <;> simp_all
    simp only [Option.map_some, Option.some.injEq] at elo ehi
    have e3 := inv_int (elo ▸ ev_sound hs lo')
    have e4 := inv_int (ehi ▸ ev_sound hs hi')
    obtain ⟨⟨q1, q2, q3⟩, hsz0, hk⟩ := h1
    obtain ⟨i, hi, hall⟩ := szok_ok hsz0
    obtain ⟨tinf, hti, hsz, _, _⟩ := (hK el i hi).info
    obtain ⟨ad, cap, e, hcap, hr⟩ := sl_piece (sz := tinf.size) lb.toNat hb.toNat (fun h => by rw [hsz]; exact hall) (by omega) (by omega) hy
    refine ⟨_, _, fun w' hw' => ?_, hr, hk⟩
    simp [execOp, ho, e, Instr.sliceAt, Instr.slice, run_under hu, Instr.sliceBounds, run_sliceBound (y := cap) w' e4 (by omega) (by omega), run_sliceBound (y := hb.toNat) w' e3 q1 (by omega), sizeOf, typeInfo, program, Sem.run, hti]
  · exact h1.elim

theorem pure_sound (hK : KOk P K) (hs : SRel w0 own0 X s a) (h : aPure K s o.op k) : Yields P X a o k := by
  cases ho : o.op <;> rw [ho] at h <;> first | (exact (by simpa only [aPure] using h : False).elim) | skip
  case move x => exact p_move hs ho (by simpa only [aPure] using h)
  case unOp => exact p_unOp hs ho h
  case extract => exact p_extract hs ho h
  case index => exact p_index hK hs ho h
  case convert => exact p_convert hK hs ho h
  case field => exact p_field hK hs ho h
  case makeFunc => exact p_makeFunc hs ho h
  case nilCheck => exact p_nilCheck hs ho h
  case binOp op t x y t2 =>
    simp only [aPure] at h
    obtain ⟨p, hp, h1⟩ := strip_sound (ev_sound hs x) h
    obtain ⟨q, hq, h2⟩ := strip_sound (ev_sound hs y) h1
    exact aBin_sound hK ho hp hq h2
  case slice t x lo hi mx =>
    cases mx with
    | none => exact p_slice hK hs ho h
    | some m => simp only [aPure] at h
  case call c =>
    cases hc : c.callee with
    | builtin b =>
      cases b <;> first | exact p_len hK hs ho hc h | exact p_min hs ho hc h | exact p_max hs ho hc h | (simp only [aPure, hc] at h)
    | _ => simp only [aPure, hc] at h

end
end Go.AM
