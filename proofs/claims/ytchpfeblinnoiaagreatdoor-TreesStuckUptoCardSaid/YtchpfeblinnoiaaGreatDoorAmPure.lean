import Derived.Test.YtchpfeblinnoiaaGreatDoorAmRel
import Derived.Laws.BytesString
import Derived.Lib.ConvBytes
set_option linter.unusedSimpArgs false
set_option linter.unusedVariables false
set_option linter.unnecessarySimpa false
namespace Go.AM
open Go.RowKit
section
variable {P : Program} {C : World → Prop} {X : Cx} {a : Act} {o : Oper} {K : TypeId → Option TK} {s : S} {k : AV → Prop} {w0 : World} {own0 : O0}
theorem p_move {x : Operand} (hs : SRel w0 own0 X s a) (ho : o.op = .move x) (h : strip (s.ev x) k) : Yields P C X a o k := by
  obtain ⟨y, hy, hk⟩ := strip_sound (ev_sound hs x) h
  exact ⟨_, y, fun w' hw' => by simp [execOp, ho], hy, hk⟩
theorem p_unOp {op : UnOp} {t : TypeId} {x : Operand} (hs : SRel w0 own0 X s a) (ho : o.op = .unOp op t x) (h : aPure K s (.unOp op t x) k) : Yields P C X a o k := by
  simp only [aPure] at h
  obtain ⟨y, hy, h⟩ := strip_sound (ev_sound hs x) h
  split at h
  · have e := inv_bool hy
    exact ⟨_, _, fun w' hw' => by simp [execOp, ho, Op.unary, e], mkv rfl, h⟩
  · have e := inv_int hy
    exact ⟨_, _, fun w' hw' => by simp [execOp, ho, Op.unary, Op.intArith, e]; rfl, mkv rfl, by simpa using h⟩
  · exact h.elim
theorem p_extract {x : Operand} {i : Nat} (hs : SRel w0 own0 X s a) (ho : o.op = .extract x i) (h : aPure K s (.extract x i) k) : Yields P C X a o k := by
  simp only [aPure] at h
  obtain ⟨y, hy, h⟩ := strip_sound (ev_sound hs x) h
  split at h
  · rename_i vs
    obtain ⟨arr, e, hl, hr⟩ := inv_tp hy
    obtain ⟨hi, hk⟩ := chk_iff.1 h
    have hi : i < vs.length := by simpa using hi
    have h1 := hr i hi
    refine ⟨arr.getD i undef, _, fun w' hw' => ?_, h1, by rwa [List.getD_eq_getElem?_getD, List.getElem?_eq_getElem hi] at hk⟩
    have hi' : i < arr.size := by omega
    simp [execOp, ho, e, Instr.extract, hi']
  · exact h.elim
theorem p_index {t : TypeId} {x i : Operand} (hK : KOk P K) (hs : SRel w0 own0 X s a) (ho : o.op = .index t x i) (h : aPure K s (.index t x i) k) : Yields P C X a o k := by
  simp only [aPure] at h
  obtain ⟨y, hy, h1⟩ := strip_sound (ev_sound hs x) h
  clear h
  obtain ⟨z, hz, h⟩ := strip_sound (ev_sound hs i) h1
  clear h1
  split at h
  · rename_i b ki n hkd
    have e1 := (inv_str hy).1
    have e2 := inv_int hz
    have hu := kd_ok hK hkd
    obtain ⟨⟨h1, h2⟩, hk⟩ := h
    refine ⟨_, _, fun w' hw' => ?_, mkv rfl, hk⟩
    have hn : n.toNat < b.size := by omega
    have hn' : n.toNat < b.data.size := hn
    have hg : b[n.toNat]? = some (b.data.toList.getD n.toNat 0) := by
      rw [getElem?_pos b n.toNat hn]
      simp only [List.getD_eq_getElem?_getD, ByteArray.getElem_eq_getElem_data, Array.getElem?_toList, getElem?_pos b.data n.toNat hn', Option.getD_some]
    simp [execOp, ho, e1, e2, Instr.index, asIntOf, run_under hu, h1, hg]
  · rename_i cs ki n len e hkd
    obtain ⟨arr, e1, hl, hr⟩ := inv_ag hy
    have e2 := inv_int hz
    have hu := kd_ok hK hkd
    split at h
    · rename_i j hj
      have ti := hK e j hj
      obtain ⟨tinf, hti, hsz, _, _⟩ := ti.info
      obtain ⟨hb, ⟨h0, h1⟩, hk⟩ := chk_iff.1 h
      simp only [Bool.and_eq_true, Bool.not_eq_true', beq_iff_eq, decide_eq_true_eq] at hb
      obtain ⟨⟨hag, hz1⟩, hlen⟩ := hb
      have hlt : n.toNat < cs.length := by omega
      have hc : cs.getD n.toNat .jk = cs[n.toNat] := by rw [List.getD_eq_getElem?_getD, List.getElem?_eq_getElem hlt]; rfl
      have hk : k cs[n.toNat] := by
        split at hk
        · rename_i hall
          have h3 := List.all_eq_true.1 hall _ (List.getElem_mem hlt)
          rw [hc] at hk
          generalize cs[n.toNat] = c at *
          unfold AV.isStr at h3
          split at h3
          · exact hk
          · cases h3
        · rwa [hc] at hk
      refine ⟨arr.getD n.toNat undef, cs[n.toNat], fun w' hw' => ?_, hr _ hlt, hk⟩
      have hb' : n.toNat < arr.size := by omega
      simp [execOp, ho, e1, e2, Instr.index, asIntOf, run_under hu, h0, h1, part, ti.agg, hag, hsz, hz1, sizeOf, typeInfo, program, Sem.run, hti, hb']
    · exact h.elim
  · exact h.elim
theorem addr_add (b off n : Nat) : (Addr.mk b off none).add n = ⟨b, off + n, none⟩ := by
  unfold Addr.add; split
  · rename_i h; rw [h]; rfl
  · rfl
theorem run_loadCellsFrom {w : World} {b off : Nat} {f : Nat → Value} : ∀ (n i : Nat) (acc : Array Value), (∀ j, j < n → w.cell? ⟨b, off + (i + j), none⟩ = some (f (i + j))) →
    (loadCellsFrom ⟨b, off, none⟩ i n acc).run P w = .ok (acc ++ ((List.range n).map fun j => f (i + j)).toArray) w
  | 0, i, acc, h => by simp [loadCellsFrom]
  | n + 1, i, acc, h => by
    have h0 := h 0 (by omega)
    simp only [Nat.add_zero] at h0
    simp only [loadCellsFrom, addr_add, Sem.run_bind, run_load, h0, Result.andThen_ok]
    rw [run_loadCellsFrom n (i + 1) (acc.push (f i)) (fun j hj => by have := h (j + 1) (by omega); rwa [show i + (j + 1) = i + 1 + j from by omega] at this)]
    congr 1
    rw [List.range_succ_eq_map]
    simp only [List.map_cons, List.map_map, Nat.add_zero]
    apply Array.toList_inj.1
    simp
    intro x _; congr 1; omega
theorem run_loadCells {w : World} {b off n : Nat} {f : Nat → Value} (h : ∀ j, j < n → w.cell? ⟨b, off + j, none⟩ = some (f j)) : (loadCells ⟨b, off, none⟩ n).run P w = .ok ((List.range n).map f).toArray w := by
  unfold loadCells
  rw [run_loadCellsFrom n 0 #[] (fun j hj => by simpa using h j hj)]
  simp
theorem p_field {t : TypeId} {x : Operand} {f : Nat} (hK : KOk P K) (hs : SRel w0 own0 X s a) (ho : o.op = .field t x f) (h : aPure K s (.field t x f) k) : Yields P C X a o k := by
  simp only [aPure] at h
  obtain ⟨y, hy, h⟩ := strip_sound (ev_sound hs x) h
  split at h
  · rename_i cs fs hkd
    obtain ⟨arr, e, hl, hr⟩ := inv_ag hy
    obtain ⟨fields, hu, hfs⟩ := kd_ok hK hkd
    split at h
    · rename_i off ft hf
      rw [← hfs] at hf
      simp only [List.getElem?_map, Option.map_eq_some_iff, Prod.mk.injEq] at hf
      obtain ⟨fld, hfld, hoff, hty⟩ := hf
      have hfld' : fields[f]? = some fld := by simpa using hfld
      split at h
      · rename_i i hi
        have ti := hK ft i hi
        obtain ⟨tinf, hti, hsz, _, _⟩ := ti.info
        split at h
        · rename_i hag
          obtain ⟨hb, hk⟩ := chk_iff.1 h
          have hb : off + i.sz ≤ cs.length := by simpa using hb
          refine ⟨.agg (arr.extract off (off + i.sz)), _, fun w' hw' => ?_, .ag (by simp; omega) (fun j hj => ?_), hk⟩
          · simp [execOp, ho, e, Instr.field, run_under hu, hfld', hoff, hty, part, ti.agg, hag, asAgg, sizeOf, typeInfo, program, Sem.run, hti, hsz]
          · simp only [List.length_take, List.length_drop] at hj
            have := hr (off + j) (by omega)
            simp only [List.getElem_take, List.getElem_drop]
            have e2 : (arr.extract off (off + i.sz)).getD j undef = arr.getD (off + j) undef := by
              simp only [Array.getD_eq_getD_getElem?]
              rw [Array.getElem?_extract]
              have : j < min (off + i.sz) arr.size - off := by omega
              simp [this]
            rw [e2]; exact this
        · rename_i hag
          obtain ⟨hb, hk⟩ := chk_iff.1 h
          have hb : off < cs.length := by simpa using hb
          refine ⟨arr.getD off undef, cs[off], fun w' hw' => ?_, hr off hb, ?_⟩
          · have hb' : off < arr.size := by omega
            simp [execOp, ho, e, Instr.field, run_under hu, hfld', hoff, hty, part, ti.agg, hag, asAgg, hb']
          · rwa [List.getD_eq_getElem?_getD, List.getElem?_eq_getElem hb] at hk
      · exact h.elim
    · exact h.elim
  · exact h.elim
theorem map_rel (hs : SRel w0 own0 X s a) (l : Array Operand) (i : Nat) (h : i < (l.toList.map s.ev).length) (h' : i < (l.toList.map a.eval).length) : VRel X (l.toList.map s.ev)[i] (l.toList.map a.eval)[i] := by
  simp only [List.getElem_map]
  exact ev_sound hs _
theorem p_makeFunc {fn : Fn} {fs cs : Array Operand} (hs : SRel w0 own0 X s a) (ho : o.op = .makeFunc fn fs cs) (h : aPure K s (.makeFunc fn fs cs) k) : Yields P C X a o k := by
  simp only [aPure] at h
  obtain ⟨y, hy, hyr, h⟩ := stripL_sound (by simp) (map_rel hs fs) h
  obtain ⟨z, hz, hzr, h⟩ := stripL_sound (by simp) (map_rel hs cs) h
  simp only [List.length_map, Array.length_toList] at hy hz
  refine ⟨.func fn (fs.map a.eval) (cs.map a.eval), _, fun w' hw' => by simp [execOp, ho, Instr.makeFunc], .fn (by simp [hy]) (by simp [hz]) (fun i hi => ?_) (fun i hi => ?_), h⟩
  · have := hyr i hi (by simp; omega)
    simp only [List.getElem_map] at this
    have e : (fs.map a.eval).getD i undef = a.eval fs.toList[i] := by
      have : i < fs.size := by omega
      simp [Array.getD_eq_getD_getElem?, this]
    rw [e]; exact this
  · have := hzr i hi (by simp; omega)
    simp only [List.getElem_map] at this
    have e : (cs.map a.eval).getD i undef = a.eval cs.toList[i] := by
      have : i < cs.size := by omega
      simp [Array.getD_eq_getD_getElem?, this]
    rw [e]; exact this
theorem inv_rp {r sz i off : Nat} {v : Value} (h : VRel X (.rp r sz i off) v) : v = .pointer (some ⟨X.b r, i * sz + off, none⟩) ∧ r < X.n := by
  cases h with | rp h => exact ⟨rfl, h⟩
theorem inv_ep {c : List D} {v : Value} (h : VRel X (.ep c) v) : ∃ b off, v = .pointer (some ⟨b, off, none⟩) ∧ ∃ g : Nat → Value, (0 < c.length → ¬ X.own b) ∧ (∀ j, j < c.length → X.w.cell? ⟨b, off + j, none⟩ = some (g j)) ∧
    ∀ (j : Nat) (h : j < c.length), DRel X.own X.w c[j] (g j) := by
  cases h with | ep g h1 h2 h3 => exact ⟨_, _, rfl, g, h1, h2, h3⟩
theorem p_nilCheck {x : Operand} (hs : SRel w0 own0 X s a) (ho : o.op = .nilCheck x) (h : aPure K s (.nilCheck x) k) : Yields P C X a o k := by
  simp only [aPure] at h
  obtain ⟨y, hy, h⟩ := strip_sound (ev_sound hs x) h
  split at h
  · exact ⟨a.eval x, _, fun w' hw' => by simp [execOp, ho, (inv_rf hy).1], hy, h⟩
  · exact ⟨a.eval x, _, fun w' hw' => by simp [execOp, ho, (inv_rp hy).1], hy, h⟩
  · obtain ⟨b, off, e, _⟩ := inv_ep hy
    exact ⟨a.eval x, _, fun w' hw' => by simp [execOp, ho, e], hy, h⟩
  · have e := (inv_v hy).1
    exact ⟨a.eval x, _, fun w' hw' => by simp [execOp, ho, e], hy, h⟩
  · obtain ⟨p, q, e⟩ := inv_func hy
    exact ⟨a.eval x, _, fun w' hw' => by simp [execOp, ho, e], hy, h⟩
  · obtain ⟨p, q, e⟩ := inv_dfunc hy
    exact ⟨a.eval x, _, fun w' hw' => by simp [execOp, ho, e], hy, h⟩
  · exact h.elim
theorem inv_sl {es : List (List D)} {v : Value} (h : VRel X (.d (.sl es)) v) : es.length ≤ LIM ∧ ((es = [] ∧ ∃ ad cap, v = .slice ad 0 cap) ∨ ∃ b off cap sz, ∃ gg : Nat → Nat → Value, v = .slice (some ⟨b, off, none⟩) es.length cap ∧ es.length ≤ cap ∧ 0 < sz ∧
    (0 < es.length → ¬ X.own b) ∧ (∀ (i : Nat) (h : i < es.length), es[i].length = sz) ∧ (∀ i j, i < es.length → j < sz → X.w.cell? ⟨b, off + (i * sz + j), none⟩ = some (gg i j)) ∧
    ∀ (i : Nat) (hi : i < es.length) (j : Nat) (hj : j < es[i].length), DRel X.own X.w es[i][j] (gg i j)) := by
  cases h with | d h => cases h with
    | nil => exact ⟨by simp, .inl ⟨rfl, _, _, rfl⟩⟩
    | sl sz hz gg hl hcap hb hsz hc hr => exact ⟨hl, .inr ⟨_, _, _, sz, gg, rfl, hcap, hz, hb, hsz, hc, hr⟩⟩
theorem inv_sl_shape {es : List (List D)} {v : Value} (h : VRel X (.d (.sl es)) v) : ∃ ad cap, v = .slice ad es.length cap ∧ es.length ≤ cap := by
  obtain ⟨_, ⟨rfl, ad, cap, rfl⟩ | ⟨b, off, cap, sz, gg, e, hc, _⟩⟩ := inv_sl h
  · exact ⟨ad, cap, rfl, by simp⟩
  · exact ⟨_, _, e, hc⟩
theorem bytes_nil {b : ByteArray} (h : b.size = 0) : b = ⟨#[]⟩ := by
  have hd : b.data = #[] := Array.eq_empty_of_size_eq_zero h
  cases b with | mk d => exact congrArg ByteArray.mk hd
theorem u8_ok (hK : KOk P K) {t : TypeId} (h : u8K K t = true) : ∃ e, P.underlying t = some (.slice e) ∧ P.underlying e = some (.int .u8) := by
  unfold u8K at h
  split at h
  · rename_i e hk
    split at h
    · rename_i hk2; exact ⟨e, kd_ok hK hk, kd_ok hK hk2⟩
    · cases h
  · cases h
theorem foldl_push (l : List UInt8) : ∀ (r : ByteArray), (l.map fun x => (x.toNat : Int)).foldl (fun (r : ByteArray) (n : Int) => r.push (UInt8.ofNat n.toNat)) r = ⟨r.data ++ l.toArray⟩ := by
  induction l with
  | nil => intro r; simp
  | cons x l ih =>
    intro r
    simp only [List.map_cons, List.foldl_cons, ih]
    cases r
    simp [ByteArray.push]
theorem bytes_run (b : ByteArray) {w : World} {bl off cap : Nat} (h : ∀ j, j < b.size → w.cell? ⟨bl, off + j, none⟩ = some (.int .u8 (b.data.toList.getD j 0).toNat)) :
    (Conv.bytesToString (.slice (some ⟨bl, off, none⟩) b.size cap)).run P w = .ok (.string b) w := by
  have el : b.data.toList.length = b.size := Array.length_toList
  have hc := run_loadCells (P := P) (n := b.size) (f := fun j => Value.int .u8 (b.data.toList.getD j 0).toNat) h
  have e : (List.range b.size).map (fun j => Value.int .u8 ((b.data.toList.getD j 0).toNat : Int)) = (b.data.toList.map fun x => (x.toNat : Int)).map (Value.int .u8) := by
    apply List.ext_getElem
    · simp
    · intro i h1 h2
      simp only [List.length_map, List.length_range] at h1
      simp [List.getD_eq_getElem?_getD, h1]
  rw [run_bytesToString w _ b.size cap (b.data.toList.map fun x => (x.toNat : Int)) (by rw [hc, e]), foldl_push]
  cases b
  have e0 : ByteArray.empty = ⟨#[]⟩ := rfl
  simp [e0]
theorem p_convert {t t' : TypeId} {x : Operand} (hK : KOk P K) (hs : SRel w0 own0 X s a) (hS : Sld C X) (hO : ownRead s (.convert t t' x) = false ∨ ∀ w', C w' → Below X.w.heap.size X.w w') (ho : o.op = .convert t t' x) (h : aPure K s (.convert t t' x) k) : Yields P C X a o k := by
  have e0 : ByteArray.empty = ⟨#[]⟩ := rfl
  simp only [aPure] at h
  have hy := ev_sound hs x
  simp only [strip] at h
  generalize hev : s.ev x = y at h hy
  split at h
  · rename_i ki n j hkd
    obtain ⟨hi0, hk⟩ := chk_iff.1 h
    obtain ⟨i, hi⟩ := Option.isSome_iff_exists.1 hi0
    obtain ⟨d, hd⟩ := (hK t i hi).und
    have hu := kd_ok hK hkd
    have e := inv_int hy
    refine ⟨_, _, fun w' hw' => ?_, mkv rfl, hk⟩
    simp [execOp, ho, e, convert, run_under hd, run_under hu, Conv.intToInt]
  · rename_i ki n hkd
    obtain ⟨hi0, hk⟩ := chk_iff.1 h
    obtain ⟨i, hi⟩ := Option.isSome_iff_exists.1 hi0
    obtain ⟨d, hd⟩ := (hK t i hi).und
    have hu := kd_ok hK hkd
    have e := inv_int hy
    have hsz : (Utf8.encode n).size ≤ 4 := by
      unfold Utf8.encode
      dsimp only
      repeat' split
      all_goals first | (show 1 ≤ 4; omega) | (show 2 ≤ 4; omega) | (show 3 ≤ 4; omega) | (show 4 ≤ 4; omega)
    refine ⟨_, _, fun w' hw' => ?_, mkv (x := .string (Utf8.encode n)) (by simp only [plainV, decide_eq_true_eq]; unfold LIM; omega), hk⟩
    simp [execOp, ho, e, convert, run_under hd, run_under hu, Conv.intToString]
  · rename_i b hkd
    obtain ⟨h0, hk⟩ := chk_iff.1 h
    obtain ⟨i, hi, hk1⟩ := isKd_str h0
    have hd : P.underlying t = some .string := by have := (hK t i hi).kd; rw [hk1] at this; exact this
    have hu := kd_ok hK hkd
    obtain ⟨e, hb⟩ := inv_str hy
    refine ⟨_, _, fun w' hw' => ?_, mkv (x := .string b) (by simpa [plainV] using hb), hk⟩
    simp [execOp, ho, e, convert, run_under hd, run_under hu]
  · rename_i es hkd
    obtain ⟨h0, hes, hk⟩ := chk_iff.1 h
    obtain ⟨e, hd, he⟩ := u8_ok hK h0
    have hu := kd_ok hK hkd
    generalize unB es = b at hes hk
    subst hes
    have hbl : (bytesD b).length = b.size := by unfold bytesD; rw [List.length_map]; exact Array.length_toList
    obtain ⟨hlim, ⟨h1, ad, cap, ev⟩ | ⟨bl, off, cap, sz, gg, ev, hcap, hz, hb, hsz, hc, hr⟩⟩ := inv_sl hy
    · have hb0 : b.size = 0 := by rw [← hbl, h1]; rfl
      have hb' : b = ⟨#[]⟩ := bytes_nil hb0
      refine ⟨_, _, fun w' hw' => ?_, mkv (x := .string b) (by simp only [plainV, decide_eq_true_eq]; omega), hk⟩
      subst hb'
      cases ad <;> simp [execOp, ho, ev, convert, run_under hd, run_under hu, run_under he, Conv.bytesToString, loadCells, loadCellsFrom, e0]
    · refine ⟨_, _, fun w' hw' => ?_, mkv (x := .string b) (by simp only [plainV, decide_eq_true_eq]; omega), hk⟩
      rw [hbl] at ev
      have run := bytes_run (P := P) b (w := w') (bl := bl) (off := off) (cap := cap) (fun j hj => by
        have hj' : j < (bytesD b).length := by omega
        have s1 : sz = 1 := by rw [← hsz j hj']; simp [bytesD]
        subst s1
        have c0 := hc j 0 hj' (by omega)
        have r := hr j hj' 0 (by simp [bytesD])
        have e2 : (bytesD b)[j][0]'(by simp [bytesD]) = .v (.int .u8 (b.data.toList.getD j 0).toNat) := by
          have : j < b.data.toList.length := by rw [Array.length_toList]; exact hj
          simp [bytesD, List.getD_eq_getElem?_getD, List.getElem?_eq_getElem this]
        rw [e2] at r
        rw [cell_of_block (hS w' hw' bl (cell_lt c0) (hb (by omega)))]
        rw [Nat.mul_one, Nat.add_zero] at c0
        rw [c0]
        generalize gg j 0 = v at r
        cases r; rfl)
      simp [execOp, ho, ev, convert, run_under hd, run_under hu, run_under he, run]
  · rename_i hkd
    obtain ⟨h0, hk⟩ := chk_iff.1 h
    obtain ⟨e, hd, he⟩ := u8_ok hK h0
    have hu := kd_ok hK hkd
    have ev := inv_nl hy
    refine ⟨_, _, fun w' hw' => ?_, mkv (x := .string ⟨#[]⟩) rfl, hk⟩
    simp [execOp, ho, ev, convert, run_under hd, run_under hu, run_under he, Conv.bytesToString, e0]
  · rename_i r n hkd
    obtain ⟨h0, h⟩ := chk_iff.1 h
    obtain ⟨e, hd, he⟩ := u8_ok hK h0
    have hu := kd_ok hK hkd
    split at h
    · rename_i sz0 es hrow
      obtain ⟨hes, hk⟩ := h
      generalize unB (es.take n) = b at hes hk
      have hbl : (bytesD b).length = b.size := by unfold bytesD; rw [List.length_map]; exact Array.length_toList
      obtain ⟨_, ⟨hz, ⟨hn, hn2⟩, ev⟩ | ⟨hz, rfl, ev⟩⟩ := inv_vw hy
      · obtain ⟨p1, p2, ⟨hz', _⟩ | ⟨_, arr, T, g1, hlen, g2, g3, g4, g5⟩⟩ := hs.g.rel r _ hrow
        · rw [hz] at hz'; cases hz'
        · have hnl : n = b.size := by rw [← hbl, ← hes]; simp; omega
          subst hnl
          refine ⟨_, _, fun w' hw' => ?_, mkv (x := .string b) (by simp only [plainV, decide_eq_true_eq]; omega), hk⟩
          have hw' := hO.elim (fun e => by simp [ownRead, hev] at e) (fun h => h w' hw')
          have run := bytes_run (P := P) b (w := w') (bl := X.b r) (off := 0) (cap := (X.c r).1) (fun j hj => by
            have hje : j < es.length := by omega
            have e1 : es[j] = [.v (.int .u8 (b.data.toList.getD j 0).toNat)] := by
              have : (es.take b.size)[j]'(by simp; omega) = (bytesD b)[j]'(by omega) := by simp only [hes]
              rw [List.getElem_take] at this
              rw [this]
              have : j < b.data.toList.length := by rw [Array.length_toList]; exact hj
              simp [bytesD, List.getD_eq_getElem?_getD, List.getElem?_eq_getElem this]
            have s1 : sz0 = 1 := by rw [← g4 j hje, e1]; rfl
            subst s1
            have rr := g5 j hje 0 (by rw [e1]; simp)
            simp only [e1, List.getElem_cons_zero] at rr
            rw [Nat.mul_one, Nat.add_zero] at rr
            have hv : arr.getD j undef = .int .u8 (b.data.toList.getD j 0).toNat := by
              generalize arr.getD j undef = v at rr
              cases rr; rfl
            have hsz : j < arr.size := by omega
            have hh : w'.heap[X.b r]? = X.w.heap[X.b r]? := hw'.block _ (hs.g.lt r _ hrow rfl hz)
            rw [← hv]
            simp [World.cell?, hh, g1, Array.getD_eq_getD_getElem?, hsz])
          simp [execOp, ho, ev, convert, run_under hd, run_under hu, run_under he, run]
      · have hb0 : b.size = 0 := by rw [← hbl, ← hes]; simp
        have hb' : b = ⟨#[]⟩ := bytes_nil hb0
        refine ⟨_, _, fun w' hw' => ?_, mkv (x := .string b) (by simp only [plainV, decide_eq_true_eq]; omega), hk⟩
        subst hb'
        simp [execOp, ho, ev, convert, run_under hd, run_under hu, run_under he, Conv.bytesToString, e0]
    · exact h.elim
  · exact h.elim
theorem p_len {c : Call} (hK : KOk P K) (hs : SRel w0 own0 X s a) (hO : ownRead s (.call c) = false ∨ ∀ w', C w' → Below X.w.heap.size X.w w') (ho : o.op = .call c) (hc : c.callee = .builtin .len) (h : aPure K s (.call c) k) : Yields P C X a o k := by
  simp only [aPure, hc] at h
  split at h
  · rename_i x t hargs htys
    have hy := ev_sound hs x
    have h1 := h
    simp only [strip] at h1
    generalize hev : s.ev x = y at h1 hy
    clear h
    have ha : c.args = #[x] := by rw [← Array.toArray_toList (xs := c.args), hargs]
    have ht : c.argTypes = #[t] := by rw [← Array.toArray_toList (xs := c.argTypes), htys]
    have run : ∀ (d : TypeDesc) (n : Int), P.underlying t = some d → (∀ w', C w' → (Builtin.len_ c.argTypes o.type #[a.eval x]).run P w' = .ok (.int .i64 n) w') → ∀ w', C w' → (execOp a.eval o).run P w' = .ok (.value (.int .i64 n)) w' := by
      intro d n hu hr w' hw'
      have hr := hr w' hw'
      simp [execOp, ho, resolve, hc, ha, invoke, builtin, hr]
    split at h1
    · rename_i es e hkd
      have hu := kd_ok hK hkd
      obtain ⟨ad, cap, e, _⟩ := inv_sl_shape hy
      refine ⟨_, _, run _ es.length hu fun w' hw' => ?_, mkv rfl, h1 (inv_sl hy).1⟩
      simp [Builtin.len_, ht, e, run_under hu, goInt]
    · rename_i b hkd
      have hu := kd_ok hK hkd
      obtain ⟨e, hb⟩ := inv_str hy
      refine ⟨_, _, run _ b.size hu fun w' hw' => ?_, mkv rfl, h1 hb⟩
      simp [Builtin.len_, ht, e, run_under hu, goInt]
    · rename_i r n e hkd
      have hu := kd_ok hK hkd
      obtain ⟨_, ⟨_, _, e⟩ | ⟨_, rfl, e⟩⟩ := inv_vw hy
      · refine ⟨_, _, run _ n hu fun w' hw' => ?_, mkv rfl, h1⟩
        simp [Builtin.len_, ht, e, run_under hu, goInt]
      · refine ⟨_, _, run _ 0 hu fun w' hw' => ?_, mkv rfl, h1⟩
        simp [Builtin.len_, ht, e, run_under hu, goInt]
    · rename_i e hkd
      have hu := kd_ok hK hkd
      have e := inv_nl hy
      refine ⟨_, _, run _ 0 hu fun w' hw' => ?_, mkv rfl, h1⟩
      simp [Builtin.len_, ht, e, run_under hu, goInt]
    · rename_i i kt et hkd
      have hu := kd_ok hK hkd
      obtain ⟨e, hi⟩ := inv_mp hy
      split at h1
      · rename_i kk ents hents
        have := hs.g.rel i _ hents
        obtain ⟨hzz, _, me, clock, hh, hsz, _⟩ := this
        refine ⟨_, _, run _ ents.length hu fun w' hw' => ?_, mkv rfl, h1⟩
        have hw' := hO.elim (fun e => by simp [ownRead, hargs, hev] at e) (fun h => h w' hw')
        have hh' := (hw'.block (X.b i) (hs.g.lt i _ hents rfl (by assumption))).trans hh
        simp [Builtin.len_, ht, e, run_under hu, goInt, getObj, Sem.run, hh', hsz]
      · rename_i R hR
        split at h1
        · rename_i f hf
          obtain ⟨hzz, _, ⟨me, clock, hh, hsz, _⟩, _⟩ := fam_at hs.g hR hf
          refine ⟨_, _, run _ f.l.length hu fun w' hw' => ?_, mkv rfl, h1⟩
          have hw' := hO.elim (fun e => by simp [ownRead, hargs, hev] at e) (fun h => h w' hw')
          have hh' := (hw'.block (X.b i) (hs.g.lt i _ hR rfl (by assumption))).trans hh
          simp [Builtin.len_, ht, e, run_under hu, goInt, getObj, Sem.run, hh', hsz]
        · exact h1.elim
      · exact h1.elim
    · rename_i kt et hkd
      have hu := kd_ok hK hkd
      have e := (inv_v hy).1
      refine ⟨_, _, run _ 0 hu fun w' hw' => ?_, mkv rfl, h1⟩
      simp [Builtin.len_, ht, e, run_under hu, goInt]
    · rename_i b kt et hkd
      have hu := kd_ok hK hkd
      have e := (inv_v hy).1
      split at h1
      · rename_i i f hff
        split at h1
        · rename_i kk hsh
          obtain ⟨r, hr, h1⟩ := h1
          obtain ⟨R, hi, ht'⟩ := findF_at hff
          obtain ⟨hzz, hfam⟩ := fam_at hs.g hi ht'
          obtain ⟨m, hm, rfl, rfl⟩ := recF_mem hr
          obtain ⟨_, hfp, hmem⟩ := hfam.2.2.2 m hm
          rw [hsh] at hmem
          simp only [MemP] at hmem
          obtain ⟨_, me, clock, hh, hsz, _⟩ := hmem
          refine ⟨_, _, run _ m.2.2.m.length hu fun w' hw' => ?_, mkv rfl, h1⟩
          have hw' := hO.elim (fun e => by simp [ownRead, hargs, hev] at e) (fun h => h w' hw')
          have hh' := (hw'.block m.2.1 (hs.g.ltB i _ hi rfl hzz _ (.inr hfp))).trans hh
          simp [Builtin.len_, ht, e, run_under hu, goInt, getObj, Sem.run, hh', hsz]
        · exact h1.elim
      · exact h1.elim
    · exact h1.elim
  · exact h.elim
theorem minL_sound {m : Int → Int → Int} {f : Value → Value → Sem Value} {ik : IntKind} (hf : ∀ a b w, (f (.int ik a) (.int ik b)).run P w = .ok (.int ik (m a b)) w) : ∀ {l : List AV} {vs : List Value} {x : Int} {kk : Int → Prop},
    l.length = vs.length → (∀ (i : Nat) (h : i < l.length) (h' : i < vs.length), VRel X l[i] vs[i]) → minL m ik x l kk → ∃ n, (∀ w', (vs.foldlM f (.int ik x)).run P w' = .ok (.int ik n) w') ∧ kk n
  | [], [], x, kk, _, _, h => ⟨x, by simp, h⟩
  | [], _ :: _, _, _, hl, _, _ => by simp at hl
  | _ :: _, [], _, _, hl, _, _ => by simp at hl
  | y :: l, v :: vs, x, kk, hl, hr, h => by
    unfold minL at h
    split at h
    · rename_i heq; cases heq
    · rename_i heq
      obtain ⟨rfl, rfl⟩ := List.cons.inj heq
      obtain ⟨rfl, h⟩ := h
      have e : v = .int _ _ := inv_int (hr 0 (by simp) (by simp))
      obtain ⟨n, hn, hk⟩ := minL_sound hf (by simpa using hl) (fun i h1 h2 => hr (i + 1) (by simp; omega) (by simp; omega)) h
      refine ⟨n, fun w' => ?_, hk⟩
      subst e
      simp [List.foldlM_cons, hf, hn]
    · exact h.elim
theorem p_min {c : Call} (hs : SRel w0 own0 X s a) (ho : o.op = .call c) (hc : c.callee = .builtin .min) (h : aPure K s (.call c) k) : Yields P C X a o k := by
  simp only [aPure, hc] at h
  obtain ⟨y, hy, hyr, h1⟩ := stripL_sound (by simp) (map_rel hs c.args) h
  clear h
  simp only [List.length_map, Array.length_toList] at hy
  split at h1
  · rename_i j x r
    have hpos : 0 < c.args.size := by simp at hy; omega
    obtain ⟨a0, rest, hargs⟩ : ∃ a0 rest, c.args.toList = a0 :: rest := by
      cases hh : c.args.toList with
      | nil => rw [← Array.length_toList, hh] at hpos; simp at hpos
      | cons a0 rest => exact ⟨a0, rest, rfl⟩
    simp only [hargs] at hyr
    have e0 : a.eval a0 = .int j x := inv_int (show VRel X (AV.d (D.v (.int j x))) (a.eval a0) from hyr 0 (by simp) (by simp))
    have hlen : r.length = rest.length := by
      rw [← Array.length_toList, hargs] at hy; simpa using hy
    obtain ⟨n, hn, hk⟩ := minL_sound (P := P) (f := Builtin.min2) (vs := rest.map a.eval) (by intro p q w; simp [Builtin.min2]) (by simpa using hlen) (fun i h1 h2 => by
      have := hyr (i + 1) (by simp; omega) (by simpa using h2)
      simpa using this) h1
    refine ⟨_, _, fun w' hw' => ?_, mkv rfl, hk⟩
    simp [execOp, ho, resolve, hc, invoke, builtin, Builtin.min_, hargs, e0, hn]
  · exact h1.elim
theorem p_max {c : Call} (hs : SRel w0 own0 X s a) (ho : o.op = .call c) (hc : c.callee = .builtin .max) (h : aPure K s (.call c) k) : Yields P C X a o k := by
  simp only [aPure, hc] at h
  obtain ⟨y, hy, hyr, h1⟩ := stripL_sound (by simp) (map_rel hs c.args) h
  clear h
  simp only [List.length_map, Array.length_toList] at hy
  split at h1
  · rename_i j x r
    have hpos : 0 < c.args.size := by simp at hy; omega
    obtain ⟨a0, rest, hargs⟩ : ∃ a0 rest, c.args.toList = a0 :: rest := by
      cases hh : c.args.toList with
      | nil => rw [← Array.length_toList, hh] at hpos; simp at hpos
      | cons a0 rest => exact ⟨a0, rest, rfl⟩
    simp only [hargs] at hyr
    have e0 : a.eval a0 = .int j x := inv_int (show VRel X (AV.d (D.v (.int j x))) (a.eval a0) from hyr 0 (by simp) (by simp))
    have hlen : r.length = rest.length := by
      rw [← Array.length_toList, hargs] at hy; simpa using hy
    obtain ⟨n, hn, hk⟩ := minL_sound (P := P) (f := Builtin.max2) (vs := rest.map a.eval) (by intro p q w; simp [Builtin.max2]) (by simpa using hlen) (fun i h1 h2 => by
      have := hyr (i + 1) (by simp; omega) (by simpa using h2)
      simpa using this) h1
    refine ⟨_, _, fun w' hw' => ?_, mkv rfl, hk⟩
    simp [execOp, ho, resolve, hc, invoke, builtin, Builtin.max_, hargs, e0, hn]
  · exact h1.elim
theorem run_sliceBound {x : Value} {ik : IntKind} {n : Int} {y : Nat} {code : BoundsCode} (w : World) (hx : x = .int ik n) (h0 : 0 ≤ n) (h1 : n ≤ y) : (Instr.sliceBound x y code).run P w = .ok n.toNat w := by
  subst hx; simp [Instr.sliceBound, asIntOf, h0, h1]
theorem sl_piece {es : List (List D)} {v : Value} {sz : Nat} (l h : Nat) (hsz : 0 < l → ∀ c ∈ es, c.length = sz) (hlh : l ≤ h) (hh : h ≤ es.length) (hv : VRel X (.d (.sl es)) v) :
    ∃ ad cap, v = .slice ad es.length cap ∧ es.length ≤ cap ∧ VRel X (.d (.sl ((es.take h).drop l))) (.slice (if cap = l then ad else ad.map (·.add (l * sz))) (h - l) (cap - l)) := by
  obtain ⟨hlim, ⟨rfl, ad, cap, rfl⟩ | ⟨b, off, cap, sz', gg, e, hc, hz, hb, hs, hcell, hr⟩⟩ := inv_sl hv
  · refine ⟨ad, cap, rfl, by simp, ?_⟩
    have : l = 0 := by simp at hh; omega
    subst this
    have : h = 0 := by simpa using hh
    subst this
    exact .d .nil
  · refine ⟨_, _, e, hc, ?_⟩
    have hlen : ((es.take h).drop l).length = h - l := by simp; omega
    rw [← hlen]
    by_cases h0 : 0 < h - l
    · have hne : ¬ cap = l := by omega
      have hmul : l * sz = l * sz' := by
        by_cases hl0 : 0 < l
        · have hsz' : sz = sz' := by rw [← hs 0 (by omega)]; exact (hsz hl0 _ (List.getElem_mem _)).symm
          rw [hsz']
        · have : l = 0 := by omega
          simp [this]
      rw [if_neg hne, hmul]
      have hadd : (Addr.mk b off none).add (l * sz') = ⟨b, off + l * sz', none⟩ := by
        unfold Addr.add; split
        · rename_i h; rw [h]; rfl
        · rfl
      simp only [Option.map_some, hadd]
      refine .d (.sl sz' hz (fun i j => gg (l + i) j) (by omega) (by omega) (fun _ => hb (by omega)) (fun i hi => ?_) (fun i j hi hj => ?_) (fun i hi j hj => ?_))
      · simp only [List.getElem_drop, List.getElem_take]; exact hs _ (by omega)
      · have := hcell (l + i) j (by omega) hj
        rw [← this]; congr 2; rw [Nat.add_mul]; omega
      · simp only [List.getElem_drop, List.getElem_take] at hj ⊢
        exact hr (l + i) (by omega) j hj
    · have hemp : (es.take h).drop l = [] := List.eq_nil_of_length_eq_zero (by omega)
      rw [hemp]
      have : ∃ ad, (if cap = l then some (Addr.mk b off none) else (some (Addr.mk b off none)).map (·.add (l * sz))) = some ⟨b, ad, none⟩ := by
        split
        · exact ⟨off, rfl⟩
        · refine ⟨off + l * sz, ?_⟩
          simp only [Option.map_some, Addr.add]; split
          · rename_i h; simp [h]
          · rfl
      obtain ⟨ad, had⟩ := this
      rw [had]
      exact .d (.sl (es := []) 1 (by omega) (fun _ _ => undef) (by simp) (by simp) (fun h => absurd h (by simp)) (fun i hi => absurd hi (by simp)) (fun i j hi => absurd hi (by simp)) (fun i hi => absurd hi (by simp)))
theorem szok_ok {e : TypeId} {es : List (List D)} (h : SzOk K e es) : ∃ i, K e = some i ∧ ∀ c ∈ es, c.length = i.sz := by
  unfold SzOk at h
  split at h
  · rename_i i hi; exact ⟨i, hi, h⟩
  · exact h.elim
theorem p_slice {t : TypeId} {x : Operand} {lo hi : Option Operand} (hK : KOk P K) (hs : SRel w0 own0 X s a) (ho : o.op = .slice t x lo hi none) (h : aPure K s (.slice t x lo hi none) k) : Yields P C X a o k := by
  simp only [aPure] at h
  obtain ⟨y, hy, h1⟩ := strip_sound (ev_sound hs x) h
  clear h
  split at h1
  · rename_i b ik hb elo ehi hkd
    have hu := kd_ok hK hkd
    obtain ⟨e, hl⟩ := inv_str hy
    obtain ⟨⟨hi', rfl⟩, e2⟩ : (∃ hi', hi = some hi') ∧ True := by cases hi <;> simp_all
    simp only [Option.map_some, Option.some.injEq] at ehi
    have e3 := inv_int (ehi ▸ ev_sound hs hi')
    have elo' : lo = none := by simpa using elo
    obtain ⟨⟨q1, q2⟩, hk⟩ := h1
    refine ⟨_, _, fun w' hw' => ?_, mkv (x := .string (b.extract 0 hb.toNat)) (by simp [plainV, ByteArray.size_extract]; omega), hk⟩
    simp [execOp, ho, elo', e, Instr.sliceAt, Instr.slice, run_under hu, Instr.sliceBounds, run_sliceBound w' e3 q1 q2]
  · rename_i b ik lb elo ehi hkd
    have hu := kd_ok hK hkd
    obtain ⟨e, hl⟩ := inv_str hy
    obtain ⟨⟨lo', rfl⟩, e2⟩ : (∃ lo', lo = some lo') ∧ True := by cases lo <;> simp_all
    simp only [Option.map_some, Option.some.injEq] at elo
    have e3 := inv_int (elo ▸ ev_sound hs lo')
    have ehi' : hi = none := by simpa using ehi
    obtain ⟨⟨q1, q2⟩, hk⟩ := h1
    refine ⟨_, _, fun w' hw' => ?_, mkv (x := .string (b.extract lb.toNat b.size)) (by simp [plainV, ByteArray.size_extract]; omega), hk⟩
    simp [execOp, ho, ehi', e, Instr.sliceAt, Instr.slice, run_under hu, Instr.sliceBounds, run_sliceBound w' e3 q1 q2]
  · rename_i b ik lb ik2 hb elo ehi hkd
    have hu := kd_ok hK hkd
    obtain ⟨e, hl⟩ := inv_str hy
    obtain ⟨⟨lo', rfl⟩, e2⟩ : (∃ lo', lo = some lo') ∧ True := by cases lo <;> simp_all
    obtain ⟨⟨hi', rfl⟩, e2⟩ : (∃ hi', hi = some hi') ∧ True := by cases hi <;> simp_all
    simp only [Option.map_some, Option.some.injEq] at elo ehi
    have e3 := inv_int (elo ▸ ev_sound hs lo')
    have e4 := inv_int (ehi ▸ ev_sound hs hi')
    obtain ⟨⟨q1, q2, q3⟩, hk⟩ := h1
    refine ⟨_, _, fun w' hw' => ?_, mkv (x := .string (b.extract lb.toNat hb.toNat)) (by simp [plainV, ByteArray.size_extract]; omega), hk⟩
    simp [execOp, ho, e, Instr.sliceAt, Instr.slice, run_under hu, Instr.sliceBounds, run_sliceBound w' e4 (Int.le_trans q1 q2) q3, run_sliceBound (y := hb.toNat) w' e3 q1 (by omega)]
  · rename_i es ik hb el elo ehi hkd
    have hu := kd_ok hK hkd
    obtain ⟨⟨hi', rfl⟩, e2⟩ : (∃ hi', hi = some hi') ∧ True := by cases hi <;> simp_all
    simp only [Option.map_some, Option.some.injEq] at ehi
    have e3 := inv_int (ehi ▸ ev_sound hs hi')
    have elo' : lo = none := by simpa using elo
    obtain ⟨⟨q1, q2⟩, hk⟩ := h1
    obtain ⟨hi0, hk⟩ := chk_iff.1 hk
    obtain ⟨i, hi⟩ := Option.isSome_iff_exists.1 hi0
    obtain ⟨tinf, hti, hsz, _, _⟩ := (hK el i hi).info
    obtain ⟨ad, cap, e, hcap, hr⟩ := sl_piece (sz := tinf.size) 0 hb.toNat (fun h => absurd h (by simp)) (by omega) (by omega) hy
    refine ⟨_, _, fun w' hw' => ?_, by simpa using hr, hk⟩
    simp [execOp, ho, elo', e, Instr.sliceAt, Instr.slice, run_under hu, Instr.sliceBounds, run_sliceBound (y := cap) w' e3 q1 (by omega), sizeOf, typeInfo, program, Sem.run, hti]
  · rename_i es ik lb el elo ehi hkd
    have hu := kd_ok hK hkd
    obtain ⟨⟨lo', rfl⟩, e2⟩ : (∃ lo', lo = some lo') ∧ True := by cases lo <;> simp_all
    simp only [Option.map_some, Option.some.injEq] at elo
    have e3 := inv_int (elo ▸ ev_sound hs lo')
    have ehi' : hi = none := by simpa using ehi
    obtain ⟨⟨q1, q2⟩, hsz0, hk⟩ := h1
    obtain ⟨i, hi, hall⟩ := szok_ok hsz0
    obtain ⟨tinf, hti, hsz, _, _⟩ := (hK el i hi).info
    obtain ⟨ad, cap, e, hcap, hr⟩ := sl_piece (sz := tinf.size) lb.toNat es.length (fun h => by rw [hsz]; exact hall) (by omega) (by omega) hy
    refine ⟨_, _, fun w' hw' => ?_, by simpa using hr, hk⟩
    simp [execOp, ho, ehi', e, Instr.sliceAt, Instr.slice, run_under hu, Instr.sliceBounds, run_sliceBound (y := es.length) w' e3 q1 (by omega), sizeOf, typeInfo, program, Sem.run, hti]
  · rename_i es ik lb ik2 hb el elo ehi hkd
    have hu := kd_ok hK hkd
    obtain ⟨⟨lo', rfl⟩, e2⟩ : (∃ lo', lo = some lo') ∧ True := by cases lo <;> simp_all
    obtain ⟨⟨hi', rfl⟩, e2⟩ : (∃ hi', hi = some hi') ∧ True := by cases hi <;> simp_all
    simp only [Option.map_some, Option.some.injEq] at elo ehi
    have e3 := inv_int (elo ▸ ev_sound hs lo')
    have e4 := inv_int (ehi ▸ ev_sound hs hi')
    obtain ⟨⟨q1, q2, q3⟩, hsz0, hk⟩ := h1
    obtain ⟨i, hi, hall⟩ := szok_ok hsz0
    obtain ⟨tinf, hti, hsz, _, _⟩ := (hK el i hi).info
    obtain ⟨ad, cap, e, hcap, hr⟩ := sl_piece (sz := tinf.size) lb.toNat hb.toNat (fun h => by rw [hsz]; exact hall) (by omega) (by omega) hy
    refine ⟨_, _, fun w' hw' => ?_, hr, hk⟩
    simp [execOp, ho, e, Instr.sliceAt, Instr.slice, run_under hu, Instr.sliceBounds, run_sliceBound (y := cap) w' e4 (by omega) (by omega), run_sliceBound (y := hb.toNat) w' e3 q1 (by omega), sizeOf, typeInfo, program, Sem.run, hti]
  · exact h1.elim
theorem pure_sound (hK : KOk P K) (hs : SRel w0 own0 X s a) (hS : sealRead o.op = false ∨ Sld C X) (hO : ownRead s o.op = false ∨ ∀ w', C w' → Below X.w.heap.size X.w w') (h : aPure K s o.op k) : Yields P C X a o k := by
  cases ho : o.op <;> rw [ho] at h hO hS <;> first | (exact (by simpa only [aPure] using h : False).elim) | skip
  case move x => exact p_move hs ho (by simpa only [aPure] using h)
  case unOp => exact p_unOp hs ho h
  case extract => exact p_extract hs ho h
  case index => exact p_index hK hs ho h
  case convert => exact p_convert hK hs (hS.elim (fun h => by simp [sealRead] at h) id) hO ho h
  case field => exact p_field hK hs ho h
  case makeFunc => exact p_makeFunc hs ho h
  case nilCheck => exact p_nilCheck hs ho h
  case binOp op t x y t2 =>
    simp only [aPure] at h
    obtain ⟨p, hp, h1⟩ := strip_sound (ev_sound hs x) h
    obtain ⟨q, hq, h2⟩ := strip_sound (ev_sound hs y) h1
    exact aBin_sound hK ho hp hq h2
  case slice t x lo hi mx =>
    cases mx with
    | none => exact p_slice hK hs ho h
    | some m => simp only [aPure] at h
  case call c =>
    cases hc : c.callee with
    | builtin b =>
      cases b <;> first | exact p_len hK hs hO ho hc h | exact p_min hs ho hc h | exact p_max hs ho hc h | (simp only [aPure, hc] at h)
    | _ => simp only [aPure, hc] at h
end
end Go.AM
