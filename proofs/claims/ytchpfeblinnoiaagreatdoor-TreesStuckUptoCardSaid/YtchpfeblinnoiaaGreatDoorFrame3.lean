import Derived.Test.YtchpfeblinnoiaaGreatDoorAmLib
import Derived.Test.YtchpfeblinnoiaaGreatDoorCards
import Derived.WalkKit
import Derived.ProofKit
import Derived.OpenShut
import Derived.Deep.DeepHandedRow
import Derived.Carry
set_option linter.unusedSimpArgs false
set_option linter.unusedVariables false
namespace Go.Proofs.YtchpfeblinnoiaaGreatDoor
open Go Go.AM Go.RowKit Go.ChangeShapes Go.WideShapes Go.ChangeAt
theorem bulk_one {H : Type} (d : DataW H) : 1 ≤ Rows.uptoBulk d := by
  cases d with
  | lit l => cases l <;> simp [Rows.uptoBulk]
  | nil => simp [Rows.uptoBulk]
  | ptr d => simp [Rows.uptoBulk]
  | slice elems spare => simp [Rows.uptoBulk]
  | agg parts => simp [Rows.uptoBulk]
  | iface t d => simp [Rows.uptoBulk]
  | map entries => simp [Rows.uptoBulk]
  | held h => simp [Rows.uptoBulk]
theorem bulk_part {H : Type} {d : DataW H} {l : List (DataW H)} (h : d ∈ l) : Rows.uptoBulk d ≤ Rows.uptoBulkAll l := by
  induction l with
  | nil => cases h
  | cons x r ih =>
    simp only [Rows.uptoBulkAll]
    cases List.mem_cons.1 h with
    | inl e => subst e; omega
    | inr e => have := ih e; omega
theorem bulk_length {H : Type} (l : List (DataW H)) : l.length ≤ Rows.uptoBulkAll l := by
  induction l with
  | nil => simp [Rows.uptoBulkAll]
  | cons x r ih => have := bulk_one x; simp only [Rows.uptoBulkAll, List.length_cons]; omega
def tileB (P : Program) : Nat → List Field → Option Nat
  | o, [] => some o
  | o, f :: l => if f.offset = o then tileB P (o + P.cellsOf f.type) l else none
def closeT (P : Program) : Nat → List TypeId → List TypeId → List TypeId
  | 0, _, done => done
  | _ + 1, [], done => done
  | n + 1, t :: l, done => match done.contains t with
    | true => closeT P n l done
    | false => closeT P n ((match P.underlying t with
      | some (.slice e) => [e]
      | some (.struct fs) => fs.toList.map (·.type)
      | some (.array _ e) => [e]
      | _ => []) ++ l) (t :: done)
def plainC (P : Program) (ts : List TypeId) (t : TypeId) : Bool := match P.underlying t with
  | some .bool => true
  | some (.int _) => true
  | some .string => true
  | some (.slice e) => decide (0 < P.cellsOf e) && ts.contains e
  | some (.struct fs) => decide (tileB P 0 fs.toList = some (P.cellsOf t)) && fs.toList.all fun f => ts.contains f.type
  | some (.array k e) => decide (k * P.cellsOf e = P.cellsOf t) && ts.contains e
  | _ => false
def plainR (P : Program) (t : TypeId) : Bool := (closeT P 300 [t] []).contains t && (closeT P 300 [t] []).all (plainC P (closeT P 300 [t] []))
def TyL (p : TypeId → List D → Prop) : List TypeId → List D → Prop
  | [], ds => ds = []
  | t :: ts, ds => ∃ a b, ds = a ++ b ∧ p t a ∧ TyL p ts b
def Ty (P : Program) : Nat → TypeId → List D → Prop
  | 0, _, _ => False
  | n + 1, t, ds => match P.underlying t with
    | some .bool => ∃ b, ds = [.v (.bool b)]
    | some (.int k) => ∃ i, ds = [.v (.int k i)] ∧ (Lit.int k i).wf = true
    | some .string => ∃ s : ByteArray, ds = [.v (.string s)] ∧ s.size ≤ 1048576
    | some (.slice e) => ∃ es : List (List D), ds = [.sl es] ∧ es.length ≤ 1048576 ∧ ∀ c ∈ es, Ty P n e c
    | some (.struct fs) => TyL (Ty P n) (fs.toList.map (·.type)) ds
    | some (.array k e) => TyL (Ty P n) (List.replicate k e) ds
    | _ => False
def RelL (own : Nat → Prop) (w : World) : List D → List Value → Prop
  | [], [] => True
  | d :: ds, v :: vs => DRel own w d v ∧ RelL own w ds vs
  | _, _ => False
theorem RelL.append {own : Nat → Prop} {w : World} : ∀ {a b : List D} {u v : List Value}, RelL own w a u → RelL own w b v → RelL own w (a ++ b) (u ++ v)
  | [], _, [], _, _, h => h
  | d :: a, b, x :: u, v, h, k => ⟨h.1, RelL.append h.2 k⟩
theorem RelL.length {own : Nat → Prop} {w : World} : ∀ {a : List D} {u : List Value}, RelL own w a u → a.length = u.length
  | [], [], _ => rfl
  | d :: a, x :: u, h => by simp [RelL.length h.2]
theorem RelL.get {own : Nat → Prop} {w : World} : ∀ {a : List D} {u : List Value}, RelL own w a u → ∀ (j : Nat) (h : j < a.length), DRel own w a[j] (u.getD j undef)
  | d :: a, x :: u, h, 0, _ => h.1
  | d :: a, x :: u, h, j + 1, hj => by simpa using h.2.get j (by simpa using hj)
section
variable {H : Type} {enc : TypeId × Value → H} {P : Program} {W : World} {own : Nat → Prop}
theorem open_cells (hno : ∀ b, ¬ own b) (ts : List TypeId) (hts : ts.all (plainC P ts) = true) : ∀ (n : Nat) (t : TypeId), t ∈ ts → ∀ (cs : List Value) (x : DataW H × List MemPlace),
    DataW.trod enc P W 0 (fun _ => true) true n t cs = some x → Rows.uptoBulk x.1 ≤ 1048576 → ∃ ds, RelL own W ds cs ∧ Ty P n t ds := by
  have mem : ∀ {e : TypeId}, ts.contains e = true → e ∈ ts := fun h => by simpa using h
  intro n
  induction n with
  | zero => intro t _ cs x hx _; simp [DataW.trod] at hx
  | succ n ih =>
    intro t htm cs x hx hb
    have hp : plainC P ts t = true := List.all_eq_true.1 hts t htm
    simp only [plainC] at hp
    unfold Ty
    split at hp
    · rename_i hu
      obtain ⟨b, rfl, rfl⟩ := DataW.trod_bool hu hx
      exact ⟨[.v (.bool b)], ⟨.v rfl, trivial⟩, ⟨b, rfl⟩⟩
    · rename_i k hu
      obtain ⟨i, rfl, rfl, hw⟩ := DataW.trod_int hu hx
      exact ⟨[.v (.int k i)], ⟨.v rfl, trivial⟩, ⟨i, rfl, hw⟩⟩
    · rename_i hu
      obtain ⟨s, rfl, rfl, hs⟩ := DataW.trod_string hu hx
      have e : s.data.toList.length = s.size := Array.length_toList
      have hs' : s.size ≤ 1048576 := by
        have hb : Rows.uptoBulk (DataW.lit (H := H) (.string s.data.toList)) ≤ 1048576 := hb
        simp only [Rows.uptoBulk] at hb
        omega
      have hpl : plainV (.string s) = true := by
        simp only [plainV, decide_eq_true_eq]
        unfold LIM
        omega
      exact ⟨[.v (.string s)], ⟨.v hpl, trivial⟩, ⟨s, rfl, hs'⟩⟩
    · rename_i e hu
      simp only [Bool.and_eq_true, decide_eq_true_eq] at hp
      rcases DataW.trod_slice hu hx with ⟨rfl, rfl⟩ | ⟨a, len, cap, elems, rest, m, hfu, rfl, rfl, _, hl, hm, hlen, hel, _, _⟩
      · exact ⟨[.sl []], ⟨.nil, trivial⟩, ⟨[], rfl, by simp, by simp⟩⟩
      · have hmn : m = n := by omega
        have hbe : Rows.uptoBulkAll (elems.map (·.1)) ≤ 1048576 := by simp only [Rows.uptoBulk] at hb; omega
        have hln : elems.length ≤ 1048576 := by have := bulk_length (elems.map (·.1)); simp at this; omega
        have each : ∀ i, i < len → ∃ p : List D × List Value, W.cells? 0 (a.add (i * P.cellsOf e)) (P.cellsOf e) = some p.2 ∧ RelL own W p.1 p.2 ∧ Ty P n e p.1 := by
          intro i hi
          have h := hel i hi
          rw [List.getElem?_eq_getElem (by omega), Option.bind_eq_some_iff] at h
          obtain ⟨cs', hc, ht⟩ := h
          obtain ⟨ds, h1, h2⟩ := ih e (mem hp.2) cs' _ (hmn ▸ ht) (Nat.le_trans (bulk_part (List.mem_map.2 ⟨_, List.getElem_mem _, rfl⟩)) hbe)
          exact ⟨(ds, cs'), hc, h1, h2⟩
        let f : Nat → List D × List Value := fun i => if h : i < len then (each i h).choose else ([], [])
        have hf : ∀ i, i < len → W.cells? 0 (a.add (i * P.cellsOf e)) (P.cellsOf e) = some (f i).2 ∧ RelL own W (f i).1 (f i).2 ∧ Ty P n e (f i).1 := by
          intro i hi
          simp only [f, hi, dif_pos]
          exact (each i hi).choose_spec
        have hty : ∃ es : List (List D), [D.sl ((List.range len).map fun i => (f i).1)] = [D.sl es] ∧ es.length ≤ 1048576 ∧ ∀ c ∈ es, Ty P n e c := by
          refine ⟨_, rfl, by simp; omega, fun c hc => ?_⟩
          obtain ⟨i, hi, rfl⟩ := List.mem_map.1 hc
          exact (hf i (by simpa using hi)).2.2
        refine ⟨[.sl ((List.range len).map fun i => (f i).1)], ⟨?_, trivial⟩, hty⟩
        by_cases h0 : len = 0
        · subst h0; exact .nil
        · have h00 := (World.cells?_some (hf 0 (by omega)).1).2.2 0 hp.1
          have hl0 := (World.cells?_some (hf 0 (by omega)).1).2.1
          rw [List.getElem?_eq_getElem (by omega)] at h00
          have hspot : a.spot = none := by simpa [Addr.add] using World.cell?_spot h00
          obtain ⟨b, off, spot⟩ := a
          simp only at hspot
          subst hspot
          have hadd : ∀ k j, ((⟨b, off, none⟩ : Addr).add k).add j = ⟨b, off + (k + j), none⟩ := by
            intro k j; simp only [Addr.add]; split <;> split <;> simp_all <;> omega
          have := DRel.sl (own := own) (w := W) (es := (List.range len).map fun i => (f i).1) (b := b) (off := off) (cap := cap) (P.cellsOf e) hp.1 (fun i j => (f i).2.getD j undef)
            (by simp only [List.length_map, List.length_range, LIM]; omega) (by simpa using hl) (fun _ => hno b)
            (fun i hi => by
              simp only [List.getElem_map, List.getElem_range]
              have hi : i < len := by simpa using hi
              rw [(hf i hi).2.1.length, (World.cells?_some (hf i hi).1).2.1])
            (fun i j hi hj => by
              have hi : i < len := by simpa using hi
              have hc := World.cells?_some (hf i hi).1
              have := hc.2.2 j hj
              rw [hadd] at this
              rw [this, List.getElem?_eq_getElem (by rw [hc.2.1]; exact hj), List.getD_eq_getElem?_getD, List.getElem?_eq_getElem (by rw [hc.2.1]; exact hj)]
              rfl)
            (fun i hi j hj => by
              have hi : i < len := by simpa using hi
              simp only [List.getElem_map, List.getElem_range] at hj ⊢
              exact (hf i hi).2.1.get j hj)
          simpa using this
    · rename_i fs hu
      simp only [Bool.and_eq_true, decide_eq_true_eq, List.all_eq_true] at hp
      obtain ⟨xs, m, hfu, rfl, hcl, hxl, hfs⟩ := DataW.trod_struct hu hx
      have hmn : m = n := by omega
      subst hmn
      have hbx : Rows.uptoBulkAll (xs.map (·.1)) ≤ 1048576 := by simp only [Rows.uptoBulk] at hb; omega
      have key : ∀ (l : List Field) (k o : Nat), (∀ j, (fs.toList)[k + j]? = l[j]?) → tileB P o l = some (P.cellsOf t) → (∀ f ∈ l, f.type ∈ ts) →
          ∃ ds, RelL own W ds (cs.drop o) ∧ TyL (Ty P m) (l.map (·.type)) ds := by
        intro l
        induction l with
        | nil =>
          intro k o _ ht _
          simp only [tileB, Option.some.injEq] at ht
          exact ⟨[], by rw [List.drop_eq_nil_of_le (by omega)]; trivial, rfl⟩
        | cons f l ihl =>
          intro k o hk ht hpl
          simp only [tileB] at ht
          split at ht
          · rename_i ho
            subst ho
            have h0 := hk 0
            simp only [Nat.add_zero, List.getElem?_cons_zero] at h0
            have h0' : fs[k]? = some f := by rw [← Array.getElem?_toList]; exact h0
            have hr := hfs k f h0'
            have hkx : k < xs.length := by
              rcases Nat.lt_or_ge k xs.length with h | h
              · exact h
              · rw [hxl] at h; rw [Array.getElem?_eq_none h] at h0'; cases h0'
            rw [List.getElem?_eq_getElem hkx] at hr
            obtain ⟨a, r1, t1⟩ := ih f.type (hpl f (by simp)) _ _ hr (Nat.le_trans (bulk_part (List.mem_map.2 ⟨_, List.getElem_mem _, rfl⟩)) hbx)
            obtain ⟨b, r2, t2⟩ := ihl (k + 1) (f.offset + P.cellsOf f.type) (fun j => by have := hk (j + 1); rw [show k + 1 + j = k + (j + 1) by omega, this]; rfl) ht (fun g hg => hpl g (by simp [hg]))
            refine ⟨a ++ b, ?_, ⟨a, b, rfl, t1, t2⟩⟩
            have := r1.append r2
            rw [← List.drop_drop, List.take_append_drop] at this
            exact this
          · cases ht
      obtain ⟨ds, h1, h2⟩ := key fs.toList 0 0 (fun j => by simp) hp.1 (fun f hf => mem (hp.2 f hf))
      exact ⟨ds, by simpa using h1, h2⟩
    · rename_i k e hu
      simp only [Bool.and_eq_true, decide_eq_true_eq] at hp
      obtain ⟨xs, m, hfu, rfl, hcl, hxl, hfs⟩ := DataW.trod_array hu hx
      have hmn : m = n := by omega
      subst hmn
      have hbx : Rows.uptoBulkAll (xs.map (·.1)) ≤ 1048576 := by simp only [Rows.uptoBulk] at hb; omega
      have key : ∀ (l i : Nat), i + l = k → ∃ ds, RelL own W ds (cs.drop (i * P.cellsOf e)) ∧ TyL (Ty P m) (List.replicate l e) ds := by
        intro l
        induction l with
        | zero =>
          intro i hi
          have : i = k := by omega
          subst this
          exact ⟨[], by rw [List.drop_eq_nil_of_le (by omega)]; trivial, rfl⟩
        | succ l ihl =>
          intro i hi
          have hr := hfs i (by omega)
          have hkx : i < xs.length := by omega
          rw [List.getElem?_eq_getElem hkx] at hr
          obtain ⟨a, r1, t1⟩ := ih e (mem hp.2) _ _ hr (Nat.le_trans (bulk_part (List.mem_map.2 ⟨_, List.getElem_mem _, rfl⟩)) hbx)
          obtain ⟨b, r2, t2⟩ := ihl (i + 1) (by omega)
          refine ⟨a ++ b, ?_, ⟨a, b, rfl, t1, t2⟩⟩
          have := r1.append r2
          rw [show (i + 1) * P.cellsOf e = i * P.cellsOf e + P.cellsOf e by rw [Nat.add_mul]; omega, ← List.drop_drop, List.take_append_drop] at this
          exact this
      obtain ⟨ds, h1, h2⟩ := key k 0 (by omega)
      exact ⟨ds, by simpa using h1, h2⟩
    · cases hp
end
end Go.Proofs.YtchpfeblinnoiaaGreatDoor

namespace Go.Proofs.YtchpfeblinnoiaaGreatDoor
open Go Go.AM Go.RowKit Go.ChangeShapes Go.WideShapes Go.ChangeAt
def aggB (P : Program) (t : TypeId) : Bool := match P.underlying t with | some (.struct _) => true | some (.array _ _) => true | _ => false
def argAV : Bool → List D → AV
  | true, ds => .ag (ds.map .d)
  | false, [x] => .d x
  | false, _ => .jk
def TyArg (P : Program) (t : TypeId) (a : AV) : Prop := ∃ n ds, Ty P n t ds ∧ a = argAV (aggB P t) ds
def TyArgs (P : Program) : List TypeId → List AV → Prop
  | [], [] => True
  | t :: ts, a :: as' => TyArg P t a ∧ TyArgs P ts as'
  | _, _ => False
section
variable {H : Type} {enc : TypeId × Value → H} {P : Program} {W : World}
theorem own_none {b : Nat} : ¬ (Cx.bare (fun _ => False) W).own b := fun h => h.elim id id
theorem open_arg {t : TypeId} {v : Value} {d : DataW H} {ps : List MemPlace} {r : Reach} {base : Nat} (hp : plainR P t = true) (hval : Value.okWide P W r base t v)
    (h : DataW.Trod enc P W 0 (fun _ => true) true t v d ps) (hb : Rows.uptoBulk d ≤ 1048576) : ∃ n ds, Ty P n t ds ∧ VRel (Cx.bare (fun _ => False) W) (argAV (aggB P t) ds) v := by
  obtain ⟨fuel, h⟩ := h
  obtain ⟨hp1, hp2⟩ := Bool.and_eq_true_iff.1 hp
  obtain ⟨ds, h1, h2⟩ := open_cells (own := (Cx.bare (fun _ => False) W).own) (fun b => own_none) _ hp2 fuel t (by simpa using hp1) _ _ h hb
  refine ⟨fuel, ds, h2, ?_⟩
  have one : ∀ u : Value, v = u → u.cells = #[u] → aggB P t = false → VRel (Cx.bare (fun _ => False) W) (argAV (aggB P t) ds) v := by
    intro u hu hc ha
    subst hu
    rw [hc] at h1
    match ds, h1 with
    | [x], h1 => rw [ha]; exact .d h1.1
  have h2' := h2
  cases fuel with
  | zero => exact h2.elim
  | succ fuel =>
  unfold Ty at h2
  split at h2
  · rename_i hu
    obtain ⟨b, rfl⟩ := okWide_bool hu hval
    exact one _ rfl rfl (by simp [aggB, hu])
  · rename_i k hu
    obtain ⟨b, rfl⟩ := okWide_int hu hval
    exact one _ rfl rfl (by simp [aggB, hu])
  · rename_i hu
    obtain ⟨b, rfl⟩ := okWide_string hu hval
    exact one _ rfl rfl (by simp [aggB, hu])
  · rename_i e hu
    obtain ⟨a, l, c, rfl⟩ := okWide_slice hu hval
    exact one _ rfl rfl (by simp [aggB, hu])
  · rename_i fs hu
    obtain ⟨cs, rfl, hcs⟩ := okWide_struct hu hval
    have ha : aggB P t = true := by simp [aggB, hu]
    rw [ha]
    have hl := h1.length
    refine .ag (by simp only [Value.cells] at hl; simp [hl]) (fun j hj => ?_)
    have hj' : j < ds.length := by simpa using hj
    have := h1.get j hj'
    simp only [List.getElem_map]
    have e : (Value.agg cs).cells.toList.getD j undef = cs.getD j undef := by
      simp [Value.cells, List.getD_eq_getElem?_getD, Array.getD_eq_getD_getElem?]
    rw [e] at this
    exact .d this
  · rename_i k e hu
    obtain ⟨cs, rfl⟩ : ∃ cs, v = .agg cs := by
      simp only [Value.okWide, hu] at hval
      obtain ⟨cs, h1, _⟩ := hval
      exact ⟨cs, h1⟩
    have ha : aggB P t = true := by simp [aggB, hu]
    rw [ha]
    have hl := h1.length
    refine .ag (by simp only [Value.cells] at hl; simp [hl]) (fun j hj => ?_)
    have hj' : j < ds.length := by simpa using hj
    have := h1.get j hj'
    simp only [List.getElem_map]
    have e : (Value.agg cs).cells.toList.getD j undef = cs.getD j undef := by
      simp [Value.cells, List.getD_eq_getElem?_getD, Array.getD_eq_getD_getElem?]
    rw [e] at this
    exact .d this
  · exact h2.elim
theorem open_args {r : Reach} {base : Nat} : ∀ {ts : List TypeId} {vs : List Value} {ds : List (DataW H)} {ps : List MemPlace}, (∀ t ∈ ts, plainR P t = true) →
    DataW.TrodAll enc P W 0 (fun _ => true) true ts vs ds ps → (∀ (j : Nat) t v, ts[j]? = some t → vs[j]? = some v → Value.okWide P W r base t v) → Rows.uptoBulkAll ds ≤ 1048576 →
    ∃ as' : List AV, vs.length = as'.length ∧ TyArgs P ts as' ∧ ∀ (i : Nat) (h : i < as'.length), VRel (Cx.bare (fun _ => False) W) as'[i] (vs.getD i undef)
  | [], vs, ds, ps, _, h, _, _ => by
    obtain ⟨rfl, rfl, rfl⟩ := trodAll_nil h
    exact ⟨[], rfl, trivial, fun i h => absurd h (by simp)⟩
  | t :: ts, vs, ds, ps, hp, h, hv, hb => by
    obtain ⟨v, vs', d, ds', p, q, rfl, rfl, rfl, h1, h2⟩ := trodAll_cons h
    simp only [Rows.uptoBulkAll] at hb
    obtain ⟨fu, x, t1, r1⟩ := open_arg (hp t (by simp)) (hv 0 t v rfl rfl) h1 (by omega)
    obtain ⟨as', e, t2, r2⟩ := open_args (fun u hu => hp u (by simp [hu])) h2 (fun j t' v' a b => hv (j + 1) t' v' (by simpa using a) (by simpa using b)) (by omega)
    refine ⟨_ :: as', by simp [e], ⟨⟨fu, x, t1, rfl⟩, t2⟩, fun i hi => ?_⟩
    cases i with
    | zero => exact r1
    | succ i => simpa using r2 i (by simpa using hi)
theorem trod_len : ∀ {ts : List TypeId} {vs : List Value} {ds : List (DataW H)} {ps : List MemPlace}, DataW.TrodAll enc P W 0 (fun _ => true) true ts vs ds ps → ds.length = ts.length
  | [], vs, ds, ps, h => by obtain ⟨rfl, rfl, rfl⟩ := trodAll_nil h; rfl
  | t :: ts, vs, ds, ps, h => by
    obtain ⟨v, vs', d, ds', p, q, rfl, rfl, rfl, h1, h2⟩ := trodAll_cons h
    simp [trod_len h2]
theorem post_below {f : Func} {s : ChangeSpec} {W' : World} {args : Array Value} {v : Value} {ds gs : List (DataW H)} {before : List MemPlace} {tb : TypeId}
    (hW : DataW.Whole enc P f.params.toList s.vars false W args.toList ds gs before) (hl : laidOutB P = true) (hts : ∀ t ∈ f.params.toList, P.readableRec t = true ∧ t < P.types.size)
    (hrt : f.resultTypes = #[tb]) (hub : P.underlying tb = some .bool) (hsv : s.vars = []) (hsf : s.fn H (ds ++ gs) = { results := [.lit (.bool true)], args := ds })
    (hk : Below W.heap.size W W') (hv : v = .bool true) : s.post enc P f false true false false W args v W' := by
  subst hv
  have hlt : ∀ p ∈ before, p.block < W.heap.size := fun p hp => by simpa using hW.lt p hp
  have hW0 := hW
  obtain ⟨p, q, hA, hV, rfl, hz, hn⟩ := hW
  rw [hsv] at hV
  obtain ⟨rfl, rfl⟩ : gs = [] ∧ q = [] := by
    cases gs with
    | nil => exact ⟨rfl, hV⟩
    | cons _ _ => exact hV.elim
  simp only [List.append_nil] at hlt hW0 hz hsf
  have hargs : ∀ sp : Nat → Bool, (∀ x ∈ p, sp x.block = true) → DataW.TrodAll enc P W' 0 sp true f.params.toList args.toList ds p := by
    intro sp hsp
    have key : ∀ (ts : List TypeId) (vs : List Value) (ds : List (DataW H)) (p : List MemPlace), (∀ t ∈ ts, P.readableRec t = true ∧ t < P.types.size) → (∀ x ∈ p, sp x.block = true) → (∀ x ∈ p, x.block < W.heap.size) →
        DataW.TrodAll enc P W 0 (fun _ => true) true ts vs ds p → DataW.TrodAll enc P W' 0 sp true ts vs ds p := by
      intro ts
      induction ts with
      | nil => intro vs ds p _ _ _ h; obtain ⟨rfl, rfl, rfl⟩ := trodAll_nil h; rfl
      | cons t ts ih =>
        intro vs ds p ht hs hlt h
        obtain ⟨v, vs', d, ds', a, b, rfl, rfl, rfl, h1, h2⟩ := trodAll_cons h
        exact ⟨a, b, WideElems.Trod_stays hl (ht t (by simp)).1 (ht t (by simp)).2 h1 (fun x hx => hk.same (hlt x (by simp [hx]))) (fun x hx => hs x (by simp [hx])), ih _ _ _ (fun u hu => ht u (by simp [hu])) (fun x hx => hs x (by simp [hx])) (fun x hx => hlt x (by simp [hx])) h2, rfl⟩
    exact key _ _ _ _ hts hsp hlt hA
  have hres : ∀ (b : Nat) (sp : Nat → Bool) (hd : Bool), DataW.TrodAll enc P W' b sp hd f.resultTypes.toList ((Value.bool true).resultList f.resultTypes.size) (s.fn H (ds ++ [])).results [] := by
    intro b sp hd
    rw [List.append_nil, hsf, hrt]
    exact trodAll_cons_mk (shut_bool hub _) trodAll_mk0
  have e1 : (s.fn H (ds ++ [])).args = ds := by rw [List.append_nil, hsf]
  have e2 : (s.fn H (ds ++ [])).vars = [] := by rw [List.append_nil, hsf]
  have hvars : ∀ sp : Nat → Bool, DataW.TrodVars enc P W' sp s.vars (s.fn H (ds ++ [])).vars [] := fun sp => by rw [hsv, e2]; rfl
  refine ⟨ds, [], p, [], p, [], hW0, hres _ _ _, by rw [e1]; exact hargs _ (fun x hx => by simpa using hlt x hx), hvars _, hk.frame _, fun h => by cases h⟩
theorem law_calls {f : FuncId} {fn : Func} {s : ChangeSpec} {F : List AV → Option (Prop × AV)} {args : Array Value} {ds gs : List (DataW H)} {before : List MemPlace} {tb : TypeId} {base : Nat}
    (hE : PSound P f (detE F)) (hl : laidOutB P = true) (hts : ∀ t ∈ fn.params.toList, plainR P t = true ∧ P.readableRec t = true ∧ t < P.types.size)
    (hrt : fn.resultTypes = #[tb]) (hub : P.underlying tb = some .bool) (hsv : s.vars = []) (hsf : ∀ l : List (DataW H), l.length = fn.params.toList.length → s.fn H l = { results := [.lit (.bool true)], args := l })
    (hF : ∀ as', TyArgs P fn.params.toList as' → ∃ p, F as' = some (p, mkB true) ∧ p) (hT : Tabs (fun _ => False) W)
    (hval : ∀ (j : Nat) t v, fn.params[j]? = some t → args[j]? = some v → Value.okWide P W .any base t v)
    (hW : DataW.Whole enc P fn.params.toList s.vars false W args.toList ds gs before) (hk : Rows.uptoBulkAll (ds ++ gs) ≤ 1048576) :
    Calls P f args W fun e W' => ∃ v, e = .returned v ∧ s.post enc P fn false true false false W args v W' := by
  have hW0 := hW
  obtain ⟨p, q, hA, hV, _, _, _⟩ := hW
  rw [hsv] at hV
  obtain ⟨rfl, _⟩ : gs = [] ∧ q = [] := by
    cases gs with
    | nil => exact ⟨rfl, hV⟩
    | cons _ _ => exact hV.elim
  rw [List.append_nil] at hk
  obtain ⟨as', e, ht, hr⟩ := open_args (fun t ht => (hts t ht).1) hA (fun j t v a b => hval j t v (by rw [← Array.getElem?_toList]; exact a) (by rw [← Array.getElem?_toList]; exact b)) hk
  obtain ⟨pp, hF1, hF2⟩ := hF as' ht
  have hcall := hE.call (fun _ => False) W as' args (fun av => av = mkB true) (fun b h => h.elim) hT (by rw [← e]; simp) (fun i h => by
    have := hr i h
    have e2 : args.toList.getD i undef = args.getD i undef := by simp [List.getD_eq_getElem?_getD, Array.getD_eq_getD_getElem?]
    rwa [e2] at this) (by simp only [detE, hF1]; exact ⟨hF2, trivial⟩)
  refine hcall.mono fun e W' ⟨v, av, he, hq, hv, hb⟩ => ⟨v, he, ?_⟩
  subst hq
  have hv : v = .bool true := by
    cases hv with | d hv => cases hv; rfl
  exact post_below hW0 hl (fun t ht => (hts t ht).2) hrt hub hsv (by rw [List.append_nil]; exact hsf ds (trod_len hA)) hb hv
end
mutual
def flatV : DataW Unit → List Value
  | .lit (.int k n) => [.int k n]
  | .lit (.bool b) => [.bool b]
  | .lit (.string l) => [.string ⟨l.toArray⟩]
  | .agg parts => flatVs parts
  | _ => []
def flatVs : List (DataW Unit) → List Value
  | [] => []
  | d :: l => flatV d ++ flatVs l
end
def layAll (P : Program) : List (String × DataW Unit) → World → World
  | [], w => w
  | (n, d) :: l, w => match P.globalNamed n with
    | some g => layAll P l { w with heap := w.heap.modify g fun | .cells _ t frozen => .cells (flatV d).toArray t frozen | o => o }
    | none => w
noncomputable def laidWorld (laid : List (String × DataW Unit)) (os : Os) : World := layAll Tryz.prog laid (World.holding Tryz.prog os ⟨#[], #[], []⟩)
theorem own : ownKnob Tryz.prog.godebug = none := by kernel_rfl
theorem laidOut : laidOutB Tryz.prog = true := by kernel_rfl
theorem bound {H : Type} {l : List (DataW H)} (hk : Rows.uptoSmall H l = true) : Rows.uptoBulkAll l ≤ 1048576 := by
  simpa [Rows.uptoSmall] using hk
end Go.Proofs.YtchpfeblinnoiaaGreatDoor

namespace Go.Proofs.YtchpfeblinnoiaaGreatDoor
open Go Go.AM Go.RowKit
section
variable {P : Program}
theorem list_of {α : Type} (f : α → List D) (p : α → Prop) : ∀ es : List (List D), (∀ c ∈ es, ∃ x, c = f x ∧ p x) → ∃ l : List α, es = l.map f ∧ ∀ x ∈ l, p x
  | [], _ => ⟨[], rfl, by simp⟩
  | c :: es, h => by
    obtain ⟨x, hx, px⟩ := h c (by simp)
    obtain ⟨l, hl, pl⟩ := list_of f p es (fun d hd => h d (by simp [hd]))
    exact ⟨x :: l, by simp [hx, hl], by simpa using ⟨px, pl⟩⟩
theorem arg_slice {t e : TypeId} {a : AV} (hu : P.underlying t = some (.slice e)) (h : TyArg P t a) : ∃ es : List (List D), a = .d (.sl es) ∧ es.length ≤ 1048576 ∧ ∃ n, ∀ c ∈ es, Ty P n e c := by
  obtain ⟨m, ds, h1, rfl⟩ := h
  cases m with
  | zero => exact h1.elim
  | succ m =>
  unfold Ty at h1; rw [hu] at h1
  obtain ⟨es, rfl, hl, hs⟩ := h1
  exact ⟨es, by simp [aggB, hu, argAV], hl, m, hs⟩
end
end Go.Proofs.YtchpfeblinnoiaaGreatDoor
