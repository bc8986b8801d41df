import Derived.Test.YtepkbbkfcnejmaaDoorAmLib
import Derived.Test.YtepkbbkfcnejmaaDoorCards
import Derived.WalkKit
import Derived.ProofKit
import Derived.OpenShut
import Derived.Deep.DeepHandedRow
import Derived.Carry
set_option linter.unusedSimpArgs false
set_option linter.unusedVariables false
namespace Go.Proofs.YtepkbbkfcnejmaaDoor
open Go Go.AM Go.RowKit Go.ChangeShapes Go.WideShapes Go.ChangeAt
theorem bulk_one {H : Type} (d : DataW H) : 1 ≤ Rows.uptoBulk d := by
  cases d with
  | lit l => cases l <;> simp [Rows.uptoBulk]
  | nil => simp [Rows.uptoBulk]
  | ptr d => simp [Rows.uptoBulk]
  | slice elems spare => simp [Rows.uptoBulk]
  | agg parts => simp [Rows.uptoBulk]
  | iface t d => simp [Rows.uptoBulk]
  | map entries => simp [Rows.uptoBulk]
  | held h => simp [Rows.uptoBulk]
theorem bulk_part {H : Type} {d : DataW H} {l : List (DataW H)} (h : d ∈ l) : Rows.uptoBulk d ≤ Rows.uptoBulkAll l := by
  induction l with
  | nil => cases h
  | cons x r ih =>
    simp only [Rows.uptoBulkAll]
    cases List.mem_cons.1 h with
    | inl e => subst e; omega
    | inr e => have := ih e; omega
theorem bulk_length {H : Type} (l : List (DataW H)) : l.length ≤ Rows.uptoBulkAll l := by
  induction l with
  | nil => simp [Rows.uptoBulkAll]
  | cons x r ih => have := bulk_one x; simp only [Rows.uptoBulkAll, List.length_cons]; omega
def tileB (P : Program) : Nat → List Field → Option Nat
  | o, [] => some o
  | o, f :: l => if f.offset = o then tileB P (o + P.cellsOf f.type) l else none
def closeT (P : Program) : Nat → List TypeId → List TypeId → List TypeId
  | 0, _, done => done
  | _ + 1, [], done => done
  | n + 1, t :: l, done => match done.contains t with
    | true => closeT P n l done
    | false => closeT P n ((match P.underlying t with
      | some (.slice e) => [e]
      | some (.struct fs) => fs.toList.map (·.type)
      | some (.array _ e) => [e]
      | _ => []) ++ l) (t :: done)
def plainC (P : Program) (ts : List TypeId) (t : TypeId) : Bool := match P.underlying t with
  | some .bool => true
  | some (.int _) => true
  | some .string => true
  | some (.slice e) => decide (0 < P.cellsOf e) && ts.contains e
  | some (.struct fs) => decide (tileB P 0 fs.toList = some (P.cellsOf t)) && fs.toList.all fun f => ts.contains f.type
  | some (.array k e) => decide (k * P.cellsOf e = P.cellsOf t) && ts.contains e
  | _ => false
def plainR (P : Program) (t : TypeId) : Bool := (closeT P 300 [t] []).contains t && (closeT P 300 [t] []).all (plainC P (closeT P 300 [t] []))
def TyL (p : TypeId → List D → Prop) : List TypeId → List D → Prop
  | [], ds => ds = []
  | t :: ts, ds => ∃ a b, ds = a ++ b ∧ p t a ∧ TyL p ts b
def Ty (P : Program) : Nat → TypeId → List D → Prop
  | 0, _, _ => False
  | n + 1, t, ds => match P.underlying t with
    | some .bool => ∃ b, ds = [.v (.bool b)]
    | some (.int k) => ∃ i, ds = [.v (.int k i)] ∧ (Lit.int k i).wf = true
    | some .string => ∃ s : ByteArray, ds = [.v (.string s)] ∧ s.size ≤ 1048576
    | some (.slice e) => ∃ es : List (List D), ds = [.sl es] ∧ es.length ≤ 1048576 ∧ ∀ c ∈ es, Ty P n e c
    | some (.struct fs) => TyL (Ty P n) (fs.toList.map (·.type)) ds
    | some (.array k e) => TyL (Ty P n) (List.replicate k e) ds
    | _ => False
def RelL (own : Nat → Prop) (w : World) : List D → List Value → Prop
  | [], [] => True
  | d :: ds, v :: vs => DRel own w d v ∧ RelL own w ds vs
  | _, _ => False
theorem RelL.append {own : Nat → Prop} {w : World} : ∀ {a b : List D} {u v : List Value}, RelL own w a u → RelL own w b v → RelL own w (a ++ b) (u ++ v)
  | [], _, [], _, _, h => h
  | d :: a, b, x :: u, v, h, k => ⟨h.1, RelL.append h.2 k⟩
theorem RelL.length {own : Nat → Prop} {w : World} : ∀ {a : List D} {u : List Value}, RelL own w a u → a.length = u.length
  | [], [], _ => rfl
  | d :: a, x :: u, h => by simp [RelL.length h.2]
theorem RelL.get {own : Nat → Prop} {w : World} : ∀ {a : List D} {u : List Value}, RelL own w a u → ∀ (j : Nat) (h : j < a.length), DRel own w a[j] (u.getD j undef)
  | d :: a, x :: u, h, 0, _ => h.1
  | d :: a, x :: u, h, j + 1, hj => by simpa using h.2.get j (by simpa using hj)
section
variable {H : Type} {enc : TypeId × Value → H} {P : Program} {W : World} {own : Nat → Prop}
theorem open_cells (hno : ∀ b, ¬ own b) (ts : List TypeId) (hts : ts.all (plainC P ts) = true) : ∀ (n : Nat) (t : TypeId), t ∈ ts → ∀ (cs : List Value) (x : DataW H × List MemPlace),
    DataW.trod enc P W 0 (fun _ => true) true n t cs = some x → Rows.uptoBulk x.1 ≤ 1048576 → ∃ ds, RelL own W ds cs ∧ Ty P n t ds := by
  have mem : ∀ {e : TypeId}, ts.contains e = true → e ∈ ts := fun h => by simpa using h
  intro n
  induction n with
  | zero => intro t _ cs x hx _; simp [DataW.trod] at hx
  | succ n ih =>
    intro t htm cs x hx hb
    have hp : plainC P ts t = true := List.all_eq_true.1 hts t htm
    simp only [plainC] at hp
    unfold Ty
    split at hp
    · rename_i hu
      obtain ⟨b, rfl, rfl⟩ := DataW.trod_bool hu hx
      exact ⟨[.v (.bool b)], ⟨.v rfl, trivial⟩, ⟨b, rfl⟩⟩
    · rename_i k hu
      obtain ⟨i, rfl, rfl, hw⟩ := DataW.trod_int hu hx
      exact ⟨[.v (.int k i)], ⟨.v rfl, trivial⟩, ⟨i, rfl, hw⟩⟩
    · rename_i hu
      obtain ⟨s, rfl, rfl, hs⟩ := DataW.trod_string hu hx
      have e : s.data.toList.length = s.size := Array.length_toList
      have hs' : s.size ≤ 1048576 := by
        have hb : Rows.uptoBulk (DataW.lit (H := H) (.string s.data.toList)) ≤ 1048576 := hb
        simp only [Rows.uptoBulk] at hb
        omega
      have hpl : plainV (.string s) = true := by
        simp only [plainV, decide_eq_true_eq]
        unfold LIM
        omega
      exact ⟨[.v (.string s)], ⟨.v hpl, trivial⟩, ⟨s, rfl, hs'⟩⟩
    · rename_i e hu
      simp only [Bool.and_eq_true, decide_eq_true_eq] at hp
      rcases DataW.trod_slice hu hx with ⟨rfl, rfl⟩ | ⟨a, len, cap, elems, rest, m, hfu, rfl, rfl, _, hl, hm, hlen, hel, _, _⟩
      · exact ⟨[.sl []], ⟨.nil, trivial⟩, ⟨[], rfl, by simp, by simp⟩⟩
      · have hmn : m = n := by omega
        have hbe : Rows.uptoBulkAll (elems.map (·.1)) ≤ 1048576 := by simp only [Rows.uptoBulk] at hb; omega
        have hln : elems.length ≤ 1048576 := by have := bulk_length (elems.map (·.1)); simp at this; omega
        have each : ∀ i, i < len → ∃ p : List D × List Value, W.cells? 0 (a.add (i * P.cellsOf e)) (P.cellsOf e) = some p.2 ∧ RelL own W p.1 p.2 ∧ Ty P n e p.1 := by
          intro i hi
          have h := hel i hi
          rw [List.getElem?_eq_getElem (by omega), Option.bind_eq_some_iff] at h
          obtain ⟨cs', hc, ht⟩ := h
          obtain ⟨ds, h1, h2⟩ := ih e (mem hp.2) cs' _ (hmn ▸ ht) (Nat.le_trans (bulk_part (List.mem_map.2 ⟨_, List.getElem_mem _, rfl⟩)) hbe)
          exact ⟨(ds, cs'), hc, h1, h2⟩
        let f : Nat → List D × List Value := fun i => if h : i < len then (each i h).choose else ([], [])
        have hf : ∀ i, i < len → W.cells? 0 (a.add (i * P.cellsOf e)) (P.cellsOf e) = some (f i).2 ∧ RelL own W (f i).1 (f i).2 ∧ Ty P n e (f i).1 := by
          intro i hi
          simp only [f, hi, dif_pos]
          exact (each i hi).choose_spec
        have hty : ∃ es : List (List D), [D.sl ((List.range len).map fun i => (f i).1)] = [D.sl es] ∧ es.length ≤ 1048576 ∧ ∀ c ∈ es, Ty P n e c := by
          refine ⟨_, rfl, by simp; omega, fun c hc => ?_⟩
          obtain ⟨i, hi, rfl⟩ := List.mem_map.1 hc
          exact (hf i (by simpa using hi)).2.2
        refine ⟨[.sl ((List.range len).map fun i => (f i).1)], ⟨?_, trivial⟩, hty⟩
        by_cases h0 : len = 0
        · subst h0; exact .nil
        · have h00 := (World.cells?_some (hf 0 (by omega)).1).2.2 0 hp.1
          have hl0 := (World.cells?_some (hf 0 (by omega)).1).2.1
          rw [List.getElem?_eq_getElem (by omega)] at h00
          have hspot : a.spot = none := by simpa [Addr.add] using World.cell?_spot h00
          obtain ⟨b, off, spot⟩ := a
          simp only at hspot
          subst hspot
          have hadd : ∀ k j, ((⟨b, off, none⟩ : Addr).add k).add j = ⟨b, off + (k + j), none⟩ := by
            intro k j; simp only [Addr.add]; split <;> split <;> simp_all <;> omega
          have := DRel.sl (own := own) (w := W) (es := (List.range len).map fun i => (f i).1) (b := b) (off := off) (cap := cap) (P.cellsOf e) hp.1 (fun i j => (f i).2.getD j undef)
            (by simp only [List.length_map, List.length_range, LIM]; omega) (by simpa using hl) (fun _ => hno b)
            (fun i hi => by
              simp only [List.getElem_map, List.getElem_range]
              have hi : i < len := by simpa using hi
              rw [(hf i hi).2.1.length, (World.cells?_some (hf i hi).1).2.1])
            (fun i j hi hj => by
              have hi : i < len := by simpa using hi
              have hc := World.cells?_some (hf i hi).1
              have := hc.2.2 j hj
              rw [hadd] at this
              rw [this, List.getElem?_eq_getElem (by rw [hc.2.1]; exact hj), List.getD_eq_getElem?_getD, List.getElem?_eq_getElem (by rw [hc.2.1]; exact hj)]
              rfl)
            (fun i hi j hj => by
              have hi : i < len := by simpa using hi
              simp only [List.getElem_map, List.getElem_range] at hj ⊢
              exact (hf i hi).2.1.get j hj)
          simpa using this
    · rename_i fs hu
      simp only [Bool.and_eq_true, decide_eq_true_eq, List.all_eq_true] at hp
      obtain ⟨xs, m, hfu, rfl, hcl, hxl, hfs⟩ := DataW.trod_struct hu hx
      have hmn : m = n := by omega
      subst hmn
      have hbx : Rows.uptoBulkAll (xs.map (·.1)) ≤ 1048576 := by simp only [Rows.uptoBulk] at hb; omega
      have key : ∀ (l : List Field) (k o : Nat), (∀ j, (fs.toList)[k + j]? = l[j]?) → tileB P o l = some (P.cellsOf t) → (∀ f ∈ l, f.type ∈ ts) →
          ∃ ds, RelL own W ds (cs.drop o) ∧ TyL (Ty P m) (l.map (·.type)) ds := by
        intro l
        induction l with
        | nil =>
          intro k o _ ht _
          simp only [tileB, Option.some.injEq] at ht
          exact ⟨[], by rw [List.drop_eq_nil_of_le (by omega)]; trivial, rfl⟩
        | cons f l ihl =>
          intro k o hk ht hpl
          simp only [tileB] at ht
          split at ht
          · rename_i ho
            subst ho
            have h0 := hk 0
            simp only [Nat.add_zero, List.getElem?_cons_zero] at h0
            have h0' : fs[k]? = some f := by rw [← Array.getElem?_toList]; exact h0
            have hr := hfs k f h0'
            have hkx : k < xs.length := by
              rcases Nat.lt_or_ge k xs.length with h | h
              · exact h
              · rw [hxl] at h; rw [Array.getElem?_eq_none h] at h0'; cases h0'
            rw [List.getElem?_eq_getElem hkx] at hr
            obtain ⟨a, r1, t1⟩ := ih f.type (hpl f (by simp)) _ _ hr (Nat.le_trans (bulk_part (List.mem_map.2 ⟨_, List.getElem_mem _, rfl⟩)) hbx)
            obtain ⟨b, r2, t2⟩ := ihl (k + 1) (f.offset + P.cellsOf f.type) (fun j => by have := hk (j + 1); rw [show k + 1 + j = k + (j + 1) by omega, this]; rfl) ht (fun g hg => hpl g (by simp [hg]))
            refine ⟨a ++ b, ?_, ⟨a, b, rfl, t1, t2⟩⟩
            have := r1.append r2
            rw [← List.drop_drop, List.take_append_drop] at this
            exact this
          · cases ht
      obtain ⟨ds, h1, h2⟩ := key fs.toList 0 0 (fun j => by simp) hp.1 (fun f hf => mem (hp.2 f hf))
      exact ⟨ds, by simpa using h1, h2⟩
    · rename_i k e hu
      simp only [Bool.and_eq_true, decide_eq_true_eq] at hp
      obtain ⟨xs, m, hfu, rfl, hcl, hxl, hfs⟩ := DataW.trod_array hu hx
      have hmn : m = n := by omega
      subst hmn
      have hbx : Rows.uptoBulkAll (xs.map (·.1)) ≤ 1048576 := by simp only [Rows.uptoBulk] at hb; omega
      have key : ∀ (l i : Nat), i + l = k → ∃ ds, RelL own W ds (cs.drop (i * P.cellsOf e)) ∧ TyL (Ty P m) (List.replicate l e) ds := by
        intro l
        induction l with
        | zero =>
          intro i hi
          have : i = k := by omega
          subst this
          exact ⟨[], by rw [List.drop_eq_nil_of_le (by omega)]; trivial, rfl⟩
        | succ l ihl =>
          intro i hi
          have hr := hfs i (by omega)
          have hkx : i < xs.length := by omega
          rw [List.getElem?_eq_getElem hkx] at hr
          obtain ⟨a, r1, t1⟩ := ih e (mem hp.2) _ _ hr (Nat.le_trans (bulk_part (List.mem_map.2 ⟨_, List.getElem_mem _, rfl⟩)) hbx)
          obtain ⟨b, r2, t2⟩ := ihl (i + 1) (by omega)
          refine ⟨a ++ b, ?_, ⟨a, b, rfl, t1, t2⟩⟩
          have := r1.append r2
          rw [show (i + 1) * P.cellsOf e = i * P.cellsOf e + P.cellsOf e by rw [Nat.add_mul]; omega, ← List.drop_drop, List.take_append_drop] at this
          exact this
      obtain ⟨ds, h1, h2⟩ := key k 0 (by omega)
      exact ⟨ds, by simpa using h1, h2⟩
    · cases hp
end
end Go.Proofs.YtepkbbkfcnejmaaDoor
