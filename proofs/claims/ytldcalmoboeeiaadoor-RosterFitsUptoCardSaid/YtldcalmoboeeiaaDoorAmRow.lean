import Derived.Test.YtldcalmoboeeiaaDoorAmUnr
import Derived.Test.YtldcalmoboeeiaaDoorAmLib
set_option linter.unusedSimpArgs false
set_option linter.unusedVariables false
namespace Go.AM
open Go.RowKit
/-- A block that somebody else made becomes a row of ours. -/
def Cx.adopt (X : Cx) (g cap n : Nat) : Cx where
  b := fun i => if i = X.n then g else X.b i
  c := fun i => if i = X.n then (cap, n) else X.c i
  z := fun i => if i = X.n then false else X.z i
  rw := fun i => if i = X.n then true else X.rw i
  n := X.n + 1
  obj := fun b => X.obj b ∨ b = g
  ext := X.ext
  w := X.w
theorem adopt_agree (X : Cx) (g cap n i : Nat) (hi : i < X.n) : (X.adopt g cap n).b i = X.b i ∧ (X.adopt g cap n).c i = X.c i ∧ (X.adopt g cap n).z i = X.z i ∧ (X.adopt g cap n).rw i = X.rw i := by
  have : ¬ i = X.n := by omega
  simp [Cx.adopt, this]
/-- The objects of a world that has grown, and one more: a row of plain data that nothing else leads to. -/
theorem adopt_grel {X : Cx} {w' : World} {o : List Ob} (g0 : GRel X o) (hb : Below X.w.heap.size X.w w') {g cap : Nat} (hg : X.w.heap.size ≤ g) {cur : Array Value} {T : TypeId} (hc : w'.heap[g]? = some (.cells cur T (0, 0)))
    {l : List ByteArray} (hl : l.length ≤ LIM) (hs : ∀ s ∈ l, s.size ≤ LIM) (hcap : l.length ≤ cap) (hcur : cap ≤ cur.size) (hv : ∀ (k : Nat) (h : k < l.length), cur.getD k undef = .string l[k]) :
    GRel (({ X with w := w' } : Cx).adopt g cap l.length) (o ++ [.row 1 (l.map fun b => [.v (.string b)])]) ∧
    (∀ {av : AV} {v : Value}, VRel X av v → VRel (({ X with w := w' } : Cx).adopt g cap l.length) av v) := by
  have hne : ∀ b, X.own b → b ≠ g := fun b h e => by
    have := h.elim g0.lt' (g0.ext1 b)
    omega
  have hglt : g < w'.heap.size := (Array.getElem?_eq_some_iff.1 hc).1
  have hkeep : Keeps X.own X.w (({ X with w := w' } : Cx).adopt g cap l.length).own w' := ⟨hb.size, fun b hlt hn => ⟨hb.block b hlt, fun hh => by
    rcases hh with (hh | hh) | hh
    · exact hn (.inl hh)
    · have : b = g := hh
      omega
    · exact hn (.inr hh)⟩⟩
  have agr : ∀ i, i < X.n → (({ X with w := w' } : Cx).adopt g cap l.length).b i = X.b i ∧ (({ X with w := w' } : Cx).adopt g cap l.length).c i = X.c i ∧ (({ X with w := w' } : Cx).adopt g cap l.length).z i = X.z i ∧ (({ X with w := w' } : Cx).adopt g cap l.length).rw i = X.rw i := fun i hi => adopt_agree { X with w := w' } g cap l.length i hi
  have hn : X.n ≤ (({ X with w := w' } : Cx).adopt g cap l.length).n := Nat.le_succ _
  refine ⟨?_, fun h => VRel.step hkeep hn agr h⟩
  have old : ∀ (i : Nat) (x : Ob), o[i]? = some x → ¬ i = X.n := fun i x h => by rw [g0.n]; have := lt_of_get h; omega
  constructor
  · show X.n + 1 = _
    simp [g0.n]
  · intro b
    constructor
    · rintro (hb' | hb')
      · obtain ⟨i, x, h1, h2, h3, h4⟩ := (g0.obj b).1 hb'
        have hi := lt_of_get h1
        exact ⟨i, x, by rw [List.getElem?_append_left hi]; exact h1, h2, by simp [Cx.adopt, old i x h1, h3], by simp [Cx.adopt, old i x h1, h4]⟩
      · exact ⟨X.n, .row 1 (l.map fun b => [.v (.string b)]), by rw [g0.n]; simp, rfl, by simp [Cx.adopt], by simp [Cx.adopt]; exact hb'.symm⟩
    · rintro ⟨i, x, h1, h2, h3, h4⟩
      rcases get_append_one h1 with ⟨hi, h1⟩ | ⟨hi, rfl⟩
      · have hne := old i x h1
        simp only [Cx.adopt, hne, if_false] at h3 h4
        exact .inl ((g0.obj b).2 ⟨i, x, h1, h2, h3, h4⟩)
      · have hi : i = X.n := by rw [g0.n]; exact hi
        simp only [Cx.adopt, hi, if_true] at h4
        exact .inr h4.symm
  · intro i j x y h1 h2 l1 l2 z1 z2 e
    rcases get_append_one h1 with ⟨hi, g1⟩ | ⟨hi, r1⟩ <;> rcases get_append_one h2 with ⟨hj, g2⟩ | ⟨hj, r2⟩
    · simp only [Cx.adopt, old i x g1, old j y g2, if_false] at z1 z2 e
      exact g0.inj i j x y g1 g2 l1 l2 z1 z2 e
    · have n2 : j = X.n := by rw [g0.n]; omega
      simp only [Cx.adopt, old i x g1, n2, if_false, if_true] at z1 e
      have := g0.lt i x g1 l1 z1
      omega
    · have n1 : i = X.n := by rw [g0.n]; omega
      simp only [Cx.adopt, n1, old j y g2, if_false, if_true] at z2 e
      have := g0.lt j y g2 l2 z2
      omega
    · omega
  · intro i x h1 l1 z1
    rcases get_append_one h1 with ⟨hi, h1⟩ | ⟨hi, rfl⟩
    · simp only [Cx.adopt, old i x h1, if_false] at z1 ⊢
      exact Nat.lt_of_lt_of_le (g0.lt i x h1 l1 z1) hb.size
    · have n1 : i = X.n := by rw [g0.n]; omega
      simp only [Cx.adopt, n1, if_true]
      exact hglt
  · exact fun b h => Nat.lt_of_lt_of_le (g0.ext1 b h) hb.size
  · intro i x h1 l1 z1
    rcases get_append_one h1 with ⟨hi, h1⟩ | ⟨hi, rfl⟩
    · simp only [Cx.adopt, old i x h1, if_false] at z1 ⊢
      exact g0.ext2 i x h1 l1 z1
    · have n1 : i = X.n := by rw [g0.n]; omega
      simp only [Cx.adopt, n1, if_true]
      exact fun h => hne g (.inr h) rfl
  · intro i sz es h1
    rcases get_append_one h1 with ⟨hi, h1⟩ | ⟨hi, e⟩
    · simp only [Cx.adopt, old i _ h1, if_false]
      exact g0.rws i sz es h1
    · have n1 : i = X.n := by rw [g0.n]; omega
      simp [Cx.adopt, n1]
  · intro i x h1
    rcases get_append_one h1 with ⟨hi, h1⟩ | ⟨hi, rfl⟩
    · have hi' : i < X.n := by rw [g0.n]; exact hi
      exact ORel.step hkeep hn agr hi' (fun hl hz => hb.block _ (g0.lt i x h1 hl hz)) (g0.rel i x h1)
    · have n1 : i = X.n := by rw [g0.n]; exact hi
      subst n1
      refine ⟨by omega, by simpa using hl, .inr ⟨by simp [Cx.adopt], cur, T, by simp [Cx.adopt]; exact hc, by simp [Cx.adopt], by simp [Cx.adopt]; omega, by simp [Cx.adopt]; exact hcap, fun k hk => by simp, fun k hk j hj => ?_⟩⟩
      have hk' : k < l.length := by simpa using hk
      have hj0 : j = 0 := by simp at hj; exact hj
      subst hj0
      simp only [List.getElem_map, List.getElem_cons_zero, Nat.mul_one, Nat.add_zero]
      rw [hv k hk']
      exact .v (by simpa [plainV] using hs _ (List.getElem_mem hk'))
/-- A function that makes a row of texts out of a row of texts. -/
def cloneE : List AV → List Ob → (AV → List Ob → Prop) → Prop := fun al o q => ∃ (l : List ByteArray), (al = [mkSS l] ∨ ∃ r, al = [.vw r l.length] ∧ o[r]? = some (.row 1 (l.map fun b => [.v (.string b)]))) ∧ l ≠ [] ∧ l.length ≤ 65536 ∧ q (.vw o.length l.length) (o ++ [.row 1 (l.map fun b => [.v (.string b)])])
/-- What a slice of texts is, whatever tells it. -/
theorem strs_any {X : Cx} {o : List Ob} (g0 : GRel X o) {l : List ByteArray} {a : AV} {v : Value} (h : a = mkSS l ∨ ∃ r, a = .vw r l.length ∧ o[r]? = some (.row 1 (l.map fun b => [.v (.string b)]))) (hne : l ≠ []) (hv : VRel X a v) :
    l.length ≤ LIM ∧ (∀ s ∈ l, s.size ≤ LIM) ∧ ∃ b off cap, v = .slice (some ⟨b, off, none⟩) l.length cap ∧ ∀ (j : Nat) (h : j < l.length), X.w.cell? ⟨b, off + j, none⟩ = some (.string (l[j])) := by
  rcases h with rfl | ⟨r, rfl, hr⟩
  · refine ⟨inv_strs_len hv, ?_, ?_⟩
    · unfold mkSS at hv
      cases hv with
      | d hv =>
        generalize hd : D.sl (strsD l) = d at hv
        cases hv with
        | v => cases hd
        | fn => cases hd
        | nil => simp only [D.sl.injEq, strsD] at hd; exact absurd (List.map_eq_nil_iff.1 hd) hne
        | sl sz hz g hl hcap hb hsz hc hr =>
          simp only [D.sl.injEq] at hd
          subst hd
          intro s hs
          obtain ⟨i, hi, rfl⟩ := List.getElem_of_mem hs
          have hi' : i < (strsD l).length := by simpa [strsD] using hi
          have hr0 := hr i hi' 0 (by simp [strsD])
          have e : (strsD l)[i][0]'(by simp [strsD]) = .v (.string l[i]) := by simp [strsD]
          rw [e] at hr0
          generalize g i 0 = u at hr0
          cases hr0 with
          | v h => simpa [plainV] using h
    · rcases inv_strs hv with ⟨rfl, _⟩ | ⟨_, b, off, cap, e, hc⟩
      · exact absurd rfl hne
      · refine ⟨b, off, cap, e, fun j hj => ?_⟩
        have := hc j hj
        rwa [List.getD_eq_getElem?_getD, List.getElem?_eq_getElem hj] at this
  · obtain ⟨hlt, hh⟩ := inv_vw hv
    obtain ⟨_, hlim, ⟨_, hnil⟩ | ⟨hz, arr, T, h1, h2, h3, h4, h5, h6⟩⟩ := g0.rel r _ hr
    · exact absurd (List.map_eq_nil_iff.1 hnil) hne
    · rcases hh with ⟨_, _, e⟩ | ⟨hz', _⟩
      · have key : ∀ (k : Nat) (h : k < l.length), l[k].size ≤ LIM ∧ arr.getD k undef = .string l[k] := by
          intro k hk
          have := h6 k (by simpa using hk) 0 (by simp)
          simp only [List.getElem_map, List.getElem_cons_zero, Nat.mul_one, Nat.add_zero] at this
          generalize arr.getD k undef = u at this
          cases this with
          | v h => exact ⟨by simpa [plainV] using h, rfl⟩
        refine ⟨by simpa using hlim, fun s hs => ?_, X.b r, 0, (X.c r).1, e, fun j hj => ?_⟩
        · obtain ⟨i, hi, rfl⟩ := List.getElem_of_mem hs
          exact (key i hi).1
        · have hja : j < arr.size := by simp at h4; omega
          rw [Nat.zero_add, cell_of_heap h1 hja, (key j hj).2]
      · rw [hz] at hz'; cases hz'
theorem clone_sound {P : Program} {f : FuncId} (hcall : ∀ args w, (callFunc f args).run P w = .ok (.enter f args) w)
    (h : ∀ (b off c : Nat) (l : List ByteArray) (w : World), l.length ≤ 65536 → (∀ (j : Nat) (h : j < l.length), w.cell? ⟨b, off + j, none⟩ = some (.string l[j])) → Calls P f #[.slice (some ⟨b, off, none⟩) l.length c] w fun e w' => ∃ v' T, e = .returned v' ∧ w'.ownsRow w.heap.size T 1 v' l.length (l.map Value.string) ∧ v' ≠ .slice none 0 0 ∧ Below w.heap.size w w') : RSound P f cloneE := by
  refine ⟨hcall, fun X o gv al vs q g0 hgh hT hlen hrel ⟨l, hal, hne, hlen2, hq⟩ => ?_⟩
  have hal' : ∃ a, al = [a] ∧ (a = mkSS l ∨ ∃ r, a = .vw r l.length ∧ o[r]? = some (.row 1 (l.map fun b => [.v (.string b)]))) := by
    rcases hal with rfl | ⟨r, rfl, h⟩
    · exact ⟨_, rfl, .inl rfl⟩
    · exact ⟨_, rfl, .inr ⟨r, rfl, h⟩⟩
  obtain ⟨a, rfl, ha⟩ := hal'
  obtain ⟨s1, s2, b, off, cap, ev, hc⟩ := strs_any g0 ha hne (hrel 0 (by simp))
  have := arr1 (by simpa using hlen) ev
  subst this
  refine (h b off cap l X.w hlen2 hc).mono ?_
  rintro e w' ⟨v', T, rfl, ⟨hx, hv⟩, hnn, hb⟩
  rcases hv with ⟨rfl, _⟩ | ⟨g, cap', cur, rfl, hg, hcg, hn, hm, hsz, htk⟩
  · exact absurd rfl hnn
  · rw [Nat.mul_one] at hsz htk
    have hv : ∀ (k : Nat) (h : k < l.length), cur.getD k undef = .string l[k] := by
      intro k hk
      have e1 : (cur.toList.take l.length)[k]? = (l.map Value.string)[k]? := by rw [htk]
      rw [List.getElem?_take_of_lt hk, List.getElem?_map, List.getElem?_eq_getElem hk] at e1
      simpa [Array.getD_eq_getD_getElem?] using congrArg (fun x => x.getD undef) e1
    obtain ⟨k1, k2⟩ := adopt_grel g0 hb hg hcg s1 s2 hn (by omega) hv
    refine ⟨_, _, _, _, rfl, hq, rfl, k1, fun k cs hk => ?_, ?_, rfl, ⟨hb.os, hb.tape, hb.output, hb.size, fun b hlt _ => hb.block b hlt⟩, fun b hb' => ?_⟩
    · rcases get_append_one hk with ⟨_, h1⟩ | ⟨_, h1⟩
      · obtain ⟨q1, q2⟩ := hgh k cs h1
        exact ⟨q1, fun j hj => k2 (q2 j hj)⟩
      · cases h1
    · have := VRel.vw (X := ({ X with w := w' } : Cx).adopt g cap' l.length) (r := X.n) (n := l.length) (by simp [Cx.adopt]) (by simp [Cx.adopt]) (by simp [Cx.adopt]; omega)
      rw [← g0.n]
      simpa [Cx.adopt] using this
    · rcases hb' with hb' | hb'
      · exact .inl hb'
      · exact .inr (by have : b = g := hb'; omega)
/-- The same, read off the argument. -/
def cloneF : List AV → List Ob → (AV → List Ob → Prop) → Prop := fun al o q => match al with
  | [.d (.sl es)] => (es = strsD (unSS es) ∧ es ≠ [] ∧ es.length ≤ 65536) ∧ q (.vw o.length es.length) (o ++ [.row 1 es])
  | [.vw r n] => match o[r]? with
    | some (.row sz es) => (sz = 1 ∧ n = es.length ∧ es = strsD (unSS es) ∧ es ≠ [] ∧ es.length ≤ 65536) ∧ q (.vw o.length es.length) (o ++ [.row 1 es])
    | _ => False
  | _ => False
theorem cloneF_sound {P : Program} {f : FuncId} (h : RSound P f cloneE) : RSound P f cloneF := RSound.mono h fun al o q hE => by
  have key : ∀ es : List (List D), es = strsD (unSS es) → es ≠ [] → es.length ≤ 65536 → q (.vw o.length es.length) (o ++ [.row 1 es]) →
      unSS es ≠ [] ∧ (unSS es).length ≤ 65536 ∧ (unSS es).length = es.length ∧ (unSS es).map (fun b => [D.v (.string b)]) = es := fun es h1 h2 h3 h4 =>
    ⟨fun h => h2 (by rw [h1, h]; rfl), by unfold unSS; simpa using h3, by unfold unSS; simp, h1.symm⟩
  unfold cloneF at hE
  split at hE
  · rename_i es
    obtain ⟨⟨h1, h2, h3⟩, hq⟩ := hE
    obtain ⟨k1, k2, k3, k4⟩ := key es h1 h2 h3 hq
    exact ⟨unSS es, .inl (by unfold mkSS; rw [← h1]), k1, k2, by rw [k3, k4]; exact hq⟩
  · rename_i r n
    split at hE
    · rename_i sz es hr
      obtain ⟨⟨rfl, rfl, h1, h2, h3⟩, hq⟩ := hE
      obtain ⟨k1, k2, k3, k4⟩ := key es h1 h2 h3 hq
      exact ⟨unSS es, .inr ⟨r, by rw [k3], by rw [k4]; exact hr⟩, k1, k2, by rw [k3, k4]; exact hq⟩
    · exact hE.elim
  · exact hE.elim
end Go.AM
