import Derived.Test.YtchpfeblinnoiaaGreatDoorAmAppend
set_option linter.unusedSimpArgs false
set_option linter.unusedVariables false
set_option linter.unnecessarySimpa false
namespace Go.AM
open Go.RowKit
section
variable {P : Program} {X : Cx} {a : Act} {o : Oper} {K : TypeId → Option TK} {s : S} {q : Q1} {w0 : World} {own0 : O0} {next : Act → World → Prop} {Q : Exit → Act → World → Prop} {Γ : List (FuncId × En)}
def Cx.inW (X : Cx) (w : World) : Cx := { X with w := w }
theorem SRel.inW {s : S} (hs : SRel w0 own0 X s a) (w : World) (hh : w.heap = X.w.heap) (hst : Streams X.w w) : SRel w0 own0 (X.inW w) s a := by
  have hk : Keeps X.obj X.w (X.inW w).obj (X.inW w).w := ⟨by simp [Cx.inW, hh], fun b _ h => ⟨by simp [Cx.inW, hh], h⟩⟩
  refine hs.change none (by simp) hk rfl hst (Nat.le_refl _) (fun _ _ _ => ⟨rfl, rfl, rfl, rfl⟩) ?_ (fun b hb => .inl hb) (ghok_refl _)
  have g := hs.g
  exact ⟨g.n, g.obj, g.injB, fun i ob h1 h2 h3 b h4 => by have := g.ltB i ob h1 h2 h3 b h4; simpa [Cx.inW, hh] using this, fun b hb => by have := g.ext1 b hb; simpa [Cx.inW, hh] using this, g.ext2B, g.rws,
    fun i x hx => ORel.step (X := X) (X' := X.inW w) (Cx.keeps hk rfl) (Nat.le_refl _) (fun _ _ => ⟨rfl, rfl, rfl, rfl⟩) (by rw [g.n]; exact lt_of_get hx) (fun _ _ c _ => by simp [Cx.inW, hh]) (g.rel i x hx)⟩
def Cx.pushz (X : Cx) : Cx := { X with c := fun i => if i = X.n then cc 0 0 else X.c i, z := fun i => if i = X.n then true else X.z i, rw := fun i => if i = X.n then true else X.rw i, n := X.n + 1 }
theorem pushz_agree (X : Cx) (i : Nat) (hi : i < X.n) : X.pushz.b i = X.b i ∧ X.pushz.c i = X.c i ∧ X.pushz.z i = X.z i ∧ X.pushz.rw i = X.rw i := by
  have : ¬ i = X.n := by omega
  simp [Cx.pushz, this]
theorem pushz_blk {X : Cx} {i : Nat} (h : ¬ i = X.n) (b : Nat) : X.pushz.blk i b ↔ X.blk i b := Cx.blk_eq (X := X) (X' := X.pushz) (i := i) (j := i) rfl (by simp [Cx.pushz, h])
theorem pushz_srelG (hs : SRel w0 own0 X s a) {nb : Ob} (hlv : nb.live = true) (hnew : ORel X.pushz X.n nb) : SRel w0 own0 X.pushz ⟨killT none s.t, s.o ++ [nb]⟩ a := by
  have hk : Keeps X.obj X.w X.pushz.obj X.pushz.w := ⟨Nat.le_refl _, fun b _ h => ⟨rfl, h⟩⟩
  have ne : ∀ i, i < s.o.length → ¬ i = X.n := fun i hi => by rw [hs.g.n]; omega
  refine hs.change none (by simp) hk rfl ⟨rfl, rfl, rfl⟩ (by simp [Cx.pushz]) (fun i hi _ => pushz_agree X i hi) ?_ (fun b hb => .inl hb) (ghok_push hlv)
  constructor
  · simp [Cx.pushz, hs.g.n]
  · intro b
    show X.obj b ↔ _
    rw [hs.g.obj]
    constructor
    · rintro ⟨i, x, h1, h2, h3, h4⟩
      have hi := lt_of_get h1
      exact ⟨i, x, by rw [List.getElem?_append_left hi]; exact h1, h2, by simp [Cx.pushz, ne i hi, h3], (pushz_blk (ne i hi) b).2 h4⟩
    · rintro ⟨i, x, h1, h2, h3, h4⟩
      rcases get_append_one h1 with ⟨hi, g1⟩ | ⟨hi, _⟩
      · simp only [Cx.pushz, ne i hi, if_false] at h3
        exact ⟨i, x, g1, h2, h3, (pushz_blk (ne i hi) b).1 h4⟩
      · exfalso
        have : i = X.n := by rw [hs.g.n]; exact hi
        simp [Cx.pushz, this] at h3
  · intro i j x y h1 h2 l1 l2 z1 z2 b b1 b2
    rcases get_append_one h1 with ⟨hi, g1⟩ | ⟨hi, _⟩
    · rcases get_append_one h2 with ⟨hj, g2⟩ | ⟨hj, _⟩
      · simp only [Cx.pushz, ne i hi, ne j hj, if_false] at z1 z2
        exact hs.g.injB i j x y g1 g2 l1 l2 z1 z2 b ((pushz_blk (ne i hi) b).1 b1) ((pushz_blk (ne j hj) b).1 b2)
      · exfalso
        have : j = X.n := by rw [hs.g.n]; exact hj
        simp [Cx.pushz, this] at z2
    · exfalso
      have : i = X.n := by rw [hs.g.n]; exact hi
      simp [Cx.pushz, this] at z1
  · intro i x h1 l1 z1 b b1
    rcases get_append_one h1 with ⟨hi, g1⟩ | ⟨hi, _⟩
    · simp only [Cx.pushz, ne i hi, if_false] at z1
      exact hs.g.ltB i x g1 l1 z1 b ((pushz_blk (ne i hi) b).1 b1)
    · exfalso
      have : i = X.n := by rw [hs.g.n]; exact hi
      simp [Cx.pushz, this] at z1
  · exact hs.g.ext1
  · intro i x h1 l1 z1 b b1
    rcases get_append_one h1 with ⟨hi, g1⟩ | ⟨hi, _⟩
    · simp only [Cx.pushz, ne i hi, if_false] at z1
      exact hs.g.ext2B i x g1 l1 z1 b ((pushz_blk (ne i hi) b).1 b1)
    · exfalso
      have : i = X.n := by rw [hs.g.n]; exact hi
      simp [Cx.pushz, this] at z1
  · intro i sz' es h1
    rcases get_append_one h1 with ⟨hi, g1⟩ | ⟨hi, _⟩
    · simp only [Cx.pushz, ne i hi, if_false]
      exact hs.g.rws i sz' es g1
    · have : i = X.n := by rw [hs.g.n]; exact hi
      simp [Cx.pushz, this]
  · intro i x h1
    rcases get_append_one h1 with ⟨hi, g1⟩ | ⟨hi, e⟩
    · exact ORel.step (Cx.keeps hk rfl) (by simp [Cx.pushz]) (pushz_agree X) (by rw [hs.g.n]; exact hi) (fun _ _ _ _ => rfl) (hs.g.rel i x g1)
    · have : i = X.n := by rw [hs.g.n]; exact hi
      subst e
      rw [this]; exact hnew
theorem pushz_srel (hs : SRel w0 own0 X s a) {sz : Nat} (hsz : 0 < sz) : SRel w0 own0 X.pushz ⟨killT none s.t, s.o ++ [.row sz []]⟩ a :=
  pushz_srelG hs rfl ⟨hsz, by simp, .inl ⟨by simp [Cx.pushz], rfl⟩⟩
theorem getD_append_left {l r : Array Value} {i : Nat} (h : i < l.size) : (l ++ r).getD i undef = l.getD i undef := by
  simp [Array.getD_eq_getD_getElem?, Array.getElem?_append, h]
theorem getD_append_right {l r : Array Value} {i : Nat} (h : l.size ≤ i) : (l ++ r).getD i undef = r.getD (i - l.size) undef := by
  have : ¬ i < l.size := by omega
  simp [Array.getD_eq_getD_getElem?, Array.getElem?_append, this]
theorem rows_append {own : Nat → Prop} {sz : Nat} {es es2 : List (List D)} {arr : Array Value} {old : Array Value} {vals : Array Value} (h1 : RowsRel X own sz es old) (h2 : RowsRel X own sz es2 vals)
    (e1 : ∀ m, m < es.length * sz → arr.getD m undef = old.getD m undef) (e2 : ∀ m, m < es2.length * sz → arr.getD (es.length * sz + m) undef = vals.getD m undef) : RowsRel X own sz (es ++ es2) arr := by
  refine ⟨fun k hk => ?_, fun k hk j hj => ?_⟩
  · rw [List.getElem_append]
    split
    · exact h1.1 k _
    · exact h2.1 _ _
  · rw [List.getElem_append] at hj
    simp only [List.getElem_append]
    by_cases hlt : k < es.length
    · rw [dif_pos hlt] at hj
      simp only [hlt, dif_pos]
      have hj' : j < sz := by rw [← h1.1 k hlt]; exact hj
      rw [e1 _ (idx_lt hlt hj')]
      exact h1.2 k hlt j hj
    · rw [dif_neg hlt] at hj
      simp only [hlt, dif_neg, not_false_eq_true]
      simp only [List.length_append] at hk
      have hk2 : k - es.length < es2.length := by omega
      have hj' : j < sz := by rw [← h2.1 _ hk2]; exact hj
      have : k * sz + j = es.length * sz + ((k - es.length) * sz + j) := by
        have : k = es.length + (k - es.length) := by omega
        rw [← Nat.add_assoc, ← Nat.add_mul, ← this]
      rw [this, e2 _ (idx_lt hk2 hj')]
      exact h2.2 _ hk2 j hj
theorem rows_empty (own : Nat → Prop) (sz : Nat) (arr : Array Value) : RowsRel X own sz [] arr := ⟨fun k hk => absurd hk (by simp), fun k hk => absurd hk (by simp)⟩
theorem one_cellV {x : AV} {v : Value} (h : x.one = true) (hv : VRel X x v) : cellV v = true := by
  cases hv with
  | d h' => exact drel_cellV h'
  | ag => cases h
  | tp => cases h
  | vw => cases h
  | vz => cases h
  | rp => cases h
  | ep => cases h
  | opt => cases h
  | jk => cases h
  | _ => rfl
theorem pow_seq {ob : List Ob} (g : GRel X ob) {y : AV} {v : Value} {es2 : List AV} (hv : VRel X y v) (h : powOf ob y = some es2) :
    (∀ w', (Builtin.lenOf v).run P w' = .ok es2.length w') ∧ es2.length ≤ LIM ∧ (∀ x ∈ es2, x.firm = true ∧ x.one = true) ∧ ∃ vals : Array Value, (∀ w', (∀ ad, w'.cell? ad = X.w.cell? ad) → (Builtin.firstCells 1 es2.length v).run P w' = .ok vals w') ∧ vals.size = es2.length ∧ ∀ (j : Nat) (h : j < es2.length), VRel X es2[j] (vals.getD j undef) := by
  cases y with
  | vw r n =>
    simp only [powOf] at h
    split at h
    · rename_i es hr
      simp only [Option.some.injEq] at h
      obtain ⟨p0, p1, p2, hp3⟩ := g.rel r _ hr
      obtain ⟨hlt, ⟨hz, ⟨hn, hn2⟩, e⟩ | ⟨hz, rfl, e⟩⟩ := inv_vw hv
      · rcases hp3 with ⟨hz', _⟩ | ⟨_, arr, T, h1, hlen, h2, h3, h4⟩
        · rw [hz] at hz'; cases hz'
        have hl : es2.length = n := by rw [← h]; simp; omega
        subst e
        refine ⟨fun w' => by simp [Builtin.lenOf, hl], by omega, fun x hx => p2 x (List.mem_of_mem_take (h ▸ hx)), ((List.range es2.length).map fun m => arr.getD m undef).toArray, fun w' hw' => ?_, by simp, fun j hj => ?_⟩
        · rw [← hl]
          simp only [Builtin.firstCells, Nat.mul_one]
          refine run_loadCells fun m hm => ?_
          rw [hw', Nat.zero_add]
          exact cell_of_heap h1 (by omega)
        · have e1 : ((List.range es2.length).map fun m => arr.getD m undef).toArray.getD j undef = arr.getD j undef := by simp [Array.getD_eq_getD_getElem?, hj]
          rw [e1]
          subst h
          rw [List.getElem_take]
          exact h4 j (by simp at hj; omega)
      · have h0 : es2 = [] := by rw [← h]; simp
        subst h0
        subst e
        exact ⟨fun w' => by simp [Builtin.lenOf], by simp, by simp, #[], fun w' _ => by simp [Builtin.firstCells], by simp, fun j hj => absurd hj (by simp)⟩
    · cases h
  | _ => simp [powOf] at h
theorem o_appendP {x y : Operand} {t t2 e e2 : TypeId} {k : TK} {es2 : List AV} (hK : KOk P K) (hs : SRel w0 own0 X s a) (hT : Then w0 own0 s a q fun v w => next (a.put o.dst v) w)
    (run : ∀ v w', (Builtin.append_ #[t, t2] o.type #[a.eval x, a.eval y]).run P X.w = .ok v w' → (execOp a.eval o).run P X.w = .ok (.value v) w') (hu : P.underlying t = some (.slice e)) (hu2 : P.underlying t2 = some (.slice e2)) (hk : K e = some k)
    (hk1 : k.sz = 1) (hby : k.bytes ≤ 32768) (hz : k.zero.length = k.sz) (hyp : powOf s.o (s.ev y) = some es2)
    (h : match s.ev x with
      | .nl => es2.length ≤ LIM ∧ q (.vw s.o.length es2.length) (s.o ++ [.pow es2]) none
      | .vw r n => match s.o[r]? with
        | some (.pow es) => n = es.length ∧ es.length + es2.length ≤ LIM ∧ q (.vw r (es.length + es2.length)) ((s.o.map (Ob.killO r)).set r (.pow (es ++ es2))) (some r)
        | _ => False
      | _ => False) : o.wp P a X.w next Q := by
  have hx := ev_sound hs x
  have hy := ev_sound hs y
  obtain ⟨hlen, hlim2, hfi, vals, hvals, hvsz, hrel⟩ := pow_seq (P := P) hs.g hy hyp
  have hcv : ∀ v ∈ vals.toList, cellV v = true := fun v hv => by
    obtain ⟨m, hm, rfl⟩ := List.getElem_of_mem hv
    have hm' : m < es2.length := by simpa [hvsz] using hm
    have hm2 : m < vals.size := by omega
    have e : vals.getD m undef = vals.toList[m] := by simp [Array.getD_eq_getD_getElem?, hm2]
    rw [← e]
    exact one_cellV (hfi _ (List.getElem_mem hm')).2 (hrel m hm')
  split at h
  · rename_i hxa
    rw [hxa] at hx
    obtain ⟨hlim, hq⟩ := h
    have ex := inv_nl hx
    by_cases h0 : es2 = []
    · subst h0
      refine then_value' (X' := X.pushz) (pushz_srelG hs (nb := .pow []) rfl ⟨by simp [Cx.pushz], by simp, by simp, .inl ⟨by simp [Cx.pushz], rfl⟩⟩) hT (v := .slice none 0 0) (run _ _ ?_) ?_ hq
      · rw [ex]
        have := run_append_room (P := P) (t := t) (t2 := t2) (type := o.type) (base := none) (n := 0) (cap := 0) (m := 0) (w1 := X.w) hu hu2 (run_sizeOf hK hk) hlen (by rw [hk1]; exact hvals X.w fun _ => rfl) (by omega) (by simp) (by simp)
        have h' : (Builtin.append_ #[t, t2] o.type #[Value.slice none 0 0, a.eval y]).run P X.w = .ok (.slice none 0 0) X.w := by simpa using this
        exact h'
      · rw [← hs.g.n]
        exact .vz (by simp [Cx.pushz]) (by simp [Cx.pushz])
    · have hpos2 : 0 < es2.length := List.length_pos_iff.2 h0
      obtain ⟨newCap, rest, hcap, hrest, hrun⟩ := run_append_grow (P := P) (t := t) (t2 := t2) (type := o.type) (base := none) (n := 0) (cap := 0) (m := es2.length) (sz := 1) (yv := a.eval y) (vals := vals) (old := #[]) (w := X.w) hK hk hk1 hz hby hu hu2 hlen hvals (fun w' _ => by simp [Builtin.firstCells]) (by omega) (by omega)
      have hkp := push_keeps hs.g (.cells (#[] ++ vals ++ rest) e) (cc newCap es2.length) true
      have hnew : ORel (X.push (.cells (#[] ++ vals ++ rest) e) (cc newCap es2.length) true) X.n (.pow es2) := by
        refine ⟨by simp [Cx.push], hlim, hfi, .inr ⟨by simp [Cx.push], _, e, by simp only [Cx.push, if_true]; exact heap_alloc_new _ _, by simp [Cx.push], ?_, by simp [Cx.push]; omega, fun j hj => ?_⟩⟩
        · simp only [Cx.push, if_true, Array.size_append, hvsz, hrest, cc_1]
          simp; omega
        · have e1 : (#[] ++ vals ++ rest).getD j undef = vals.getD j undef := by
            rw [getD_append_left (by simp; omega), getD_append_right (by simp)]
            simp
          rw [e1]
          exact (hrel j hj).step hkp (by simp [Cx.push]) (push_agree X _ (cc newCap es2.length) true)
      have hdrew := (push_srel hs (rw := true) rfl (fun _ _ h => by cases h) hnew).inW (X.w.drew.alloc (.cells (#[] ++ vals ++ rest) e)) rfl ⟨rfl, rfl, rfl⟩
      refine then_value' hdrew hT (v := .slice (some ⟨X.w.heap.size, 0, none⟩) es2.length newCap) (run _ _ ?_) ?_ hq
      · rw [ex]
        have h' := hrun
        simp only [Nat.zero_add] at h'
        exact h'
      · rw [← hs.g.n]
        have := VRel.vw (X := (X.push (.cells (#[] ++ vals ++ rest) e) (cc newCap es2.length) true).inW (X.w.drew.alloc (.cells (#[] ++ vals ++ rest) e))) (r := X.n) (n := es2.length) (by simp [Cx.push, Cx.inW]) (by simp [Cx.push, Cx.inW]) (by simp [Cx.push, Cx.inW]; omega)
        simpa [Cx.push, Cx.inW] using this
  · rename_i r n hxa
    rw [hxa] at hx
    split at h
    · rename_i es hr
      obtain ⟨rfl, hlim, hq⟩ := h
      obtain ⟨p0, p1, p2, hob⟩ := hs.g.rel r _ hr
      have hfi2 : ∀ x ∈ es ++ es2, x.firm = true ∧ x.one = true := fun x hx => (List.mem_append.1 hx).elim (p2 x) (hfi x)
      obtain ⟨_, hview⟩ := inv_vw hx
      have grow : ∀ (base : Option Addr) (cap : Nat) (old : Array Value), a.eval x = .slice base es.length cap → ¬ es.length + es2.length ≤ cap → (∀ (j : Nat) (h : j < es.length), VRel X es[j] (old.getD j undef)) → old.size = es.length →
          (∀ w', (∀ ad, w'.cell? ad = X.w.cell? ad) → (Builtin.firstCells 1 es.length (.slice base es.length cap)).run P w' = .ok old w') → o.wp P a X.w next Q := by
        intro base cap old ex hcap' hold holdsz holdrun
        obtain ⟨newCap, rest, hcap, hrest, hrun⟩ := run_append_grow (P := P) (t := t) (t2 := t2) (type := o.type) (base := base) (n := es.length) (cap := cap) (m := es2.length) (sz := 1) (yv := a.eval y) (vals := vals) (old := old) (w := X.w) hK hk hk1 hz hby hu hu2 hlen hvals holdrun hcap' hlim
        have hheap : ∀ b, b < X.w.heap.size → (X.w.drew.alloc (.cells (old ++ vals ++ rest) e)).heap[b]? = X.w.heap[b]? := fun b hb => heap_alloc X.w.drew _ b hb
        have hkp : Keeps X.own X.w (X.move r (X.w.drew.alloc (.cells (old ++ vals ++ rest) e)) (cc newCap (es.length + es2.length))).own (X.move r (X.w.drew.alloc (.cells (old ++ vals ++ rest) e)) (cc newCap (es.length + es2.length))).w :=
          ⟨by simp [Cx.move], fun b hb ho => ⟨hheap b hb, fun hh => ho (hh.imp (fun h => h.elim And.left (by omega)) id)⟩⟩
        have tk : ∀ {x : AV} {v : Value}, x.firm = true → VRel X x v → VRel (X.move r (X.w.drew.alloc (.cells (old ++ vals ++ rest) e)) (cc newCap (es.length + es2.length))) x v := fun {x v} hf h => by
          have := h.kill (X' := X.move r (X.w.drew.alloc (.cells (old ++ vals ++ rest) e)) (cc newCap (es.length + es2.length))) r p0 hkp (Nat.le_refl _) (fun k hk hkr => by simp [Cx.move, hkr])
          rwa [kill_firm hf] at this
        have hnew : ORel (X.move r (X.w.drew.alloc (.cells (old ++ vals ++ rest) e)) (cc newCap (es.length + es2.length))) r (.pow (es ++ es2)) := by
          refine ⟨p0, by simpa using hlim, hfi2, .inr ⟨by simp [Cx.move], _, e, by simp only [Cx.move, if_true]; exact heap_alloc_new _ _, by simp [Cx.move], ?_, by simp [Cx.move]; omega, fun j hj => ?_⟩⟩
          · simp only [Cx.move, if_true, Array.size_append, hvsz, hrest, holdsz, cc_1]
            omega
          · refine tk (hfi2 _ (List.getElem_mem hj)).1 ?_
            rw [List.getElem_append]
            split
            · rename_i hlt
              rw [getD_append_left (by simp; omega), getD_append_left (by omega)]
              exact hold j hlt
            · rename_i hlt
              simp only [List.length_append] at hj
              rw [getD_append_left (by simp; omega), getD_append_right (by omega), holdsz]
              exact hrel _ (by omega)
        refine then_value' (move_srel hs hr rfl rfl p0 hnew) hT (v := .slice (some ⟨X.w.heap.size, 0, none⟩) (es.length + es2.length) newCap) (run _ _ ?_) ?_ hq
        · rw [ex]; exact hrun
        · have := VRel.vw (X := X.move r (X.w.drew.alloc (.cells (old ++ vals ++ rest) e)) (cc newCap (es.length + es2.length))) (r := r) (n := es.length + es2.length) (by simp only [Cx.move]; rw [hs.g.n]; exact lt_of_get hr) (by simp [Cx.move]) (by simp [Cx.move]; omega)
          simpa [Cx.move] using this
      rcases hview with ⟨hzf, ⟨hn1, hn2⟩, ex⟩ | ⟨hzt, hn0, ex⟩
      · rcases hob with ⟨hz', _⟩ | ⟨_, arr, T, h1, hl2, h2, h3, h4⟩
        · rw [hzf] at hz'; cases hz'
        · by_cases hcap : es.length + es2.length ≤ (X.c r).1
          · have hst := run_storeCells (P := P) (w := X.w) (b := X.b r) (off := es.length) (T := T) vals.toList 0 arr h1 (by simp; omega) hcv
            simp only [Nat.add_zero] at hst
            have hkp : Keeps X.own X.w X.own (World.setRow X.w (X.b r) (spl arr es.length vals.toList) T) :=
              ⟨by simp [World.setRow], fun b hb ho => ⟨by
                rw [heap_setRow, if_neg]
                rintro ⟨e, _⟩
                exact ho (.inl ((hs.g.obj b).2 ⟨r, _, hr, rfl, hzf, .inl e⟩)), ho⟩⟩
            have tk : ∀ {x : AV} {v : Value}, x.firm = true → VRel X x v → VRel (X.room r (World.setRow X.w (X.b r) (spl arr es.length vals.toList) T) ⟨(X.c r).1, es.length + es2.length, (X.c r).fp⟩) x v := fun {x v} hf h => by
              have := h.kill (X' := X.room r (World.setRow X.w (X.b r) (spl arr es.length vals.toList) T) ⟨(X.c r).1, es.length + es2.length, (X.c r).fp⟩) r p0 hkp (Nat.le_refl _) (fun k hk hkr => by simp [Cx.room, hkr])
              rwa [kill_firm hf] at this
            have hnew : ORel (X.room r (World.setRow X.w (X.b r) (spl arr es.length vals.toList) T) ⟨(X.c r).1, es.length + es2.length, (X.c r).fp⟩) r (.pow (es ++ es2)) := by
              refine ⟨p0, by simpa using hlim, hfi2, .inr ⟨by simp [Cx.room, hzf], spl arr es.length vals.toList, T, ?_, by simp [Cx.room], by simp only [Cx.room, if_true, spl_size]; exact h2, by simp [Cx.room]; omega, fun j hj => ?_⟩⟩
              · simp only [Cx.room]
                rw [heap_setRow, if_pos ⟨rfl, size_of_heap h1⟩]
              · refine tk (hfi2 _ (List.getElem_mem hj)).1 ?_
                rw [spl_get _ _ _ _ (by simp; omega), List.getElem_append]
                split
                · rename_i hlt
                  rw [if_neg (by omega)]
                  exact h4 j hlt
                · rename_i hlt
                  simp only [List.length_append] at hj
                  rw [if_pos ⟨by omega, by simp; omega⟩]
                  have hm2 : j - es.length < vals.size := by omega
                  have := hrel (j - es.length) (by omega)
                  simpa [List.getD_eq_getElem?_getD, Array.getD_eq_getD_getElem?, hm2] using this
            refine then_value' (room_srel (w := World.setRow X.w (X.b r) (spl arr es.length vals.toList) T) hs hr rfl hzf rfl p0 (by simp [World.setRow]) ⟨rfl, rfl, rfl⟩ (fun b hb => by rw [heap_setRow, if_neg (fun e => hb e.1.symm)]) hnew) hT (v := .slice (some ⟨X.b r, 0, none⟩) (es.length + es2.length) (X.c r).1) (run _ _ ?_) ?_ hq
            · rw [ex]
              exact run_append_room (P := P) (base := some ⟨X.b r, 0, none⟩) (sz := k.sz) hu hu2 (run_sizeOf hK hk) hlen (by rw [hk1]; exact hvals X.w fun _ => rfl) hcap (fun ad e => by cases e; rw [addr_add, Nat.zero_add, hk1, Nat.mul_one]; exact hst) (by simp)
            · have := VRel.vw (X := X.room r (World.setRow X.w (X.b r) (spl arr es.length vals.toList) T) ⟨(X.c r).1, es.length + es2.length, (X.c r).fp⟩) (r := r) (n := es.length + es2.length) (by simp only [Cx.room]; rw [hs.g.n]; exact lt_of_get hr) (by simp [Cx.room, hzf]) (by simp [Cx.room]; omega)
              simpa [Cx.room] using this
          · refine grow _ (X.c r).1 ((List.range es.length).map fun m => arr.getD m undef).toArray ex hcap (fun j hj => ?_) (by simp) (fun w' hw' => ?_)
            · have : ((List.range es.length).map fun m => arr.getD m undef).toArray.getD j undef = arr.getD j undef := by
                simp [Array.getD_eq_getD_getElem?, hj]
              rw [this]; exact h4 j hj
            · simp only [Builtin.firstCells, Nat.mul_one]
              refine run_loadCells fun m hm => ?_
              rw [hw', Nat.zero_add]
              exact cell_of_heap h1 (by omega)
      · rcases hob with ⟨_, he⟩ | ⟨hz', _⟩
        · subst he
          by_cases h0 : es2 = []
          · subst h0
            have hq' : q (.vw r 0) ((s.o.map (Ob.killO r)).set r (.pow [])) (some r) := by simpa using hq
            refine then_value' (X' := X) (znil_srel hs hr hzt p0 (ob' := .pow []) rfl ⟨p0, by simp, by simp, .inl ⟨hzt, rfl⟩⟩) hT (v := .slice none 0 0) (run _ _ ?_) (.vz (by rw [hs.g.n]; exact lt_of_get hr) hzt) hq'
            rw [ex]
            have := run_append_room (P := P) (t := t) (t2 := t2) (type := o.type) (base := none) (n := 0) (cap := 0) (m := 0) (w1 := X.w) hu hu2 (run_sizeOf hK hk) hlen (by rw [hk1]; exact hvals X.w fun _ => rfl) (by omega) (by simp) (by simp)
            simpa using this
          · have hpos2 : 0 < es2.length := List.length_pos_iff.2 h0
            exact grow none 0 #[] ex (by simp; omega) (fun j hj => absurd hj (by simp)) (by simp) (fun w' _ => by simp [Builtin.firstCells])
        · rw [hzt] at hz'; cases hz'
    · exact h.elim
  · exact h.elim
theorem o_append {c : Call} (hK : KOk P K) (hs : SRel w0 own0 X s a) (hT : Then w0 own0 s a q fun v w => next (a.put o.dst v) w) (ho : o.op = .call c) (hc : c.callee = .builtin .append) (h : aOp K Γ s (.call c) q) : o.wp P a X.w next Q := by
  simp only [aOp, hc] at h
  split at h
  · rename_i xa ya t t2 hargs htys
    obtain ⟨x, y, hargs'⟩ : ∃ x y, c.args.toList = [x, y] := by
      match hh : c.args.toList with
      | [] => rw [hh] at hargs; simp at hargs
      | [_] => rw [hh] at hargs; simp at hargs
      | [x, y] => exact ⟨x, y, rfl⟩
      | _ :: _ :: _ :: _ => rw [hh] at hargs; simp at hargs
    rw [hargs'] at hargs
    simp only [List.map_cons, List.map_nil, List.cons.injEq, and_true] at hargs
    obtain ⟨hxa, hya⟩ := hargs
    have ha : c.args = #[x, y] := by rw [← Array.toArray_toList (xs := c.args), hargs']
    have ht : c.argTypes = #[t, t2] := by rw [← Array.toArray_toList (xs := c.argTypes), htys]
    have hx := ev_sound hs x
    have hy := ev_sound hs y
    rw [hxa] at hx
    rw [hya] at hy
    have run : ∀ v w', (Builtin.append_ #[t, t2] o.type #[a.eval x, a.eval y]).run P X.w = .ok v w' → (execOp a.eval o).run P X.w = .ok (.value v) w' := by
      intro v w' hr
      simp [execOp, ho, resolve, hc, ha, ht, invoke, builtin, hr]
    split at h
    · rename_i e e2 hkd hkd2
      have hu := kd_ok hK hkd
      have hu2 := kd_ok hK hkd2
      split at h
      · rename_i k es2 hk hyp
        obtain ⟨h0, h⟩ := chk_iff.1 h
        simp only [Bool.and_eq_true, decide_eq_true_eq] at h0
        rw [← hxa] at h
        rw [← hya] at hyp
        exact o_appendP hK hs hT run hu hu2 hk h0.1.1 h0.1.2 h0.2 hyp h
      split at h
      · rename_i k es2 hk hyd
        replace h := chk_iff.1 h
        obtain ⟨h0, hall, h⟩ := h
        simp only [Bool.and_eq_true, decide_eq_true_eq] at h0
        obtain ⟨⟨hpos, hby⟩, hz⟩ := h0
        obtain ⟨hlen, vals, hvals, hvsz, hrel⟩ := seq_sound (P := P) hs.g hpos hy hyd hall
        split at h
        · obtain ⟨hlim, hq⟩ := h
          have ex := inv_nl hx
          by_cases h0 : es2 = []
          · subst h0
            have hp := pushz_srel hs hpos
            refine then_value' (X' := X.pushz) hp hT (v := .slice none 0 0) (run _ _ ?_) ?_ hq
            · rw [ex]
              have := run_append_room (P := P) (t := t) (t2 := t2) (type := o.type) (base := none) (n := 0) (cap := 0) (m := 0) (w1 := X.w) hu hu2 (run_sizeOf hK hk) hlen (hvals X.w fun _ => rfl) (by omega) (by simp) (by simp)
              have h' : (Builtin.append_ #[t, t2] o.type #[Value.slice none 0 0, a.eval y]).run P X.w = .ok (.slice none 0 0) X.w := by simpa using this
              exact h'
            · rw [← hs.g.n]
              exact .vz (by simp [Cx.pushz]) (by simp [Cx.pushz])
          · have hpos2 : 0 < es2.length := List.length_pos_iff.2 h0
            obtain ⟨newCap, rest, hcap, hrest, hrun⟩ := run_append_grow (P := P) (t := t) (t2 := t2) (type := o.type) (base := none) (n := 0) (cap := 0) (m := es2.length) (sz := k.sz) (yv := a.eval y) (vals := vals) (old := #[]) (w := X.w) hK hk rfl hz hby hu hu2 hlen hvals (fun w' _ => by simp [Builtin.firstCells]) (by omega) (by omega)
            have hkp := push_keeps hs.g (.cells (#[] ++ vals ++ rest) e) (cc newCap es2.length) true
            have hnew : ORel (X.push (.cells (#[] ++ vals ++ rest) e) (cc newCap es2.length) true) X.n (.row k.sz es2) := by
              have hr2 := rows_append (X := X) (arr := #[] ++ vals ++ rest) (rows_empty X.own k.sz #[]) hrel (fun m hm => by simp at hm) (fun m hm => by
                simp only [List.length_nil, Nat.zero_mul, Nat.zero_add]
                rw [getD_append_left (by simp; omega), getD_append_right (by simp)]
                simp)
              simp only [List.nil_append] at hr2
              refine ⟨hpos, hlim, .inr ⟨by simp [Cx.push], _, e, by simp only [Cx.push, if_true]; exact heap_alloc_new _ _, by simp [Cx.push], ?_, by simp [Cx.push]; omega, hr2.1, fun kk hkk j hj => (hr2.2 kk hkk j hj).mono hkp⟩⟩
              simp only [Cx.push, if_true, Array.size_append, hvsz, hrest]
              simp only [Nat.zero_add] at hcap ⊢
              show newCap * k.sz ≤ 0 + es2.length * k.sz + (newCap - es2.length) * k.sz
              rw [Nat.zero_add, ← Nat.add_mul]
              have : es2.length + (newCap - es2.length) = newCap := by omega
              rw [this]; simp
            have hdrew := (push_srel hs  (rw := true) rfl (fun _ _ _ => rfl) hnew).inW (X.w.drew.alloc (.cells (#[] ++ vals ++ rest) e)) rfl ⟨rfl, rfl, rfl⟩
            refine then_value' hdrew hT (v := .slice (some ⟨X.w.heap.size, 0, none⟩) es2.length newCap) (run _ _ ?_) ?_ hq
            · rw [ex]
              have h' := hrun
              simp only [Nat.zero_add] at h'
              exact h'
            · rw [← hs.g.n]
              have := VRel.vw (X := (X.push (.cells (#[] ++ vals ++ rest) e) (cc newCap es2.length) true).inW (X.w.drew.alloc (.cells (#[] ++ vals ++ rest) e))) (r := X.n) (n := es2.length) (by simp [Cx.push, Cx.inW]) (by simp [Cx.push, Cx.inW]) (by simp [Cx.push, Cx.inW]; omega)
              simpa [Cx.push, Cx.inW] using this
        · rename_i r n
          split at h
          · rename_i sz es hr
            replace h := chk_iff.1 h
            obtain ⟨h0, h⟩ := h
            have h0 : sz = k.sz := by simpa using h0
            obtain ⟨rfl, hlim, hq⟩ := h
            subst h0
            have hrow := hs.g.rws r _ _ hr
            obtain ⟨p1, p2, hob⟩ := hs.g.rel r _ hr
            obtain ⟨_, hview⟩ := inv_vw hx
            have grow : ∀ (base : Option Addr) (cap : Nat) (old : Array Value), a.eval x = .slice base es.length cap → ¬ es.length + es2.length ≤ cap → RowsRel X X.own k.sz es old → old.size = es.length * k.sz →
                (∀ w', (∀ ad, w'.cell? ad = X.w.cell? ad) → (Builtin.firstCells k.sz es.length (.slice base es.length cap)).run P w' = .ok old w') → o.wp P a X.w next Q := by
              intro base cap old ex hcap' hold holdsz holdrun
              obtain ⟨newCap, rest, hcap, hrest, hrun⟩ := run_append_grow (P := P) (t := t) (t2 := t2) (type := o.type) (base := base) (n := es.length) (cap := cap) (m := es2.length) (sz := k.sz) (yv := a.eval y) (vals := vals) (old := old) (w := X.w) hK hk rfl hz hby hu hu2 hlen hvals holdrun hcap' hlim
              have hheap : ∀ b, b < X.w.heap.size → (X.w.drew.alloc (.cells (old ++ vals ++ rest) e)).heap[b]? = X.w.heap[b]? := fun b hb => heap_alloc X.w.drew _ b hb
              have hkp : Keeps X.own X.w (X.move r (X.w.drew.alloc (.cells (old ++ vals ++ rest) e)) (cc newCap (es.length + es2.length))).own (X.move r (X.w.drew.alloc (.cells (old ++ vals ++ rest) e)) (cc newCap (es.length + es2.length))).w :=
                ⟨by simp [Cx.move], fun b hb ho => ⟨hheap b hb, fun hh => ho (hh.imp (fun h => h.elim And.left (by omega)) id)⟩⟩
              have hnew : ORel (X.move r (X.w.drew.alloc (.cells (old ++ vals ++ rest) e)) (cc newCap (es.length + es2.length))) r (.row k.sz (es ++ es2)) := by
                have hr2 := rows_append (X := X) (arr := old ++ vals ++ rest) hold hrel (fun m hm => by
                  rw [getD_append_left (by simp; omega), getD_append_left (by omega)]) (fun m hm => by
                  rw [getD_append_left (by simp; omega), getD_append_right (by omega)]
                  congr 1; omega)
                refine ⟨hpos, by simpa using hlim, .inr ⟨by simp [Cx.move], _, e, by simp only [Cx.move, if_true]; exact heap_alloc_new _ _, by simp [Cx.move], ?_, by simp [Cx.move]; omega, hr2.1, fun kk hkk j hj => (hr2.2 kk hkk j hj).mono hkp⟩⟩
                simp only [Cx.move, if_true, Array.size_append, hvsz, hrest, holdsz]
                rw [← Nat.add_mul, ← Nat.add_mul]
                have : es.length + es2.length + (newCap - (es.length + es2.length)) = newCap := by omega
                rw [this]; exact Nat.le_refl _
              refine then_value' (move_srel hs hr rfl rfl hrow hnew) hT (v := .slice (some ⟨X.w.heap.size, 0, none⟩) (es.length + es2.length) newCap) (run _ _ ?_) ?_ hq
              · rw [ex]; exact hrun
              · have := VRel.vw (X := X.move r (X.w.drew.alloc (.cells (old ++ vals ++ rest) e)) (cc newCap (es.length + es2.length))) (r := r) (n := es.length + es2.length) (by simp only [Cx.move]; rw [hs.g.n]; exact lt_of_get hr) (by simp [Cx.move]) (by simp [Cx.move]; omega)
                simpa [Cx.move] using this
            rcases hview with ⟨hzf, ⟨hn1, hn2⟩, ex⟩ | ⟨hzt, hn0, ex⟩
            · rcases hob with ⟨hz', _⟩ | ⟨_, arr, T, h1, hl2, h2, h3, h4, h5⟩
              · rw [hzf] at hz'; cases hz'
              · have hold : RowsRel X X.own k.sz es arr := ⟨h4, h5⟩
                have hle : es.length * k.sz ≤ (X.c r).1 * k.sz := Nat.mul_le_mul_right _ h3
                by_cases hcap : es.length + es2.length ≤ (X.c r).1
                · have hb : (es.length + es2.length) * k.sz ≤ arr.size := Nat.le_trans (Nat.mul_le_mul_right _ hcap) h2
                  rw [Nat.add_mul] at hb
                  have hst := run_storeCells (P := P) (w := X.w) (b := X.b r) (off := es.length * k.sz) (T := T) vals.toList 0 arr h1 (by simp; omega) (rows_cellV hpos hrel hvsz)
                  simp only [Nat.add_zero] at hst
                  have hnew : ORel (X.room r (World.setRow X.w (X.b r) (spl arr (es.length * k.sz) vals.toList) T) ⟨(X.c r).1, es.length + es2.length, (X.c r).fp⟩) r (.row k.sz (es ++ es2)) := by
                    have hr2 := rows_append (X := X) (arr := spl arr (es.length * k.sz) vals.toList) hold hrel (fun m hm => by
                      rw [spl_get _ _ _ _ (by simp; omega), if_neg (by omega)]) (fun m hm => by
                      rw [spl_get _ _ _ _ (by simp; omega), if_pos ⟨by omega, by simp; omega⟩]
                      have hm2 : m < vals.size := by omega
                      have : es.length * k.sz + m - es.length * k.sz = m := by omega
                      rw [this]
                      simp [List.getD_eq_getElem?_getD, Array.getD_eq_getD_getElem?, hm2])
                    have hkp : Keeps X.own X.w X.own (World.setRow X.w (X.b r) (spl arr (es.length * k.sz) vals.toList) T) :=
                      ⟨by simp [World.setRow], fun b hb ho => ⟨by
                        rw [heap_setRow, if_neg]
                        rintro ⟨e, _⟩
                        exact ho (.inl ((hs.g.obj b).2 ⟨r, _, hr, rfl, hzf, .inl e⟩)), ho⟩⟩
                    refine ⟨hpos, by simpa using hlim, .inr ⟨by simp [Cx.room, hzf], spl arr (es.length * k.sz) vals.toList, T, ?_, by simp [Cx.room], by simp only [Cx.room, if_true, spl_size]; exact h2, by simp [Cx.room]; omega, hr2.1, fun kk hkk j hj => (hr2.2 kk hkk j hj).mono hkp⟩⟩
                    simp only [Cx.room]
                    rw [heap_setRow, if_pos ⟨rfl, size_of_heap h1⟩]
                  refine then_value' (room_srel (w := World.setRow X.w (X.b r) (spl arr (es.length * k.sz) vals.toList) T) hs hr rfl hzf rfl hrow (by simp [World.setRow]) ⟨rfl, rfl, rfl⟩ (fun b hb => by rw [heap_setRow, if_neg (fun e => hb e.1.symm)]) hnew) hT (v := .slice (some ⟨X.b r, 0, none⟩) (es.length + es2.length) (X.c r).1) (run _ _ ?_) ?_ hq
                  · rw [ex]
                    exact run_append_room (P := P) (base := some ⟨X.b r, 0, none⟩) (sz := k.sz) hu hu2 (run_sizeOf hK hk) hlen (hvals X.w fun _ => rfl) hcap (fun ad e => by cases e; rw [addr_add, Nat.zero_add]; exact hst) (by simp)
                  · have := VRel.vw (X := X.room r (World.setRow X.w (X.b r) (spl arr (es.length * k.sz) vals.toList) T) ⟨(X.c r).1, es.length + es2.length, (X.c r).fp⟩) (r := r) (n := es.length + es2.length) (by simp only [Cx.room]; rw [hs.g.n]; exact lt_of_get hr) (by simp [Cx.room, hzf]) (by simp [Cx.room]; omega)
                    simpa [Cx.room] using this
                · refine grow _ (X.c r).1 ((List.range (es.length * k.sz)).map fun m => arr.getD m undef).toArray ex hcap ⟨h4, fun kk hkk j hj => ?_⟩ (by simp) (fun w' hw' => ?_)
                  · have hj' : j < k.sz := by rw [← h4 kk hkk]; exact hj
                    have hlt := idx_lt hkk hj'
                    have : ((List.range (es.length * k.sz)).map fun m => arr.getD m undef).toArray.getD (kk * k.sz + j) undef = arr.getD (kk * k.sz + j) undef := by
                      simp [Array.getD_eq_getD_getElem?, hlt]
                    rw [this]; exact h5 kk hkk j hj
                  · simp only [Builtin.firstCells]
                    refine run_loadCells fun m hm => ?_
                    rw [hw', Nat.zero_add]
                    exact cell_of_heap h1 (by omega)
            · rcases hob with ⟨_, he⟩ | ⟨hz', _⟩
              · subst he
                by_cases h0 : es2 = []
                · subst h0
                  have hq' : q (.vw r 0) ((s.o.map (Ob.killO r)).set r (.row k.sz [])) (some r) := by simpa using hq
                  have hp := zrow_srel hs hr hzt hpos
                  refine then_value' (X' := X) hp hT (v := .slice none 0 0) (run _ _ ?_) (.vz (by rw [hs.g.n]; exact lt_of_get hr) hzt) hq'
                  rw [ex]
                  have := run_append_room (P := P) (t := t) (t2 := t2) (type := o.type) (base := none) (n := 0) (cap := 0) (m := 0) (w1 := X.w) hu hu2 (run_sizeOf hK hk) hlen (hvals X.w fun _ => rfl) (by omega) (by simp) (by simp)
                  simpa using this
                · have hpos2 : 0 < es2.length := List.length_pos_iff.2 h0
                  exact grow none 0 #[] ex (by simp; omega) (rows_empty _ _ _) (by simp) (fun w' _ => by simp [Builtin.firstCells])
              · rw [hzt] at hz'; cases hz'
          · exact h.elim
        · exact h.elim
      · exact h.elim
    · exact h.elim
  · exact h.elim
end
end Go.AM
