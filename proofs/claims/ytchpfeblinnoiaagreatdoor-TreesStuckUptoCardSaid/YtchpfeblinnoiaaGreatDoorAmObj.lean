import Derived.Test.YtchpfeblinnoiaaGreatDoorAmPure
set_option linter.unusedSimpArgs false
set_option linter.unusedVariables false
set_option linter.unnecessarySimpa false
namespace Go.AM
open Go.RowKit
structure Streams (w w' : World) : Prop where
  os : w'.os = w.os
  tape : w'.tape = w.tape
  output : w'.output = w.output
theorem Fr.next {w0 : World} {own0 own own' : Nat → Prop} {w w' : World} (h : Fr w0 own0 w) (hn : ∀ b, own b → own0 b ∨ w0.heap.size ≤ b) (hk : Keeps own w own' w') (hs : Streams w w') : Fr w0 own0 w' :=
  ⟨hs.os.trans h.os, hs.tape.trans h.tape, hs.output.trans h.output, Nat.le_trans h.size hk.size, fun b hb ho => by
    have : ¬ own b := fun hh => (hn b hh).elim ho (by omega)
    exact (hk.keep b (Nat.lt_of_lt_of_le hb h.size) this).1.trans (h.keep b hb ho)⟩
theorem killT_length (kl : Option Nat) (t : List AV) : (killT kl t).length = t.length := by
  cases kl <;> simp [killT, killL_eq]
def GhOk (o o' : List Ob) (kl : Option Nat) : Prop := ∀ (k : Nat) (cs' : List AV), o'[k]? = some (Ob.gh cs') → ∃ cs : List AV, o[k]? = some (Ob.gh cs) ∧ cs' = killT kl cs
theorem ghok_refl (o : List Ob) : GhOk o o none := fun k cs h => ⟨cs, h, rfl⟩
theorem ghok_push {o : List Ob} {nb : Ob} (h : nb.live = true) : GhOk o (o ++ [nb]) none := fun k cs hk => by
  rw [List.getElem?_append] at hk
  split at hk
  · exact ⟨cs, hk, rfl⟩
  · have := List.mem_of_getElem? hk
    simp at this
    subst this; cases h
theorem SRel.change {w0 : World} {own0 : O0} {X X' : Cx} {s : S} {a : Act} {o' : List Ob} (hs : SRel w0 own0 X s a) (kl : Option Nat) (hkl : ∀ r, kl = some r → X.rw r = true)
    (hk : Keeps X.obj X.w X'.obj X'.w) (hext : X'.ext = X.ext) (hst : Streams X.w X'.w) (hn : X.n ≤ X'.n) (hb : ∀ i, i < X.n → some i ≠ kl → X'.b i = X.b i ∧ X'.c i = X.c i ∧ X'.z i = X.z i ∧ X'.rw i = X.rw i)
    (hg : GRel X' o') (hown : ∀ b, X'.obj b → X.obj b ∨ X.w.heap.size ≤ b) (hgh : GhOk s.o o' kl) : SRel w0 own0 X' ⟨killT kl s.t, o'⟩ a where
  len := by rw [killT_length]; exact hs.len
  slot := by
    intro i hi
    have hi' : i < s.t.length := by simpa only [killT_length] using hi
    cases kl with
    | none => exact (hs.slot i hi').step (Cx.keeps hk hext) hn (fun j hj => hb j hj (by simp))
    | some r =>
      simp only [killT, killL_eq, List.getElem_map]
      exact (hs.slot i hi').kill r (hkl r rfl) (Cx.keeps hk hext) hn (fun j hj hne => hb j hj (by simpa using hne))
  defers := hs.defers
  g := hg
  ext := hext.trans hs.ext
  fr := hs.fr.next hs.new hk hst
  new := fun b hb' => by
    rcases hown b hb' with h | h
    · exact hs.new b h
    · exact .inr (Nat.le_trans hs.fr.size h)
  gh := fun k cs' hk' => by
    obtain ⟨cs, h1, rfl⟩ := hgh k cs' hk'
    obtain ⟨l, r⟩ := hs.gh k cs h1
    refine ⟨by rw [killT_length]; exact l, fun i hi => ?_⟩
    have hi' : i < cs.length := by simpa only [killT_length] using hi
    cases kl with
    | none => exact (r i hi').step (Cx.keeps hk hext) hn (fun j hj => hb j hj (by simp))
    | some q =>
      simp only [killT, killL_eq, List.getElem_map]
      exact (r i hi').kill q (hkl q rfl) (Cx.keeps hk hext) hn (fun j hj hne => hb j hj (by simpa using hne))
  tab := hs.tab
def Cx.push (X : Cx) (ob : Obj) (c : CC) (rw : Bool) : Cx where
  b := fun i => if i = X.n then X.w.heap.size else X.b i
  c := fun i => if i = X.n then c else X.c i
  z := fun i => if i = X.n then false else X.z i
  rw := fun i => if i = X.n then rw else X.rw i
  n := X.n + 1
  obj := fun b => X.obj b ∨ b = X.w.heap.size
  ext := X.ext
  w := X.w.alloc ob
theorem push_blk {X : Cx} {ob : Obj} {c : CC} {rw : Bool} {i : Nat} (h : ¬ i = X.n) (b : Nat) : (X.push ob c rw).blk i b ↔ X.blk i b := Cx.blk_eq (by simp [Cx.push, h]) (by simp [Cx.push, h])
theorem push_blk0 {X : Cx} {ob : Obj} {x y : Nat} {rw : Bool} (b : Nat) : (X.push ob (cc x y) rw).blk X.n b ↔ b = X.w.heap.size := by
  simp only [Cx.blk, Cx.push, if_true, cc_fp, or_false]; exact eq_comm
theorem GRel.lt' {X : Cx} {o : List Ob} (h : GRel X o) {b : Nat} (hb : X.obj b) : b < X.w.heap.size := by
  obtain ⟨i, ob, h1, h2, h3, h4⟩ := (h.obj b).1 hb
  exact h.ltB i ob h1 h2 h3 b h4
theorem heap_alloc (w : World) (ob : Obj) (b : Nat) (h : b < w.heap.size) : (w.alloc ob).heap[b]? = w.heap[b]? := Below.heap_alloc w ob b h
theorem heap_alloc_new (w : World) (ob : Obj) : (w.alloc ob).heap[w.heap.size]? = some ob := by
  show (w.heap.push ob)[w.heap.size]? = some ob
  simp
theorem push_keepsO {X : Cx} {o : List Ob} (h : GRel X o) (ob : Obj) (c : CC) (rw : Bool) : Keeps X.obj X.w (X.push ob c rw).obj (X.push ob c rw).w :=
  ⟨by simp [Cx.push], fun b hb ho => ⟨heap_alloc _ _ _ hb, fun hh => hh.elim ho (by omega)⟩⟩
theorem push_keeps {X : Cx} {o : List Ob} (h : GRel X o) (ob : Obj) (c : CC) (rw : Bool) : Keeps X.own X.w (X.push ob c rw).own (X.push ob c rw).w := Cx.keeps (push_keepsO h ob c rw) rfl
theorem push_agree (X : Cx) (ob : Obj) (c : CC) (rw : Bool) (i : Nat) (hi : i < X.n) : (X.push ob c rw).b i = X.b i ∧ (X.push ob c rw).c i = X.c i ∧ (X.push ob c rw).z i = X.z i ∧ (X.push ob c rw).rw i = X.rw i := by
  have : ¬ i = X.n := by omega
  simp [Cx.push, this]
theorem ORel.step {X X' : Cx} (hk : Keeps X.own X.w X'.own X'.w) (hn : X.n ≤ X'.n) (hb : ∀ i, i < X.n → X'.b i = X.b i ∧ X'.c i = X.c i ∧ X'.z i = X.z i ∧ X'.rw i = X.rw i) {i : Nat} (hi : i < X.n) {ob : Ob}
    (hheapB : ob.live = true → X.z i = false → ∀ c, X.blk i c → X'.w.heap[c]? = X.w.heap[c]?) (h : ORel X i ob) : ORel X' i ob := by
  obtain ⟨e1, e2, e3, e4⟩ := hb i hi
  have hheap : ob.live = true → X.z i = false → X'.w.heap[X.b i]? = X.w.heap[X.b i]? := fun h1 h2 => hheapB h1 h2 _ (.inl rfl)
  cases ob with
  | box cs =>
    obtain ⟨hz, arr, T, h1, h2, h3⟩ := h
    exact ⟨e3.trans hz, arr, T, by rw [e1, hheap rfl hz]; exact h1, h2, fun j hj => (h3 j hj).step hk hn hb⟩
  | row sz es =>
    obtain ⟨p1, p2, ⟨hz, he⟩ | ⟨hz, arr, T, h1, hlen, h2, h3, h4, h5⟩⟩ := h
    · exact ⟨p1, p2, .inl ⟨e3.trans hz, he⟩⟩
    · exact ⟨p1, p2, .inr ⟨e3.trans hz, arr, T, by rw [e1, hheap rfl hz]; exact h1, by rw [e2]; exact hlen, by rw [e2]; exact h2, by rw [e2]; exact h3, h4, fun k hk' j hj => (h5 k hk' j hj).mono hk⟩⟩
  | map kk ents =>
    obtain ⟨hz, hkk, me, clock, h1, h2, h3, h4, h5⟩ := h
    exact ⟨e3.trans hz, hkk, me, clock, by rw [e1, hheap rfl hz]; exact h1, h2, h3, h4, fun j hj hj' => ⟨(h5 j hj hj').1, (h5 j hj hj').2.1, (h5 j hj hj').2.2.step hk hn hb⟩⟩
  | gone => trivial
  | gh cs => trivial
  | pow es =>
    obtain ⟨p0, p1, p2, ⟨hz, he⟩ | ⟨hz, arr, T, h1, hlen, h2, h3, h4⟩⟩ := h
    · exact ⟨e4.trans p0, p1, p2, .inl ⟨e3.trans hz, he⟩⟩
    · exact ⟨e4.trans p0, p1, p2, .inr ⟨e3.trans hz, arr, T, by rw [e1, hheap rfl hz]; exact h1, by rw [e2]; exact hlen, by rw [e2]; exact h2, by rw [e2]; exact h3, fun j hj => (h4 j hj).step hk hn hb⟩⟩
  | bun R =>
    obtain ⟨hz, hp⟩ := h
    refine ⟨e3.trans hz, ?_⟩
    rw [e1, e2]
    exact R.stab hp hk.size (fun c h1 h2 => hk.keep c h1 h2) fun c hc => hheapB rfl hz c (hc.elim (fun e => .inl e.symm) .inr)
theorem get_append_one {α : Type} {o : List α} {x y : α} {i : Nat} (h : (o ++ [x])[i]? = some y) : (i < o.length ∧ o[i]? = some y) ∨ (i = o.length ∧ y = x) := by
  rcases Nat.lt_trichotomy i o.length with hi | hi | hi
  · rw [List.getElem?_append_left hi] at h; exact .inl ⟨hi, h⟩
  · subst hi; simp at h; exact .inr ⟨rfl, h.symm⟩
  · rw [List.getElem?_eq_none (by simp; omega)] at h; cases h
theorem lt_of_get {α : Type} {o : List α} {x : α} {i : Nat} (h : o[i]? = some x) : i < o.length := by
  rcases Nat.lt_or_ge i o.length with hi | hi
  · exact hi
  · rw [List.getElem?_eq_none hi] at h; cases h
theorem push_grel {X : Cx} {o : List Ob} (h : GRel X o) {ob : Obj} {c1 c2 : Nat} {rw : Bool} {nb : Ob} (hlive : nb.live = true) (hrw : ∀ sz es, nb = .row sz es → rw = true) (hnew : ORel (X.push ob (cc c1 c2) rw) X.n nb) : GRel (X.push ob (cc c1 c2) rw) (o ++ [nb]) where
  n := by simp [Cx.push, h.n]
  obj := by
    intro b
    constructor
    · rintro (hb | hb)
      · obtain ⟨i, x, h1, h2, h3, h4⟩ := (h.obj b).1 hb
        have hi := lt_of_get h1
        have hne : ¬ i = X.n := by rw [h.n]; omega
        exact ⟨i, x, by rw [List.getElem?_append_left hi]; exact h1, h2, by simp [Cx.push, hne, h3], (push_blk hne b).2 h4⟩
      · refine ⟨X.n, nb, by rw [h.n]; simp, hlive, by simp [Cx.push], (push_blk0 b).2 hb⟩
    · rintro ⟨i, x, h1, h2, h3, h4⟩
      rcases get_append_one h1 with ⟨hi, h1⟩ | ⟨hi, rfl⟩
      · have hne : ¬ i = X.n := by rw [h.n]; omega
        simp only [Cx.push, hne, if_false] at h3
        exact .inl ((h.obj b).2 ⟨i, x, h1, h2, h3, (push_blk hne b).1 h4⟩)
      · rw [hi, ← h.n] at h4
        exact .inr ((push_blk0 b).1 h4)
  injB := by
    intro i j x y h1 h2 l1 l2 z1 z2 b b1 b2
    rcases get_append_one h1 with ⟨hi, g1⟩ | ⟨hi, r1⟩ <;> rcases get_append_one h2 with ⟨hj, g2⟩ | ⟨hj, r2⟩
    · have n1 : ¬ i = X.n := by rw [h.n]; omega
      have n2 : ¬ j = X.n := by rw [h.n]; omega
      simp only [Cx.push, n1, n2, if_false] at z1 z2
      exact h.injB i j x y g1 g2 l1 l2 z1 z2 b ((push_blk n1 b).1 b1) ((push_blk n2 b).1 b2)
    · have n1 : ¬ i = X.n := by rw [h.n]; omega
      have n2 : j = X.n := by rw [h.n]; omega
      simp only [Cx.push, n1, if_false] at z1
      rw [n2] at b2
      have := h.ltB i x g1 l1 z1 b ((push_blk n1 b).1 b1)
      have := (push_blk0 b).1 b2
      omega
    · have n1 : i = X.n := by rw [h.n]; omega
      have n2 : ¬ j = X.n := by rw [h.n]; omega
      simp only [Cx.push, n2, if_false] at z2
      rw [n1] at b1
      have := h.ltB j y g2 l2 z2 b ((push_blk n2 b).1 b2)
      have := (push_blk0 b).1 b1
      omega
    · omega
  ltB := by
    intro i x h1 l1 z1 b b1
    rcases get_append_one h1 with ⟨hi, h1⟩ | ⟨hi, rfl⟩
    · have n1 : ¬ i = X.n := by rw [h.n]; omega
      simp only [Cx.push, n1, if_false] at z1 ⊢
      have := h.ltB i x h1 l1 z1 b ((push_blk n1 b).1 b1)
      simp; omega
    · have n1 : i = X.n := by rw [h.n]; omega
      rw [n1] at b1
      have := (push_blk0 b).1 b1
      simp only [Cx.push, World.size_alloc]; omega
  ext1 := fun b hb => Nat.lt_of_lt_of_le (h.ext1 b hb) (push_keepsO h ob (cc c1 c2) rw).size
  ext2B := by
    intro i x h1 l1 z1 b b1
    rcases get_append_one h1 with ⟨hi, h1⟩ | ⟨hi, rfl⟩
    · have n1 : ¬ i = X.n := by rw [h.n]; omega
      simp only [Cx.push, n1, if_false] at z1
      exact h.ext2B i x h1 l1 z1 b ((push_blk n1 b).1 b1)
    · have n1 : i = X.n := by rw [h.n]; omega
      rw [n1] at b1
      have e := (push_blk0 b).1 b1
      intro hh
      have := h.ext1 _ hh
      omega
  rws := by
    intro i sz es h1
    rcases get_append_one h1 with ⟨hi, h1⟩ | ⟨hi, e⟩
    · have n1 : ¬ i = X.n := by rw [h.n]; omega
      simp only [Cx.push, n1, if_false]
      exact h.rws i sz es h1
    · have n1 : i = X.n := by rw [h.n]; omega
      simp only [Cx.push, n1, if_true]
      exact hrw sz es e.symm
  rel := by
    intro i x h1
    rcases get_append_one h1 with ⟨hi, h1⟩ | ⟨hi, rfl⟩
    · have hi' : i < X.n := by rw [h.n]; exact hi
      refine ORel.step (push_keeps h ob (cc c1 c2) rw) (by simp [Cx.push]) (push_agree X ob (cc c1 c2) rw) hi' (fun hl hz c hc => ?_) (h.rel i x h1)
      exact heap_alloc _ _ _ (h.ltB i x h1 hl hz c hc)
    · have : i = X.n := by rw [h.n]; exact hi
      rw [this]; exact hnew
theorem push_srel {w0 : World} {own0 : O0} {X : Cx} {s : S} {a : Act} (hs : SRel w0 own0 X s a) {ob : Obj} {c1 c2 : Nat} {rw : Bool} {nb : Ob} (hlive : nb.live = true) (hrw : ∀ sz es, nb = .row sz es → rw = true)
    (hnew : ORel (X.push ob (cc c1 c2) rw) X.n nb) : SRel w0 own0 (X.push ob (cc c1 c2) rw) ⟨killT none s.t, s.o ++ [nb]⟩ a :=
  hs.change none (by simp) (push_keepsO hs.g ob (cc c1 c2) rw) rfl ⟨rfl, rfl, rfl⟩ (by simp [Cx.push]) (fun i hi _ => push_agree X ob (cc c1 c2) rw i hi) (push_grel hs.g hlive hrw hnew)
    (fun b hb => hb.imp id fun e => by omega) (ghok_push hlive)
def Then (w0 : World) (own0 : O0) (s : S) (a : Act) (q : Q1) (next : Value → World → Prop) : Prop :=
  ∀ X' v av o' kl, q av o' kl → SRel w0 own0 X' ⟨killT kl s.t, o'⟩ a → VRel X' av v → next v X'.w
section
variable {P : Program} {X : Cx} {a : Act} {o : Oper} {K : TypeId → Option TK} {s : S} {q : Q1} {w0 : World} {own0 : O0} {next : Act → World → Prop} {Q : Exit → Act → World → Prop}
theorem then_value (hs : SRel w0 own0 X s a) (hT : Then w0 own0 s a q fun v w => next (a.put o.dst v) w) {v : Value} {av : AV} (hr : (execOp a.eval o).run P X.w = .ok (.value v) X.w) (hv : VRel X av v) (h : q av s.o none) :
    o.wp P a X.w next Q := by
  unfold Oper.wp
  rw [hr]
  exact hT X v av s.o none h hs hv
theorem then_value' {X' : Cx} {o' : List Ob} {kl : Option Nat} (hs : SRel w0 own0 X' ⟨killT kl s.t, o'⟩ a) (hT : Then w0 own0 s a q fun v w => next (a.put o.dst v) w) {v : Value} {av : AV}
    (hr : (execOp a.eval o).run P X.w = .ok (.value v) X'.w) (hv : VRel X' av v) (h : q av o' kl) : o.wp P a X.w next Q := by
  unfold Oper.wp
  rw [hr]
  exact hT X' v av o' kl h hs hv
theorem then_skip' {X' : Cx} {o' : List Ob} {kl : Option Nat} (hs : SRel w0 own0 X' ⟨killT kl s.t, o'⟩ a) (hT : Then w0 own0 s a q fun v w => next (a.put o.dst v) w)
    (hr : (execOp a.eval o).run P X.w = .ok .skip X'.w) (h : q .jk o' kl) : o.wp P a X.w next Q := by
  unfold Oper.wp
  rw [hr]
  exact hT X' undef .jk o' kl h hs .jk
theorem o_assign {x : Operand} (hs : SRel w0 own0 X s a) (hT : Then w0 own0 s a q fun v w => next (a.put o.dst v) w) (ho : o.op = .assign x) (h : q (s.ev x) s.o none) : o.wp P a X.w next Q :=
  then_value hs hT (by simp [execOp, ho]) (ev_sound hs x) h
theorem o_pick {c x y : Operand} {Γ : List (FuncId × En)} (hs : SRel w0 own0 X s a) (hT : Then w0 own0 s a q fun v w => next (a.put o.dst v) w) (ho : o.op = .pick c x y) (h : aOp K Γ s (.pick c x y) q) : o.wp P a X.w next Q := by
  simp only [aOp] at h
  split at h
  · rename_i t ht
    have et : a.eval c = .bool t := inv_bool (ht ▸ ev_sound hs c)
    cases t with
    | true => exact then_value hs hT (by simp [execOp, ho, et, asBool]) (ev_sound hs x) (bcase_t h rfl)
    | false => exact then_value hs hT (by simp [execOp, ho, et, asBool]) (ev_sound hs y) (bcase_f h rfl)
  · exact h.elim
theorem run_zero {t : TypeId} {i : TK} (ti : TOk P t i) (hz : i.zero.length = i.sz) : ∃ z, (∀ w, (zeroValue t).run P w = .ok z w) ∧ z.cells.size = i.sz ∧
    (∀ (X : Cx) (j : Nat) (h : j < i.zero.length), VRel X i.zero[j] (z.cells.getD j undef)) ∧ (i.agg = true → ∃ arr, z = .agg arr) ∧ (i.agg = false → z.cells = #[z]) := by
  obtain ⟨tinf, hti, hsz, hby, hzz⟩ := ti.info
  obtain ⟨z, e, h1, h2, h3, h4⟩ := hzz hz
  exact ⟨z, fun w => by simp [zeroValue, typeInfo, program, Sem.run, hti, e], h1, h2, h3, h4⟩
theorem alloc_ex {t : TypeId} {Γ : List (FuncId × En)} (hK : KOk P K) (hs : SRel w0 own0 X s a) (ho : o.op = .alloc t) (h : aOp K Γ s (.alloc t) q) :
    ∃ ob nb v av, nb.live = true ∧ (execOp a.eval o).run P X.w = .ok (.value v) (X.push ob (cc 0 0) false).w ∧ SRel w0 own0 (X.push ob (cc 0 0) false) ⟨s.t, s.o ++ [nb]⟩ a ∧ VRel (X.push ob (cc 0 0) false) av v ∧ q av (s.o ++ [nb]) none := by
  simp only [aOp] at h
  split at h
  · rename_i i hi
    obtain ⟨hz, hq⟩ := chk_iff.1 h
    have hz : i.zero.length = i.sz := by simpa using hz
    obtain ⟨z, hr, h1, h2, _, _⟩ := run_zero (hK t i hi) hz
    have hnew : ORel (X.push (.cells z.cells t) (cc 0 0) false) X.n (.box i.zero) :=
      ⟨by simp [Cx.push], z.cells, t, by simp only [Cx.push, if_true]; exact heap_alloc_new _ _, by rw [h1, hz], fun j hj => h2 _ j hj⟩
    refine ⟨.cells z.cells t, .box i.zero, .pointer (some ⟨X.w.heap.size, 0, none⟩), _, rfl, ?_, push_srel hs rfl (by simp) hnew, ?_, hq⟩
    · simp [execOp, ho, Instr.alloc, hr, newVar, newRow, newObj, Sem.run, Cx.push]
    · have := VRel.rf (X := X.push (.cells z.cells t) (cc 0 0) false) (i := X.n) (off := 0) (by simp [Cx.push]) (by simp [Cx.push])
      rw [← hs.g.n]
      simpa [Cx.push] using this
  · exact h.elim
theorem o_alloc {t : TypeId} {Γ : List (FuncId × En)} (hK : KOk P K) (hs : SRel w0 own0 X s a) (hT : Then w0 own0 s a q fun v w => next (a.put o.dst v) w) (ho : o.op = .alloc t) (h : aOp K Γ s (.alloc t) q) : o.wp P a X.w next Q := by
  obtain ⟨ob, nb, v, av, _, h1, h2, h3, h4⟩ := alloc_ex hK hs ho h
  exact then_value' (kl := none) h2 hT h1 h3 h4
theorem cells_rel {x : AV} {v : Value} (hc : (cellsOfAV x).all AV.cell = true) (hv : VRel X x v) : v.cells.size = (cellsOfAV x).length ∧ ∀ (j : Nat) (h : j < (cellsOfAV x).length), VRel X (cellsOfAV x)[j] (v.cells.getD j undef) := by
  unfold cellsOfAV at *
  split at hc
  · rename_i cs
    obtain ⟨arr, rfl, hl, hr⟩ := inv_ag hv
    exact ⟨hl, hr⟩
  · rename_i hne
    have hcell : x.cell = true := by simpa using hc
    have : v.cells = #[v] := by
      cases hv with
      | ag => exact (hne _ rfl).elim
      | d h => cases h with
        | v hx => cases v <;> first | rfl | (simp [plainV] at hx)
        | _ => rfl
      | jk => simp [AV.cell] at hcell
      | opt => simp [AV.cell] at hcell
      | tp => simp [AV.cell] at hcell
      | _ => rfl
    rw [this]
    exact ⟨rfl, fun j hj => by
      have : j = 0 := by simp at hj; omega
      subst this; simpa using hv⟩
theorem box_ex {t : TypeId} {x : Operand} {Γ : List (FuncId × En)} (hs : SRel w0 own0 X s a) (ho : o.op = .box t x) (h : aOp K Γ s (.box t x) q) :
    ∃ ob nb v av, nb.live = true ∧ (execOp a.eval o).run P X.w = .ok (.value v) (X.push ob (cc 0 0) false).w ∧ SRel w0 own0 (X.push ob (cc 0 0) false) ⟨s.t, s.o ++ [nb]⟩ a ∧ VRel (X.push ob (cc 0 0) false) av v ∧ q av (s.o ++ [nb]) none := by
  simp only [aOp] at h
  obtain ⟨hc0, hq⟩ := chk_iff.1 h
  have hc := (Bool.and_eq_true_iff.1 hc0).1
  obtain ⟨h1, h2⟩ := cells_rel hc (ev_sound hs x)
  have hst := push_keeps hs.g (.cells (a.eval x).cells t) (cc 0 0) false
  have hnew : ORel (X.push (.cells (a.eval x).cells t) (cc 0 0) false) X.n (.box (cellsOfAV (s.ev x))) :=
    ⟨by simp [Cx.push], (a.eval x).cells, t, by simp only [Cx.push, if_true]; exact heap_alloc_new _ _, h1, fun j hj => (h2 j hj).step hst (by simp [Cx.push]) (push_agree X _ (cc 0 0) false)⟩
  refine ⟨.cells (a.eval x).cells t, .box (cellsOfAV (s.ev x)), .pointer (some ⟨X.w.heap.size, 0, none⟩), _, rfl, ?_, push_srel hs rfl (by simp) hnew, ?_, hq⟩
  · simp [execOp, ho, Instr.box, newVar, newRow, newObj, Sem.run, Cx.push]
  · have := VRel.rf (X := X.push (.cells (a.eval x).cells t) (cc 0 0) false) (i := X.n) (off := 0) (by simp [Cx.push]) (by simp [Cx.push])
    rw [← hs.g.n]
    simpa [Cx.push] using this
theorem o_box {t : TypeId} {x : Operand} {Γ : List (FuncId × En)} (hs : SRel w0 own0 X s a) (hT : Then w0 own0 s a q fun v w => next (a.put o.dst v) w) (ho : o.op = .box t x) (h : aOp K Γ s (.box t x) q) : o.wp P a X.w next Q := by
  obtain ⟨ob, nb, v, av, _, h1, h2, h3, h4⟩ := box_ex hs ho h
  exact then_value' (kl := none) h2 hT h1 h3 h4
theorem ld_run {t : TypeId} {i : TK} (ti : TOk P t i) {w : World} {b off : Nat} {f : Nat → Value} {m : Nat} (h : ∀ j, j < m → w.cell? ⟨b, off + j, none⟩ = some (f j)) (hm : i.agg = true → i.sz ≤ m) (hm' : i.agg = false → 0 < m) :
    (loadVar t ⟨b, off, none⟩).run P w = .ok (if i.agg then .agg ((List.range i.sz).map f).toArray else f 0) w := by
  obtain ⟨tinf, hti, hsz, _, _⟩ := ti.info
  unfold loadVar
  cases hag : i.agg with
  | true =>
    have := run_loadCells (P := P) (n := i.sz) (f := f) (fun j hj => h j (Nat.lt_of_lt_of_le hj (hm hag)))
    simp [ti.agg, hag, sizeOf, typeInfo, program, Sem.run, hti, hsz, this]
  | false =>
    have h0 := h 0 (hm' hag)
    simp only [Nat.add_zero] at h0
    simp [ti.agg, hag, h0]
theorem ldAV_run {t : TypeId} {cs : List AV} {k : AV → Prop} (hK : KOk P K) {b off : Nat} {f : Nat → Value} (hr : ∀ (j : Nat) (h : j < cs.length), VRel X cs[j] (f j)) (h : ldAV K t cs k) :
    ∃ v av, (∀ w, (∀ j, j < cs.length → w.cell? ⟨b, off + j, none⟩ = some (f j)) → (loadVar t ⟨b, off, none⟩).run P w = .ok v w) ∧ VRel X av v ∧ k av := by
  unfold ldAV at h
  split at h
  · rename_i i hi
    have ti := hK t i hi
    split at h
    · rename_i hag
      obtain ⟨hl, hk⟩ := chk_iff.1 h
      have hl : i.sz ≤ cs.length := by simpa using hl
      refine ⟨_, _, fun w hc => ld_run ti hc (fun _ => hl) (fun h => by rw [hag] at h; cases h), ?_, hk⟩
      rw [if_pos hag]
      refine .ag (by simp; omega) (fun j hj => ?_)
      simp only [List.length_take] at hj
      have := hr j (by omega)
      have e : (List.map f (List.range i.sz)).toArray.getD j undef = f j := by
        have : j < i.sz := by omega
        simp [Array.getD_eq_getD_getElem?, this]
      rw [e, List.getElem_take]; exact this
    · rename_i hag
      have hag : i.agg = false := by simpa using hag
      split at h
      · rename_i c rest
        refine ⟨_, _, fun w hc => ld_run ti hc (fun h => by rw [hag] at h; cases h) (fun _ => by simp), ?_, h⟩
        rw [hag]; exact hr 0 (by simp)
      · exact h.elim
  · exact h.elim
theorem decD_ok {z : AV} {x : D} (h : okD z x) : decD z x = .d x := by
  unfold okD at h
  unfold decD
  split at h <;> first | (rw [← h]) | rfl
theorem decL_ok : ∀ {zs : List AV} {cs : List D}, okL zs cs → zs.length ≤ cs.length → decL zs cs = (cs.take zs.length).map .d
  | [], cs, _, _ => by simp [decL]
  | z :: zs, [], _, h => by simp at h
  | z :: zs, c :: cs, h, hl => by
    simp only [okL, List.getD_cons_zero, List.drop_succ_cons, List.drop_zero] at h
    simp only [decL, List.getD_cons_zero, List.drop_succ_cons, List.drop_zero, List.length_cons, List.take_succ_cons, List.map_cons]
    rw [decD_ok h.1, decL_ok h.2 (by simpa using hl)]
theorem ldD_eq {t : TypeId} {cs : List D} {k : AV → Prop} (h : ldD K t cs k) : ldAV K t (cs.map .d) k := by
  unfold ldD at h; unfold ldAV
  cases hK : K t with
  | none => simp [hK] at h
  | some i =>
    simp only [hK] at h ⊢
    obtain ⟨hz, h⟩ := chk_iff.1 h
    have hz : i.zero.length = i.sz := by simpa using hz
    cases hag : i.agg with
    | true =>
      simp only [hag, if_true] at h ⊢
      obtain ⟨h1, h2, h3⟩ := h
      rw [decL_ok h2 (by omega), hz] at h3
      exact chk_iff.2 ⟨by simpa using h1, by simpa [List.map_take] using h3⟩
    | false =>
      simp only [hag, if_false, Bool.false_eq_true] at h ⊢
      split at h
      · obtain ⟨b, h2, h3⟩ := h
        cases cs with
        | nil => cases h2
        | cons c l =>
          rw [List.getD_cons_zero] at h2
          rw [← h2] at h3
          exact h3
      · obtain ⟨h1, h2, h3⟩ := h
        cases cs with
        | nil => simp at h1
        | cons c l =>
          rw [decD_ok h2] at h3
          exact h3
      · exact h.elim
theorem cell_of_heap {w : World} {b : Nat} {arr : Array Value} {T : TypeId} {fr : Nat × Nat} (h : w.heap[b]? = some (.cells arr T fr)) {j : Nat} (hj : j < arr.size) : w.cell? ⟨b, j, none⟩ = some (arr.getD j undef) := by
  simp [World.cell?, h, Array.getD_eq_getD_getElem?, hj]
theorem y_loadG {C : World → Prop} {k : AV → Prop} {t : TypeId} {x : Operand} {Γ : List (FuncId × En)} (hK : KOk P K) (hs : SRel w0 own0 X s a) (hS : (∃ c, s.ev x = .ep c) → Sld C X)
    (hO : ∀ i ob, ((∃ off, s.ev x = .rf i off) ∨ (∃ sz k off, s.ev x = .rp i sz k off)) → s.o[i]? = some ob → ob.live = true → X.z i = false → ∀ w', C w' → w'.heap[X.b i]? = X.w.heap[X.b i]?)
    (hF : ∀ i ob ad, s.ev x = .d (.v (.pointer (some ad))) → s.o[i]? = some ob → ob.live = true → X.z i = false → ∀ w', C w' → ∀ c, X.blk i c → w'.heap[c]? = X.w.heap[c]?) (ho : o.op = .load t x) (h : aOp K Γ s (.load t x) fun v _ _ => k v) : Yields P C X a o k := by
  simp only [aOp] at h
  have hv := ev_sound hs x
  split at h
  · rename_i i off e
    rw [e] at hv
    obtain ⟨ea, hi⟩ := inv_rf hv
    split at h
    · rename_i cs ho'
      obtain ⟨hoff, h⟩ := chk_iff.1 h
      have hoff : off ≤ cs.length := by simpa using hoff
      obtain ⟨hz, arr, T, h1, h2, h3⟩ := hs.g.rel i _ ho'
      obtain ⟨v, av, hr, hrel, hk⟩ := ldAV_run hK (X := X) (b := X.b i) (off := off) (f := fun j => arr.getD (off + j) undef) (fun j hj => by
        simp only [List.length_drop] at hj
        simp only [List.getElem_drop]
        exact h3 (off + j) (by omega)) h
      refine ⟨v, av, fun w' hw' => ?_, hrel, hk⟩
      have hh : w'.heap[X.b i]? = X.w.heap[X.b i]? := hO i _ (.inl ⟨off, e⟩) ho' rfl hz w' hw'
      have hr := hr w' (fun j hj => by
        simp only [List.length_drop] at hj
        exact cell_of_heap (hh.trans h1) (by omega))
      simp [execOp, ho, Instr.loadAt, Instr.sureAddr, ea, hr]
    · exact h.elim
  · rename_i c e
    rw [e] at hv
    obtain ⟨b, off, ea, g, hb, hc, hr⟩ := inv_ep hv
    obtain ⟨v, av, hrun, hrel, hk⟩ := ldAV_run hK (X := X) (b := b) (off := off) (f := g) (fun j hj => by
      simp only [List.getElem_map]; exact .d (hr j (by simpa using hj))) (ldD_eq h)
    refine ⟨v, av, fun w' hw' => ?_, hrel, hk⟩
    have hrun := hrun w' (fun j hj => by
      have hj : j < c.length := by simpa using hj
      have c0 := hc j hj
      rw [cell_of_block (hS ⟨_, e⟩ w' hw' b (cell_lt c0) (hb (by omega)))]
      exact c0)
    simp [execOp, ho, Instr.loadAt, Instr.sureAddr, ea, hrun]
  · rename_i b off e
    rw [e] at hv
    have ea := (inv_v hv).1
    split at h
    · rename_i i f hff
      obtain ⟨R, hi, ht⟩ := findF_at hff
      obtain ⟨hz, hfam⟩ := fam_at hs.g hi ht
      split at h
      · rename_i ks hsh
        obtain ⟨hoff, r, hr, h⟩ := chk_iff.1 h
        have hoff : off ≤ ks.length := by simpa using hoff
        obtain ⟨m, hm, rfl, rfl⟩ := recF_mem hr
        obtain ⟨_, hfp, hmem⟩ := hfam.2.2.2 m hm
        rw [hsh] at hmem
        obtain ⟨arr, T, h1, h2, h3⟩ := cells_mem (X := X) hmem
        have hlen := (cellsR_get ks m.2.2 0).1
        obtain ⟨v, av, hrun, hrel, hk⟩ := ldAV_run hK (X := X) (b := m.2.1) (off := off) (f := fun j => arr.getD (off + j) undef) (fun j hj => by
          simp only [List.length_drop] at hj
          simp only [List.getElem_drop]
          exact h3 (off + j) (by omega)) h
        refine ⟨v, av, fun w' hw' => ?_, hrel, hk⟩
        have hh : w'.heap[m.2.1]? = X.w.heap[m.2.1]? := hF i _ _ e hi rfl hz w' hw' _ (.inr hfp)
        have hrun := hrun w' (fun j hj => by
          simp only [List.length_drop] at hj
          exact cell_of_heap (hh.trans h1) (by omega))
        simp [execOp, ho, Instr.loadAt, Instr.sureAddr, ea, hrun]
      · exact h.elim
    · exact h.elim
  · rename_i r sz i off e
    rw [e] at hv
    obtain ⟨ea, hi⟩ := inv_rp hv
    split at h
    · rename_i sz' es ho'
      replace h := chk_iff.1 h
      obtain ⟨h0, h⟩ := h
      have h0 : sz' = sz := by simpa using h0
      subst h0
      obtain ⟨hie, hoff, h⟩ := h
      have hce : es.getD i [] = es[i] := by rw [List.getD_eq_getElem?_getD, List.getElem?_eq_getElem hie]; rfl
      rw [hce] at hoff h
      obtain ⟨_, _, ⟨_, he⟩ | ⟨hz, arr, T, h1, _, h2, h3, h4, h5⟩⟩ := hs.g.rel r _ ho'
      · rw [he] at hie; simp at hie
      · have hlen := h4 i hie
        have hsize : i * sz' + sz' ≤ arr.size := by
          have : (i + 1) * sz' ≤ (X.c r).1 * sz' := Nat.mul_le_mul_right _ (by omega)
          rw [Nat.add_mul] at this; omega
        obtain ⟨v, av, hrun, hrel, hk⟩ := ldAV_run hK (X := X) (b := X.b r) (off := i * sz' + off) (f := fun j => arr.getD (i * sz' + (off + j)) undef) (fun j hj => by
          simp only [List.length_map, List.length_drop] at hj
          simp only [List.getElem_map, List.getElem_drop]
          exact .d (h5 i hie (off + j) (by omega))) (ldD_eq h)
        refine ⟨v, av, fun w' hw' => ?_, hrel, hk⟩
        have hh : w'.heap[X.b r]? = X.w.heap[X.b r]? := hO r _ (.inr ⟨_, _, _, e⟩) ho' rfl hz w' hw'
        have hrun := hrun w' (fun j hj => by
          simp only [List.length_map, List.length_drop] at hj
          rw [Nat.add_assoc]
          exact cell_of_heap (hh.trans h1) (by omega))
        simp [execOp, ho, Instr.loadAt, Instr.sureAddr, ea, hrun]
    · rename_i es ho'
      obtain ⟨h0, h⟩ := chk_iff.1 h
      simp only [Bool.and_eq_true, decide_eq_true_eq] at h0
      obtain ⟨rfl, rfl⟩ := h0
      obtain ⟨hie, h⟩ := h
      have ea : a.eval x = .pointer (some ⟨X.b r, i, none⟩) := by simpa using ea
      obtain ⟨_, _, _, ⟨_, he⟩ | ⟨hz, arr, T, h1, hlen, h2, h3, h4⟩⟩ := hs.g.rel r _ ho'
      · rw [he] at hie; simp at hie
      · obtain ⟨v, av, hrun, hrel, hk⟩ := ldAV_run hK (X := X) (b := X.b r) (off := i) (f := fun j => arr.getD (i + j) undef) (fun j hj => by
          simp only [List.length_drop] at hj
          simp only [List.getElem_drop]
          exact h4 (i + j) (by omega)) h
        refine ⟨v, av, fun w' hw' => ?_, hrel, hk⟩
        have hh : w'.heap[X.b r]? = X.w.heap[X.b r]? := hO r _ (.inr ⟨_, _, _, e⟩) ho' rfl hz w' hw'
        have hrun := hrun w' (fun j hj => by
          simp only [List.length_drop] at hj
          exact cell_of_heap (hh.trans h1) (by omega))
        simp [execOp, ho, Instr.loadAt, Instr.sureAddr, ea, hrun]
    · exact h.elim
  · exact h.elim
theorem y_load {C : World → Prop} {k : AV → Prop} {t : TypeId} {x : Operand} {Γ : List (FuncId × En)} (hK : KOk P K) (hs : SRel w0 own0 X s a) (hS : Sld C X) (hO : ownRead s (.load t x) = false ∨ ∀ w', C w' → Below X.w.heap.size X.w w') (ho : o.op = .load t x) (h : aOp K Γ s (.load t x) fun v _ _ => k v) : Yields P C X a o k :=
  y_loadG hK hs (fun _ => hS) (fun i ob hx hi hl hz w' hw' => by
    rcases hO with hO | hO
    · rcases hx with ⟨off, e⟩ | ⟨_, _, _, e⟩ <;> simp [ownRead, e] at hO
    · exact (hO w' hw').block _ (hs.g.lt i ob hi hl hz)) (fun i ob ad e hi hl hz w' hw' c hc => by
    rcases hO with hO | hO
    · simp [ownRead, e] at hO
    · exact (hO w' hw').block _ (hs.g.ltB i ob hi hl hz c hc)) ho h
theorem o_load {t : TypeId} {x : Operand} {Γ : List (FuncId × En)} (hK : KOk P K) (hs : SRel w0 own0 X s a) (hT : Then w0 own0 s a q fun v w => next (a.put o.dst v) w) (ho : o.op = .load t x) (h : aOp K Γ s (.load t x) q) : o.wp P a X.w next Q := by
  obtain ⟨v, av, hr, hv, hk⟩ := y_load (P := P) (C := Below X.w.heap.size X.w) (k := fun v => q v s.o none) (Γ := Γ) hK hs sld_below (.inr fun _ h => h) ho (by simp only [aOp] at h ⊢; exact h)
  exact then_value hs hT (hr _ (Below.refl _ _)) hv hk
def spl (arr : Array Value) (i : Nat) : List Value → Array Value
  | [] => arr
  | v :: vs => spl (arr.setIfInBounds i v) (i + 1) vs
theorem spl_size (vs : List Value) : ∀ (arr : Array Value) (i : Nat), (spl arr i vs).size = arr.size := by
  induction vs with
  | nil => intro arr i; rfl
  | cons v vs ih => intro arr i; simp [spl, ih]
theorem spl_get (vs : List Value) : ∀ (arr : Array Value) (i j : Nat), i + vs.length ≤ arr.size → (spl arr i vs).getD j undef = if i ≤ j ∧ j < i + vs.length then vs.getD (j - i) undef else arr.getD j undef := by
  induction vs with
  | nil => intro arr i j h; simp [spl]; omega
  | cons v vs ih =>
    intro arr i j h
    simp only [List.length_cons] at h
    simp only [spl]
    rw [ih _ _ _ (by simp; omega)]
    by_cases h1 : i + 1 ≤ j ∧ j < i + 1 + vs.length
    · rw [if_pos h1, if_pos ⟨by omega, by simp; omega⟩]
      have : j - i = (j - (i + 1)) + 1 := by omega
      rw [this, List.getD_cons_succ]
    · rw [if_neg h1]
      by_cases h2 : i = j
      · subst h2
        rw [if_pos ⟨by omega, by simp⟩]
        simp [Array.getD_eq_getD_getElem?]
        omega
      · rw [if_neg (by simp; omega)]
        simp [Array.getD_eq_getD_getElem?, Array.getElem?_setIfInBounds, h2]
def World.setRow (w : World) (b : Nat) (arr : Array Value) (T : TypeId) : World := { w with heap := w.heap.setIfInBounds b (.cells arr T (0, 0)) }
theorem heap_setRow (w : World) (b : Nat) (arr : Array Value) (T : TypeId) (j : Nat) : (World.setRow w b arr T).heap[j]? = if b = j ∧ j < w.heap.size then some (.cells arr T (0, 0)) else w.heap[j]? := by
  simp only [World.setRow, Array.getElem?_setIfInBounds]
  by_cases h : b = j
  · subst h
    by_cases h' : b < w.heap.size
    · simp [h']
    · simp [h']
  · simp [h]
theorem setRow_setRow (w : World) (b : Nat) (arr arr' : Array Value) (T T' : TypeId) : World.setRow (World.setRow w b arr T) b arr' T' = World.setRow w b arr' T' := by
  simp [World.setRow]
theorem size_of_heap {w : World} {b : Nat} {x : Obj} (h : w.heap[b]? = some x) : b < w.heap.size := by
  rcases Nat.lt_or_ge b w.heap.size with h' | h'
  · exact h'
  · rw [Array.getElem?_eq_none h'] at h; cases h
theorem setRow_self {w : World} {b : Nat} {arr : Array Value} {T : TypeId} (h : w.heap[b]? = some (.cells arr T (0, 0))) : World.setRow w b arr T = w := by
  have : w.heap.setIfInBounds b (.cells arr T (0, 0)) = w.heap := by
    apply Array.ext_getElem?
    intro i
    rw [Array.getElem?_setIfInBounds]
    by_cases hi : b = i
    · subst hi
      have hlt := size_of_heap h
      have hb : w.heap[b]'hlt = .cells arr T (0, 0) := by rw [Array.getElem?_eq_getElem hlt] at h; simpa using h
      simp [hlt, hb]
    · simp [hi]
  simp [World.setRow, this]
def cellV : Value → Bool
  | .agg _ | .tuple _ => false
  | _ => true
theorem run_storeCells {w : World} {b off : Nat} {T : TypeId} : ∀ (vs : List Value) (i : Nat) (arr : Array Value), w.heap[b]? = some (.cells arr T (0, 0)) → off + i + vs.length ≤ arr.size → (∀ v ∈ vs, cellV v = true) →
    (storeCells ⟨b, off, none⟩ vs i).run P w = .ok () (World.setRow w b (spl arr (off + i) vs) T)
  | [], i, arr, h, _, _ => by simp [storeCells, spl, setRow_self h]
  | v :: vs, i, arr, h, hl, hc => by
    simp only [List.length_cons] at hl
    have hv := hc v (by simp)
    have hcell : w.cell? ⟨b, off + i, none⟩ = some (arr.getD (off + i) undef) := cell_of_heap h (by omega)
    have hfr : w.frozen? ⟨b, off + i, none⟩ = false := by simp [World.frozen?, h]
    have hlt := size_of_heap h
    have hb : w.heap[b]'hlt = .cells arr T (0, 0) := by rw [Array.getElem?_eq_getElem hlt] at h; simpa using h
    have hset : w.setCell ⟨b, off + i, none⟩ v = World.setRow w b (arr.setIfInBounds (off + i) v) T := by
      have : (w.setCell ⟨b, off + i, none⟩ v).heap = w.heap.setIfInBounds b (.cells (arr.setIfInBounds (off + i) v) T (0, 0)) := by
        apply Array.ext_getElem?
        intro j
        simp only [World.setCell]
        rw [Array.getElem?_modify, Array.getElem?_setIfInBounds]
        by_cases hj : b = j
        · subst hj; simp [hb, hlt]
        · simp [hj]
      show ({ w with heap := (w.setCell ⟨b, off + i, none⟩ v).heap } : World) = _
      rw [this]; rfl
    have hrec := run_storeCells (w := World.setRow w b (arr.setIfInBounds (off + i) v) T) (b := b) (off := off) (T := T) vs (i + 1) (arr.setIfInBounds (off + i) v) (by rw [heap_setRow]; simp [hlt]) (by simp; omega) (fun u hu => hc u (by simp [hu]))
    have hst : (store ⟨b, off + i, none⟩ v).run P w = .ok () (World.setRow w b (arr.setIfInBounds (off + i) v) T) := by
      rw [← hset]
      unfold store
      cases v <;> simp [cellV] at hv <;> simp [Sem.run, hcell, hfr]
    simp only [storeCells, addr_add, Sem.run_bind, hst, Result.andThen_ok]
    rw [hrec, setRow_setRow]
    rfl
end
end Go.AM
