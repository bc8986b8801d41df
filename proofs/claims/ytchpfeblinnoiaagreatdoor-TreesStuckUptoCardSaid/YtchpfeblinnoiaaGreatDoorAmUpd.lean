import Derived.Test.YtchpfeblinnoiaaGreatDoorAmObj
set_option linter.unusedSimpArgs false
set_option linter.unusedVariables false
set_option linter.unnecessarySimpa false
namespace Go.AM
open Go.RowKit
mutual
theorem kill_firm : ∀ {x : AV} (h : x.firm = true) (r : Nat), x.kill r = x
  | .d _, h, r => rfl
  | .rf _ _, h, r => rfl
  | .mp _, h, r => rfl
  | .nl, h, r => rfl
  | .fn f fs cs, h, r => by
    simp only [AV.firm, Bool.and_eq_true] at h
    simp only [AV.kill]
    rw [kill_firmL h.1 r, kill_firmL h.2 r]
  | .ag cs, h, r => by
    simp only [AV.firm] at h
    simp only [AV.kill]
    rw [kill_firmL h r]
  | .vw _ _, h, r => by cases h
  | .rp _ _ _ _, h, r => by cases h
  | .ep _, h, r => by cases h
  | .tp _, h, r => by cases h
  | .opt _ _, h, r => by cases h
  | .jk, h, r => by cases h
theorem kill_firmL : ∀ {l : List AV} (h : firmL l = true) (r : Nat), killL r l = l
  | [], h, r => rfl
  | x :: l, h, r => by
    simp only [firmL, Bool.and_eq_true] at h
    simp only [killL]
    rw [kill_firm h.1 r, kill_firmL h.2 r]
end
theorem ORel.kill {X X' : Cx} (r : Nat) (hrw : X.rw r = true) (hk : Keeps X.own X.w X'.own X'.w) (hn : X.n ≤ X'.n) (hb : ∀ i, i < X.n → i ≠ r → X'.b i = X.b i ∧ X'.c i = X.c i ∧ X'.z i = X.z i ∧ X'.rw i = X.rw i) {i : Nat} (hi : i < X.n) (hir : i ≠ r) {ob : Ob}
    (hheapB : ob.live = true → X.z i = false → ∀ c, X.blk i c → X'.w.heap[c]? = X.w.heap[c]?) (h : ORel X i ob) : ORel X' i (ob.killO r) := by
  obtain ⟨e1, e2, e3, e4⟩ := hb i hi hir
  have hheap : ob.live = true → X.z i = false → X'.w.heap[X.b i]? = X.w.heap[X.b i]? := fun h1 h2 => hheapB h1 h2 _ (.inl rfl)
  cases ob with
  | box cs =>
    obtain ⟨hz, arr, T, h1, h2, h3⟩ := h
    refine ⟨e3.trans hz, arr, T, by rw [e1, hheap rfl hz]; exact h1, by simp [killL_eq, h2], fun j hj => ?_⟩
    simp only [killL_eq, List.length_map] at hj
    simp only [killL_eq, List.getElem_map]
    exact (h3 j hj).kill r hrw hk hn hb
  | row sz es =>
    obtain ⟨p1, p2, ⟨hz, he⟩ | ⟨hz, arr, T, h1, hlen, h2, h3, h4, h5⟩⟩ := h
    · exact ⟨p1, p2, .inl ⟨e3.trans hz, he⟩⟩
    · exact ⟨p1, p2, .inr ⟨e3.trans hz, arr, T, by rw [e1, hheap rfl hz]; exact h1, by rw [e2]; exact hlen, by rw [e2]; exact h2, by rw [e2]; exact h3, h4, fun k hk' j hj => (h5 k hk' j hj).mono hk⟩⟩
  | map kk ents =>
    obtain ⟨hz, hkk, me, clock, h1, h2, h3, h4, h5⟩ := h
    refine ⟨e3.trans hz, hkk, me, clock, by rw [e1, hheap rfl hz]; exact h1, h2, h3, h4, fun j hj hj' => ⟨(h5 j hj hj').1, (h5 j hj hj').2.1, ?_⟩⟩
    have := (h5 j hj hj').2.2.kill r hrw hk hn hb
    rwa [kill_firm (h5 j hj hj').2.1] at this
  | gone => trivial
  | gh cs => trivial
  | pow es =>
    obtain ⟨p0, p1, p2, ⟨hz, he⟩ | ⟨hz, arr, T, h1, hlen, h2, h3, h4⟩⟩ := h
    · exact ⟨e4.trans p0, p1, p2, .inl ⟨e3.trans hz, he⟩⟩
    · refine ⟨e4.trans p0, p1, p2, .inr ⟨e3.trans hz, arr, T, by rw [e1, hheap rfl hz]; exact h1, by rw [e2]; exact hlen, by rw [e2]; exact h2, by rw [e2]; exact h3, fun j hj => ?_⟩⟩
      have := (h4 j hj).kill r hrw hk hn hb
      rwa [kill_firm (p2 _ (List.getElem_mem hj)).1] at this
  | bun R =>
    obtain ⟨hz, hp⟩ := h
    refine ⟨e3.trans hz, ?_⟩
    show R.p X'.own X'.w (X'.b i) (X'.c i).fp
    rw [e1, e2]
    exact R.stab hp hk.size (fun c h1 h2 => hk.keep c h1 h2) fun c hc => hheapB rfl hz c (hc.elim (fun e => .inl e.symm) .inr)
theorem killO_live (r : Nat) (ob : Ob) : (ob.killO r).live = ob.live := by cases ob <;> rfl
def killOs (kl : Bool) (r : Nat) (o : List Ob) : List Ob := if kl then o.map (Ob.killO r) else o
theorem killOs_get (kl : Bool) (r : Nat) (o : List Ob) (i : Nat) : (killOs kl r o)[i]? = (o[i]?).map fun ob => if kl then ob.killO r else ob := by
  unfold killOs; cases kl <;> simp
theorem ghok_kill {o : List Ob} {kl : Bool} {r : Nat} {ob' : Ob} (hl : ob'.live = true) : GhOk o ((killOs kl r o).set r ob') (if kl then some r else none) := fun k cs' h => by
  rw [List.getElem?_set] at h
  split at h
  · split at h
    · cases h; cases hl
    · cases h
  · rw [killOs_get] at h
    obtain ⟨y, hy, e⟩ := Option.map_eq_some_iff.1 h
    cases kl with
    | false =>
      simp only [Bool.false_eq_true, if_false] at e
      subst e
      exact ⟨cs', hy, rfl⟩
    | true =>
      simp only [if_true] at e
      cases y <;> simp [Ob.killO] at e
      subst e
      exact ⟨_, hy, rfl⟩
theorem killOs_length (kl : Bool) (r : Nat) (o : List Ob) : (killOs kl r o).length = o.length := by
  unfold killOs; cases kl <;> simp
theorem change_grel {X X' : Cx} {o : List Ob} (h : GRel X o) (r : Nat) (ob' : Ob) (kl : Bool) (hr : r < o.length) (hlive : ob'.live = true) (hn : X'.n = X.n)
    (hagree : ∀ i, i < X.n → i ≠ r → X'.b i = X.b i ∧ X'.c i = X.c i ∧ X'.z i = X.z i ∧ X'.rw i = X.rw i) (hrw : X'.rw r = X.rw r) (hk : Keeps X.own X.w X'.own X'.w)
    (hother : ∀ i ob, o[i]? = some ob → i ≠ r → ob.live = true → X.z i = false → ∀ c, X.blk i c → X'.w.heap[c]? = X.w.heap[c]?)
    (hext : X'.ext = X.ext) (hext2 : X'.z r = false → ∀ b, X'.blk r b → ¬ X.ext b) (hown : ∀ b, X'.obj b ↔ (∃ i ob, o[i]? = some ob ∧ i ≠ r ∧ ob.live = true ∧ X.z i = false ∧ X.blk i b) ∨ (X'.z r = false ∧ X'.blk r b))
    (hinj : X'.z r = false → ∀ i ob, o[i]? = some ob → i ≠ r → ob.live = true → X.z i = false → ∀ b, X.blk i b → ¬ X'.blk r b)
    (hlt : X'.z r = false → ∀ b, X'.blk r b → b < X'.w.heap.size) (hrow : ∀ sz es, ob' = .row sz es → X.rw r = true)
    (hkl0 : kl = false → X'.b r = X.b r ∧ X'.c r = X.c r ∧ X'.z r = X.z r) (hkl1 : kl = true → X.rw r = true) (hnew : ORel X' r ob') :
    GRel X' ((killOs kl r o).set r ob') := by
  have get : ∀ i x, ((killOs kl r o).set r ob')[i]? = some x → (i = r ∧ x = ob') ∨ (i ≠ r ∧ ∃ y, o[i]? = some y ∧ x = if kl then y.killO r else y) := by
    intro i x hx
    rw [List.getElem?_set] at hx
    by_cases hir : r = i
    · subst hir
      simp only [if_true, killOs_length, hr] at hx
      exact .inl ⟨rfl, by simpa using hx.symm⟩
    · simp only [hir, if_false, killOs_get] at hx
      obtain ⟨y, hy, e⟩ := Option.map_eq_some_iff.1 hx
      exact .inr ⟨fun e => hir e.symm, y, hy, e.symm⟩
  have lv : ∀ y : Ob, (if kl then y.killO r else y).live = y.live := by intro y; cases kl <;> simp [killO_live]
  have back : ∀ i y, o[i]? = some y → i ≠ r → ((killOs kl r o).set r ob')[i]? = some (if kl then y.killO r else y) := by
    intro i y hy hir
    rw [List.getElem?_set, if_neg (fun e => hir e.symm), killOs_get, hy]; rfl
  have ag : ∀ i y, o[i]? = some y → i ≠ r → X'.b i = X.b i ∧ X'.c i = X.c i ∧ X'.z i = X.z i ∧ X'.rw i = X.rw i := fun i y hy hir => hagree i (by rw [h.n]; exact lt_of_get hy) hir
  have bk : ∀ i y, o[i]? = some y → i ≠ r → ∀ b, X'.blk i b ↔ X.blk i b := fun i y hy hir b => let ⟨e1, e2, _, _⟩ := ag i y hy hir; Cx.blk_eq e1 e2
  constructor
  · rw [hn, h.n]; simp [killOs_length]
  · intro b
    rw [hown]
    constructor
    · rintro (⟨i, ob, h1, h2, h3, h4, h5⟩ | ⟨h1, h2⟩)
      · obtain ⟨e1, _, e3, _⟩ := ag i ob h1 h2
        exact ⟨i, _, back i ob h1 h2, by rw [lv]; exact h3, e3.trans h4, (bk i ob h1 h2 b).2 h5⟩
      · refine ⟨r, ob', ?_, hlive, h1, h2⟩
        rw [List.getElem?_set, if_pos rfl, if_pos (by rw [killOs_length]; exact hr)]
    · rintro ⟨i, x, h1, h2, h3, h4⟩
      rcases get i x h1 with ⟨rfl, rfl⟩ | ⟨hir, y, hy, rfl⟩
      · exact .inr ⟨h3, h4⟩
      · obtain ⟨e1, _, e3, _⟩ := ag i y hy hir
        rw [lv] at h2
        exact .inl ⟨i, y, hy, hir, h2, e3.symm.trans h3, (bk i y hy hir b).1 h4⟩
  · intro i j x y h1 h2 l1 l2 z1 z2 b b1 b2
    rcases get i x h1 with ⟨q1, _⟩ | ⟨hir, x', hx, r1⟩ <;> rcases get j y h2 with ⟨q2, _⟩ | ⟨hjr, y', hy, r2⟩
    · omega
    · exfalso
      obtain ⟨e1, _, e3, _⟩ := ag j y' hy hjr
      rw [r2, lv] at l2
      subst q1
      exact hinj z1 j y' hy hjr l2 (e3.symm.trans z2) b ((bk j y' hy hjr b).1 b2) b1
    · exfalso
      obtain ⟨e1, _, e3, _⟩ := ag i x' hx hir
      rw [r1, lv] at l1
      subst q2
      exact hinj z2 i x' hx hir l1 (e3.symm.trans z1) b ((bk i x' hx hir b).1 b1) b2
    · obtain ⟨e1, _, e3, _⟩ := ag i x' hx hir
      obtain ⟨f1, _, f3, _⟩ := ag j y' hy hjr
      rw [r1, lv] at l1
      rw [r2, lv] at l2
      exact h.injB i j x' y' hx hy l1 l2 (e3.symm.trans z1) (f3.symm.trans z2) b ((bk i x' hx hir b).1 b1) ((bk j y' hy hjr b).1 b2)
  · intro i x h1 l1 z1 b b1
    rcases get i x h1 with ⟨rfl, _⟩ | ⟨hir, y, hy, r1⟩
    · exact hlt z1 b b1
    · obtain ⟨e1, _, e3, _⟩ := ag i y hy hir
      rw [r1, lv] at l1
      exact Nat.lt_of_lt_of_le (h.ltB i y hy l1 (e3.symm.trans z1) b ((bk i y hy hir b).1 b1)) hk.size
  · intro b hb
    rw [hext] at hb
    exact Nat.lt_of_lt_of_le (h.ext1 b hb) hk.size
  · intro i x h1 l1 z1 b b1
    rw [hext]
    rcases get i x h1 with ⟨rfl, _⟩ | ⟨hir, y, hy, r1⟩
    · exact hext2 z1 b b1
    · obtain ⟨e1, _, e3, _⟩ := ag i y hy hir
      rw [r1, lv] at l1
      exact h.ext2B i y hy l1 (e3.symm.trans z1) b ((bk i y hy hir b).1 b1)
  · intro i sz es h1
    rcases get i _ h1 with ⟨rfl, e⟩ | ⟨hir, y, hy, r1⟩
    · rw [hrw]; exact hrow sz es e.symm
    · obtain ⟨_, _, _, e4⟩ := ag i y hy hir
      rw [e4]
      cases kl with
      | false => simp only [Bool.false_eq_true, if_false] at r1; subst r1; exact h.rws i sz es hy
      | true =>
        simp only [if_true] at r1
        cases y <;> simp [Ob.killO] at r1
        obtain ⟨rfl, rfl⟩ := r1
        exact h.rws i _ _ hy
  · intro i x h1
    rcases get i x h1 with ⟨rfl, rfl⟩ | ⟨hir, y, hy, r1⟩
    · exact hnew
    · have hi : i < X.n := by rw [h.n]; exact lt_of_get hy
      cases kl with
      | false =>
        simp only [Bool.false_eq_true, if_false] at r1
        subst r1
        obtain ⟨k1, k2, k3⟩ := hkl0 rfl
        refine ORel.step hk (by omega) (fun j hj => ?_) hi (fun l z => hother i _ hy hir l z) (h.rel i _ hy)
        by_cases hjr : j = r
        · subst hjr; exact ⟨k1, k2, k3, hrw⟩
        · exact hagree j hj hjr
      | true =>
        simp only [if_true] at r1
        subst r1
        exact ORel.kill r (hkl1 rfl) hk (by omega) hagree hi hir (fun l z => hother i _ hy hir l z) (h.rel i _ hy)
def Cx.upd (X : Cx) (i : Nat) (obj : Obj) : Cx := { X with w := { X.w with heap := X.w.heap.setIfInBounds (X.b i) obj } }
theorem heap_upd (X : Cx) (i : Nat) (obj : Obj) (j : Nat) : (X.upd i obj).w.heap[j]? = if X.b i = j ∧ j < X.w.heap.size then some obj else X.w.heap[j]? := by
  simp only [Cx.upd, Array.getElem?_setIfInBounds]
  by_cases h : X.b i = j
  · subst h
    by_cases h' : X.b i < X.w.heap.size
    · simp [h']
    · simp [h']
  · simp [h]
theorem upd_keepsO {X : Cx} {o : List Ob} (h : GRel X o) {i : Nat} {ob : Ob} (hi : o[i]? = some ob) (hl : ob.live = true) (hz : X.z i = false) (obj : Obj) : Keeps X.obj X.w (X.upd i obj).obj (X.upd i obj).w :=
  ⟨by simp [Cx.upd], fun b hb ho => ⟨by
    rw [heap_upd, if_neg]
    rintro ⟨e, _⟩
    exact ho ((h.obj b).2 ⟨i, ob, hi, hl, hz, .inl e⟩), ho⟩⟩
theorem upd_keeps {X : Cx} {o : List Ob} (h : GRel X o) {i : Nat} {ob : Ob} (hi : o[i]? = some ob) (hl : ob.live = true) (hz : X.z i = false) (obj : Obj) : Keeps X.own X.w (X.upd i obj).own (X.upd i obj).w := Cx.keeps (upd_keepsO h hi hl hz obj) rfl
theorem upd_srel {w0 : World} {own0 : O0} {X : Cx} {s : S} {a : Act} (hs : SRel w0 own0 X s a) (kl : Bool) {i : Nat} {ob ob' : Ob} {obj : Obj} (hi : s.o[i]? = some ob) (hl : ob.live = true) (hz : X.z i = false) (hl' : ob'.live = true)
    (hrow : ∀ sz es, ob' = .row sz es → X.rw i = true) (hkl : kl = true → X.rw i = true) (hnew : ORel (X.upd i obj) i ob') : SRel w0 own0 (X.upd i obj) ⟨killT (if kl then some i else none) s.t, (killOs kl i s.o).set i ob'⟩ a := by
  have hk := upd_keeps hs.g hi hl hz obj
  refine hs.change _ (fun r hr => ?_) (upd_keepsO hs.g hi hl hz obj) rfl ⟨rfl, rfl, rfl⟩ (Nat.le_refl _) (fun _ _ _ => ⟨rfl, rfl, rfl, rfl⟩) ?_ (fun b hb => .inl hb) (ghok_kill hl')
  · cases kl <;> simp at hr; subst hr; exact hkl rfl
  · refine change_grel hs.g i ob' kl (lt_of_get hi) hl' rfl (fun _ _ _ => ⟨rfl, rfl, rfl, rfl⟩) rfl hk (fun j y hy hji l z c hc => ?_) rfl (fun _ => hs.g.ext2B i ob hi hl hz) (fun b => ?_) (fun _ j y hy hji l z b b1 b2 => ?_) (fun _ b b1 => ?_) hrow (fun _ => ⟨rfl, rfl, rfl⟩) hkl hnew
    · rw [heap_upd, if_neg]
      rintro ⟨e, _⟩
      exact hji (hs.g.injB j i y ob hy hi l hl z hz c hc (.inl e))
    · show X.obj b ↔ _
      rw [hs.g.obj]
      constructor
      · rintro ⟨j, y, h1, h2, h3, h4⟩
        by_cases hji : j = i
        · subst hji; exact .inr ⟨hz, h4⟩
        · exact .inl ⟨j, y, h1, hji, h2, h3, h4⟩
      · rintro (⟨j, y, h1, _, h2, h3, h4⟩ | ⟨_, h2⟩)
        · exact ⟨j, y, h1, h2, h3, h4⟩
        · exact ⟨i, ob, hi, hl, hz, h2⟩
    · exact hji (hs.g.injB j i y ob hy hi l hl z hz b b1 b2)
    · show b < (X.w.heap.setIfInBounds (X.b i) obj).size
      simpa using hs.g.ltB i ob hi hl hz b b1
def Cx.updC (X : Cx) (c : Nat) (obj : Obj) : Cx := { X with w := { X.w with heap := X.w.heap.setIfInBounds c obj } }
theorem heap_updC (X : Cx) (c : Nat) (obj : Obj) (j : Nat) : (X.updC c obj).w.heap[j]? = if c = j ∧ j < X.w.heap.size then some obj else X.w.heap[j]? := by
  simp only [Cx.updC, Array.getElem?_setIfInBounds]
  by_cases h : c = j
  · subst h
    by_cases h' : c < X.w.heap.size
    · simp [h']
    · simp [h']
  · simp [h]
theorem updC_keepsO {X : Cx} {o : List Ob} (h : GRel X o) {i c : Nat} {ob : Ob} (hi : o[i]? = some ob) (hl : ob.live = true) (hz : X.z i = false) (hc : X.blk i c) (obj : Obj) : Keeps X.obj X.w (X.updC c obj).obj (X.updC c obj).w :=
  ⟨by simp [Cx.updC], fun b hb ho => ⟨by
    rw [heap_updC, if_neg]
    rintro ⟨e, _⟩
    subst e
    exact ho ((h.obj _).2 ⟨i, ob, hi, hl, hz, hc⟩), ho⟩⟩
theorem updC_keeps {X : Cx} {o : List Ob} (h : GRel X o) {i c : Nat} {ob : Ob} (hi : o[i]? = some ob) (hl : ob.live = true) (hz : X.z i = false) (hc : X.blk i c) (obj : Obj) : Keeps X.own X.w (X.updC c obj).own (X.updC c obj).w := Cx.keeps (updC_keepsO h hi hl hz hc obj) rfl
theorem updC_srel {w0 : World} {own0 : O0} {X : Cx} {s : S} {a : Act} (hs : SRel w0 own0 X s a) {i c : Nat} {ob ob' : Ob} {obj : Obj} (hi : s.o[i]? = some ob) (hl : ob.live = true) (hz : X.z i = false) (hc : X.blk i c) (hl' : ob'.live = true)
    (hrow : ∀ sz es, ob' = .row sz es → X.rw i = true) (hnew : ORel (X.updC c obj) i ob') : SRel w0 own0 (X.updC c obj) ⟨s.t, s.o.set i ob'⟩ a := by
  have hk := updC_keeps hs.g hi hl hz hc obj
  refine hs.change none (fun r hr => by cases hr) (updC_keepsO hs.g hi hl hz hc obj) rfl ⟨rfl, rfl, rfl⟩ (Nat.le_refl _) (fun _ _ _ => ⟨rfl, rfl, rfl, rfl⟩) ?_ (fun b hb => .inl hb) (ghok_kill (kl := false) (r := i) hl')
  · refine change_grel hs.g i ob' false (lt_of_get hi) hl' rfl (fun _ _ _ => ⟨rfl, rfl, rfl, rfl⟩) rfl hk (fun j y hy hji l z c' hc' => ?_) rfl (fun _ => hs.g.ext2B i ob hi hl hz) (fun b => ?_) (fun _ j y hy hji l z b b1 b2 => ?_) (fun _ b b1 => ?_) hrow (fun _ => ⟨rfl, rfl, rfl⟩) (fun h => by cases h) hnew
    · rw [heap_updC, if_neg]
      rintro ⟨e, _⟩
      subst e
      exact hji (hs.g.injB j i y ob hy hi l hl z hz _ hc' hc)
    · show X.obj b ↔ _
      rw [hs.g.obj]
      constructor
      · rintro ⟨j, y, h1, h2, h3, h4⟩
        by_cases hji : j = i
        · subst hji; exact .inr ⟨hz, h4⟩
        · exact .inl ⟨j, y, h1, hji, h2, h3, h4⟩
      · rintro (⟨j, y, h1, _, h2, h3, h4⟩ | ⟨_, h2⟩)
        · exact ⟨j, y, h1, h2, h3, h4⟩
        · exact ⟨i, ob, hi, hl, hz, h2⟩
    · exact hji (hs.g.injB j i y ob hy hi l hl z hz b b1 b2)
    · show b < (X.w.heap.setIfInBounds c obj).size
      simpa using hs.g.ltB i ob hi hl hz b b1
def Cx.fpAt (X : Cx) (j : Nat) (F : Nat → Prop) : Cx := { X with c := fun k => if k = j then ⟨(X.c k).1, (X.c k).2, F⟩ else X.c k }
theorem fpAt_1 (X : Cx) (j : Nat) (F : Nat → Prop) (k : Nat) : ((X.fpAt j F).c k).1 = (X.c k).1 ∧ ((X.fpAt j F).c k).2 = (X.c k).2 := by
  simp only [Cx.fpAt]; split <;> exact ⟨rfl, rfl⟩
theorem VRel.fpAt {X : Cx} {j : Nat} {F : Nat → Prop} {av : AV} {v : Value} (h : VRel X av v) : VRel (X.fpAt j F) av v := by
  induction h with
  | d h => exact .d h
  | nl => exact .nl
  | @vw r n h hz hn =>
    have := VRel.vw (X := X.fpAt j F) (r := r) (n := n) h hz (by rw [(fpAt_1 X j F r).1, (fpAt_1 X j F r).2]; exact hn)
    rwa [(fpAt_1 X j F r).1] at this
  | @vz r h hz => exact .vz h hz
  | @rf i off h hr => exact VRel.rf (X := X.fpAt j F) h hr
  | @rp r sz i off h => exact VRel.rp (X := X.fpAt j F) h
  | @ep c b off g h1 h2 h3 => exact .ep g h1 h2 h3
  | @mp i h hr => exact VRel.mp (X := X.fpAt j F) h hr
  | ag hl _ ih => exact .ag hl ih
  | tp hl _ ih => exact .tp hl ih
  | fn h1 h2 _ _ ih1 ih2 => exact .fn h1 h2 ih1 ih2
  | opt _ ih => exact .opt ih
  | jk => exact .jk
theorem ORel.fpAt {X : Cx} {j : Nat} {F : Nat → Prop} {i : Nat} {ob : Ob} (hij : i ≠ j) (h : ORel X i ob) : ORel (X.fpAt j F) i ob := by
  have ec : (X.fpAt j F).c i = X.c i := if_neg hij
  cases ob with
  | box cs => obtain ⟨hz, arr, T, h1, h2, h3⟩ := h; exact ⟨hz, arr, T, h1, h2, fun k hk => (h3 k hk).fpAt⟩
  | row sz es =>
    obtain ⟨p1, p2, ⟨hz, he⟩ | ⟨hz, arr, T, h1, hlen, h2, h3, h4, h5⟩⟩ := h
    · exact ⟨p1, p2, .inl ⟨hz, he⟩⟩
    · exact ⟨p1, p2, .inr ⟨hz, arr, T, h1, by rw [ec]; exact hlen, by rw [ec]; exact h2, by rw [ec]; exact h3, h4, h5⟩⟩
  | map kk ents => obtain ⟨hz, hkk, me, clock, h1, h2, h3, h4, h5⟩ := h; exact ⟨hz, hkk, me, clock, h1, h2, h3, h4, fun k hk hk' => ⟨(h5 k hk hk').1, (h5 k hk hk').2.1, (h5 k hk hk').2.2.fpAt⟩⟩
  | gone => trivial
  | gh cs => trivial
  | pow es =>
    obtain ⟨p0, p1, p2, ⟨hz, he⟩ | ⟨hz, arr, T, h1, hlen, h2, h3, h4⟩⟩ := h
    · exact ⟨p0, p1, p2, .inl ⟨hz, he⟩⟩
    · exact ⟨p0, p1, p2, .inr ⟨hz, arr, T, h1, by rw [ec]; exact hlen, by rw [ec]; exact h2, by rw [ec]; exact h3, fun k hk => (h4 k hk).fpAt⟩⟩
  | bun R =>
    obtain ⟨hz, hp⟩ := h
    refine ⟨hz, ?_⟩
    show R.p X.own X.w (X.b i) ((X.fpAt j F).c i).fp
    rw [ec]
    exact hp
theorem absorb_srel {w0 : World} {own0 : O0} {X : Cx} {s : S} {a : Act} (hs : SRel w0 own0 X s a) {j p : Nat} {ob obp ob' : Ob} (hj : s.o[j]? = some ob) (hp : s.o[p]? = some obp) (hjl : ob.live = true) (hpl : obp.live = true) (hzj : X.z j = false) (hzp : X.z p = false) (hpj : p ≠ j)
    (hl' : ob'.live = true) (hrow : ∀ sz es, ob' ≠ .row sz es) (hnew : ORel (X.fpAt j fun b => (X.c j).fp b ∨ X.blk p b) j ob') : SRel w0 own0 (X.fpAt j fun b => (X.c j).fp b ∨ X.blk p b) ⟨s.t, (s.o.set p .gone).set j ob'⟩ a := by
  have g := hs.g
  have hjn := lt_of_get hj
  have get : ∀ i x, ((s.o.set p .gone).set j ob')[i]? = some x → (i = j ∧ x = ob') ∨ (i ≠ j ∧ i = p ∧ x = .gone) ∨ (i ≠ j ∧ i ≠ p ∧ s.o[i]? = some x) := by
    intro i x hx
    rw [List.getElem?_set] at hx
    by_cases hij : j = i
    · subst hij
      rw [if_pos rfl, if_pos (by simpa using hjn)] at hx
      exact .inl ⟨rfl, (Option.some.inj hx).symm⟩
    · rw [if_neg hij, List.getElem?_set] at hx
      by_cases hip : p = i
      · subst hip
        rw [if_pos rfl, if_pos (lt_of_get hp)] at hx
        exact .inr (.inl ⟨hpj, rfl, (Option.some.inj hx).symm⟩)
      · rw [if_neg hip] at hx
        exact .inr (.inr ⟨fun e => hij e.symm, fun e => hip e.symm, hx⟩)
  have mem : ∀ i x, i ≠ j → i ≠ p → s.o[i]? = some x → ((s.o.set p .gone).set j ob')[i]? = some x := by
    intro i x h1 h2 h3
    rw [List.getElem?_set, if_neg (fun e => h1 e.symm), List.getElem?_set, if_neg (fun e => h2 e.symm)]; exact h3
  have memj : ((s.o.set p .gone).set j ob')[j]? = some ob' := by
    rw [List.getElem?_set, if_pos rfl, if_pos (by simpa using hjn)]
  have bo : ∀ i, i ≠ j → ∀ b, (X.fpAt j fun b => (X.c j).fp b ∨ X.blk p b).blk i b ↔ X.blk i b := fun i hi b => Cx.blk_eq (X := X) (X' := X.fpAt j fun b => (X.c j).fp b ∨ X.blk p b) rfl (if_neg hi)
  have bj : ∀ b, (X.fpAt j fun b => (X.c j).fp b ∨ X.blk p b).blk j b ↔ X.blk j b ∨ X.blk p b := fun b => by
    have e : ((X.fpAt j fun b => (X.c j).fp b ∨ X.blk p b).c j).fp = fun b => (X.c j).fp b ∨ X.blk p b := by simp [Cx.fpAt]
    show X.b j = b ∨ ((X.fpAt j fun b => (X.c j).fp b ∨ X.blk p b).c j).fp b ↔ (X.b j = b ∨ (X.c j).fp b) ∨ X.blk p b
    rw [e, or_assoc]
  refine ⟨hs.len, fun i hi => (hs.slot i hi).fpAt, hs.defers, ?_, hs.ext, hs.fr, hs.new, fun k cs hk => ?_, hs.tab⟩
  · refine ⟨by rw [List.length_set, List.length_set]; exact g.n, fun b => ?_, fun i l x y h1 h2 l1 l2 z1 z2 b b1 b2 => ?_, fun i x h1 l1 z1 b b1 => ?_, g.ext1, fun i x h1 l1 z1 b b1 => ?_, fun i sz es h1 => ?_, fun i x h1 => ?_⟩
    · show X.obj b ↔ _
      rw [g.obj]
      constructor
      · rintro ⟨i, x, e1, e2, e3, e4⟩
        by_cases hij : i = j
        · subst hij; exact ⟨i, ob', memj, hl', hzj, (bj b).2 (.inl e4)⟩
        · by_cases hip : i = p
          · subst hip; exact ⟨j, ob', memj, hl', hzj, (bj b).2 (.inr e4)⟩
          · exact ⟨i, x, mem i x hij hip e1, e2, e3, (bo i hij b).2 e4⟩
      · rintro ⟨i, x, e1, e2, e3, e4⟩
        rcases get i x e1 with ⟨rfl, rfl⟩ | ⟨_, _, rfl⟩ | ⟨h1, h2, h3⟩
        · rcases (bj b).1 e4 with h | h
          · exact ⟨i, ob, hj, hjl, hzj, h⟩
          · exact ⟨p, obp, hp, hpl, hzp, h⟩
        · cases e2
        · exact ⟨i, x, h3, e2, e3, (bo i h1 b).1 e4⟩
    · have inj := g.injB
      rcases get i x h1 with ⟨rfl, rfl⟩ | ⟨_, _, rfl⟩ | ⟨i1, i2, i3⟩ <;> rcases get l y h2 with ⟨e, e'⟩ | ⟨_, _, e'⟩ | ⟨k1, k2, k3⟩
      · exact e.symm
      · rw [e'] at l2; cases l2
      · exfalso
        rcases (bj b).1 b1 with h | h
        · exact k1 (inj l i y ob k3 hj l2 hjl z2 hzj b ((bo l k1 b).1 b2) h)
        · exact k2 (inj l p y obp k3 hp l2 hpl z2 hzp b ((bo l k1 b).1 b2) h)
      · cases l1
      · cases l1
      · cases l1
      · exfalso
        subst e
        rcases (bj b).1 b2 with h | h
        · exact i1 (inj i l x ob i3 hj l1 hjl z1 hzj b ((bo i i1 b).1 b1) h)
        · exact i2 (inj i p x obp i3 hp l1 hpl z1 hzp b ((bo i i1 b).1 b1) h)
      · rw [e'] at l2; cases l2
      · exact inj i l x y i3 k3 l1 l2 z1 z2 b ((bo i i1 b).1 b1) ((bo l k1 b).1 b2)
    · rcases get i x h1 with ⟨rfl, rfl⟩ | ⟨_, _, rfl⟩ | ⟨i1, i2, i3⟩
      · rcases (bj b).1 b1 with h | h
        · exact g.ltB i ob hj hjl hzj b h
        · exact g.ltB p obp hp hpl hzp b h
      · cases l1
      · exact g.ltB i x i3 l1 z1 b ((bo i i1 b).1 b1)
    · rcases get i x h1 with ⟨rfl, rfl⟩ | ⟨_, _, rfl⟩ | ⟨i1, i2, i3⟩
      · rcases (bj b).1 b1 with h | h
        · exact g.ext2B i ob hj hjl hzj b h
        · exact g.ext2B p obp hp hpl hzp b h
      · cases l1
      · exact g.ext2B i x i3 l1 z1 b ((bo i i1 b).1 b1)
    · rcases get i _ h1 with ⟨rfl, e⟩ | ⟨_, _, e⟩ | ⟨i1, i2, i3⟩
      · exact absurd e.symm (hrow sz es)
      · cases e
      · exact g.rws i sz es i3
    · rcases get i x h1 with ⟨rfl, rfl⟩ | ⟨_, _, rfl⟩ | ⟨i1, i2, i3⟩
      · exact hnew
      · trivial
      · exact (g.rel i x i3).fpAt i1
  · rcases get k _ hk with ⟨_, e⟩ | ⟨_, _, e⟩ | ⟨i1, i2, i3⟩
    · rw [← e] at hl'; cases hl'
    · cases e
    · obtain ⟨l, r⟩ := hs.gh k cs i3
      exact ⟨l, fun q hq => (r q hq).fpAt⟩
theorem swap_srel {w0 : World} {own0 : O0} {X : Cx} {s : S} {a : Act} (hs : SRel w0 own0 X s a) {j : Nat} {ob ob' : Ob} (hj : s.o[j]? = some ob) (hjl : ob.live = true) (hz : X.z j = false) (hl' : ob'.live = true) (hrow : ∀ sz es, ob' = .row sz es → X.rw j = true) (hnew : ORel X j ob') :
    SRel w0 own0 X ⟨s.t, s.o.set j ob'⟩ a := by
  have h := updC_srel (c := X.b j) (obj := (X.w.heap[X.b j]?).getD default) hs hj hjl hz (.inl rfl) hl' hrow
  have e : X.updC (X.b j) ((X.w.heap[X.b j]?).getD default) = X := by
    have hlt := hs.g.lt j ob hj hjl hz
    have : X.w.heap.setIfInBounds (X.b j) ((X.w.heap[X.b j]?).getD default) = X.w.heap := by
      apply Array.ext_getElem?
      intro i
      rw [Array.getElem?_setIfInBounds]
      by_cases h : X.b j = i
      · subst h; simp [hlt]
      · simp [h]
    show ({ X with w := { X.w with heap := X.w.heap.setIfInBounds (X.b j) ((X.w.heap[X.b j]?).getD default) } } : Cx) = X
    rw [this]
  rw [e] at h
  exact h hnew
end Go.AM
