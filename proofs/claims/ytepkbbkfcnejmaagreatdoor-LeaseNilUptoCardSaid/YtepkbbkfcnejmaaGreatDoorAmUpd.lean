import Derived.Test.YtepkbbkfcnejmaaGreatDoorAmObj
set_option linter.unusedSimpArgs false
set_option linter.unusedVariables false
set_option linter.unnecessarySimpa false
namespace Go.AM
open Go.RowKit
mutual
theorem kill_firm : ∀ {x : AV} (h : x.firm = true) (r : Nat), x.kill r = x
  | .d _, h, r => rfl
  | .rf _ _, h, r => rfl
  | .mp _, h, r => rfl
  | .nl, h, r => rfl
  | .fn f fs cs, h, r => by
    simp only [AV.firm, Bool.and_eq_true] at h
    simp only [AV.kill]
    rw [kill_firmL h.1 r, kill_firmL h.2 r]
  | .ag cs, h, r => by
    simp only [AV.firm] at h
    simp only [AV.kill]
    rw [kill_firmL h r]
  | .vw _ _, h, r => by cases h
  | .rp _ _ _ _, h, r => by cases h
  | .ep _, h, r => by cases h
  | .tp _, h, r => by cases h
  | .opt _ _, h, r => by cases h
  | .jk, h, r => by cases h
theorem kill_firmL : ∀ {l : List AV} (h : firmL l = true) (r : Nat), killL r l = l
  | [], h, r => rfl
  | x :: l, h, r => by
    simp only [firmL, Bool.and_eq_true] at h
    simp only [killL]
    rw [kill_firm h.1 r, kill_firmL h.2 r]
end
theorem ORel.kill {X X' : Cx} (r : Nat) (hrw : X.rw r = true) (hk : Keeps X.own X.w X'.own X'.w) (hn : X.n ≤ X'.n) (hb : ∀ i, i < X.n → i ≠ r → X'.b i = X.b i ∧ X'.c i = X.c i ∧ X'.z i = X.z i ∧ X'.rw i = X.rw i) {i : Nat} (hi : i < X.n) (hir : i ≠ r) {ob : Ob}
    (hheapB : ob.live = true → X.z i = false → ∀ c, X.blk i c → X'.w.heap[c]? = X.w.heap[c]?) (h : ORel X i ob) : ORel X' i (ob.killO r) := by
  obtain ⟨e1, e2, e3, e4⟩ := hb i hi hir
  have hheap : ob.live = true → X.z i = false → X'.w.heap[X.b i]? = X.w.heap[X.b i]? := fun h1 h2 => hheapB h1 h2 _ (.inl rfl)
  cases ob with
  | box cs =>
    obtain ⟨hz, arr, T, h1, h2, h3⟩ := h
    refine ⟨e3.trans hz, arr, T, by rw [e1, hheap rfl hz]; exact h1, by simp [killL_eq, h2], fun j hj => ?_⟩
    simp only [killL_eq, List.length_map] at hj
    simp only [killL_eq, List.getElem_map]
    exact (h3 j hj).kill r hrw hk hn hb
  | row sz es =>
    obtain ⟨p1, p2, ⟨hz, he⟩ | ⟨hz, arr, T, h1, hlen, h2, h3, h4, h5⟩⟩ := h
    · exact ⟨p1, p2, .inl ⟨e3.trans hz, he⟩⟩
    · exact ⟨p1, p2, .inr ⟨e3.trans hz, arr, T, by rw [e1, hheap rfl hz]; exact h1, by rw [e2]; exact hlen, by rw [e2]; exact h2, by rw [e2]; exact h3, h4, fun k hk' j hj => (h5 k hk' j hj).mono hk⟩⟩
  | map kk ents =>
    obtain ⟨hz, hkk, me, clock, h1, h2, h3, h4, h5⟩ := h
    refine ⟨e3.trans hz, hkk, me, clock, by rw [e1, hheap rfl hz]; exact h1, h2, h3, h4, fun j hj hj' => ⟨(h5 j hj hj').1, (h5 j hj hj').2.1, ?_⟩⟩
    have := (h5 j hj hj').2.2.kill r hrw hk hn hb
    rwa [kill_firm (h5 j hj hj').2.1] at this
  | gone => trivial
  | gh cs => trivial
  | pow es =>
    obtain ⟨p0, p1, p2, ⟨hz, he⟩ | ⟨hz, arr, T, h1, hlen, h2, h3, h4⟩⟩ := h
    · exact ⟨e4.trans p0, p1, p2, .inl ⟨e3.trans hz, he⟩⟩
    · refine ⟨e4.trans p0, p1, p2, .inr ⟨e3.trans hz, arr, T, by rw [e1, hheap rfl hz]; exact h1, by rw [e2]; exact hlen, by rw [e2]; exact h2, by rw [e2]; exact h3, fun j hj => ?_⟩⟩
      have := (h4 j hj).kill r hrw hk hn hb
      rwa [kill_firm (p2 _ (List.getElem_mem hj)).1] at this
  | bun R =>
    obtain ⟨hz, hp⟩ := h
    refine ⟨e3.trans hz, ?_⟩
    show R.p X'.own X'.w (X'.b i) (X'.c i).fp
    rw [e1, e2]
    exact R.stab hp hk.size (fun c h1 h2 => hk.keep c h1 h2) fun c hc => hheapB rfl hz c (hc.elim (fun e => .inl e.symm) .inr)
theorem killO_live (r : Nat) (ob : Ob) : (ob.killO r).live = ob.live := by cases ob <;> rfl
def killOs (kl : Bool) (r : Nat) (o : List Ob) : List Ob := if kl then o.map (Ob.killO r) else o
theorem killOs_get (kl : Bool) (r : Nat) (o : List Ob) (i : Nat) : (killOs kl r o)[i]? = (o[i]?).map fun ob => if kl then ob.killO r else ob := by
  unfold killOs; cases kl <;> simp
theorem ghok_kill {o : List Ob} {kl : Bool} {r : Nat} {ob' : Ob} (hl : ob'.live = true) : GhOk o ((killOs kl r o).set r ob') (if kl then some r else none) := fun k cs' h => by
  rw [List.getElem?_set] at h
  split at h
  · split at h
    · cases h; cases hl
    · cases h
  · rw [killOs_get] at h
    obtain ⟨y, hy, e⟩ := Option.map_eq_some_iff.1 h
    cases kl with
    | false =>
      simp only [Bool.false_eq_true, if_false] at e
      subst e
      exact ⟨cs', hy, rfl⟩
    | true =>
      simp only [if_true] at e
      cases y <;> simp [Ob.killO] at e
      subst e
      exact ⟨_, hy, rfl⟩
theorem killOs_length (kl : Bool) (r : Nat) (o : List Ob) : (killOs kl r o).length = o.length := by
  unfold killOs; cases kl <;> simp
theorem change_grel {X X' : Cx} {o : List Ob} (h : GRel X o) (r : Nat) (ob' : Ob) (kl : Bool) (hr : r < o.length) (hlive : ob'.live = true) (hn : X'.n = X.n)
    (hagree : ∀ i, i < X.n → i ≠ r → X'.b i = X.b i ∧ X'.c i = X.c i ∧ X'.z i = X.z i ∧ X'.rw i = X.rw i) (hrw : X'.rw r = X.rw r) (hk : Keeps X.own X.w X'.own X'.w)
    (hother : ∀ i ob, o[i]? = some ob → i ≠ r → ob.live = true → X.z i = false → ∀ c, X.blk i c → X'.w.heap[c]? = X.w.heap[c]?)
    (hext : X'.ext = X.ext) (hext2 : X'.z r = false → ∀ b, X'.blk r b → ¬ X.ext b) (hown : ∀ b, X'.obj b ↔ (∃ i ob, o[i]? = some ob ∧ i ≠ r ∧ ob.live = true ∧ X.z i = false ∧ X.blk i b) ∨ (X'.z r = false ∧ X'.blk r b))
    (hinj : X'.z r = false → ∀ i ob, o[i]? = some ob → i ≠ r → ob.live = true → X.z i = false → ∀ b, X.blk i b → ¬ X'.blk r b)
    (hlt : X'.z r = false → ∀ b, X'.blk r b → b < X'.w.heap.size) (hrow : ∀ sz es, ob' = .row sz es → X.rw r = true)
    (hkl0 : kl = false → X'.b r = X.b r ∧ X'.c r = X.c r ∧ X'.z r = X.z r) (hkl1 : kl = true → X.rw r = true) (hnew : ORel X' r ob') :
    GRel X' ((killOs kl r o).set r ob') := by
  have get : ∀ i x, ((killOs kl r o).set r ob')[i]? = some x → (i = r ∧ x = ob') ∨ (i ≠ r ∧ ∃ y, o[i]? = some y ∧ x = if kl then y.killO r else y) := by
    intro i x hx
    rw [List.getElem?_set] at hx
    by_cases hir : r = i
    · subst hir
      simp only [if_true, killOs_length, hr] at hx
      exact .inl ⟨rfl, by simpa using hx.symm⟩
    · simp only [hir, if_false, killOs_get] at hx
      obtain ⟨y, hy, e⟩ := Option.map_eq_some_iff.1 hx
      exact .inr ⟨fun e => hir e.symm, y, hy, e.symm⟩
  have lv : ∀ y : Ob, (if kl then y.killO r else y).live = y.live := by intro y; cases kl <;> simp [killO_live]
  have back : ∀ i y, o[i]? = some y → i ≠ r → ((killOs kl r o).set r ob')[i]? = some (if kl then y.killO r else y) := by
    intro i y hy hir
    rw [List.getElem?_set, if_neg (fun e => hir e.symm), killOs_get, hy]; rfl
  have ag : ∀ i y, o[i]? = some y → i ≠ r → X'.b i = X.b i ∧ X'.c i = X.c i ∧ X'.z i = X.z i ∧ X'.rw i = X.rw i := fun i y hy hir => hagree i (by rw [h.n]; exact lt_of_get hy) hir
  have bk : ∀ i y, o[i]? = some y → i ≠ r → ∀ b, X'.blk i b ↔ X.blk i b := fun i y hy hir b => let ⟨e1, e2, _, _⟩ := ag i y hy hir; Cx.blk_eq e1 e2
  constructor
  · rw [hn, h.n]; simp [killOs_length]
  · intro b
    rw [hown]
    constructor
    · rintro (⟨i, ob, h1, h2, h3, h4, h5⟩ | ⟨h1, h2⟩)
      · obtain ⟨e1, _, e3, _⟩ := ag i ob h1 h2
        exact ⟨i, _, back i ob h1 h2, by rw [lv]; exact h3, e3.trans h4, (bk i ob h1 h2 b).2 h5⟩
      · refine ⟨r, ob', ?_, hlive, h1, h2⟩
        rw [List.getElem?_set, if_pos rfl, if_pos (by rw [killOs_length]; exact hr)]
    · rintro ⟨i, x, h1, h2, h3, h4⟩
      rcases get i x h1 with ⟨rfl, rfl⟩ | ⟨hir, y, hy, rfl⟩
      · exact .inr ⟨h3, h4⟩
      · obtain ⟨e1, _, e3, _⟩ := ag i y hy hir
        rw [lv] at h2
        exact .inl ⟨i, y, hy, hir, h2, e3.symm.trans h3, (bk i y hy hir b).1 h4⟩
  · intro i j x y h1 h2 l1 l2 z1 z2 b b1 b2
    rcases get i x h1 with ⟨q1, _⟩ | ⟨hir, x', hx, r1⟩ <;> rcases get j y h2 with ⟨q2, _⟩ | ⟨hjr, y', hy, r2⟩
    · omega
    · exfalso
      obtain ⟨e1, _, e3, _⟩ := ag j y' hy hjr
      rw [r2, lv] at l2
      subst q1
      exact hinj z1 j y' hy hjr l2 (e3.symm.trans z2) b ((bk j y' hy hjr b).1 b2) b1
    · exfalso
      obtain ⟨e1, _, e3, _⟩ := ag i x' hx hir
      rw [r1, lv] at l1
      subst q2
      exact hinj z2 i x' hx hir l1 (e3.symm.trans z1) b ((bk i x' hx hir b).1 b1) b2
    · obtain ⟨e1, _, e3, _⟩ := ag i x' hx hir
      obtain ⟨f1, _, f3, _⟩ := ag j y' hy hjr
      rw [r1, lv] at l1
      rw [r2, lv] at l2
      exact h.injB i j x' y' hx hy l1 l2 (e3.symm.trans z1) (f3.symm.trans z2) b ((bk i x' hx hir b).1 b1) ((bk j y' hy hjr b).1 b2)
  · intro i x h1 l1 z1 b b1
    rcases get i x h1 with ⟨rfl, _⟩ | ⟨hir, y, hy, r1⟩
    · exact hlt z1 b b1
    · obtain ⟨e1, _, e3, _⟩ := ag i y hy hir
      rw [r1, lv] at l1
      exact Nat.lt_of_lt_of_le (h.ltB i y hy l1 (e3.symm.trans z1) b ((bk i y hy hir b).1 b1)) hk.size
  · intro b hb
    rw [hext] at hb
    exact Nat.lt_of_lt_of_le (h.ext1 b hb) hk.size
  · intro i x h1 l1 z1 b b1
    rw [hext]
    rcases get i x h1 with ⟨rfl, _⟩ | ⟨hir, y, hy, r1⟩
    · exact hext2 z1 b b1
    · obtain ⟨e1, _, e3, _⟩ := ag i y hy hir
      rw [r1, lv] at l1
      exact h.ext2B i y hy l1 (e3.symm.trans z1) b ((bk i y hy hir b).1 b1)
  · intro i sz es h1
    rcases get i _ h1 with ⟨rfl, e⟩ | ⟨hir, y, hy, r1⟩
    · rw [hrw]; exact hrow sz es e.symm
    · obtain ⟨_, _, _, e4⟩ := ag i y hy hir
      rw [e4]
      cases kl with
      | false => simp only [Bool.false_eq_true, if_false] at r1; subst r1; exact h.rws i sz es hy
      | true =>
        simp only [if_true] at r1
        cases y <;> simp [Ob.killO] at r1
        obtain ⟨rfl, rfl⟩ := r1
        exact h.rws i _ _ hy
  · intro i x h1
    rcases get i x h1 with ⟨rfl, rfl⟩ | ⟨hir, y, hy, r1⟩
    · exact hnew
    · have hi : i < X.n := by rw [h.n]; exact lt_of_get hy
      cases kl with
      | false =>
        simp only [Bool.false_eq_true, if_false] at r1
        subst r1
        obtain ⟨k1, k2, k3⟩ := hkl0 rfl
        refine ORel.step hk (by omega) (fun j hj => ?_) hi (fun l z => hother i _ hy hir l z) (h.rel i _ hy)
        by_cases hjr : j = r
        · subst hjr; exact ⟨k1, k2, k3, hrw⟩
        · exact hagree j hj hjr
      | true =>
        simp only [if_true] at r1
        subst r1
        exact ORel.kill r (hkl1 rfl) hk (by omega) hagree hi hir (fun l z => hother i _ hy hir l z) (h.rel i _ hy)
def Cx.upd (X : Cx) (i : Nat) (obj : Obj) : Cx := { X with w := { X.w with heap := X.w.heap.setIfInBounds (X.b i) obj } }
theorem heap_upd (X : Cx) (i : Nat) (obj : Obj) (j : Nat) : (X.upd i obj).w.heap[j]? = if X.b i = j ∧ j < X.w.heap.size then some obj else X.w.heap[j]? := by
  simp only [Cx.upd, Array.getElem?_setIfInBounds]
  by_cases h : X.b i = j
  · subst h
    by_cases h' : X.b i < X.w.heap.size
    · simp [h']
    · simp [h']
  · simp [h]
theorem upd_keepsO {X : Cx} {o : List Ob} (h : GRel X o) {i : Nat} {ob : Ob} (hi : o[i]? = some ob) (hl : ob.live = true) (hz : X.z i = false) (obj : Obj) : Keeps X.obj X.w (X.upd i obj).obj (X.upd i obj).w :=
  ⟨by simp [Cx.upd], fun b hb ho => ⟨by
    rw [heap_upd, if_neg]
    rintro ⟨e, _⟩
    exact ho ((h.obj b).2 ⟨i, ob, hi, hl, hz, .inl e⟩), ho⟩⟩
theorem upd_keeps {X : Cx} {o : List Ob} (h : GRel X o) {i : Nat} {ob : Ob} (hi : o[i]? = some ob) (hl : ob.live = true) (hz : X.z i = false) (obj : Obj) : Keeps X.own X.w (X.upd i obj).own (X.upd i obj).w := Cx.keeps (upd_keepsO h hi hl hz obj) rfl
theorem upd_srel {w0 : World} {own0 : O0} {X : Cx} {s : S} {a : Act} (hs : SRel w0 own0 X s a) (kl : Bool) {i : Nat} {ob ob' : Ob} {obj : Obj} (hi : s.o[i]? = some ob) (hl : ob.live = true) (hz : X.z i = false) (hl' : ob'.live = true)
    (hrow : ∀ sz es, ob' = .row sz es → X.rw i = true) (hkl : kl = true → X.rw i = true) (hnew : ORel (X.upd i obj) i ob') : SRel w0 own0 (X.upd i obj) ⟨killT (if kl then some i else none) s.t, (killOs kl i s.o).set i ob'⟩ a := by
  have hk := upd_keeps hs.g hi hl hz obj
  refine hs.change _ (fun r hr => ?_) (upd_keepsO hs.g hi hl hz obj) rfl ⟨rfl, rfl, rfl⟩ (Nat.le_refl _) (fun _ _ _ => ⟨rfl, rfl, rfl, rfl⟩) ?_ (fun b hb => .inl hb) (ghok_kill hl')
  · cases kl <;> simp at hr; subst hr; exact hkl rfl
  · refine change_grel hs.g i ob' kl (lt_of_get hi) hl' rfl (fun _ _ _ => ⟨rfl, rfl, rfl, rfl⟩) rfl hk (fun j y hy hji l z c hc => ?_) rfl (fun _ => hs.g.ext2B i ob hi hl hz) (fun b => ?_) (fun _ j y hy hji l z b b1 b2 => ?_) (fun _ b b1 => ?_) hrow (fun _ => ⟨rfl, rfl, rfl⟩) hkl hnew
    · rw [heap_upd, if_neg]
      rintro ⟨e, _⟩
      exact hji (hs.g.injB j i y ob hy hi l hl z hz c hc (.inl e))
    · show X.obj b ↔ _
      rw [hs.g.obj]
      constructor
      · rintro ⟨j, y, h1, h2, h3, h4⟩
        by_cases hji : j = i
        · subst hji; exact .inr ⟨hz, h4⟩
        · exact .inl ⟨j, y, h1, hji, h2, h3, h4⟩
      · rintro (⟨j, y, h1, _, h2, h3, h4⟩ | ⟨_, h2⟩)
        · exact ⟨j, y, h1, h2, h3, h4⟩
        · exact ⟨i, ob, hi, hl, hz, h2⟩
    · exact hji (hs.g.injB j i y ob hy hi l hl z hz b b1 b2)
    · show b < (X.w.heap.setIfInBounds (X.b i) obj).size
      simpa using hs.g.ltB i ob hi hl hz b b1
end Go.AM
