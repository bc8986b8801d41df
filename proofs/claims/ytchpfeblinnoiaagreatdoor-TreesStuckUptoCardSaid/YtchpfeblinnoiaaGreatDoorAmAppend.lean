import Derived.Test.YtchpfeblinnoiaaGreatDoorAmBuild
set_option linter.unusedSimpArgs false
set_option linter.unusedVariables false
set_option linter.unnecessarySimpa false
namespace Go.AM
open Go.RowKit
section
variable {P : Program} {X : Cx} {a : Act} {o : Oper} {K : TypeId → Option TK} {s : S} {q : Q1} {w0 : World} {own0 : O0} {next : Act → World → Prop} {Q : Exit → Act → World → Prop} {Γ : List (FuncId × En)}
theorem drel_cellV {own : Nat → Prop} {w : World} {d : D} {v : Value} (h : DRel own w d v) : cellV v = true := by
  cases h with
  | v hx => cases v <;> first | rfl | (simp [plainV] at hx)
  | _ => rfl
theorem divmod {m n sz : Nat} (hsz : 0 < sz) (h : m < n * sz) : m / sz < n ∧ m % sz < sz ∧ m / sz * sz + m % sz = m :=
  ⟨Nat.div_lt_of_lt_mul (by rw [Nat.mul_comm]; exact h), Nat.mod_lt _ hsz, by rw [Nat.mul_comm]; exact Nat.div_add_mod m sz⟩
theorem rows_cellV {own : Nat → Prop} {sz : Nat} {es : List (List D)} {arr : Array Value} (hsz : 0 < sz) (h : RowsRel X own sz es arr) (hl : arr.size = es.length * sz) : ∀ v ∈ arr.toList, cellV v = true := by
  intro v hv
  obtain ⟨m, hm, rfl⟩ := List.getElem_of_mem hv
  have hm' : m < es.length * sz := by simpa [hl] using hm
  obtain ⟨h1, h2, h3⟩ := divmod hsz hm'
  have := h.2 (m / sz) h1 (m % sz) (by rw [h.1 _ h1]; exact h2)
  rw [h3] at this
  have hm2 : m < arr.size := by simpa using hm
  have e : arr.getD m undef = arr.toList[m] := by simp [Array.getD_eq_getD_getElem?, hm2]
  rw [e] at this
  exact drel_cellV this
theorem seq_sound {ob : List Ob} (g : GRel X ob) {y : AV} {v : Value} {es2 : List (List D)} {sz : Nat} (hpos : 0 < sz) (hv : VRel X y v) (h : y.toD ob = some (.sl es2)) (hsz : ∀ c ∈ es2, c.length = sz) :
    (∀ w', (Builtin.lenOf v).run P w' = .ok es2.length w') ∧ ∃ vals : Array Value, (∀ w', (∀ ad, w'.cell? ad = X.w.cell? ad) → (Builtin.firstCells sz es2.length v).run P w' = .ok vals w') ∧ vals.size = es2.length * sz ∧ RowsRel X X.own sz es2 vals := by
  have key : ∀ (b off cap : Nat) (gg : Nat → Nat → Value), v = .slice (some ⟨b, off, none⟩) es2.length cap → (∀ i j, i < es2.length → j < sz → X.w.cell? ⟨b, off + (i * sz + j), none⟩ = some (gg i j)) →
      (∀ (i : Nat) (hi : i < es2.length) (j : Nat) (hj : j < es2[i].length), DRel X.own X.w es2[i][j] (gg i j)) → (∀ w', (Builtin.lenOf v).run P w' = .ok es2.length w') ∧ ∃ vals : Array Value, (∀ w', (∀ ad, w'.cell? ad = X.w.cell? ad) → (Builtin.firstCells sz es2.length v).run P w' = .ok vals w') ∧ vals.size = es2.length * sz ∧ RowsRel X X.own sz es2 vals := by
    intro b off cap gg e hc hr
    subst e
    refine ⟨fun w' => by simp [Builtin.lenOf], ((List.range (es2.length * sz)).map fun m => gg (m / sz) (m % sz)).toArray, ?_, by simp, fun k hk => hsz _ (List.getElem_mem _), fun k hk j hj => ?_⟩
    · intro w' hw'
      simp only [Builtin.firstCells]
      refine run_loadCells fun m hm => ?_
      obtain ⟨h1, h2, h3⟩ := divmod hpos hm
      have := hc (m / sz) (m % sz) h1 h2
      rw [h3] at this
      rw [hw']; exact this
    · have hj' : j < sz := by rw [← hsz _ (List.getElem_mem hk)]; exact hj
      have hlt := idx_lt hk hj'
      have e : ((List.range (es2.length * sz)).map fun m => gg (m / sz) (m % sz)).toArray.getD (k * sz + j) undef = gg k j := by
        have h1 : (k * sz + j) / sz = k := by rw [Nat.mul_comm, Nat.mul_add_div hpos, Nat.div_eq_of_lt hj']; omega
        have h2 : (k * sz + j) % sz = j := by rw [Nat.mul_comm, Nat.mul_add_mod, Nat.mod_eq_of_lt hj']
        simp [Array.getD_eq_getD_getElem?, hlt, h1, h2]
      rw [e]; exact hr k hk j hj
  have empty : es2 = [] → (∃ ad cap, v = .slice ad 0 cap) → (∀ w', (Builtin.lenOf v).run P w' = .ok es2.length w') ∧ ∃ vals : Array Value, (∀ w', (∀ ad, w'.cell? ad = X.w.cell? ad) → (Builtin.firstCells sz es2.length v).run P w' = .ok vals w') ∧ vals.size = es2.length * sz ∧ RowsRel X X.own sz es2 vals := by
    rintro rfl ⟨ad, cap, rfl⟩
    exact ⟨fun w' => by simp [Builtin.lenOf], #[], fun w' _ => by cases ad <;> simp [Builtin.firstCells, loadCells, loadCellsFrom], by simp, fun k hk => absurd hk (by simp), fun k hk => absurd hk (by simp)⟩
  cases y with
  | d x =>
    simp only [AV.toD, Option.some.injEq] at h; subst h
    obtain ⟨_, ⟨e1, e2⟩ | ⟨b, off, cap, sz', gg, e, hcap, hz, hb, hs', hcell, hr⟩⟩ := inv_sl hv
    · exact empty e1 e2
    · by_cases h0 : es2 = []
      · subst h0
        exact key b off cap gg e (fun i j hi => absurd hi (by simp)) hr
      · have hl : 0 < es2.length := List.length_pos_iff.2 h0
        have : sz' = sz := by rw [← hs' 0 hl]; exact hsz _ (List.getElem_mem _)
        subst this
        exact key b off cap gg e hcell hr
  | nl =>
    simp only [AV.toD, Option.some.injEq, D.sl.injEq] at h
    exact empty h.symm ⟨_, _, inv_nl hv⟩
  | vw r n =>
    simp only [AV.toD] at h
    split at h
    · rename_i sz' es hr
      simp only [Option.some.injEq, D.sl.injEq] at h
      obtain ⟨hlt, ⟨hz, ⟨hn, hn2⟩, e⟩ | ⟨hz, rfl, e⟩⟩ := inv_vw hv
      · obtain ⟨p1, p2, ⟨hz', _⟩ | ⟨_, arr, T, h1, hlen, h2, h3, h4, h5⟩⟩ := g.rel r _ hr
        · rw [hz] at hz'; cases hz'
        · have hl : es2.length = n := by rw [← h]; simp; omega
          by_cases h0 : es2 = []
          · subst h0
            simp only [List.length_nil] at hl
            subst hl
            exact key (X.b r) 0 (X.c r).1 (fun _ _ => undef) e (fun i j hi => absurd hi (by simp)) (fun i hi => absurd hi (by simp))
          · have hpos2 : 0 < es2.length := List.length_pos_iff.2 h0
            have hszz : sz' = sz := by
              rw [← h4 0 (by omega), ← hsz es2[0] (List.getElem_mem _)]
              subst h; simp
            subst hszz
            rw [← hl] at e
            refine key (X.b r) 0 (X.c r).1 (fun i j => arr.getD (i * sz' + j) undef) e (fun i j hi hj => ?_) (fun i hi j hj => ?_)
            · rw [Nat.zero_add]
              refine cell_of_heap h1 ?_
              have : (i + 1) * sz' ≤ (X.c r).1 * sz' := Nat.mul_le_mul_right _ (by omega)
              rw [Nat.add_mul] at this; omega
            · subst h
              simp only [List.getElem_take] at hj ⊢
              exact h5 i (by simp at hi; omega) j hj
      · exact empty (by rw [← h]; simp) ⟨_, _, e⟩
    · cases h
  | fn f fs cs =>
    simp only [AV.toD] at h
    split at h <;> cases h
  | _ => simp [AV.toD] at h
theorem growBy_le (newLen G : Nat) (hG : newLen + (newLen + 768) / 4 ≤ G) : ∀ (r c : Nat), c ≤ G → Builtin.growBy newLen r c ≤ G
  | 0, c, h => by simpa [Builtin.growBy] using h
  | r + 1, c, h => by
    simp only [Builtin.growBy]
    split
    · exact h
    · exact growBy_le newLen G hG r _ (by omega)
theorem nextcap_le {need cap : Nat} (h1 : need ≤ LIM) (h2 : cap < need) : Builtin.nextslicecap need cap ≤ 4294967296 := by
  unfold LIM at h1
  unfold Builtin.nextslicecap
  split
  · omega
  · split
    · omega
    · exact growBy_le need _ (by omega) 4 cap (by omega)
theorem run_append_room {t t2 e e2 type : TypeId} {base : Option Addr} {n cap m sz : Nat} {yv : Value} {vals : Array Value} {w w1 : World} (hu : P.underlying t = some (.slice e)) (hu2 : P.underlying t2 = some (.slice e2)) (hsz : ∀ w, (sizeOf e).run P w = .ok sz w)
    (hl : ∀ w', (Builtin.lenOf yv).run P w' = .ok m w') (hv : (Builtin.firstCells sz m yv).run P w = .ok vals w) (hn : n + m ≤ cap)
    (hst : ∀ ad, base = some ad → (storeCells (ad.add (n * sz)) vals.toList).run P w = .ok () w1) (hnone : base = none → w1 = w) :
    (Builtin.append_ #[t, t2] type #[.slice base n cap, yv]).run P w = .ok (.slice base (n + m) cap) w1 := by
  cases base with
  | none =>
    simp [Builtin.append_, run_under hu, run_under hu2, hsz, hl, hv, hn, hnone rfl]
  | some ad =>
    simp [Builtin.append_, run_under hu, run_under hu2, hsz, hl, hv, hn, hst ad rfl]
theorem run_append_grow {t t2 e e2 type : TypeId} {base : Option Addr} {n cap m sz : Nat} {yv : Value} {vals old : Array Value} {w : World} {k : TK} (hK : KOk P K) (hk : K e = some k) (hksz : k.sz = sz) (hz : k.zero.length = k.sz) (hby : k.bytes ≤ 32768) (hu : P.underlying t = some (.slice e)) (hu2 : P.underlying t2 = some (.slice e2))
    (hl : ∀ w', (Builtin.lenOf yv).run P w' = .ok m w') (hv : ∀ w', (∀ ad, w'.cell? ad = w.cell? ad) → (Builtin.firstCells sz m yv).run P w' = .ok vals w')
    (ho : ∀ w', (∀ ad, w'.cell? ad = w.cell? ad) → (Builtin.firstCells sz n (.slice base n cap)).run P w' = .ok old w') (hn : ¬ n + m ≤ cap) (hlim : n + m ≤ LIM) :
    ∃ (newCap : Nat) (rest : Array Value), n + m ≤ newCap ∧ rest.size = (newCap - (n + m)) * sz ∧ (Builtin.append_ #[t, t2] type #[.slice base n cap, yv]).run P w = .ok (.slice (some ⟨w.heap.size, 0, none⟩) (n + m) newCap) (w.drew.alloc (.cells (old ++ vals ++ rest) e)) := by
  have ti := hK e k hk
  obtain ⟨tinf, hti, hs1, hb1, _⟩ := ti.info
  obtain ⟨z, hr, z1, _, _, _⟩ := run_zero ti hz
  have hinf : ∀ w', (typeInfo e).run P w' = .ok tinf w' := fun w' => by simp [typeInfo, program, Sem.run, hti]
  have hnc := nextcap_le hlim (show cap < n + m by omega)
  have hbig : ¬ Builtin.nextslicecap (n + m) cap * tinf.bytes > 281474976710656 := by
    have : Builtin.nextslicecap (n + m) cap * tinf.bytes ≤ 4294967296 * 32768 := Nat.mul_le_mul hnc (by omega)
    omega
  have hb0 : ¬ ((9223372036854775807 : Int) < (n : Int) + (m : Int) ∧ tinf.bytes = 0) := by
    rintro ⟨h, _⟩
    unfold LIM at hlim
    omega
  have hbig' : ¬ 281474976710656 < Builtin.nextslicecap (n + m) cap * tinf.bytes := by omega
  let newCap := n + m + w.tape w.drawn (.appendCap (n + m) cap e) % (2 ^ 63 - (n + m))
  refine ⟨newCap, Builtin.zeroCells z.cells (newCap - (n + m)), by omega, by simp [Builtin.zeroCells, z1, hksz], ?_⟩
  have hd : ∀ ad, w.drew.cell? ad = w.cell? ad := fun _ => rfl
  have hforced : (Question.appendCap (n + m) cap e).forced = false := rfl
  have hcut : (Question.appendCap (n + m) cap e).cut (w.tape w.drawn (Question.appendCap (n + m) cap e)) = newCap := rfl
  simp only [Builtin.append_, Array.getElem?_eq_getElem, Sem.run_bind]
  simp [run_under hu, run_under hu2, run_sizeOf hK hk, hksz, hl, hn, hinf, hb0, hbig', hforced, hcut, ho w.drew hd, hv w.drew hd, hr, newRow, newObj, Sem.run]
def Cx.move (X : Cx) (r : Nat) (w : World) (c : CC) : Cx where
  b := fun i => if i = r then X.w.heap.size else X.b i
  c := fun i => if i = r then c else X.c i
  z := fun i => if i = r then false else X.z i
  rw := X.rw
  n := X.n
  obj := fun b => (X.obj b ∧ ¬ (X.z r = false ∧ X.blk r b)) ∨ b = X.w.heap.size
  ext := X.ext
  w := w
theorem move_blk {X : Cx} {r : Nat} {w : World} {c1 c2 : Nat} (b : Nat) : (X.move r w (cc c1 c2)).blk r b ↔ b = X.w.heap.size := by
  simp only [Cx.blk, Cx.move, if_true, cc_fp, or_false]; exact eq_comm
theorem move_srel (hs : SRel w0 own0 X s a) {r : Nat} {ob ob' : Ob} {obj : Obj} {c1 c2 : Nat} (hi : s.o[r]? = some ob) (hl : ob.live = true) (hl' : ob'.live = true)
    (hrow : X.rw r = true) (hnew : ORel (X.move r (X.w.drew.alloc obj) (cc c1 c2)) r ob') : SRel w0 own0 (X.move r (X.w.drew.alloc obj) (cc c1 c2)) ⟨killT (some r) s.t, (killOs true r s.o).set r ob'⟩ a := by
  have hheap : ∀ b, b < X.w.heap.size → (X.w.drew.alloc obj).heap[b]? = X.w.heap[b]? := fun b hb => heap_alloc X.w.drew obj b hb
  have hk : Keeps X.obj X.w (X.move r (X.w.drew.alloc obj) (cc c1 c2)).obj (X.move r (X.w.drew.alloc obj) (cc c1 c2)).w :=
    ⟨by simp [Cx.move], fun b hb ho => ⟨hheap b hb, fun hh => hh.elim (fun h => ho h.1) (by omega)⟩⟩
  refine hs.change (some r) (fun _ e => by cases e; exact hrow) hk rfl ⟨rfl, rfl, rfl⟩ (Nat.le_refl _) (fun i _ hne => ?_) ?_ (fun b hb => ?_) (ghok_kill (kl := true) hl')
  · have : ¬ i = r := by simpa using hne
    simp [Cx.move, this]
  · refine change_grel hs.g r ob' true (lt_of_get hi) hl' rfl (fun i _ hir => by simp [Cx.move, hir]) rfl (Cx.keeps hk rfl) (fun i y hy hir l z c hc => hheap _ (hs.g.ltB i y hy l z c hc)) rfl (fun _ b b1 hh => by have := (move_blk b).1 b1; have := hs.g.ext1 _ hh; omega) (fun b => ?_) (fun _ i y hy hir l z b b1 b2 => ?_) (fun _ b b1 => ?_) (fun _ _ _ => hrow) (by simp) (fun _ => hrow) hnew
    · constructor
      · rintro (⟨h1, h2⟩ | h1)
        · obtain ⟨i, y, e1, e2, e3, e4⟩ := (hs.g.obj b).1 h1
          by_cases hir : i = r
          · subst hir; exact absurd ⟨e3, e4⟩ h2
          · exact .inl ⟨i, y, e1, hir, e2, e3, e4⟩
        · exact .inr ⟨by simp [Cx.move], (move_blk b).2 h1⟩
      · rintro (⟨i, y, e1, hir, e2, e3, e4⟩ | ⟨_, e2⟩)
        · refine .inl ⟨(hs.g.obj b).2 ⟨i, y, e1, e2, e3, e4⟩, ?_⟩
          rintro ⟨z, e⟩
          exact hir (hs.g.injB i r y ob e1 hi e2 hl e3 z b e4 e)
        · exact .inr ((move_blk b).1 e2)
    · have := (move_blk b).1 b2
      have := hs.g.ltB i y hy l z b b1
      omega
    · have := (move_blk b).1 b1
      simp [Cx.move]; omega
  · rcases hb with ⟨h, _⟩ | h
    · exact .inl h
    · exact .inr (by omega)
def Cx.room (X : Cx) (r : Nat) (w : World) (c : CC) : Cx := { X with c := fun i => if i = r then c else X.c i, w := w }
theorem room_blk {X : Cx} {r : Nat} {w : World} {c : CC} (hfp : c.fp = (X.c r).fp) (b : Nat) : (X.room r w c).blk r b ↔ X.blk r b := by
  simp only [Cx.blk, Cx.room, if_true, hfp]
theorem room_srel (hs : SRel w0 own0 X s a) {r : Nat} {ob ob' : Ob} {w : World} {c : CC} (hi : s.o[r]? = some ob) (hl : ob.live = true) (hz : X.z r = false) (hl' : ob'.live = true)
    (hrow : X.rw r = true) (hsize : w.heap.size = X.w.heap.size) (hst : Streams X.w w) (hheap : ∀ b, b ≠ X.b r → w.heap[b]? = X.w.heap[b]?) (hnew : ORel (X.room r w c) r ob') (hfp : c.fp = (X.c r).fp := by rfl) : SRel w0 own0 (X.room r w c) ⟨killT (some r) s.t, (killOs true r s.o).set r ob'⟩ a := by
  have hk : Keeps X.obj X.w (X.room r w c).obj (X.room r w c).w :=
    ⟨by simp [Cx.room, hsize], fun b hb ho => ⟨hheap b (fun e => ho ((hs.g.obj b).2 ⟨r, ob, hi, hl, hz, .inl e.symm⟩)), ho⟩⟩
  refine hs.change (some r) (fun _ e => by cases e; exact hrow) hk rfl hst (Nat.le_refl _) (fun i _ hne => ?_) ?_ (fun b hb => .inl hb) (ghok_kill (kl := true) hl')
  · have : ¬ i = r := by simpa using hne
    simp [Cx.room, this]
  · refine change_grel hs.g r ob' true (lt_of_get hi) hl' rfl (fun i _ hir => by simp [Cx.room, hir]) rfl (Cx.keeps hk rfl) (fun i y hy hir l z c hc => hheap _ (fun e => hir (hs.g.injB i r y ob hy hi l hl z hz c hc (.inl e.symm)))) rfl (fun _ b b1 => hs.g.ext2B r ob hi hl hz b ((room_blk hfp b).1 b1)) (fun b => ?_) (fun _ i y hy hir l z b b1 b2 => ?_) (fun _ b b1 => ?_) (fun _ _ _ => hrow) (by simp) (fun _ => hrow) hnew
    · show X.obj b ↔ _
      rw [hs.g.obj]
      constructor
      · rintro ⟨j, y, h1, h2, h3, h4⟩
        by_cases hji : j = r
        · subst hji; exact .inr ⟨hz, (room_blk hfp b).2 h4⟩
        · exact .inl ⟨j, y, h1, hji, h2, h3, h4⟩
      · rintro (⟨j, y, h1, _, h2, h3, h4⟩ | ⟨_, h2⟩)
        · exact ⟨j, y, h1, h2, h3, h4⟩
        · exact ⟨r, ob, hi, hl, hz, (room_blk hfp b).1 h2⟩
    · exact hir (hs.g.injB i r y ob hy hi l hl z hz b b1 ((room_blk hfp b).1 b2))
    · show b < w.heap.size
      rw [hsize]; exact hs.g.ltB r ob hi hl hz b ((room_blk hfp b).1 b1)
theorem znil_srel (hs : SRel w0 own0 X s a) {r : Nat} {ob ob' : Ob} (hr : s.o[r]? = some ob) (hzt : X.z r = true) (hrow : X.rw r = true) (hl : ob'.live = true) (hnew : ORel X r ob') : SRel w0 own0 X ⟨killT (some r) s.t, (killOs true r s.o).set r ob'⟩ a := by
  refine hs.change (some r) (fun _ e => by cases e; exact hrow) (Keeps.refl _ _) rfl ⟨rfl, rfl, rfl⟩ (Nat.le_refl _) (fun _ _ _ => ⟨rfl, rfl, rfl, rfl⟩) ?_ (fun b hb => .inl hb) (ghok_kill (kl := true) hl)
  refine change_grel hs.g r ob' true (lt_of_get hr) hl rfl (fun _ _ _ => ⟨rfl, rfl, rfl, rfl⟩) rfl (Keeps.refl _ _) (fun _ _ _ _ _ _ _ _ => rfl) rfl (fun h => by rw [hzt] at h; cases h) (fun b => ?_) (fun h => by rw [hzt] at h; cases h) (fun h => by rw [hzt] at h; cases h) (fun _ _ _ => hrow) (by simp) (fun _ => hrow) hnew
  rw [hs.g.obj]
  constructor
  · rintro ⟨j, y, h1, h2, h3, h4⟩
    by_cases hji : j = r
    · subst hji; rw [hzt] at h3; cases h3
    · exact .inl ⟨j, y, h1, hji, h2, h3, h4⟩
  · rintro (⟨j, y, h1, _, h2, h3, h4⟩ | ⟨h1, _⟩)
    · exact ⟨j, y, h1, h2, h3, h4⟩
    · rw [hzt] at h1; cases h1
theorem zrow_srel (hs : SRel w0 own0 X s a) {r sz : Nat} {es : List (List D)} (hr : s.o[r]? = some (.row sz es)) (hzt : X.z r = true) (hpos : 0 < sz) : SRel w0 own0 X ⟨killT (some r) s.t, (killOs true r s.o).set r (.row sz [])⟩ a :=
  znil_srel hs hr hzt (hs.g.rws r _ _ hr) rfl ⟨hpos, by simp, .inl ⟨hzt, rfl⟩⟩
theorem o_slice {t : TypeId} {x : Operand} {lo hi : Option Operand} (hsz : sliceZ lo hi = false) (hK : KOk P K) (hs : SRel w0 own0 X s a) (hT : Then w0 own0 s a q fun v w => next (a.put o.dst v) w) (ho : o.op = .slice t x lo hi none) (h : aOp K Γ s (.slice t x lo hi none) q) : o.wp P a X.w next Q := by
  simp only [aOp, hsz] at h
  have hx := ev_sound hs x
  split at h
  · rename_i r n ik b e ex ehi hkd
    have hu := kd_ok hK hkd
    rw [ex] at hx
    obtain ⟨⟨hi', rfl⟩, e2⟩ : (∃ hi', hi = some hi') ∧ True := by cases hi <;> simp_all
    simp only [Option.map_some, Option.some.injEq] at ehi
    have e3 := inv_int (ehi ▸ ev_sound hs hi')
    split at h
    · rename_i es hpw
      obtain ⟨⟨h0, h1⟩, hq⟩ := h
      obtain ⟨hi1, hq⟩ := chk_iff.1 hq
      obtain ⟨i, hi0⟩ := Option.isSome_iff_exists.1 hi1
      obtain ⟨p0, p1, p2, hp3⟩ := hs.g.rel r _ hpw
      obtain ⟨hr, ⟨hz, ⟨hm1, hm2⟩, ev⟩ | ⟨hz, rfl, ev⟩⟩ := inv_vw hx
      · rcases hp3 with ⟨hz', _⟩ | ⟨_, arr, T, g1, hlen, g2, g3, g4⟩
        · rw [hz] at hz'; cases hz'
        have hl : (es.take b.toNat).length = b.toNat := by rw [List.length_take]; omega
        have hnew : ORel (X.room r X.w ⟨(X.c r).1, b.toNat, (X.c r).fp⟩) r (.pow (es.take b.toNat)) :=
          ⟨p0, by rw [hl]; omega, fun x hx => p2 x (List.mem_of_mem_take hx), .inr ⟨hz, arr, T, g1, by simp [Cx.room, hl], by simp only [Cx.room, if_true]; exact g2, by simp only [Cx.room, if_true, hl]; omega, fun j hj => by
            rw [hl] at hj
            rw [List.getElem_take]
            have := (g4 j (by omega)).kill (X' := X.room r X.w ⟨(X.c r).1, b.toNat, (X.c r).fp⟩) r p0 (Keeps.refl X.own X.w) (Nat.le_refl _) (fun k hk hkr => by simp [Cx.room, hkr])
            rwa [kill_firm (p2 _ (List.getElem_mem _)).1] at this⟩⟩
        have hp := room_srel (w := X.w) (c := ⟨(X.c r).1, b.toNat, (X.c r).fp⟩) hs hpw rfl hz (ob' := .pow (es.take b.toNat)) rfl p0 rfl ⟨rfl, rfl, rfl⟩ (fun _ _ => rfl) hnew
        refine then_value' hp hT (v := .slice (some ⟨X.b r, 0, none⟩) b.toNat (X.c r).1) ?_ ?_ hq
        · simp [execOp, ho, ev, Instr.sliceAt, Instr.slice, run_under hu, Instr.sliceBounds, run_sliceBound (y := (X.c r).1) X.w e3 h0 (by omega), run_sizeOf hK hi0, addr_add, Cx.room]
        · have := VRel.vw (X := X.room r X.w ⟨(X.c r).1, b.toNat, (X.c r).fp⟩) (r := r) (n := b.toNat) hr hz (by simp [Cx.room]; omega)
          simpa [Cx.room] using this
      · have hb : b.toNat = 0 := by omega
        rw [hb] at hq
        refine then_value' (znil_srel hs hpw hz p0 (ob' := .pow (es.take 0)) rfl ⟨p0, by simp, by simp, .inl ⟨hz, by simp⟩⟩) hT (v := .slice none 0 0) ?_ (.vz hr hz) hq
        simp [execOp, ho, ev, Instr.sliceAt, Instr.slice, run_under hu, Instr.sliceBounds, run_sliceBound (y := 0) X.w e3 h0 (by omega), run_sizeOf hK hi0, hb]
    obtain ⟨⟨h0, h1⟩, hq⟩ := h
    obtain ⟨hi1, hq⟩ := chk_iff.1 hq
    obtain ⟨i, hi0⟩ := Option.isSome_iff_exists.1 hi1
    obtain ⟨hr, ⟨hz, ⟨hm1, hm2⟩, ev⟩ | ⟨hz, rfl, ev⟩⟩ := inv_vw hx
    · refine then_value hs hT (v := .slice (some ⟨X.b r, 0, none⟩) b.toNat (X.c r).1) ?_ (.vw hr hz ⟨by omega, by omega⟩) hq
      simp [execOp, ho, ev, Instr.sliceAt, Instr.slice, run_under hu, Instr.sliceBounds, run_sliceBound (y := (X.c r).1) X.w e3 h0 (by omega), run_sizeOf hK hi0, addr_add]
    · have hb : b.toNat = 0 := by omega
      rw [hb] at hq
      refine then_value hs hT (v := .slice none 0 0) ?_ (.vz hr hz) hq
      simp [execOp, ho, ev, Instr.sliceAt, Instr.slice, run_under hu, Instr.sliceBounds, run_sliceBound (y := 0) X.w e3 h0 (by omega), run_sizeOf hK hi0, hb]
  · rename_i ik b e ex ehi hkd
    have hu := kd_ok hK hkd
    rw [ex] at hx
    obtain ⟨⟨hi', rfl⟩, e2⟩ : (∃ hi', hi = some hi') ∧ True := by cases hi <;> simp_all
    simp only [Option.map_some, Option.some.injEq] at ehi
    have e3 := inv_int (ehi ▸ ev_sound hs hi')
    obtain ⟨h0, hq⟩ := h
    obtain ⟨hi1, hq⟩ := chk_iff.1 hq
    obtain ⟨i, hi0⟩ := Option.isSome_iff_exists.1 hi1
    have ev := inv_nl hx
    refine then_value hs hT (v := .slice none 0 0) ?_ .nl hq
    simp [execOp, ho, ev, Instr.sliceAt, Instr.slice, run_under hu, Instr.sliceBounds, run_sliceBound (y := 0) X.w e3 (by omega) (by omega), run_sizeOf hK hi0, h0]
  · obtain ⟨v, av, hr, hv, hk⟩ := pure_sound (C := Below X.w.heap.size X.w) (K := K) (k := fun v => q v s.o none) hK hs (.inr sld_below) (.inr fun _ h => h) (by rw [ho]; exact h)
    exact then_value hs hT (hr X.w (Below.refl _ _)) hv hk
theorem sliceZ_spec {lo hi : Option Operand} (h : sliceZ lo hi = true) : lo = none ∧ ∃ k, hi = some (.const (.int k 0)) := by
  unfold sliceZ at h
  split at h
  · rename_i k; exact ⟨rfl, k, rfl⟩
  · cases h
theorem o_sliceZ {t : TypeId} {x : Operand} {lo hi : Option Operand} (hsz : sliceZ lo hi = true) (hK : KOk P K) (hs : SRel w0 own0 X s a) (hT : Then w0 own0 s a q fun v w => next (a.put o.dst v) w) (ho : o.op = .slice t x lo hi none) (h : aOp K Γ s (.slice t x lo hi none) q) : o.wp P a X.w next Q := by
  simp only [aOp, hsz] at h
  have hx := ev_sound hs x
  obtain ⟨elo, kk, ehi⟩ := sliceZ_spec hsz
  split at h
  · rename_i r n e ex hkd
    have hu := kd_ok hK hkd
    rw [ex] at hx
    split at h
    · rename_i sz es hr
      obtain ⟨hi1, hq⟩ := chk_iff.1 h
      obtain ⟨i, hi0⟩ := Option.isSome_iff_exists.1 hi1
      obtain ⟨hrn, ⟨hz, ⟨hm1, hm2⟩, ev⟩ | ⟨hz, rfl, ev⟩⟩ := inv_vw hx
      · obtain ⟨p1, p2, ⟨hz', _⟩ | ⟨_, arr, T, g1, hlen, g2, g3, g4, g5⟩⟩ := hs.g.rel r _ hr
        · rw [hz] at hz'; cases hz'
        have hnew : ORel (X.room r X.w ⟨(X.c r).1, 0, (X.c r).fp⟩) r (.row sz []) := by
          refine ⟨p1, by simp, .inr ⟨hz, arr, T, g1, by simp [Cx.room], ?_, by simp, fun k hk => absurd hk (by simp), fun k hk => absurd hk (by simp)⟩⟩
          simp only [Cx.room, if_true]; exact g2
        have hp := room_srel (w := X.w) (c := ⟨(X.c r).1, 0, (X.c r).fp⟩) hs hr rfl hz (ob' := .row sz []) rfl (hs.g.rws r _ _ hr) rfl ⟨rfl, rfl, rfl⟩ (fun _ _ => rfl) hnew
        refine then_value' hp hT (v := .slice (some ⟨X.b r, 0, none⟩) 0 (X.c r).1) ?_ ?_ hq
        · have := fun code => run_sliceBound (P := P) (x := a.eval (.const (.int kk 0))) (ik := kk) (n := 0) (y := (X.c r).1) (code := code) X.w rfl (by omega) (by omega)
          simp [execOp, ho, ev, elo, ehi, Instr.sliceAt, Instr.slice, run_under hu, Instr.sliceBounds, this, run_sizeOf hK hi0, addr_add, Cx.room]
        · have := VRel.vw (X := X.room r X.w ⟨(X.c r).1, 0, (X.c r).fp⟩) (r := r) (n := 0) hrn hz ⟨Nat.zero_le _, Nat.zero_le _⟩
          simpa [Cx.room] using this
      · obtain ⟨p1, _⟩ := hs.g.rel r _ hr
        refine then_value' (zrow_srel hs hr hz p1) hT (v := .slice none 0 0) ?_ (.vz hrn hz) hq
        have := fun code => run_sliceBound (P := P) (x := a.eval (.const (.int kk 0))) (ik := kk) (n := 0) (y := 0) (code := code) X.w rfl (by omega) (by omega)
        simp [execOp, ho, ev, elo, ehi, Instr.sliceAt, Instr.slice, run_under hu, Instr.sliceBounds, this, run_sizeOf hK hi0]
    · exact h.elim
  · rename_i e ex hkd
    have hu := kd_ok hK hkd
    rw [ex] at hx
    obtain ⟨hi1, hq⟩ := chk_iff.1 h
    obtain ⟨i, hi0⟩ := Option.isSome_iff_exists.1 hi1
    have ev := inv_nl hx
    refine then_value hs hT (v := .slice none 0 0) ?_ .nl hq
    have := fun code => run_sliceBound (P := P) (x := a.eval (.const (.int kk 0))) (ik := kk) (n := 0) (y := 0) (code := code) X.w rfl (by omega) (by omega)
    simp [execOp, ho, ev, elo, ehi, Instr.sliceAt, Instr.slice, run_under hu, Instr.sliceBounds, this, run_sizeOf hK hi0]
  · obtain ⟨v, av, hr, hv, hk⟩ := pure_sound (C := Below X.w.heap.size X.w) (K := K) (k := fun v => q v s.o none) hK hs (.inr sld_below) (.inr fun _ h => h) (by rw [ho]; exact h)
    exact then_value hs hT (hr X.w (Below.refl _ _)) hv hk
end
end Go.AM
