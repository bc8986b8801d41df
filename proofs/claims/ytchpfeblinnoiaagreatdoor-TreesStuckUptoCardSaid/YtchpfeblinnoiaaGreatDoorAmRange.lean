import Derived.Test.YtchpfeblinnoiaaGreatDoorAmMap
import Derived.Maps.RangeRun
set_option linter.unusedSimpArgs false
set_option linter.unusedVariables false
set_option linter.unnecessarySimpa false
namespace Go.AM
open Go.RowKit Go.ChangeMaps
theorem grel_below {X : Cx} {o : List Ob} (g : GRel X o) {w' : World} (hb : Below X.w.heap.size X.w w') : GRel { X with w := w' } o := by
  have hk : Keeps X.own X.w ({ X with w := w' } : Cx).own w' := ⟨hb.size, fun b hlt h => ⟨hb.block b hlt, h⟩⟩
  exact ⟨g.n, g.obj, g.injB, fun i ob h1 h2 h3 b h4 => Nat.lt_of_lt_of_le (g.ltB i ob h1 h2 h3 b h4) hb.size, fun b h => Nat.lt_of_lt_of_le (g.ext1 b h) hb.size, g.ext2B, g.rws,
    fun i x hx => ORel.step (X := X) (X' := { X with w := w' }) hk (Nat.le_refl _) (fun _ _ => ⟨rfl, rfl, rfl, rfl⟩) (by rw [g.n]; exact lt_of_get hx) (fun hl hz c hc => hb.block _ (g.ltB i x hx hl hz c hc)) (g.rel i x hx)⟩
theorem itp_new {Z : FrZ} {ents : List (Key × AV)} {vk : VK} {ky : Bool} {w : World} {b : Nat} (hh : w.heap[b]? = some (.mapIter (some Z.bm) Z.clk #[] Z.clk)) (hs : Z.me.size = ents.length)
    (hb : ∀ (j : Nat) (h : j < Z.me.size), Z.me[j].born < Z.clk) (hi : ∀ (j k : Nat) (hj : j < Z.me.size) (hk : k < Z.me.size), Z.me[j].born = Z.me[k].born → j = k)
    (he : ∀ (j : Nat) (h : j < ents.length) (h' : j < Z.me.size), KRel ents[j].1 Z.me[j].key ∧ ents[j].2 = .d (.v Z.me[j].val) ∧ plainV Z.me[j].val = true) : ItP ⟨Z, ents, vk, ky, [], none⟩ w b where
  it := ⟨#[], hh, rfl⟩
  born x hx := by
    obtain ⟨j, hj, rfl⟩ := List.getElem_of_mem hx
    simp only [Array.length_toList] at hj
    simpa using hb j hj
  nd := born_nd hi
  sz := hs
  ent := he
  vis n hn := by cases hn
  cur ka va h := by cases h
theorem exVal_out {vk : VK} {v : AV} {p : AV → Prop} (h : exVal vk v p) : p v ∧ ∃ y, v = .d (.v y) := by
  cases vk <;> (obtain ⟨x, rfl, h⟩ := h; exact ⟨h, _, rfl⟩)
theorem exKy_out {ky : Bool} {k : Key} {p : AV → Prop} (h : exKy ky k p) : ∃ ka, p ka ∧ (ka = .jk ∨ ∀ u, KRel k u → ka = .d (.v u) ∧ plainV u = true) := by
  cases ky with
  | false => exact ⟨_, h, .inl rfl⟩
  | true =>
    obtain ⟨d, rfl, hd, h⟩ := h
    refine ⟨_, h, .inr fun u hu => ?_⟩
    have : u = .string d := hu
    subst this
    exact ⟨rfl, by simp [plainV, hd]⟩
theorem orZ_mem : ∀ {l : List FrZ} {Z : FrZ}, anyZ l Z → Z ∈ l
  | [], _, h => h.elim
  | [a], Z, h => by have : a = Z := h; simp [this]
  | a :: b :: l, Z, h => by
    rcases (h : a = Z ∨ anyZ (b :: l) Z) with h | h
    · simp [h]
    · exact List.mem_cons_of_mem _ (orZ_mem h)
theorem zsOf_mem : ∀ {o : List Ob} {Z : FrZ}, Z ∈ zsOf o → ∃ (i : Nat) (R : Rep), o[i]? = some (.bun R) ∧ Z ∈ R.fz
  | [], _, h => by cases h
  | x :: o, Z, h => by
    have tail : Z ∈ zsOf o → ∃ (i : Nat) (R : Rep), (x :: o)[i]? = some (.bun R) ∧ Z ∈ R.fz := fun h => by
      obtain ⟨i, R, h1, h2⟩ := zsOf_mem h
      exact ⟨i + 1, R, h1, h2⟩
    cases x with
    | bun R =>
      simp only [zsOf] at h
      rcases List.mem_append.1 h with h | h
      · exact ⟨0, R, rfl, h⟩
      · exact tail h
    | _ => exact tail (by simpa only [zsOf] using h)
section
variable {P : Program} {X : Cx} {a : Act} {o : Oper} {K : TypeId → Option TK} {s : S} {q : Q1} {w0 : World} {own0 : O0} {next : Act → World → Prop} {Q : Exit → Act → World → Prop} {Γ : List (FuncId × En)}
theorem SRel.below (hs : SRel w0 own0 X s a) {w' : World} (hb : Below X.w.heap.size X.w w') : SRel w0 own0 { X with w := w' } s a :=
  hs.change none (by simp) ⟨hb.size, fun b hlt h => ⟨hb.block b hlt, h⟩⟩ rfl ⟨hb.os, hb.tape, hb.output⟩ (Nat.le_refl _) (fun _ _ _ => ⟨rfl, rfl, rfl, rfl⟩) (grel_below hs.g hb) (fun b h => .inl h) (ghok_refl _)
theorem fdsOf_mem : ∀ {o : List Ob} {x : FrZ × List Nat}, x ∈ fdsOf o → ∃ (i : Nat) (R : Rep), o[i]? = some (.bun R) ∧ R.fd = some x
  | [], x, h => by cases h
  | y :: o, x, h => by
    have tail : x ∈ fdsOf o → ∃ (i : Nat) (R : Rep), (y :: o)[i]? = some (.bun R) ∧ R.fd = some x := fun h => by
      obtain ⟨i, R, h1, h2⟩ := fdsOf_mem h
      exact ⟨i + 1, R, h1, h2⟩
    cases y with
    | bun R =>
      simp only [fdsOf] at h
      split at h
      · rename_i z hz
        rcases List.mem_cons.1 h with rfl | h
        · exact ⟨0, R, rfl, hz⟩
        · exact tail h
      · exact tail h
    | _ => exact tail (by simpa only [fdsOf] using h)
theorem still_at (hs : SRel w0 own0 X s a) {Z : FrZ} (h : anyZ (zsOf s.o) Z) : X.w.heap[Z.bm]? = some (.map Z.me Z.clk) := by
  obtain ⟨i, R, hi, hZ⟩ := zsOf_mem (orZ_mem h)
  exact R.fzOK Z hZ _ _ _ _ (hs.g.rel i _ hi).2
structure Stnd (d : ItD) (w : World) (dl : List Nat) (me : Array MapEntry) : Prop where
  heap : w.heap[d.Z.bm]? = some (.map me d.Z.clk)
  nd : (me.toList.map (·.born)).Nodup
  old : ∀ e ∈ me.toList, ∃ (n : Nat) (h : n < d.Z.me.size), n ∉ dl ∧ e = d.Z.me[n]
  stay : ∀ (n : Nat) (h : n < d.Z.me.size), n ∉ dl → d.Z.me[n] ∈ me.toList
theorem stnd_all {d : ItD} {w : World} (h : w.heap[d.Z.bm]? = some (.map d.Z.me d.Z.clk)) (hnd : (d.Z.me.toList.map (·.born)).Nodup) : Stnd d w [] d.Z.me where
  heap := h
  nd := hnd
  old e he := by
    obtain ⟨n, hn, rfl⟩ := List.getElem_of_mem he
    exact ⟨n, by simpa using hn, by simp, by simp⟩
  stay n h _ := by simp
theorem stillP_at (hs : SRel w0 own0 X s a) {d : ItD} (hnd : (d.Z.me.toList.map (·.born)).Nodup) (h : stillP s.o d) : ∃ dl me, Stnd d X.w dl me ∧ ∀ n ∈ dl, n ∈ d.vis := by
  cases hf : fdsOf s.o with
  | nil =>
    simp only [stillP, hf] at h
    exact ⟨[], d.Z.me, stnd_all (still_at hs h) hnd, fun n hn => by cases hn⟩
  | cons x l =>
    simp only [stillP, hf] at h
    cases l with
    | cons y l => exact h.elim
    | nil =>
      obtain ⟨Z, dl⟩ := x
      obtain ⟨i, R, hi, hR⟩ := fdsOf_mem (o := s.o) (x := (Z, dl)) (by rw [hf]; simp)
      obtain ⟨_, me, h1, h2, h3, h4, _⟩ := R.fdOK Z dl hR _ _ _ _ (hs.g.rel i _ hi).2
      simp only [anyD] at h
      obtain ⟨e, hv⟩ := h
      subst e
      exact ⟨dl, me, ⟨h1, h2, h3, h4⟩, hv⟩
theorem stillE_at (hs : SRel w0 own0 X s a) {d : ItD} (hnd : (d.Z.me.toList.map (·.born)).Nodup) (h : stillE s.o d) : ∃ dl me, Stnd d X.w dl me ∧ ∀ n l, d.vis = n :: l → n ∉ dl := by
  cases hf : fdsOf s.o with
  | nil =>
    simp only [stillE, hf] at h
    exact ⟨[], d.Z.me, stnd_all (still_at hs h) hnd, fun n l _ hn => by cases hn⟩
  | cons x l =>
    simp only [stillE, hf] at h
    cases l with
    | cons y l => exact h.elim
    | nil =>
      obtain ⟨Z, dl⟩ := x
      obtain ⟨i, R, hi, hR⟩ := fdsOf_mem (o := s.o) (x := (Z, dl)) (by rw [hf]; simp)
      obtain ⟨_, me, h1, h2, h3, h4, _⟩ := R.fdOK Z dl hR _ _ _ _ (hs.g.rel i _ hi).2
      simp only [anyE] at h
      obtain ⟨e, hv⟩ := h
      subst e
      exact ⟨dl, me, ⟨h1, h2, h3, h4⟩, hv⟩
theorem vk_map (hK : KOk P K) {t : TypeId} {vk : VK} (h : vkOf K t = some vk) : ∃ k e, P.underlying t = some (.map k e) := by
  unfold vkOf at h
  split at h
  · rename_i k e hkd
    exact ⟨k, e, kd_ok hK hkd⟩
  · cases h
theorem range_push (hs : SRel w0 own0 X s a) (hT : Then w0 own0 s a q fun v w => next (a.put o.dst v) w) {t k e : TypeId} {x : Operand} (ho : o.op = .range t x) (hu : P.underlying t = some (.map k e)) {j : Nat} {ob : Ob} {R : Rep} {Z : FrZ} {ents : List (Key × AV)} {vk : VK} {ky : Bool}
    (ev : a.eval x = .map (some Z.bm)) (hj : s.o[j]? = some ob) (hl : ob.live = true) (hz : X.z j = false) (hR : ORel X j (.bun R)) (hh : X.w.heap[Z.bm]? = some (.map Z.me Z.clk)) (hsz : Z.me.size = ents.length)
    (hb : ∀ (j : Nat) (h : j < Z.me.size), Z.me[j].born < Z.clk) (hi : ∀ (j k : Nat) (hj : j < Z.me.size) (hk : k < Z.me.size), Z.me[j].born = Z.me[k].born → j = k)
    (he : ∀ (j : Nat) (h : j < ents.length) (h' : j < Z.me.size), KRel ents[j].1 Z.me[j].key ∧ ents[j].2 = .d (.v Z.me[j].val) ∧ plainV Z.me[j].val = true)
    (hq : q (.rf s.o.length 0) (s.o.set j (.bun R) ++ [.bun (itR ⟨Z, ents, vk, ky, [], none⟩)]) none) : o.wp P a X.w next Q := by
  have hs1 := swap_srel hs hj hl hz (ob' := .bun R) rfl (by simp) hR
  have hnew : ORel (X.push (.mapIter (some Z.bm) Z.clk #[] Z.clk) (cc 0 0) false) X.n (.bun (itR ⟨Z, ents, vk, ky, [], none⟩)) := by
    refine ⟨by simp [Cx.push], itp_new ?_ hsz hb hi he⟩
    simp only [Cx.push, if_true]
    exact heap_alloc_new _ _
  refine then_value' (X' := X.push (.mapIter (some Z.bm) Z.clk #[] Z.clk) (cc 0 0) false) (push_srel hs1 rfl (by simp) hnew) hT (v := .pointer (some ⟨X.w.heap.size, 0, none⟩)) ?_ ?_ hq
  · simp only [execOp, ho, ev, Sem.run_bind, run_range_map X.w t k e Z.bm Z.me Z.clk hu hh, Result.andThen_ok]
    rfl
  · have := VRel.rf (X := X.push (.mapIter (some Z.bm) Z.clk #[] Z.clk) (cc 0 0) false) (i := X.n) (off := 0) (by simp [Cx.push]) (by simp [Cx.push])
    rw [← hs.g.n]
    simpa [Cx.push] using this
theorem o_range {t : TypeId} {x : Operand} (hK : KOk P K) (hs : SRel w0 own0 X s a) (hT : Then w0 own0 s a q fun v w => next (a.put o.dst v) w) (ho : o.op = .range t x) (h : aOp K Γ s (.range t x) q) : o.wp P a X.w next Q := by
  simp only [aOp] at h
  have hx := ev_sound hs x
  split at h
  · rename_i vk hvk
    obtain ⟨kt, et, hu⟩ := vk_map hK hvk
    split at h
    · rename_i j ej
      rw [ej] at hx
      obtain ⟨ev, _⟩ := inv_mp hx
      split at h
      · rename_i R hj
        split at h
        · rename_i f ht
          have hF := fam_at hs.g hj ht
          obtain ⟨hz, hk, ⟨me, clk, hh, hsz, hborn, hinj, hent⟩, hnd, hmem⟩ := id hF
          have hE : ∀ (i : Nat) (hi : i < (entsF f.sh f.l).length) (hi' : i < me.size), KRel (entsF f.sh f.l)[i].1 me[i].key ∧ (entsF f.sh f.l)[i].2 = .d (.v me[i].val) ∧ plainV me[i].val = true := fun i hi hi' => by
            have hi2 : i < f.l.length := by simpa [entsF] using hi
            obtain ⟨h1, h2⟩ := hent i hi' hi2
            refine ⟨by simpa [entsF] using h1, by simp only [entsF, List.getElem_map]; rw [h2], ?_⟩
            rw [h2]
            cases f.sh <;> rfl
          split at h
          · obtain ⟨hkn, h⟩ := h
            refine range_push (R := frdR f ⟨X.b j, me, clk⟩ []) (Z := ⟨X.b j, me, clk⟩) hs hT ho hu ev hj rfl hz ⟨hz, hF.2, rfl, ⟨me, hh, born_nd hinj, fun e he => ?_, fun n hn _ => by simp, fun n m hn hm e => ?_⟩⟩ hh (by simpa [entsF] using hsz) hborn hinj hE (h _)
            · obtain ⟨n, hn, rfl⟩ := List.getElem_of_mem he
              exact ⟨n, by simpa using hn, by simp, by simp⟩
            · have hn2 : n < f.l.length := by rw [← hsz]; exact hn
              have hm2 : m < f.l.length := by rw [← hsz]; exact hm
              have h1 := (hent n hn hn2).1
              have h2 := (hent m hm hm2).1
              have e2 : me[n].key = me[m].key := e
              rw [e2] at h1
              have h3 := krel_inj h1 h2
              rw [List.Nodup, List.pairwise_iff_getElem] at hkn
              rcases Nat.lt_trichotomy n m with hlt | he | hlt
              · exact absurd (by rw [List.getElem_map, List.getElem_map]; exact h3) (hkn n m (by simpa using hn2) (by simpa using hm2) hlt)
              · exact he
              · exact absurd (by rw [List.getElem_map, List.getElem_map]; exact h3.symm) (hkn m n (by simpa using hm2) (by simpa using hn2) hlt)
          · exact range_push (R := frzR R ⟨X.b j, me, clk⟩) (Z := ⟨X.b j, me, clk⟩) hs hT ho hu ev hj rfl hz ⟨hz, (hs.g.rel j _ hj).2, .inl rfl, hh⟩ hh (by simpa [entsF] using hsz) hborn hinj hE (h _)
        · exact h.elim
      · rename_i kk ents hj
        obtain ⟨hv, h⟩ := h
        obtain ⟨hz, hall, me, clk, hh, hsz, hborn, hinj, hent⟩ := hs.g.rel j _ hj
        refine range_push (R := mfzR ⟨X.b j, me, clk⟩) (Z := ⟨X.b j, me, clk⟩) hs hT ho hu ev hj rfl hz ⟨hz, rfl, hh⟩ hh hsz hborn hinj (fun i hi hi' => ?_) (h _)
        obtain ⟨h1, h2, h3⟩ := hent i hi hi'
        obtain ⟨_, y, hy⟩ := exVal_out (hv _ (List.getElem_mem hi))
        rw [hy] at h3
        obtain ⟨e1, e2⟩ := inv_v h3
        exact ⟨h1, by rw [hy]; show _ = AV.d (.v (me[i]).val); rw [e1], by show plainV (me[i]).val = true; rw [e1]; exact e2⟩
      · exact h.elim
    · rename_i b eb
      rw [eb] at hx
      have ev := (inv_v hx).1
      split at h
      · rename_i i f hff
        split at h
        · rename_i kk R hsh hR
          obtain ⟨r, hr, h⟩ := h
          obtain ⟨R', mm, hj, ht', hmm, rfl, rfl, hkinds, me, clk, hh, hsz, hborn, hinj, hent⟩ := raw_at hs hff hsh hr
          rw [hR] at hj
          cases hj
          obtain ⟨hz, _, _, _, hmem⟩ := fam_at hs.g hR ht'
          obtain ⟨hb, hfp, hmp⟩ := hmem mm hmm
          refine range_push (R := frzR R ⟨mm.2.1, me, clk⟩) (Z := ⟨mm.2.1, me, clk⟩) hs hT ho hu ev hR rfl hz ⟨hz, (hs.g.rel i _ hR).2, .inr hfp, hh⟩ hh hsz hborn hinj (fun n hn hn' => ?_) (h _)
          obtain ⟨h1, x, h2, h3, h4⟩ := hent n hn' hn
          refine ⟨h1, by rw [h2]; show _ = AV.d (.v (me[n]).val); rw [h4], by show plainV (me[n]).val = true; rw [h4]; exact h3⟩
        · exact h.elim
      · exact h.elim
    · exact h.elim
  · exact h.elim
theorem seen_iff {d : ItD} {w : World} {b : Nat} (h : ItP d w b) {seen : Array Nat} (hs : seen.toList = (d.vis.map fun n => (d.Z.me.getD n ⟨undef, undef, 0⟩).born).reverse) {n : Nat} (hn : n < d.Z.me.size) : seen.contains d.Z.me[n].born = true ↔ n ∈ d.vis := by
  rw [← Array.contains_toList, List.contains_iff_mem, hs, List.mem_reverse, List.mem_map]
  constructor
  · rintro ⟨m, hm, e⟩
    have hm2 := h.vis m hm
    rw [Array.getD_eq_getD_getElem?, Array.getElem?_eq_getElem hm2, Option.getD_some] at e
    have hnd := h.nd
    rw [List.Nodup, List.pairwise_iff_getElem] at hnd
    have : m = n := by
      rcases Nat.lt_trichotomy m n with hlt | he | hlt
      · have h3 := hnd m n (by simpa using hm2) (by simpa using hn) hlt
        simp only [List.getElem_map, Array.getElem_toList] at h3
        exact absurd e h3
      · exact he
      · have h3 := hnd n m (by simpa using hn) (by simpa using hm2) hlt
        simp only [List.getElem_map, Array.getElem_toList] at h3
        exact absurd e.symm h3
    rw [← this]; exact hm
  · intro hv
    exact ⟨n, hv, by rw [Array.getD_eq_getD_getElem?, Array.getElem?_eq_getElem hn, Option.getD_some]⟩
theorem o_next {x : Operand} (hs : SRel w0 own0 X s a) (hT : Then w0 own0 s a q fun v w => next (a.put o.dst v) w) (ho : o.op = .next x false) (h : aOp K Γ s (.next x false) q) : o.wp P a X.w next Q := by
  simp only [aOp] at h
  have hx := ev_sound hs x
  split at h
  · rename_i i ei
    rw [ei] at hx
    obtain ⟨ev, _⟩ := inv_rf hx
    split at h
    · rename_i R hi
      split at h
      · rename_i d hd
        obtain ⟨hZ, h1, h0⟩ := h
        obtain ⟨hz, hp⟩ := hs.g.rel i _ hi
        have hit := R.itOK d hd _ _ _ _ hp
        obtain ⟨seen, hr, hseen⟩ := hit.it
        obtain ⟨dl, me, hst, hdl⟩ := stillP_at hs hit.nd hZ
        rcases run_next_at (P := P) X.w o.type (X.b i) d.Z.bm d.Z.clk d.Z.clk seen me d.Z.clk hr hst.heap (fun x hx => by obtain ⟨n, hn, _, rfl⟩ := hst.old x hx; exact hit.born _ (by simp)) (Nat.le_refl _) with ⟨hl, hrun⟩ | ⟨e, he, w1, hw1, hrun⟩
        · refine then_value hs hT (v := .tuple #[.bool false]) ?_ (.tp rfl fun j hj => ?_) (h0 fun n hn => ?_)
          · simp only [execOp, ho, ev, Sem.run_bind, hrun, Result.andThen_ok]
            rfl
          · have : j = 0 := by simpa using hj
            subst this
            exact .d (.v rfl)
          · have hn' : n < d.Z.me.size := by rw [hit.sz]; exact hn
            by_cases hnd : n ∈ dl
            · exact hdl n hnd
            · exact (seen_iff hit hseen hn').1 (all_seen me seen hl _ (hst.stay n hn' hnd))
        · obtain ⟨hem, hec⟩ := mem_left he
          obtain ⟨n, hn, _, rfl⟩ := hst.old e hem
          have hnv : n ∉ d.vis := fun hv => by
            have := (seen_iff hit hseen hn).2 hv
            rw [this] at hec; cases hec
          have hne : n < d.ents.length := by rw [← hit.sz]; exact hn
          obtain ⟨k1, k2, k3⟩ := hit.ent n hne hn
          obtain ⟨hq, _⟩ := exVal_out (h1 n d.ents[n].1 d.ents[n].2 (List.getElem?_eq_getElem hne) hnv)
          obtain ⟨ka, hq, hka⟩ := exKy_out hq
          have hbel : Below X.w.heap.size X.w w1 := by
            rcases hw1 with rfl | rfl
            · exact .refl _ _
            · exact (Below.refl _ _).drew
          have hs1 := hs.below hbel
          have hheap : w1.heap = X.w.heap := by rcases hw1 with rfl | rfl <;> rfl
          have hlt : X.b i < w1.heap.size := by rw [hheap]; exact size_of_heap hr
          have hka2 : ka = .jk ∨ ka = .d (.v d.Z.me[n].key) ∧ plainV d.Z.me[n].key = true := hka.imp id fun f => f _ k1
          have hnew : ORel (Cx.upd { X with w := w1 } i (.mapIter (some d.Z.bm) d.Z.clk (seen.push d.Z.me[n].born) d.Z.clk)) i (.bun (itR ⟨d.Z, d.ents, d.vk, d.ky, n :: d.vis, some (ka, d.ents[n].2)⟩)) := by
            refine ⟨hz, ⟨⟨seen.push d.Z.me[n].born, ?_, ?_⟩, hit.born, hit.nd, hit.sz, hit.ent, fun m hm => ?_, fun ka' va' hc => ?_⟩⟩
            · show (Cx.upd { X with w := w1 } i _).w.heap[X.b i]? = _
              exact (heap_upd _ _ _ _).trans (if_pos ⟨rfl, hlt⟩)
            · show (seen.push d.Z.me[n].born).toList = ((n :: d.vis).map fun n => (d.Z.me.getD n ⟨undef, undef, 0⟩).born).reverse
              rw [List.map_cons, List.reverse_cons, ← hseen, Array.toList_push]
              congr 2
              rw [Array.getD_eq_getD_getElem?, Array.getElem?_eq_getElem hn, Option.getD_some]
            · rcases List.mem_cons.1 hm with rfl | hm
              · exact hn
              · exact hit.vis m hm
            · have hc := Option.some.inj hc
              have hc1 := (Prod.mk.inj hc).1
              have hc2 := (Prod.mk.inj hc).2
              subst hc1 hc2
              exact ⟨n, d.vis, hn, rfl, k2, k3, hka2⟩
          refine then_value' (kl := none) (upd_srel hs1 false hi rfl hz (ob' := .bun (itR ⟨d.Z, d.ents, d.vk, d.ky, n :: d.vis, some (ka, d.ents[n].2)⟩)) rfl (by simp) (by simp) hnew) hT (v := .tuple #[.bool true, d.Z.me[n].key, d.Z.me[n].val]) ?_ (.tp rfl fun j hj => ?_) hq
          · simp only [execOp, ho, ev, Sem.run_bind, hrun, Result.andThen_ok]
            rfl
          · match j, hj with
            | 0, _ => exact .d (.v rfl)
            | 1, _ =>
              rcases hka2 with rfl | ⟨rfl, hp⟩
              · exact .jk
              · exact .d (.v hp)
            | 2, _ =>
              show VRel _ d.ents[n].2 d.Z.me[n].val
              rw [k2]; exact .d (.v k3)
      · exact h.elim
    · exact h.elim
  · exact h.elim
theorem o_entry {x : Operand} (hs : SRel w0 own0 X s a) (hT : Then w0 own0 s a q fun v w => next (a.put o.dst v) w) (ho : o.op = .entry x) (h : aOp K Γ s (.entry x) q) : o.wp P a X.w next Q := by
  simp only [aOp] at h
  have hx := ev_sound hs x
  split at h
  · rename_i i ei
    rw [ei] at hx
    obtain ⟨ev, _⟩ := inv_rf hx
    split at h
    · rename_i R hi
      split at h
      · rename_i d hd
        split at h
        · rename_i k v hc
          obtain ⟨hZ, hq⟩ := h
          obtain ⟨hz, hp⟩ := hs.g.rel i _ hi
          have hit := R.itOK d hd _ _ _ _ hp
          obtain ⟨seen, hr, hseen⟩ := hit.it
          obtain ⟨dl, me, hst, hdl⟩ := stillE_at hs hit.nd hZ
          obtain ⟨n, l, hn, hv, rfl, hpv, hk⟩ := hit.cur k v hc
          have hs2 : seen = (l.map fun n => (d.Z.me.getD n ⟨undef, undef, 0⟩).born).reverse.toArray.push d.Z.me[n].born := by
            apply Array.toList_inj.1
            rw [hseen, hv, List.map_cons, List.reverse_cons, Array.toList_push]
            congr 2
            rw [Array.getD_eq_getD_getElem?, Array.getElem?_eq_getElem hn, Option.getD_some]
          rw [hs2] at hr
          have hrun := run_entry_at (P := P) X.w (X.b i) d.Z.bm d.Z.clk _ me d.Z.clk d.Z.me[n] hr hst.heap (hst.stay n hn (hdl n l hv)) hst.nd
          refine then_value hs hT (v := .tuple #[d.Z.me[n].key, d.Z.me[n].val]) ?_ (.tp rfl fun j hj => ?_) hq
          · simp only [execOp, ho, ev, Sem.run_bind, hrun, Result.andThen_ok]
            rfl
          · match j, hj with
            | 0, _ =>
              rcases hk with rfl | ⟨rfl, hp⟩
              · exact .jk
              · exact .d (.v hp)
            | 1, _ => exact .d (.v hpv)
        · exact h.elim
      · exact h.elim
    · exact h.elim
  · exact h.elim
end
end Go.AM
