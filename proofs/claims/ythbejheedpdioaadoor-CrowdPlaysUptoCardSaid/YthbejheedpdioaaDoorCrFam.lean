import Derived.Test.YthbejheedpdioaaDoorAmTail
set_option linter.unusedSimpArgs false
set_option linter.unusedVariables false
namespace Go.Proofs.YthbejheedpdioaaDoor
open Go Go.AM Go.RowKit
abbrev FLs := List (Key × Nat × Rec)
abbrev Ent3 := Key × Nat × Rec
theorem rec_at : ∀ {l : FLs}, (l.map (·.2.1)).Nodup → ∀ {n : Nat} (hn : n < l.length), recF l[n].2.1 l = some l[n].2.2
  | [], _, n, hn => absurd hn (by simp)
  | e :: l, h1, 0, _ => by simp [recF]
  | e :: l, h1, n + 1, hn => by
    rw [List.map_cons, List.nodup_cons] at h1
    have hn' : n < l.length := by simpa using hn
    simp only [List.getElem_cons_succ, recF]
    rw [if_neg (fun e1 => h1.1 (by rw [e1]; exact List.mem_map_of_mem (f := fun x : Key × Nat × Rec => x.2.1) (List.getElem_mem hn')))]
    exact rec_at h1.2 hn'
theorem rec_mem {l : FLs} (h : (l.map (·.2.1)).Nodup) {e : Ent3} (he : e ∈ l) : recF e.2.1 l = some e.2.2 := by
  obtain ⟨n, hn, rfl⟩ := List.getElem_of_mem he
  exact rec_at h hn
theorem blk_mem {ky : Key} : ∀ {l : FLs} {b : Nat}, blkF ky l = some b → ∃ r, (ky, b, r) ∈ l
  | [], b, h => by cases h
  | e :: l, b, h => by
    simp only [blkF] at h
    split at h
    · rename_i e1; cases h; obtain ⟨k, c, r⟩ := e; cases e1; exact ⟨r, by simp⟩
    · obtain ⟨r, hr⟩ := blk_mem h; exact ⟨r, List.mem_cons_of_mem _ hr⟩
theorem blk_none {ky : Key} : ∀ {l : FLs}, blkF ky l = none → ∀ e ∈ l, e.1 ≠ ky
  | [], h, e, he => by cases he
  | x :: l, h, e, he => by
    simp only [blkF] at h
    split at h
    · cases h
    · rename_i hx
      rcases List.mem_cons.1 he with rfl | he
      · exact hx
      · exact blk_none h e he
theorem blk_no {ky : Key} : ∀ {l : FLs}, (∀ e ∈ l, e.1 ≠ ky) → blkF ky l = none
  | [], _ => rfl
  | x :: l, h => by simp only [blkF]; rw [if_neg (h x (by simp))]; exact blk_no fun e he => h e (by simp [he])
theorem keys_nd : ∀ {l : FLs}, (l.map (·.1)).Nodup → ∀ {e e' : Ent3}, e ∈ l → e' ∈ l → e.1 = e'.1 → e = e'
  | [], _, e, e', he, _, _ => by cases he
  | x :: l, h, e, e', he, he', hk => by
    rw [List.map_cons, List.nodup_cons] at h
    rcases List.mem_cons.1 he with h1 | h1 <;> rcases List.mem_cons.1 he' with h2 | h2
    · rw [h1, h2]
    · exact absurd (by rw [← h1, hk]; exact List.mem_map_of_mem (f := fun x : Ent3 => x.1) h2) h.1
    · exact absurd (by rw [← h2, ← hk]; exact List.mem_map_of_mem (f := fun x : Ent3 => x.1) h1) h.1
    · exact keys_nd h.2 h1 h2 hk
theorem has_yes {l : FLs} (hn : (l.map (·.2.1)).Nodup) {ky : Key} (h : hasF ky l = true) : ∃ b r, blkF ky l = some b ∧ recF b l = some r ∧ (ky, b, r) ∈ l := by
  unfold hasF at h
  cases hb : blkF ky l with
  | none => rw [hb] at h; cases h
  | some b =>
    obtain ⟨r, hr⟩ := blk_mem hb
    exact ⟨b, r, rfl, rec_mem hn hr, hr⟩
theorem has_no {l : FLs} {ky : Key} (h : hasF ky l = false) : ∀ e ∈ l, e.1 ≠ ky := by
  unfold hasF at h
  cases hb : blkF ky l with
  | none => exact blk_none hb
  | some b => rw [hb] at h; cases h
theorem put_split {b : Nat} {r' : Rec} : ∀ {l : FLs} {k : Key} {r : Rec}, (l.map (·.2.1)).Nodup → (k, b, r) ∈ l → ∃ l1 l2, l = l1 ++ (k, b, r) :: l2 ∧ putM b r' l = l1 ++ (k, b, r') :: l2 ∧ ∀ x ∈ l1 ++ l2, x.2.1 ≠ b
  | [], k, r, _, h => by cases h
  | e :: l, k, r, hn, h => by
    rw [List.map_cons, List.nodup_cons] at hn
    by_cases hb : e.2.1 = b
    · have he : e = (k, b, r) := by
        rcases List.mem_cons.1 h with h | h
        · exact h.symm
        · exact absurd (List.mem_map_of_mem (f := fun x : Ent3 => x.2.1) h) (by show ¬ b ∈ _; rw [← hb]; exact hn.1)
      refine ⟨[], l, by rw [he]; rfl, by simp only [putM]; rw [if_pos hb, he]; rfl, fun x hx hxb => hn.1 ?_⟩
      rw [hb, ← hxb]; exact List.mem_map_of_mem (f := fun x : Ent3 => x.2.1) (by simpa using hx)
    · rcases List.mem_cons.1 h with h | h
      · exact absurd (by rw [← h]) hb
      · obtain ⟨l1, l2, h1, h2, h3⟩ := put_split hn.2 h
        refine ⟨e :: l1, l2, by rw [h1]; rfl, by simp only [putM]; rw [if_neg hb, h2]; rfl, fun x hx => ?_⟩
        rcases List.mem_cons.1 hx with rfl | hx
        · exact hb
        · exact h3 x hx
theorem del_split {k : Key} {b : Nat} {r : Rec} : ∀ {l : FLs}, (∀ e ∈ l, e.1 = k → e = (k, b, r)) → (k, b, r) ∈ l → ∃ l1 l2, l = l1 ++ (k, b, r) :: l2 ∧ delF k l = l1 ++ l2 ∧ ∀ x ∈ l1, x.1 ≠ k
  | [], _, h => by cases h
  | e :: l, hu, h => by
    by_cases hk : e.1 = k
    · have := hu e (by simp) hk
      exact ⟨[], l, by rw [this]; rfl, by simp only [delF]; rw [if_pos hk]; rfl, fun x hx => by cases hx⟩
    · rcases List.mem_cons.1 h with h | h
      · exact absurd (by rw [← h]) hk
      · obtain ⟨l1, l2, h1, h2, h3⟩ := del_split (fun e he => hu e (by simp [he])) h
        refine ⟨e :: l1, l2, by rw [h1]; rfl, by simp only [delF]; rw [if_neg hk, h2]; rfl, fun x hx => ?_⟩
        rcases List.mem_cons.1 hx with rfl | hx
        · exact hk
        · exact h3 x hx
theorem del_none {k : Key} : ∀ {l : FLs}, (∀ e ∈ l, e.1 ≠ k) → delF k l = l
  | [], _ => rfl
  | e :: l, h => by simp only [delF]; rw [if_neg (h e (by simp)), del_none fun x hx => h x (by simp [hx])]
theorem put_put {b : Nat} {r r' : Rec} : ∀ (l : FLs), putM b r' (putM b r l) = putM b r' l
  | [] => rfl
  | e :: l => by
    simp only [putM]
    by_cases h : e.2.1 = b
    · simp only [if_pos h, putM]
    · simp only [if_neg h, putM, put_put l]
theorem rec_put {b : Nat} {r : Rec} : ∀ {l : FLs} {r0 : Rec}, recF b l = some r0 → recF b (putM b r l) = some r
  | [], _, h => by cases h
  | e :: l, r0, h => by
    simp only [putM, recF] at h ⊢
    by_cases h1 : e.2.1 = b
    · simp only [if_pos h1, recF]
    · simp only [if_neg h1, recF] at h ⊢; exact rec_put h
theorem blk_put {b : Nat} {r : Rec} {ky : Key} : ∀ {l : FLs}, blkF ky (putM b r l) = blkF ky l
  | [] => rfl
  | e :: l => by
    simp only [putM, blkF]
    by_cases h1 : e.2.1 = b
    · simp only [if_pos h1, blkF]
    · simp only [if_neg h1, blkF, blk_put]
theorem has_put {b : Nat} {r : Rec} {ky : Key} {l : FLs} : hasF ky (putM b r l) = hasF ky l := by unfold hasF; rw [blk_put]
def SZC : Nat := 1048576
theorem szc_lim {n : Nat} (h : n ≤ SZC) : n ≤ LIM := by unfold SZC at h; unfold LIM; omega
abbrev MapL := List (Key × AV)
structure MOk (m : MapL) : Prop where
  nd : (m.map (·.1)).Nodup
  str : ∀ p ∈ m, ∃ d v, p = (Key.s d, AV.d (.v (.string v))) ∧ d.size ≤ SZC ∧ v.size ≤ LIM
structure CrOk (l : FLs) : Prop where
  nd : (l.map (·.2.1)).Nodup
  kd : (l.map (·.1)).Nodup
  key : ∀ e ∈ l, ∃ u, e.1 = .s u ∧ u.size ≤ SZC
  ms : ∀ e ∈ l, e.2.2.m ≠ [] ∧ MOk e.2.2.m
def devs (l : FLs) (u : ByteArray) : MapL := match blkF (.s u) l with
  | some b => (match recF b l with | some r => r.m | none => [])
  | none => []
def cntL (l : FLs) : Nat := (l.map fun e => e.2.2.m.length).sum
theorem CrOk.uni {l : FLs} (h : CrOk l) {k : Key} {b : Nat} {r : Rec} (hm : (k, b, r) ∈ l) : ∀ e ∈ l, e.1 = k → e = (k, b, r) := fun e he hk => keys_nd h.kd he hm hk
theorem CrOk.blk {l : FLs} (h : CrOk l) {k : Key} {b : Nat} {r : Rec} (hm : (k, b, r) ∈ l) : blkF k l = some b ∧ recF b l = some r := by
  have h1 : recF b l = some r := rec_mem h.nd hm
  refine ⟨?_, h1⟩
  cases hb : blkF k l with
  | none => exact absurd rfl (blk_none hb _ hm)
  | some c =>
    obtain ⟨r2, h2⟩ := blk_mem hb
    cases h.uni hm _ h2 rfl; rfl
theorem devs_mem {l : FLs} (h : CrOk l) {u : ByteArray} {b : Nat} {r : Rec} (hm : (Key.s u, b, r) ∈ l) : devs l u = r.m := by
  unfold devs
  rw [(h.blk hm).1]
  simp only [(h.blk hm).2]
theorem devs_no {l : FLs} {u : ByteArray} (h : ∀ e ∈ l, e.1 ≠ .s u) : devs l u = [] := by
  unfold devs; rw [blk_no h]
theorem devs_cases {l : FLs} (h : CrOk l) (u : ByteArray) : (∃ b r, (Key.s u, b, r) ∈ l ∧ devs l u = r.m ∧ r.m ≠ [] ∧ MOk r.m) ∨ (devs l u = [] ∧ ∀ e ∈ l, e.1 ≠ .s u) := by
  cases hb : blkF (.s u) l with
  | none => exact .inr ⟨devs_no (blk_none hb), blk_none hb⟩
  | some b =>
    obtain ⟨r, hr⟩ := blk_mem hb
    exact .inl ⟨b, r, hr, devs_mem h hr, h.ms _ hr⟩
structure ChR (u : ByteArray) (l l' : FLs) (m' : MapL) : Prop where
  ok : CrOk l'
  dv : ∀ w, devs l' w = if w = u then m' else devs l w
  cnt : cntL l' + (devs l u).length = cntL l + m'.length
theorem cnt_app (a b : FLs) : cntL (a ++ b) = cntL a + cntL b := by unfold cntL; rw [List.map_append, List.sum_append]
theorem cnt_cons (e : Ent3) (l : FLs) : cntL (e :: l) = e.2.2.m.length + cntL l := by unfold cntL; rw [List.map_cons, List.sum_cons]
theorem ch_put {l : FLs} (h : CrOk l) {u : ByteArray} {b : Nat} {r r' : Rec} (hm : (Key.s u, b, r) ∈ l) (hne : r'.m ≠ []) (hok : MOk r'.m) : ChR u l (putM b r' l) r'.m := by
  obtain ⟨l1, l2, e1, e2, e3⟩ := put_split (r' := r') h.nd hm
  have hk : ∀ e ∈ l1 ++ (Key.s u, b, r') :: l2, e = (Key.s u, b, r') ∨ e ∈ l := fun e he => by
    rw [e1]
    rcases List.mem_append.1 he with he | he
    · exact .inr (by simp [he])
    · rcases List.mem_cons.1 he with he | he
      · exact .inl he
      · exact .inr (by simp [he])
  have hokk : CrOk (putM b r' l) := by
    rw [e2]
    refine ⟨?_, ?_, fun e he => ?_, fun e he => ?_⟩
    · have := h.nd; rw [e1] at this; simpa using this
    · have := h.kd; rw [e1] at this; simpa using this
    · rcases hk e he with rfl | he
      · obtain ⟨v, e1, h1⟩ := h.key _ hm; exact ⟨v, e1, h1⟩
      · exact h.key e he
    · rcases hk e he with rfl | he
      · exact ⟨hne, hok⟩
      · exact h.ms e he
  have hin : (Key.s u, b, r') ∈ putM b r' l := by rw [e2]; simp
  refine ⟨hokk, fun w => ?_, ?_⟩
  · by_cases hw : w = u
    · subst hw; rw [if_pos rfl]; exact devs_mem hokk hin
    · rw [if_neg hw]
      unfold devs
      rw [blk_put]
      cases hb : blkF (.s w) l with
      | none => rfl
      | some c =>
        obtain ⟨rw, hrw⟩ := blk_mem hb
        have hcb : c ≠ b := fun e => by
          subst e
          have h1 := rec_mem h.nd hrw
          have h2 := rec_mem h.nd hm
          have : (Key.s w, c, rw) ∈ l1 ++ (Key.s u, c, r) :: l2 := by rw [← e1]; exact hrw
          rcases List.mem_append.1 this with h3 | h3
          · exact e3 (Key.s w, c, rw) (by simp [h3]) rfl
          · rcases List.mem_cons.1 h3 with h3 | h3
            · exact hw (Key.s.inj (Prod.mk.inj h3).1)
            · exact e3 (Key.s w, c, rw) (by simp [h3]) rfl
        have hin2 : (Key.s w, c, rw) ∈ putM b r' l := by
          rw [e2]
          have : (Key.s w, c, rw) ∈ l1 ++ (Key.s u, b, r) :: l2 := by rw [← e1]; exact hrw
          rcases List.mem_append.1 this with h3 | h3
          · simp [h3]
          · rcases List.mem_cons.1 h3 with h3 | h3
            · exact absurd (Prod.mk.inj (Prod.mk.inj h3).2).1 hcb
            · simp [h3]
        have g1 : recF c (putM b r' l) = some rw := rec_mem hokk.nd hin2
        have g2 : recF c l = some rw := rec_mem h.nd hrw
        simp only [g1, g2]
  · rw [devs_mem h hm, e2]
    have : cntL l = cntL (l1 ++ (Key.s u, b, r) :: l2) := by rw [← e1]
    rw [this]
    simp only [cnt_app, cnt_cons]
    omega
theorem ch_del {l : FLs} (h : CrOk l) (u : ByteArray) : ChR u l (delF (.s u) l) [] := by
  rcases devs_cases h u with ⟨b, r, hm, hd, _⟩ | ⟨hd, hno⟩
  · obtain ⟨l1, l2, e1, e2, e3⟩ := del_split (h.uni hm) hm
    have hs : (l1 ++ l2).Sublist l := by rw [e1]; exact (List.Sublist.refl l1).append (List.sublist_cons_self _ _)
    have hokk : CrOk (delF (.s u) l) := by
      rw [e2]
      exact ⟨h.nd.sublist (hs.map _), h.kd.sublist (hs.map _), fun e he => h.key e (hs.subset he), fun e he => h.ms e (hs.subset he)⟩
    have hnot : ∀ e ∈ l1 ++ l2, e.1 ≠ .s u := fun e he hk => by
      have h1 := h.uni hm e (hs.subset he) hk
      have h2 := h.kd
      rw [e1, List.map_append, List.map_cons, List.nodup_append] at h2
      rcases List.mem_append.1 he with h3 | h3
      · exact h2.2.2 e.1 (List.mem_map_of_mem (f := fun x : Ent3 => x.1) h3) (Key.s u) (by simp) hk
      · have := (List.nodup_cons.1 h2.2.1).1
        have h5 := List.mem_map_of_mem (f := fun x : Ent3 => x.1) h3
        rw [hk] at h5
        exact this h5
    refine ⟨hokk, fun w => ?_, ?_⟩
    · by_cases hw : w = u
      · subst hw; rw [if_pos rfl]; exact devs_no (by rw [e2]; exact hnot)
      · rw [if_neg hw]
        rcases devs_cases h w with ⟨c, s, hc, hd2, _⟩ | ⟨hd2, hno⟩
        · have : (Key.s w, c, s) ∈ delF (.s u) l := by
            rw [e2]
            have : (Key.s w, c, s) ∈ l1 ++ (Key.s u, b, r) :: l2 := by rw [← e1]; exact hc
            rcases List.mem_append.1 this with h3 | h3
            · simp [h3]
            · rcases List.mem_cons.1 h3 with h3 | h3
              · exact absurd (Key.s.inj (Prod.mk.inj h3).1) hw
              · simp [h3]
          rw [devs_mem hokk this, hd2]
        · rw [hd2]; exact devs_no (fun e he => hno e (by rw [e2] at he; exact hs.subset he))
    · rw [hd, e2]
      have : cntL l = cntL (l1 ++ (Key.s u, b, r) :: l2) := by rw [← e1]
      rw [this]
      simp only [cnt_app, cnt_cons, List.length_nil]
      omega
  · rw [del_none hno]
    refine ⟨h, fun w => ?_, by rw [hd]⟩
    by_cases hw : w = u
    · subst hw; rw [if_pos rfl]; exact hd
    · rw [if_neg hw]
theorem ch_add {l : FLs} (h : CrOk l) {u : ByteArray} (hus : u.size ≤ SZC) {b : Nat} {r : Rec} (hno : ∀ e ∈ l, e.1 ≠ .s u) (hb : newF b l) (hne : r.m ≠ []) (hok : MOk r.m) : ChR u l (l ++ [(.s u, b, r)]) r.m := by
  have hokk : CrOk (l ++ [(.s u, b, r)]) := by
    refine ⟨?_, ?_, fun e he => ?_, fun e he => ?_⟩
    · rw [List.map_append, List.nodup_append]
      refine ⟨h.nd, by simp, fun x hx y hy => ?_⟩
      obtain ⟨e, he, rfl⟩ := List.mem_map.1 hx
      simp only [List.map_cons, List.map_nil, List.mem_singleton] at hy
      subst hy
      exact hb e he
    · rw [List.map_append, List.nodup_append]
      refine ⟨h.kd, by simp, fun x hx y hy => ?_⟩
      obtain ⟨e, he, rfl⟩ := List.mem_map.1 hx
      simp only [List.map_cons, List.map_nil, List.mem_singleton] at hy
      subst hy
      exact hno e he
    · rcases List.mem_append.1 he with he | he
      · exact h.key e he
      · simp only [List.mem_singleton] at he; subst he; exact ⟨u, rfl, hus⟩
    · rcases List.mem_append.1 he with he | he
      · exact h.ms e he
      · simp only [List.mem_singleton] at he; subst he; exact ⟨hne, hok⟩
  refine ⟨hokk, fun w => ?_, ?_⟩
  · by_cases hw : w = u
    · subst hw; rw [if_pos rfl]; exact devs_mem (b := b) hokk (by simp)
    · rw [if_neg hw]
      rcases devs_cases h w with ⟨c, s, hc, hd2, _⟩ | ⟨hd2, hno2⟩
      · rw [devs_mem (b := c) (r := s) hokk (by simp [hc]), hd2]
      · rw [hd2]
        refine devs_no fun e he => ?_
        rcases List.mem_append.1 he with he | he
        · exact hno2 e he
        · simp only [List.mem_singleton] at he; subst he; exact fun e => hw (Key.s.inj e).symm
  · rw [devs_no hno, cnt_app, cnt_cons]
    simp [cntL]
end Go.Proofs.YthbejheedpdioaaDoor
