import Derived.Test.YtepkbbkfcnejmaaDoorLeVic
set_option linter.unusedSimpArgs false
set_option linter.unusedVariables false
namespace Go.Proofs.YtepkbbkfcnejmaaDoor
open Go Go.AM Go.RowKit
abbrev kI (n : Int) : Key := .i .i64 n
theorem blk_mem {ky : Key} : ∀ {l : FLs} {b : Nat}, blkF ky l = some b → ∃ r, (ky, b, r) ∈ l
  | [], b, h => by cases h
  | e :: l, b, h => by
    simp only [blkF] at h
    split at h
    · rename_i e1; cases h; obtain ⟨k, c, r⟩ := e; cases e1; exact ⟨r, by simp⟩
    · obtain ⟨r, hr⟩ := blk_mem h; exact ⟨r, List.mem_cons_of_mem _ hr⟩
theorem blk_none {ky : Key} : ∀ {l : FLs}, blkF ky l = none → ∀ e ∈ l, e.1 ≠ ky
  | [], h, e, he => by cases he
  | x :: l, h, e, he => by
    simp only [blkF] at h
    split at h
    · cases h
    · rename_i hx
      rcases List.mem_cons.1 he with rfl | he
      · exact hx
      · exact blk_none h e he
theorem keys_nd {l : FLs} (h : (keysF l).Pairwise (· < ·)) : ∀ {e e' : Ent3}, e ∈ l → e' ∈ l → e.1 = e'.1 → e = e' := by
  intro e e' he he' hk
  obtain ⟨i, hi, rfl⟩ := List.getElem_of_mem he
  obtain ⟨j, hj, rfl⟩ := List.getElem_of_mem he'
  rw [List.pairwise_iff_getElem] at h
  have h0 := fun (i j : Nat) (hi : i < l.length) (hj : j < l.length) (hij : i < j) => h i j (by simpa [keysF] using hi) (by simpa [keysF] using hj) hij
  simp only [keysF, List.getElem_map] at h0
  rcases Nat.lt_trichotomy i j with g | g | g
  · have := h0 i j hi hj g; rw [hk] at this; omega
  · subst g; rfl
  · have := h0 j i hj hi g; rw [hk] at this; omega
theorem put_split {b : Nat} {r' : Rec} : ∀ {l : FLs} {k : Key} {r : Rec}, (l.map (·.2.1)).Nodup → (k, b, r) ∈ l → ∃ l1 l2, l = l1 ++ (k, b, r) :: l2 ∧ putM b r' l = l1 ++ (k, b, r') :: l2 ∧ ∀ x ∈ l1 ++ l2, x.2.1 ≠ b
  | [], k, r, _, h => by cases h
  | e :: l, k, r, hn, h => by
    rw [List.map_cons, List.nodup_cons] at hn
    by_cases hb : e.2.1 = b
    · have he : e = (k, b, r) := by
        rcases List.mem_cons.1 h with h | h
        · exact h.symm
        · exact absurd (List.mem_map_of_mem (f := fun x : Ent3 => x.2.1) h) (by show ¬ b ∈ _; rw [← hb]; exact hn.1)
      refine ⟨[], l, by rw [he]; rfl, by simp only [putM]; rw [if_pos hb, he]; rfl, fun x hx hxb => hn.1 ?_⟩
      rw [hb, ← hxb]; exact List.mem_map_of_mem (f := fun x : Ent3 => x.2.1) (by simpa using hx)
    · rcases List.mem_cons.1 h with h | h
      · exact absurd (by rw [← h]) hb
      · obtain ⟨l1, l2, h1, h2, h3⟩ := put_split hn.2 h
        refine ⟨e :: l1, l2, by rw [h1]; rfl, by simp only [putM]; rw [if_neg hb, h2]; rfl, fun x hx => ?_⟩
        rcases List.mem_cons.1 hx with rfl | hx
        · exact hb
        · exact h3 x hx
theorem del_split {k : Key} {b : Nat} {r : Rec} : ∀ {l : FLs}, (∀ e ∈ l, e.1 = k → e = (k, b, r)) → (k, b, r) ∈ l → ∃ l1 l2, l = l1 ++ (k, b, r) :: l2 ∧ delF k l = l1 ++ l2 ∧ ∀ x ∈ l1, x.1 ≠ k
  | [], _, h => by cases h
  | e :: l, hu, h => by
    by_cases hk : e.1 = k
    · have := hu e (by simp) hk
      exact ⟨[], l, by rw [this]; rfl, by simp only [delF]; rw [if_pos hk]; rfl, fun x hx => by cases hx⟩
    · rcases List.mem_cons.1 h with h | h
      · exact absurd (by rw [← h]) hk
      · obtain ⟨l1, l2, h1, h2, h3⟩ := del_split (fun e he => hu e (by simp [he])) h
        refine ⟨e :: l1, l2, by rw [h1]; rfl, by simp only [delF]; rw [if_neg hk, h2]; rfl, fun x hx => ?_⟩
        rcases List.mem_cons.1 hx with rfl | hx
        · exact hk
        · exact h3 x hx
theorem del_sub (k : Key) : ∀ (l : FLs), (delF k l).Sublist l
  | [] => List.Sublist.refl _
  | e :: l => by
    simp only [delF]
    split
    · exact List.sublist_cons_self _ _
    · exact (del_sub k l).cons_cons e
theorem put_put {b : Nat} {r r' : Rec} : ∀ (l : FLs), putM b r' (putM b r l) = putM b r' l
  | [] => rfl
  | e :: l => by
    simp only [putM]
    by_cases h : e.2.1 = b
    · simp only [if_pos h, putM]
    · simp only [if_neg h, putM, put_put l]
theorem rec_put {b : Nat} {r : Rec} : ∀ {l : FLs} {r0 : Rec}, recF b l = some r0 → recF b (putM b r l) = some r
  | [], _, h => by cases h
  | e :: l, r0, h => by
    simp only [putM, recF] at h ⊢
    by_cases h1 : e.2.1 = b
    · simp only [if_pos h1, recF]
    · simp only [if_neg h1, recF] at h ⊢; exact rec_put h
structure Tab (l : FLs) (n : Int) : Prop where
  key : ∀ e ∈ l, e.1 = kI (keyI e.1) ∧ 1 ≤ keyI e.1 ∧ keyI e.1 ≤ n
  ord : (keysF l).Pairwise (· < ·)
  nd : (l.map (·.2.1)).Nodup
  id : ∀ e ∈ l, e.2.2.i 0 = keyI e.1
theorem sorted_len : ∀ (ks : List Int) (n : Int), ks.Pairwise (· < ·) → 0 ≤ n → (∀ k ∈ ks, 1 ≤ k ∧ k ≤ n) → (ks.length : Int) ≤ n := by
  intro ks
  suffices h : ∀ (ks : List Int) (a n : Int), ks.Pairwise (· < ·) → a ≤ n → (∀ k ∈ ks, a < k ∧ k ≤ n) → a + ks.length ≤ n from fun n h1 h2 h3 => by
    have := h ks 0 n h1 h2 fun k hk => ⟨by have := (h3 k hk).1; omega, (h3 k hk).2⟩
    omega
  intro ks
  induction ks with
  | nil => intro a n _ h _; simpa using h
  | cons k ks ih =>
    intro a n hp ha hk
    rw [List.pairwise_cons] at hp
    have := ih k n hp.2 (hk k (by simp)).2 fun x hx => ⟨hp.1 x hx, (hk x (by simp [hx])).2⟩
    have h1 := (hk k (by simp)).1
    simp only [List.length_cons]
    omega
theorem Tab.len {l : FLs} {n : Int} (h : Tab l n) (h0 : 0 ≤ n) : (l.length : Int) ≤ n := by
  have := sorted_len (keysF l) n h.ord h0 fun k hk => by
    obtain ⟨e, he, rfl⟩ := List.mem_map.1 hk
    exact (h.key e he).2
  simpa [keysF] using this
theorem Tab.ok {l : FLs} {n : Int} (h : Tab l n) (h0 : 0 ≤ n) (h1 : n ≤ 1000) : TabOk l :=
  ⟨⟨fun e he => ⟨keyI e.1, (h.key e he).1, by have := (h.key e he).2; omega, by have := (h.key e he).2; omega⟩, h.ord, by have := h.len h0; omega⟩, h.nd⟩
theorem Tab.nil : Tab [] 0 := ⟨fun e he => (List.not_mem_nil he).elim, List.Pairwise.nil, List.nodup_nil, fun e he => (List.not_mem_nil he).elim⟩
theorem Tab.uni {l : FLs} {n : Int} (h : Tab l n) {k : Key} {b : Nat} {r : Rec} (hm : (k, b, r) ∈ l) : ∀ e ∈ l, e.1 = k → e = (k, b, r) := fun e he hk => keys_nd h.ord he hm hk
theorem Tab.sub {l l' : FLs} {n : Int} (h : Tab l n) (hs : l'.Sublist l) : Tab l' n :=
  ⟨fun e he => h.key e (hs.subset he), h.ord.sublist (hs.map _), h.nd.sublist (hs.map _), fun e he => h.id e (hs.subset he)⟩
theorem Tab.del {l : FLs} {n : Int} (h : Tab l n) (k : Key) : Tab (delF k l) n := h.sub (del_sub k l)
theorem Tab.put {l : FLs} {n : Int} (h : Tab l n) {k : Key} {b : Nat} {r r' : Rec} (hm : (k, b, r) ∈ l) (hr : r'.i 0 = r.i 0) : Tab (putM b r' l) n := by
  obtain ⟨l1, l2, h1, h2, _⟩ := put_split (r' := r') h.nd hm
  rw [h2]
  have hk : ∀ e ∈ l1 ++ (k, b, r') :: l2, ∃ e' ∈ l, e'.1 = e.1 ∧ e'.2.1 = e.2.1 ∧ e'.2.2.i 0 = e.2.2.i 0 := by
    intro e he
    rw [h1]
    rcases List.mem_append.1 he with he | he
    · exact ⟨e, by simp [he], rfl, rfl, rfl⟩
    · rcases List.mem_cons.1 he with rfl | he
      · exact ⟨(k, b, r), by simp, rfl, rfl, hr.symm⟩
      · exact ⟨e, by simp [he], rfl, rfl, rfl⟩
  refine ⟨fun e he => ?_, ?_, ?_, fun e he => ?_⟩
  · obtain ⟨e', he', e1, _⟩ := hk e he
    rw [← e1]; exact h.key e' he'
  · have := h.ord; rw [h1] at this; simpa [keysF] using this
  · have := h.nd; rw [h1] at this; simpa using this
  · obtain ⟨e', he', e1, _, e3⟩ := hk e he
    rw [← e3, ← e1]; exact h.id e' he'
theorem Tab.add {l : FLs} {n : Int} (h : Tab l n) (h0 : 0 ≤ n) {b : Nat} (hb : newF b l) {r : Rec} (hr : r.i 0 = n + 1) : Tab (l ++ [(kI (n + 1), b, r)]) (n + 1) := by
  refine ⟨fun e he => ?_, ?_, ?_, fun e he => ?_⟩
  · rcases List.mem_append.1 he with he | he
    · obtain ⟨a1, a2, a3⟩ := h.key e he; exact ⟨a1, a2, by omega⟩
    · simp only [List.mem_singleton] at he; subst he; exact ⟨rfl, by show 1 ≤ n + 1; omega, Int.le_refl _⟩
  · have e : keysF (l ++ [(kI (n + 1), b, r)]) = keysF l ++ [n + 1] := by simp [keysF, keyI]
    rw [e, List.pairwise_append]
    refine ⟨h.ord, List.pairwise_singleton _ _, fun x hx y hy => ?_⟩
    simp only [List.mem_singleton] at hy
    obtain ⟨e, he, rfl⟩ := List.mem_map.1 hx
    have := (h.key e he).2.2
    omega
  · rw [List.map_append, List.nodup_append]
    refine ⟨h.nd, by simp, fun x hx y hy => ?_⟩
    obtain ⟨e, he, rfl⟩ := List.mem_map.1 hx
    simp only [List.map_cons, List.map_nil, List.mem_singleton] at hy
    subst hy
    exact hb e he
  · rcases List.mem_append.1 he with he | he
    · exact h.id e he
    · simp only [List.mem_singleton] at he; subst he; exact hr
theorem Tab.blk_of {l : FLs} {n : Int} (h : Tab l n) {k : Key} {b : Nat} {r : Rec} (hm : (k, b, r) ∈ l) : blkF k l = some b := by
  cases hb : blkF k l with
  | none => exact absurd rfl (blk_none hb _ hm)
  | some c =>
    obtain ⟨r2, h2⟩ := blk_mem hb
    cases h.uni hm _ h2 rfl; rfl
theorem TabOk.uni {l : FLs} (h : TabOk l) {k : Key} {b : Nat} {r : Rec} (hm : (k, b, r) ∈ l) : ∀ e ∈ l, e.1 = k → e = (k, b, r) := fun e he hk => keys_nd h.ids.ord he hm hk
def selE (u : ByteArray) (l : FLs) : FLs := l.filter fun e => pVi u e.2.2
def slpE (m : FLs) : FLs := m.filter fun e => !pAw e.2.2
def victE (u : ByteArray) (l : FLs) : Option Ent3 := match slpE (selE u l) with
  | y :: m => some (minG y m)
  | [] => (selE u l).head?
def StOk (u d : ByteArray) (c : Int) (l : FLs) : Prop := userB u = true ∧ userB d = true ∧ 0 ≤ c ∧ firstE (pOn c) l = none
def StVi (mo : Int) (u : ByteArray) (l : FLs) (g : Int) (l1 : FLs) : Prop := ((selE u l).length < mo ∧ g = 0 ∧ l1 = l) ∨ (mo ≤ (selE u l).length ∧ ∃ v, victE u l = some v ∧ g = v.2.2.i 0 ∧ l1 = delF (kI g) l)
def StR (mo : Int) (u d : ByteArray) (c : Int) (l : FLs) (la a g e : Int) (l' : FLs) (la' : Int) : Prop :=
  (StOk u d c l ∧ e = 0 ∧ a = la + 1 ∧ la' = la + 1 ∧ ∃ l1 b r, StVi mo u l g l1 ∧ newF b l1 ∧ (r.i 0 = la + 1 ∧ r.s 1 = u ∧ r.s 2 = d ∧ r.s 3 = ⟨#[]⟩ ∧ r.i 4 = c ∧ r.i 5 = 0) ∧ l' = l1 ++ [(kI (la + 1), b, r)]) ∨
  (¬ StOk u d c l ∧ e ≠ 0 ∧ l' = l ∧ la' = la)
def GvOk (id : Int) (tok : ByteArray) (l : FLs) (b : Nat) (r : Rec) : Prop := (kI id, b, r) ∈ l ∧ r.s 3 = ⟨#[]⟩ ∧ r.i 4 ≠ -1 ∧ firstE (pWi tok) l = none ∧ tok ≠ ⟨#[]⟩
def GvR (id : Int) (tok : ByteArray) (l : FLs) (e : Int) (l' : FLs) : Prop :=
  (∃ b r, GvOk id tok l b r ∧ e = 0 ∧ l' = putM b (r.put 3 (mkS tok)) l) ∨ (e ≠ 0 ∧ l' = l ∧ ∀ b r, ¬ GvOk id tok l b r)
def LoOk (id now : Int) (l : FLs) (b : Nat) (r : Rec) : Prop := (kI id, b, r) ∈ l ∧ r.i 4 ≠ -1 ∧ 0 ≤ now ∧ now ≤ 1099511627776
def LoR (le id now : Int) (l : FLs) (z : Bool) (e : Int) (l' : FLs) : Prop :=
  (∃ b r, LoOk id now l b r ∧ e = 0 ∧ ((r.s 3 = ⟨#[]⟩ ∧ z = false ∧ l' = delF (kI id) l) ∨ (r.s 3 ≠ ⟨#[]⟩ ∧ z = true ∧ l' = putM b ((r.put 4 (mkI .i64 (-1))).put 5 (mkI .i64 (now + le))) l))) ∨ (e ≠ 0 ∧ l' = l ∧ ∀ b r, ¬ LoOk id now l b r)
def RsR (tok : ByteArray) (c now : Int) (l : FLs) (a o e : Int) (l' : FLs) : Prop :=
  (e = 0 ∧ ∃ k b r, firstE (pWi tok) l = some (k, b, r) ∧ a = r.i 0 ∧ o = r.i 4 ∧ firstE (pOn c) l = none ∧ l' = putM b ((r.put 4 (mkI .i64 c)).put 5 (mkI .i64 0)) l) ∨ (e ≠ 0 ∧ l' = l)
def EnR (id : Int) (l : FLs) (e : Int) (l' : FLs) : Prop := (e = 0 ∧ l' = delF (kI id) l) ∨ (e ≠ 0 ∧ l' = l)
end Go.Proofs.YtepkbbkfcnejmaaDoor
