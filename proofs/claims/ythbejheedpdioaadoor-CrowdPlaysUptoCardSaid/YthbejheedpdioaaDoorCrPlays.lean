import Derived.Test.YthbejheedpdioaaDoorCrRH
import Derived.Test.YthbejheedpdioaaDoorCrFgt
import Derived.Test.YthbejheedpdioaaDoorCrSame
import Derived.Test.YthbejheedpdioaaDoorCrLeaves
set_option linter.unusedSimpArgs false
set_option linter.unusedVariables false
set_option maxRecDepth 10000
namespace Go.Proofs.YthbejheedpdioaaDoor
open Go Go.AM Go.RowKit
theorem lessB_irr (a : BA) : lessB a a = false := decide_eq_false (List.lt_irrefl _)
theorem lessB_trans {a b c : BA} (h1 : lessB a b = true) (h2 : lessB b c = true) : lessB a c = true :=
  decide_eq_true (List.lt_trans (of_decide_eq_true h1) (of_decide_eq_true h2))
theorem lessB_tri {a b : BA} (h1 : lessB a b = false) (hn : a ≠ b) : lessB b a = true := by
  refine decide_eq_true (Classical.byContradiction fun h => hn (bytes_ext (List.le_antisymm ?_ ?_)))
  · exact h
  · exact of_decide_eq_false h1
theorem lessB_le {a b : BA} (h : lessB a b = true) : a.data.toList ≤ b.data.toList := List.le_of_lt (of_decide_eq_true h)
theorem ahead_trans {a b c : One} (h1 : aheadP a b = true) (h2 : aheadP b c = true) : aheadP a c = true := by
  unfold aheadP at *
  simp only [Bool.or_eq_true, Bool.and_eq_true, decide_eq_true_eq] at *
  rcases h1 with h1 | ⟨h1, h3⟩ <;> rcases h2 with h2 | ⟨h2, h4⟩
  · exact .inl (lessB_trans h1 h2)
  · exact .inl (h2 ▸ h1)
  · exact .inl (h1 ▸ h2)
  · exact .inr ⟨h1.trans h2, lessB_trans h3 h4⟩
theorem ahead_tri {x o : One} (h : aheadP x o = false) (hn : ¬ (x.u = o.u ∧ x.d = o.d)) : aheadP o x = true := by
  unfold aheadP at *
  simp only [Bool.or_eq_false_iff, Bool.and_eq_false_iff, decide_eq_false_iff_not] at h
  simp only [Bool.or_eq_true, Bool.and_eq_true, decide_eq_true_eq]
  by_cases hu : x.u = o.u
  · have hd : x.d ≠ o.d := fun e => hn ⟨hu, e⟩
    exact .inr ⟨hu.symm, lessB_tri (h.2.resolve_left fun f => f hu) hd⟩
  · exact .inl (lessB_tri h.1 hu)
theorem ahead_pair {a b : One} (h : aheadP a b = true) : ¬ (a.u = b.u ∧ a.d = b.d) := by
  rintro ⟨h1, h2⟩
  unfold aheadP at h
  rw [h1, h2, lessB_irr, lessB_irr] at h
  simp at h
def Srt (L : List One) : Prop := L.Pairwise fun a b => aheadP a b = true
theorem ins_mem {x o : One} : ∀ {l : List One}, o ∈ insR x l ↔ o = x ∨ o ∈ l
  | [] => by simp [insR]
  | y :: l => by
    simp only [insR]
    split
    · simp
    · rw [List.mem_cons, ins_mem, List.mem_cons]
      constructor
      · rintro (h | h | h)
        · exact .inr (.inl h)
        · exact .inl h
        · exact .inr (.inr h)
      · rintro (h | h | h)
        · exact .inr (.inl h)
        · exact .inl h
        · exact .inr (.inr h)
theorem ins_srt {x : One} : ∀ {l : List One}, Srt l → (∀ o ∈ l, ¬ (x.u = o.u ∧ x.d = o.d)) → Srt (insR x l)
  | [], _, _ => List.pairwise_singleton _ _
  | y :: l, h, hn => by
    unfold Srt at h
    rw [List.pairwise_cons] at h
    simp only [insR]
    split
    · rename_i hx
      unfold Srt
      rw [List.pairwise_cons, List.pairwise_cons]
      refine ⟨fun o ho => ?_, h⟩
      rcases List.mem_cons.1 ho with rfl | ho
      · exact hx
      · exact ahead_trans hx (h.1 o ho)
    · rename_i hx
      unfold Srt
      rw [List.pairwise_cons]
      refine ⟨fun o ho => ?_, ins_srt h.2 fun o ho => hn o (by simp [ho])⟩
      rcases ins_mem.1 ho with rfl | ho
      · exact ahead_tri (by simpa using hx) (hn y (by simp))
      · exact h.1 o ho
structure RlC (l : FLs) (L : List One) : Prop where
  ok : CrOk l
  n : cntL l ≤ 64
  srt : Srt L
  mem : ∀ o : One, o ∈ L ↔ lk l o.u o.d = some o.sh
  usr : ∀ o ∈ L, userB o.u = true ∧ userB o.d = true
theorem rl_nil : RlC [] [] := ⟨crOk_nil, by decide, List.Pairwise.nil, fun o => ⟨fun h => (by cases h), fun h => (by cases h)⟩, fun o ho => (by cases ho)⟩
theorem RlC.some {l : FLs} {L : List One} (h : RlC l L) {u d : BA} : (lk l u d).isSome = true ↔ ∃ sh, (⟨u, d, sh⟩ : One) ∈ L := by
  constructor
  · intro hs
    obtain ⟨v, hv⟩ := Option.isSome_iff_exists.1 hs
    exact ⟨v, (h.mem ⟨u, d, v⟩).2 hv⟩
  · rintro ⟨sh, hs⟩
    rw [(h.mem _).1 hs]; rfl
theorem srt_pairs {L : List One} (h : Srt L) : (L.map fun o => (o.u, o.d)).Nodup := by
  unfold Srt at h
  rw [List.Nodup, List.pairwise_map]
  exact h.imp fun hab e => ahead_pair hab (Prod.mk.inj e)
theorem RlC.len {l : FLs} {L : List One} (h : RlC l L) : L.length = cntL l := by
  rw [← prs_len l, ← List.length_map (f := fun o : One => (o.u, o.d))]
  refine Nat.le_antisymm (nd_le (srt_pairs h.srt) fun p hp => ?_) (nd_le (prs_nd h.ok) fun p hp => ?_)
  · obtain ⟨o, ho, rfl⟩ := List.mem_map.1 hp
    exact (prs_mem h.ok).2 (by rw [(h.mem o).1 ho]; rfl)
  · obtain ⟨u, d⟩ := p
    obtain ⟨sh, hs⟩ := h.some.1 ((prs_mem h.ok).1 hp)
    exact List.mem_map.2 ⟨_, hs, rfl⟩
theorem user_sz {u : BA} (h : userB u = true) : u.size ≤ 16 := by
  simp only [userB, Bool.and_eq_true, decide_eq_true_eq] at h
  exact h.1.2
theorem RlC.okl {l : FLs} {L : List One} (h : RlC l L) : OkL L := ⟨by have := h.len; have := h.n; omega, fun o ho => ⟨user_sz (h.usr o ho).1, user_sz (h.usr o ho).2⟩⟩
theorem user_ne {u : BA} (h : userB u = true) : u ≠ ⟨#[]⟩ := fun e => by rw [e, empty_user] at h; cases h
theorem cutB_of {s : BA} (h : cutD s ≠ ⟨#[]⟩) : cutB s = true := by
  cases hc : cutB s with
  | true => rfl
  | false =>
    have hc : ¬ cutI s ≥ 0 := of_decide_eq_false hc
    unfold cutD at h
    rw [if_neg hc] at h
    exact absurd rfl h
theorem nm_cut {o : One} (hu : userB o.u = true) (hd : userB o.d = true) : cutU (nmO o) = o.u ∧ cutD (nmO o) = o.d := by
  obtain ⟨h1, h2, _⟩ := addr_join hu hd
  exact ⟨h1, h2⟩
theorem show_eq {l : FLs} {L : List One} (h : RlC l L) (x : BA) : lk l (cutU x) (cutD x) = (findO L x).map One.sh := by
  cases hf : findO L x with
  | some o =>
    have ho := List.mem_of_find?_eq_some hf
    have hx : nmO o = x := of_decide_eq_true (show isO x o = true from List.find?_some (p := isO x) hf)
    obtain ⟨h1, h2⟩ := h.usr o ho
    obtain ⟨e1, e2⟩ := nm_cut h1 h2
    rw [← hx, e1, e2]
    exact (h.mem o).1 ho
  | none =>
    cases hl : lk l (cutU x) (cutD x) with
    | none => rfl
    | some v =>
      have ho := (h.mem ⟨cutU x, cutD x, v⟩).2 hl
      have hc := cutB_of (user_ne (h.usr _ ho).2)
      have hn := List.find?_eq_none.1 hf _ ho
      exact absurd (decide_eq_true (cutI_addr hc).symm) hn
theorem show_has {l : FLs} {L : List One} (h : RlC l L) (x : BA) : hasK (.s (cutD x)) (devs l (cutU x)) = hasO L x := by
  rw [lk_has, show_eq h]
  unfold hasO
  rw [Option.isSome_map]
theorem show_get {l : FLs} {L : List One} (h : RlC l L) (x : BA) : getS (.s (cutD x)) (devs l (cutU x)) = shO L x := by
  rw [lk_get, show_eq h]
  unfold shO
  cases findO L x <;> rfl
theorem rl_drop {l l' : FLs} {L : List One} (h : RlC l L) {u d : BA} (hc : ChR u l l' (lvM d (devs l u))) (hn : cntL l' ≤ 64) : RlC l' (dropL u d L) where
  ok := hc.ok
  n := hn
  srt := List.Pairwise.filter _ h.srt
  mem o := by
    unfold dropL
    rw [List.mem_filter, h.mem o, lk_off h.ok hc]
    unfold keepB
    by_cases hu : o.u = u
    · by_cases hd : d = ⟨#[]⟩
      · rw [if_pos ⟨hu, .inl hd⟩]; simp [hu, hd]
      · by_cases he : o.d = d
        · rw [if_pos ⟨hu, .inr he⟩]; simp [hu, he]
        · rw [if_neg (by rintro ⟨_, h | h⟩; exact hd h; exact he h)]; simp [hd, he]
    · rw [if_neg fun h => hu h.1]; simp [hu]
  usr o ho := h.usr o (List.mem_filter.1 ho).1
theorem rl_on {l l' : FLs} {L : List One} (h : RlC l L) {u d sh : BA} (hu : userB u = true) (hd : userB d = true) (hc : ChR u l l' (setKeyA (.s d) (mkS sh) (devs l u))) (hn : cntL l' ≤ 64) : RlC l' (insR ⟨u, d, sh⟩ (dropL u d L)) where
  ok := hc.ok
  n := hn
  srt := by
    refine ins_srt (List.Pairwise.filter _ h.srt) fun o ho hp => ?_
    have := (List.mem_filter.1 ho).2
    unfold keepB at this
    rw [decide_eq_true hp.1.symm, decide_eq_true hp.2.symm] at this
    simp at this
  mem o := by
    have hd0 := user_ne hd
    rw [ins_mem, lk_on hc]
    unfold dropL
    rw [List.mem_filter, h.mem o]
    unfold keepB
    by_cases hp : o.u = u ∧ o.d = d
    · rw [if_pos hp, decide_eq_true hp.1, decide_eq_true hp.2]
      constructor
      · rintro (rfl | ⟨_, h⟩)
        · rfl
        · simp at h
      · intro e
        refine .inl ?_
        obtain ⟨ou, od, os⟩ := o
        obtain ⟨rfl, rfl⟩ := hp
        exact congrArg _ (Option.some.inj e).symm
    · rw [if_neg hp]
      constructor
      · rintro (rfl | ⟨h, _⟩)
        · exact absurd ⟨rfl, rfl⟩ hp
        · exact h
      · intro h
        refine .inr ⟨h, ?_⟩
        by_cases h1 : o.u = u
        · have h2 : o.d ≠ d := fun e => hp ⟨h1, e⟩
          simp [h2, hd0]
        · simp [h1]
  usr o ho := by
    rcases ins_mem.1 ho with rfl | ho
    · exact ⟨hu, hd⟩
    · exact h.usr o (List.mem_filter.1 ho).1
theorem rl_hear {l l' : FLs} {L L' : List One} (h : RlC l L) {kind e e' : Int} {ty fr sh : BA} (h1 : HeR l kind ty fr sh e l') (h2 : HrR L kind ty fr sh e' L') : e = e' ∧ RlC l' L' := by
  have hk := he_keep h1 h.ok h.n
  have hlen := h.len
  have hne : (⟨#[]⟩ : BA) ≠ unB := by decide
  have hhas : hasK (.s (cutD fr)) (devs l (cutU fr)) = hasO L fr := show_has h fr
  have bb : ∀ {P : Prop}, (kind ≠ 1 ∨ addrB fr = false ∨ (ty ≠ unB ∧ (ty ≠ ⟨#[]⟩ ∨ cutD fr = ⟨#[]⟩))) → kind = 1 → addrB fr = true → (ty = unB ∨ ty = ⟨#[]⟩ ∧ cutD fr ≠ ⟨#[]⟩) → P := fun hb g1 g2 g3 => by
    refine False.elim ?_
    rcases hb with hb | hb | ⟨hb, hb2⟩
    · exact hb g1
    · rw [g2] at hb; cases hb
    · rcases g3 with g3 | ⟨g3, g4⟩
      · exact hb g3
      · exact hb2.elim (fun f => f g3) (fun f => g4 f)
  have bb2 : ∀ {P : Prop}, (kind ≠ 1 ∨ addrB fr = false ∨ (ty ≠ ⟨#[]⟩ ∧ ty ≠ unB) ∨ (ty = ⟨#[]⟩ ∧ cutD fr = ⟨#[]⟩)) → kind = 1 → addrB fr = true → (ty = unB ∨ ty = ⟨#[]⟩ ∧ cutD fr ≠ ⟨#[]⟩) → P := fun hb g1 g2 g3 => by
    refine False.elim ?_
    rcases hb with hb | hb | ⟨hb, hb2⟩ | ⟨hb, hb2⟩
    · exact hb g1
    · rw [g2] at hb; cases hb
    · rcases g3 with g3 | ⟨g3, g4⟩
      · exact hb2 g3
      · exact hb g3
    · rcases g3 with g3 | ⟨g3, g4⟩
      · exact hne (hb.symm.trans g3)
      · exact g4 hb2
  cases h1 with
  | bad hb =>
    cases h2 with
    | bad _ => exact ⟨rfl, h⟩
    | off g1 g2 g3 => exact bb hb g1 g2 (.inl g3)
    | full g1 g2 g3 g4 _ _ => exact bb hb g1 g2 (.inr ⟨g3, g4⟩)
    | on g1 g2 g3 g4 _ => exact bb hb g1 g2 (.inr ⟨g3, g4⟩)
  | off g1 g2 g3 hc =>
    cases h2 with
    | bad hb => exact bb2 hb g1 g2 (.inl g3)
    | off _ _ _ => exact ⟨rfl, rl_drop h hc hk.2⟩
    | full _ _ g4 _ _ _ => exact absurd (g4.symm.trans g3) hne
    | on _ _ g4 _ _ => exact absurd (g4.symm.trans g3) hne
  | full g1 g2 g3 g4 g5 g6 =>
    cases h2 with
    | bad hb => exact bb2 hb g1 g2 (.inr ⟨g3, g4⟩)
    | off _ _ g7 => exact absurd (g3.symm.trans g7) hne
    | full _ _ _ _ _ _ => exact ⟨rfl, h⟩
    | on _ _ _ _ g7 =>
      rcases g7 with g7 | g7
      · rw [← hhas, g5] at g7; cases g7
      · omega
  | on g1 g2 g3 g4 g5 hc =>
    cases h2 with
    | bad hb => exact bb2 hb g1 g2 (.inr ⟨g3, g4⟩)
    | off _ _ g7 => exact absurd (g3.symm.trans g7) hne
    | full _ _ _ _ g7 g8 =>
      rcases g5 with g5 | g5
      · rw [hhas, g7] at g5; cases g5
      · have := h.n; omega
    | on _ _ _ _ _ =>
      have hcb := cutB_of g4
      have ha := g2
      unfold addrB at ha
      rw [hcb] at ha
      simp only [Bool.and_eq_true, Bool.not_true, Bool.false_or] at ha
      exact ⟨rfl, rl_on h ha.1 ha.2 hc hk.2⟩
theorem rl_forget {l l' : FLs} {L : List One} {us : List BA} (h : RlC l L) (hf : FgR us l l') : RlC l' (fgL us L) where
  ok := hf.ok
  n := Nat.le_trans hf.cnt h.n
  srt := List.Pairwise.filter _ h.srt
  mem o := by
    unfold fgL
    rw [List.mem_filter, h.mem o]
    unfold lk
    rw [hf.dv]
    by_cases hm : memB o.u us = true
    · rw [if_pos hm]; exact ⟨fun h => h.1, fun h => ⟨h, hm⟩⟩
    · rw [if_neg hm]; exact ⟨fun h => absurd h.2 hm, fun h => (by cases h)⟩
  usr o ho := h.usr o (List.mem_filter.1 ho).1
theorem srt_u {L : List One} (h : Srt L) {i j : Nat} (hij : i ≤ j) (hj : j < L.length) : (uAt L i).data.toList ≤ (uAt L j).data.toList := by
  rcases Nat.lt_or_ge i j with hlt | hge
  · have := (List.pairwise_iff_getElem.1 h) i j (by omega) hj hlt
    rw [uAt_lt hj, uAt_lt (by omega)]
    unfold aheadP at this
    simp only [Bool.or_eq_true, Bool.and_eq_true, decide_eq_true_eq] at this
    rcases this with h | ⟨h, _⟩
    · exact lessB_le h
    · rw [h]; exact List.le_refl _
  · have : i = j := by omega
    subst this
    exact List.le_refl _
theorem usTo_mem {L : List One} (h : Srt L) : ∀ {i : Nat}, i ≤ L.length → ∀ w, w ∈ usTo L i ↔ ∃ j, j < i ∧ uAt L j = w
  | 0, _, w => by simp [usTo]
  | i + 1, hi, w => by
    simp only [usTo]
    rw [List.mem_append, usTo_mem h (by omega)]
    constructor
    · rintro (⟨j, hj, e⟩ | hm)
      · exact ⟨j, by omega, e⟩
      · split at hm
        · exact ⟨i, by omega, (List.mem_singleton.1 hm).symm⟩
        · cases hm
    · rintro ⟨j, hj, e⟩
      rcases Nat.lt_or_ge j i with hlt | hge
      · exact .inl ⟨j, hlt, e⟩
      · have : j = i := by omega
        subst this
        by_cases hb : usB L j = true
        · rw [if_pos hb]; exact .inr (by rw [e]; simp)
        · have hb : usB L j = false := by simpa using hb
          unfold usB at hb
          rw [Bool.or_eq_false_iff] at hb
          have h0 : j ≠ 0 := of_decide_eq_false hb.1
          have h1 : uAt L j = uAt L (j - 1) := by simpa using hb.2
          exact .inl ⟨j - 1, by omega, by rw [← h1]; exact e⟩
theorem usTo_srt {L : List One} (h : Srt L) : ∀ {i : Nat}, i ≤ L.length → (usTo L i).Pairwise fun a b => lessB a b = true
  | 0, _ => List.Pairwise.nil
  | i + 1, hi => by
    simp only [usTo]
    rw [List.pairwise_append]
    refine ⟨usTo_srt h (by omega), ?_, fun a ha b hb => ?_⟩
    · split
      · exact List.pairwise_singleton _ _
      · exact List.Pairwise.nil
    · split at hb
      · rename_i hus
        rw [List.mem_singleton] at hb
        subst hb
        obtain ⟨j, hj, rfl⟩ := (usTo_mem h (by omega) a).1 ha
        unfold usB at hus
        have h0 : i ≠ 0 := by omega
        rw [decide_eq_false h0, Bool.false_or] at hus
        have hne : uAt L i ≠ uAt L (i - 1) := by simpa using hus
        have h1 := srt_u h (show j ≤ i - 1 by omega) (show i - 1 < L.length by omega)
        have h2 := srt_u h (show i - 1 ≤ i by omega) (show i < L.length by omega)
        have hlt : lessB (uAt L (i - 1)) (uAt L i) = true := by
          refine decide_eq_true (Classical.byContradiction fun hh => hne (bytes_ext (List.le_antisymm hh h2)))
        by_cases e : uAt L j = uAt L (i - 1)
        · rw [e]; exact hlt
        · refine lessB_trans (decide_eq_true (Classical.byContradiction fun hh => e (bytes_ext (List.le_antisymm h1 hh)))) hlt
      · cases hb
theorem us_same {l : FLs} {L : List One} (h : RlC l L) {ks : List BA} (hk : SortB ks (l.map (·.1))) : ks = usTo L L.length := by
  have hs := usTo_srt h.srt (Nat.le_refl L.length)
  have hnd : (usTo L L.length).Nodup := hs.imp fun hab e => by rw [e, lessB_irr] at hab; cases hab
  refine perm_sorted ((List.perm_ext_iff_of_nodup (sortB_nd h.ok hk) hnd).2 fun w => ?_) hk.ord (hs.imp fun hab => lessB_le hab)
  rw [sortB_mem hk, us_mem h.ok, usTo_mem h.srt (Nat.le_refl _)]
  constructor
  · rintro ⟨d, hd⟩
    obtain ⟨sh, hm⟩ := h.some.1 hd
    obtain ⟨j, hj, e⟩ := List.getElem_of_mem hm
    exact ⟨j, hj, by rw [uAt_lt hj, e]⟩
  · rintro ⟨j, hj, e⟩
    refine ⟨L[j].d, h.some.2 ⟨L[j].sh, ?_⟩⟩
    rw [← e, uAt_lt hj]
    exact List.getElem_mem hj
theorem dev_same {l : FLs} {L : List One} (h : RlC l L) {u : BA} {kd : List BA} (hk : SortB kd ((devs l u).map (·.1))) : kd = (ofU u L).map One.d := by
  have hs : ((ofU u L).map One.d).Pairwise fun a b => lessB a b = true := by
    rw [List.pairwise_map]
    refine (List.Pairwise.filter _ h.srt).imp_of_mem fun {a b} ha hb hab => ?_
    have e1 : a.u = u := of_decide_eq_true (List.mem_filter.1 ha).2
    have e2 : b.u = u := of_decide_eq_true (List.mem_filter.1 hb).2
    unfold aheadP at hab
    rw [e1, e2, lessB_irr] at hab
    simpa using hab
  have hnd : ((ofU u L).map One.d).Nodup := hs.imp fun hab e => by rw [e, lessB_irr] at hab; cases hab
  have hkn : kd.Nodup := nd_of_map (hk.perm.nodup_iff.2 (devs_ok h.ok u).nd)
  refine perm_sorted ((List.perm_ext_iff_of_nodup hkn hnd).2 fun w => ?_) hk.ord (hs.imp fun hab => lessB_le hab)
  have e1 : w ∈ kd ↔ (lk l u w).isSome = true := by
    unfold lk
    rw [Option.isSome_map, find_memk, ← hk.perm.mem_iff]
    constructor
    · exact fun h => List.mem_map_of_mem h
    · intro h
      obtain ⟨v, hv, e⟩ := List.mem_map.1 h
      cases e; exact hv
  rw [e1, h.some, List.mem_map]
  constructor
  · rintro ⟨sh, hm⟩
    exact ⟨_, List.mem_filter.2 ⟨hm, by simp⟩, rfl⟩
  · rintro ⟨o, ho, rfl⟩
    obtain ⟨g1, g2⟩ := List.mem_filter.1 ho
    have : o.u = u := of_decide_eq_true g2
    exact ⟨o.sh, by rw [← this]; exact g1⟩
theorem show_same {l : FLs} {L : List One} (h : RlC l L) (u : BA) : shOf (devs l u) ((ofU u L).map One.d) = (ofU u L).map One.sh := by
  unfold shOf
  rw [List.map_map]
  refine List.map_congr_left fun o ho => ?_
  obtain ⟨g1, g2⟩ := List.mem_filter.1 ho
  have e : o.u = u := of_decide_eq_true g2
  show getS (.s o.d) (devs l u) = o.sh
  rw [lk_get, ← e, (h.mem o).1 g1]
  rfl
def trs (l : FLs) : List One := l.flatMap fun e => e.2.2.m.map fun p => ⟨keyS e.1, keyS p.1, strA p.2⟩
theorem nSh_eq (m : MapL) (x : BA) : nSh m x = (m.filter fun p => decide (strA p.2 = x)).length := by
  unfold nSh sumV
  rw [sum_rng (g := fun p : Key × AV => if strA p.2 = x then 1 else 0) m (eqAt m x) fun n hn => by simp [eqAt, hn]]
  induction m with
  | nil => rfl
  | cons p m ih =>
    rw [List.map_cons, List.sum_cons, ih, List.filter_cons]
    by_cases h : strA p.2 = x
    · rw [if_pos h, if_pos (decide_eq_true h), List.length_cons]; omega
    · rw [if_neg h, if_neg (by rw [decide_eq_false h]; decide)]; omega
theorem shN_eq (l : FLs) (x : BA) : shN l x = ((trs l).filter fun o => decide (o.sh = x)).length := by
  unfold shN sumV
  rw [sum_rng (g := fun e : Ent3 => nSh e.2.2.m x) l (shAt l x) fun n hn => by simp [shAt, hn]]
  induction l with
  | nil => rfl
  | cons e l ih =>
    unfold trs at ih ⊢
    rw [List.map_cons, List.sum_cons, ih, List.flatMap_cons, List.filter_append, List.length_append, nSh_eq, List.filter_map, List.length_map]
    rfl
theorem trs_prs (l : FLs) : (trs l).map (fun o => (o.u, o.d)) = prs l := by
  unfold trs prs
  rw [List.map_flatMap]
  congr 1
  funext e
  rw [List.map_map]
  rfl
theorem trs_mem {l : FLs} (h : CrOk l) {o : One} : o ∈ trs l ↔ lk l o.u o.d = some o.sh := by
  unfold trs
  rw [List.mem_flatMap]
  constructor
  · rintro ⟨⟨k, b, r⟩, he, hm⟩
    obtain ⟨p, hp, e2⟩ := List.mem_map.1 hm
    obtain ⟨v, hv, _⟩ := h.key _ he
    simp only at hv
    subst hv
    obtain ⟨d, x, rfl, _⟩ := (h.ms _ he).2.str p hp
    subst e2
    simp only [keyS, strA]
    unfold lk
    rw [devs_mem h he, mem_find (h.ms _ he).2.nd hp]
    rfl
  · intro hl
    unfold lk at hl
    rcases devs_cases h o.u with ⟨b, r, h1, h2, _⟩ | ⟨h2, _⟩
    · rw [h2] at hl
      cases hf : findKeyA (.s o.d) r.m with
      | none => rw [hf] at hl; cases hl
      | some v =>
        rw [hf] at hl
        refine ⟨_, h1, List.mem_map.2 ⟨_, find_mem hf, ?_⟩⟩
        obtain ⟨ou, od, os⟩ := o
        simp only [Option.map_some, Option.some.injEq] at hl
        simp only [keyS, hl]
    · rw [h2] at hl; cases hl
theorem count_same {l : FLs} {L : List One} (h : RlC l L) (x : BA) : shN l x = cntS x L := by
  have hp : (trs l).Perm L := by
    refine (List.perm_ext_iff_of_nodup (nd_of_map (by rw [trs_prs]; exact prs_nd h.ok)) (nd_of_map (srt_pairs h.srt))).2 fun o => ?_
    rw [trs_mem h.ok, h.mem o]
  rw [shN_eq, (hp.filter _).length_eq]
  rfl
end Go.Proofs.YthbejheedpdioaaDoor

namespace Go.Proofs.YthbejheedpdioaaDoor
open Go Go.AM Go.RowKit
attribute [local irreducible] aUnr aUnS aCode
noncomputable abbrev GLk : List (FuncId × En) := [(14, .det F14), (12, .ref (frameE EUs)), (13, .ref (frameE EDv)), (22, .ref (frameE EBs)), (15, .ref (frameE ECt)), (35, .ref (frameE EUr)), (36, .ref (frameE EDe)), (37, .ref (frameE EBr)), (38, .ref (frameE ECo))]
def obLk (l : FLs) (L : List One) : List Ob := [cbo, fobC l, .box [.d (.sl (onL L))], .gh [.rf 0 0, .rf 2 0]]
noncomputable def rLk_k0 (q : AV → (List Ob) → Prop) : Kont := kBlk (0 : Nat) (kSeq (aCode KS GLk (cAt [1, 1, 1, 1, 1] Tryd.b21) (kRetF KS (Array.toList (Func.results Tryd.f21)) q)) (kRetF KS (Array.toList (Func.results Tryd.f21)) q))
theorem rLk (l : FLs) (L : List One) (q : AV → List Ob → Prop) :
  (aCode KS GLk Tryd.b21 (kRetF KS Tryd.f21.results.toList q) ⟨[.rf 0 0, .rf 2 0] ++ List.replicate (Tryd.f21.ntmps - 2) .jk, obLk l L⟩) = (
  ∃ (L_1 : List One),
  ([AV.rf 0 0] = [AV.rf 0 0]) ∧
  ([Ob.box [AV.d (.sl (onL L))], Ob.gh [AV.rf 0 0]] = [Ob.box [AV.d (.sl (onL L_1))], Ob.gh [AV.rf 0 0]]) ∧
  (OkL L_1) ∧
  ((Option.some (Ob.gh [AV.rf 0 0])) = (Option.some (Ob.gh [AV.rf 0 0]))) ∧ (
   ∃ (l_1 : FLs),
   ([AV.rf 0 0] = [AV.rf 0 0]) ∧
   ([Ob.box [AV.mp (0 + 1)], Ob.bun (famR (FamD.mk KK.str (Shp.map KK.str) l)), Ob.gh [AV.rf 0 0]] = [Ob.box [AV.mp 1], Ob.bun (famR (FamD.mk KK.str (Shp.map KK.str) l_1)), Ob.gh [AV.rf 0 0]]) ∧
   (CrOk l_1) ∧
   ((cntL l_1) ≤ (1000 : Nat)) ∧ (
    ∀ (ks : List ByteArray),
    (SortB ks (List.map (fun (x : Prod Key (Prod Nat Rec)) => Prod.fst x) l_1)) →
    ((Option.some (Ob.gh [AV.rf 0 0])) = (Option.some (Ob.gh [AV.rf 0 0]))) ∧
    (((strsD ks) = (strsD (unSS (strsD ks)))) ∧ ((strsD (usTo L_1 (List.length L_1))) = (strsD (unSS (strsD (usTo L_1 (List.length L_1))))))) ∧
    bcase (!(decide ((unSS (strsD ks)) = (unSS (strsD (usTo L_1 (List.length L_1))))))) (
     q (mkB false) [Ob.box [AV.mp (if 1 < 2 then 1 else 7 + (1 - 2))], Ob.bun (famR (FamD.mk KK.str (Shp.map KK.str) l_1)), Ob.box [AV.d (.sl (onL L_1))], Ob.gh [AV.rf 0 0, AV.rf 2 0], Ob.gone, Ob.gone, Ob.gone, Ob.gone]) (
     ALoop (aCode KS GLk (cAt [1, 1, 1, 1, 0, 1, 0, 0] Tryd.b21)) (rLk_k0 q) ⟨[AV.rf 0 0, AV.rf 2 0, AV.jk, AV.jk, mkB false, AV.d (.sl (strsD (usTo L_1 (List.length L_1)))), mkI .i64 0, mkI .i64 0] ++ (jks 9 ++ ([AV.rf 2 0, AV.d (.sl (strsD (usTo L_1 (List.length L_1)))), AV.rf 0 0, AV.d (.sl (strsD ks)), AV.d (.sl (strsD (usTo L_1 (List.length L_1)))), mkB (decide ((unSS (strsD ks)) = (unSS (strsD (usTo L_1 (List.length L_1)))))), mkB false] ++ (jks 76))), [Ob.box [AV.mp (if 1 < 2 then 1 else 7 + (1 - 2))], Ob.bun (famR (FamD.mk KK.str (Shp.map KK.str) l_1)), Ob.box [AV.d (.sl (onL L_1))], Ob.gh [AV.rf 0 0, AV.rf 2 0], Ob.gone, Ob.gone, Ob.gone, Ob.gone]⟩)))) := by kernel_rfl
def stK1 (l : FLs) (L : List One) (us : List (List D)) (i : Int) : S := ⟨[.rf 0 0, .rf 2 0, .jk, .jk, mkB false, .d (.sl us), mkI .i64 0, mkI .i64 i] ++ jks 92, obLk l L⟩
noncomputable def rLk_b_k0 (q : AV → (List Ob) → Prop) : Kont := kBlk (2 : Nat) (kSeq (aCode KS GLk (cAt [1, 1, 1, 1, 1, 1, 1] Tryd.b21) (kRetF KS (Array.toList (Func.results Tryd.f21)) q)) (kRetF KS (Array.toList (Func.results Tryd.f21)) q))
theorem rLk_b {ι : Type} (st : ι → S) (inv : ι → Prop) (μ : ι → Nat) (kk : ι) (l : FLs) (L : List One) (us : List (List D)) (i : Int) (q : AV → List Ob → Prop) :
  (aCode KS GLk (cAt [1, 1, 1, 1, 0, 1, 0, 0] Tryd.b21) (kFamM [] (maskOf (stK1 l L us i)) st inv μ kk (rLk_k0 q)) (stK1 l L us i)) = (
  ((List.length us) ≤ LIM) →
  bcase (decide (i < ((List.length us) : Int))) (
   (((0 : Int) ≤ i) ∧ (i < ((List.length us) : Int))) ∧
   ((List.length (List.getD us (Int.toNat i) [])) = 1) ∧
   ((1 : Nat) ≤ (List.length (List.getD us (Int.toNat i) []))) ∧
   ((List.getD (List.getD us (Int.toNat i) []) 0 d0) = (D.v (.string (strD (List.getD (List.getD us (Int.toNat i) []) 0 d0))))) ∧ (
    ∃ (L_1 : List One),
    ∃ (u : ByteArray),
    ([AV.rf 0 0, mkS (strD (List.getD (List.getD us (Int.toNat i) []) 0 d0))] = [AV.rf 0 0, mkS u]) ∧
    ([Ob.box [AV.d (.sl (onL L))], Ob.gh [AV.rf 0 0]] = [Ob.box [AV.d (.sl (onL L_1))], Ob.gh [AV.rf 0 0]]) ∧
    (OkL L_1) ∧
    ((Option.some (Ob.gh [AV.rf 0 0])) = (Option.some (Ob.gh [AV.rf 0 0]))) ∧
    (((0 : Int) ≤ i) ∧ (i < ((List.length us) : Int))) ∧
    ((List.length (List.getD us (Int.toNat i) [])) = 1) ∧
    ((1 : Nat) ≤ (List.length (List.getD us (Int.toNat i) []))) ∧
    ((List.getD (List.getD us (Int.toNat i) []) 0 d0) = (D.v (.string (strD (List.getD (List.getD us (Int.toNat i) []) 0 d0))))) ∧ (
     ∃ (l_1 : FLs),
     ∃ (u_1 : ByteArray),
     ([AV.rf 0 0, mkS (strD (List.getD (List.getD us (Int.toNat i) []) 0 d0))] = [AV.rf 0 0, mkS u_1]) ∧
     ([Ob.box [AV.mp (0 + 1)], Ob.bun (famR (FamD.mk KK.str (Shp.map KK.str) l)), Ob.gh [AV.rf 0 0]] = [Ob.box [AV.mp 1], Ob.bun (famR (FamD.mk KK.str (Shp.map KK.str) l_1)), Ob.gh [AV.rf 0 0]]) ∧
     (CrOk l_1) ∧
     ((cntL l_1) ≤ (1000 : Nat)) ∧
     ((ByteArray.size u_1) ≤ SZC) ∧ (
      ∀ (ks : List ByteArray),
      (SortB ks (List.map (fun (x : Prod Key AV) => Prod.fst x) (devs l_1 u_1))) →
      ((Option.some (Ob.gh [AV.rf 0 0])) = (Option.some (Ob.gh [AV.rf 0 0]))) ∧
      (((0 : Int) ≤ i) ∧ (i < ((List.length us) : Int))) ∧
      ((List.length (List.getD us (Int.toNat i) [])) = 1) ∧
      ((1 : Nat) ≤ (List.length (List.getD us (Int.toNat i) []))) ∧
      ((List.getD (List.getD us (Int.toNat i) []) 0 d0) = (D.v (.string (strD (List.getD (List.getD us (Int.toNat i) []) 0 d0))))) ∧ (
       ∃ (L_2 : List One),
       ∃ (u_2 : ByteArray),
       ([AV.rf 0 0, mkS (strD (List.getD (List.getD us (Int.toNat i) []) 0 d0))] = [AV.rf 0 0, mkS u_2]) ∧
       ([Ob.box [AV.d (.sl (onL L_1))], Ob.gh [AV.rf 0 0]] = [Ob.box [AV.d (.sl (onL L_2))], Ob.gh [AV.rf 0 0]]) ∧
       (OkL L_2) ∧
       ((ByteArray.size u_2) ≤ SZC) ∧
       ((Option.some (Ob.gh [AV.rf 0 0])) = (Option.some (Ob.gh [AV.rf 0 0]))) ∧
       (((0 : Int) ≤ i) ∧ (i < ((List.length us) : Int))) ∧
       ((List.length (List.getD us (Int.toNat i) [])) = 1) ∧
       ((1 : Nat) ≤ (List.length (List.getD us (Int.toNat i) []))) ∧
       ((List.getD (List.getD us (Int.toNat i) []) 0 d0) = (D.v (.string (strD (List.getD (List.getD us (Int.toNat i) []) 0 d0))))) ∧ (
        ∃ (l_2 : FLs),
        ∃ (u_3 : ByteArray),
        ([AV.rf 0 0, mkS (strD (List.getD (List.getD us (Int.toNat i) []) 0 d0))] = [AV.rf 0 0, mkS u_3]) ∧
        ([Ob.box [AV.mp (0 + 1)], Ob.bun (famR (FamD.mk KK.str (Shp.map KK.str) l_1)), Ob.gh [AV.rf 0 0]] = [Ob.box [AV.mp 1], Ob.bun (famR (FamD.mk KK.str (Shp.map KK.str) l_2)), Ob.gh [AV.rf 0 0]]) ∧
        (CrOk l_2) ∧
        ((cntL l_2) ≤ (1000 : Nat)) ∧ (
         ∀ (ks_1 : List ByteArray),
         (SortB ks_1 (List.map (fun (x : Prod Key AV) => Prod.fst x) (devs l_2 u_3))) →
         ((Option.some (Ob.gh [AV.rf 0 0])) = (Option.some (Ob.gh [AV.rf 0 0]))) ∧
         (((strsD ks_1) = (strsD (unSS (strsD ks_1)))) ∧ ((strsD (List.map One.d (ofU u L_1))) = (strsD (unSS (strsD (List.map One.d (ofU u L_1))))))) ∧
         bcase (!(decide ((unSS (strsD ks_1)) = (unSS (strsD (List.map One.d (ofU u L_1))))))) (
          q (mkB false) [Ob.box [AV.mp (if 1 < 2 then 1 else 11 + (1 - 2))], Ob.bun (famR (FamD.mk KK.str (Shp.map KK.str) l_2)), Ob.box [AV.d (.sl (onL L_2))], Ob.gh [AV.rf 0 0, AV.rf 2 0], Ob.gone, Ob.gone, Ob.gone, Ob.gone, Ob.gone, Ob.gone, Ob.gone, Ob.gone]) (
          bcase (!(decide ((bsS u_1 (bestF ks (shOf (devs l_1 u_1) ks))) = (bsS u_2 (bestF (List.map One.d (ofU u_2 L_2)) (List.map One.sh (ofU u_2 L_2))))))) (
           q (mkB false) [Ob.box [AV.mp (if 1 < 2 then 1 else 11 + (1 - 2))], Ob.bun (famR (FamD.mk KK.str (Shp.map KK.str) l_2)), Ob.box [AV.d (.sl (onL L_2))], Ob.gh [AV.rf 0 0, AV.rf 2 0], Ob.gone, Ob.gone, Ob.gone, Ob.gone, Ob.gone, Ob.gone, Ob.gone, Ob.gone]) (
           bcase (!((Prod.snd (bestF ks (shOf (devs l_1 u_1) ks))) == (Prod.snd (bestF (List.map One.d (ofU u_2 L_2)) (List.map One.sh (ofU u_2 L_2)))))) (
            q (mkB false) [Ob.box [AV.mp (if 1 < 2 then 1 else 11 + (1 - 2))], Ob.bun (famR (FamD.mk KK.str (Shp.map KK.str) l_2)), Ob.box [AV.d (.sl (onL L_2))], Ob.gh [AV.rf 0 0, AV.rf 2 0], Ob.gone, Ob.gone, Ob.gone, Ob.gone, Ob.gone, Ob.gone, Ob.gone, Ob.gone]) (
            FamNext st inv μ kk ⟨[AV.rf 0 0, AV.rf 2 0, AV.jk, AV.jk, mkB false, AV.d (.sl us), mkI .i64 0, mkI .i64 (IntKind.wrap .i64 (i + (1 : Int)))] ++ (jks 92), [Ob.box [AV.mp (if 1 < 2 then 1 else 11 + (1 - 2))], Ob.bun (famR (FamD.mk KK.str (Shp.map KK.str) l_2)), Ob.box [AV.d (.sl (onL L_2))], Ob.gh [AV.rf 0 0, AV.rf 2 0], Ob.gone, Ob.gone, Ob.gone, Ob.gone, Ob.gone, Ob.gone, Ob.gone, Ob.gone]⟩)))))))))) (
   ∃ (l_1 : FLs),
   ([AV.rf 0 0] = [AV.rf 0 0]) ∧
   ([Ob.box [AV.mp (0 + 1)], Ob.bun (famR (FamD.mk KK.str (Shp.map KK.str) l)), Ob.gh [AV.rf 0 0]] = [Ob.box [AV.mp 1], Ob.bun (famR (FamD.mk KK.str (Shp.map KK.str) l_1)), Ob.gh [AV.rf 0 0]]) ∧
   (CrOk l_1) ∧
   ((cntL l_1) ≤ (1000 : Nat)) ∧ (
    ∀ (m : MapL),
    (CtM m (shN l_1) (cntL l_1)) →
    ((Option.some (Ob.gh [AV.rf 0 0])) = (Option.some (Ob.gh [AV.rf 0 0]))) ∧
    (∀ (e : Prod Key AV), (e ∈ m) → ∃ (n : Int), ((Prod.snd e) = (mkI .i64 n)) ∧ True) ∧ (
     ∀ (Z : FrZ),
     ALoop (aCode KS GLk (cAt [1, 1, 1, 1, 1, 1, 0, 1, 0, 0] Tryd.b21)) (rLk_b_k0 q) ⟨[AV.rf 0 0, AV.rf 2 0, AV.jk, AV.jk, mkB false, AV.d (.sl us), mkI .i64 0, mkI .i64 i, AV.jk, AV.jk, AV.jk, AV.jk, AV.jk, AV.jk, AV.mp (if 3 < 2 then 0 else 5 + (3 - 2))] ++ (jks 9 ++ ([mkI .i64 i, AV.d (.sl us), mkI .i64 ((List.length us) : Int), mkB false] ++ (jks 48 ++ ([AV.rf 0 0, AV.mp (if 3 < 2 then 0 else 5 + (3 - 2)), AV.mp (if 3 < 2 then 0 else 5 + (3 - 2)), AV.rf 7 0] ++ (jks 20))))), [Ob.box [AV.mp (if 1 < 2 then 1 else 5 + (1 - 2))], Ob.bun (famR (FamD.mk KK.str (Shp.map KK.str) l_1)), Ob.box [AV.d (.sl (onL L))], Ob.gh [AV.rf 0 0, AV.rf 2 0], Ob.gone, Ob.gone, Ob.bun (mfzR Z), Ob.bun (itR (ItD.mk Z m (VK.int IntKind.i64) true [] Option.none))]⟩)))) := by kernel_rfl
def stK2 (l : FLs) (L : List One) (Z : FrZ) (m : MapL) (tot : Int) (vis : List Nat) (cur : Option (AV × AV)) : S := ⟨[.rf 0 0, .rf 2 0, .jk, .jk, mkB false, .jk, mkI .i64 tot, .jk] ++ jks 71 ++ [.rf 7 0] ++ jks 20, obLk l L ++ [.gone, .gone, .bun (mfzR Z), .bun (itR ⟨Z, m, .int .i64, true, vis, cur⟩)]⟩
theorem rLk_c {ι : Type} (st : ι → S) (inv : ι → Prop) (μ : ι → Nat) (kk : ι) (l : FLs) (L : List One) (Z : FrZ) (m : MapL) (tot : Int) (vis : List Nat) (cur : Option (AV × AV)) (q : AV → List Ob → Prop) :
  (aCode KS GLk (cAt [1, 1, 1, 1, 1, 1, 0, 1, 0, 0] Tryd.b21) (kFamM [] (maskOf (stK2 l L Z m tot vis cur)) st inv μ kk (rLk_b_k0 q)) (stK2 l L Z m tot vis cur)) = (
  (Z = Z) ∧
  (∀ (n : Nat), ∀ (k : Key), ∀ (v : AV), ((GetElem?.getElem? m n) = (Option.some (k, v))) → ((n ∈ vis) → False) → ∃ (n_1 : Int), (v = (mkI .i64 n_1)) ∧ (∃ (d : ByteArray), (k = (Key.s d)) ∧ (((ByteArray.size d) ≤ LIM) ∧ ((Z = Z) ∧ (∃ (L_1 : List One), ∃ (x : ByteArray), ([AV.rf 0 0, mkS d] = [AV.rf 0 0, mkS x]) ∧ (([Ob.box [AV.d (.sl (onL L))], Ob.gh [AV.rf 0 0]] = [Ob.box [AV.d (.sl (onL L_1))], Ob.gh [AV.rf 0 0]]) ∧ ((OkL L_1) ∧ (((Option.some (Ob.gh [AV.rf 0 0])) = (Option.some (Ob.gh [AV.rf 0 0]))) ∧ (bcase (((cntS x L_1) : Int) != n_1) (q (mkB false) [Ob.box [AV.mp 1], Ob.bun (famR (FamD.mk KK.str (Shp.map KK.str) l)), Ob.box [AV.d (.sl (onL L_1))], Ob.gh [AV.rf 0 0, AV.rf 2 0], Ob.gone, Ob.gone, Ob.bun (mfzR Z), Ob.bun (itR (ItD.mk Z m (VK.int IntKind.i64) true (List.cons n vis) (Option.some (mkS d, mkI .i64 n_1)))), Ob.gone, Ob.gone]) (FamNext st inv μ kk ⟨[AV.rf 0 0, AV.rf 2 0, AV.jk, AV.jk, mkB false, AV.jk, mkI .i64 (IntKind.wrap .i64 (tot + n_1))] ++ (jks 72 ++ ([AV.rf 7 0] ++ (jks 20))), [Ob.box [AV.mp 1], Ob.bun (famR (FamD.mk KK.str (Shp.map KK.str) l)), Ob.box [AV.d (.sl (onL L_1))], Ob.gh [AV.rf 0 0, AV.rf 2 0], Ob.gone, Ob.gone, Ob.bun (mfzR Z), Ob.bun (itR (ItD.mk Z m (VK.int IntKind.i64) true (List.cons n vis) (Option.some (mkS d, mkI .i64 n_1)))), Ob.gone, Ob.gone]⟩)))))))))) ∧ (
   (∀ (n : Nat), (n < (List.length m)) → n ∈ vis) →
   ((List.length (onL L)) ≤ LIM) →
   q (mkB (tot == ((List.length (onL L)) : Int))) [Ob.box [AV.mp 1], Ob.bun (famR (FamD.mk KK.str (Shp.map KK.str) l)), Ob.box [AV.d (.sl (onL L))], Ob.gh [AV.rf 0 0, AV.rf 2 0], Ob.gone, Ob.gone, Ob.bun (mfzR Z), Ob.bun (itR (ItD.mk Z m (VK.int IntKind.i64) true vis cur))])) := by kernel_rfl
def ELk : REnt := fun al o q => ∃ l L, al = [.rf 0 0, .rf 2 0] ∧ o = obLk l L ∧ RlC l L ∧ q (mkB true) (obLk l L)
theorem lk_loop2 {l : FLs} {L : List One} (h : RlC l L) {m : MapL} (hm : CtM m (shN l) (cntL l)) {Z : FrZ} {q : AV → List Ob → Prop} (hq : q (mkB true) (obLk l L)) {s : S} (hs : S.le (sealAll [] s) (stK2 l L Z m 0 [] none)) :
    ALoop (aCode KS GLk (cAt [1, 1, 1, 1, 1, 1, 0, 1, 0, 0] Tryd.b21)) (rLk_b_k0 (trimW q)) s := by
  have hall := ct_sum hm
  have hn := h.n
  refine ALoop.introM [] (maskOf (stK2 l L Z m 0 [] none)) (fun x : List Nat × Option (AV × AV) => stK2 l L Z m (sumV (valAt m) x.1 : Nat) x.1 x.2) (fun x => x.1.Nodup ∧ ∀ n ∈ x.1, n < m.length) (fun x => m.length - x.1.length)
    ⟨[], ([], none), by simpa [sumV] using hs, List.nodup_nil, fun n hn => by cases hn⟩ fun ⟨vis, cur⟩ ⟨hnd, hlt⟩ => ?_
  refine cast (rLk_c _ _ _ (vis, cur) l L Z m (sumV (valAt m) vis : Nat) vis cur (trimW q)).symm ⟨rfl, fun n k v hv hnv => ?_, fun hv => ?_⟩
  · obtain ⟨hn1, he⟩ := List.getElem?_eq_some_iff.1 hv
    obtain ⟨d, hd, hds, _⟩ := hm.val (k, v) (he ▸ List.getElem_mem hn1)
    cases hd
    have hnd2 : (n :: vis).Nodup := List.nodup_cons.2 ⟨fun h => hnv h, hnd⟩
    have hlt2 : ∀ x ∈ n :: vis, x < m.length := fun x hx => by
      rcases List.mem_cons.1 hx with rfl | hx
      · exact hn1
      · exact hlt x hx
    have hlen := vis_len hnd2 hlt2
    rw [List.length_cons] at hlen
    have hs2 := sumV_le (f := valAt m) hnd2 hlt2
    have e1 : sumV (valAt m) (n :: vis) = shN l d + sumV (valAt m) vis := by
      rw [sumV_cons]
      congr 1
      simp [valAt, hv, mkI, intA]
    have w1 : IntKind.wrap .i64 (((sumV (valAt m) vis : Nat) : Int) + ((shN l d : Nat) : Int)) = ((sumV (valAt m) (n :: vis) : Nat) : Int) := by rw [IntWalk.i64_in _ (by omega)]; omega
    refine ⟨(shN l d : Nat), rfl, d, rfl, hds, rfl, L, d, rfl, rfl, h.okl, rfl, bcaseF ?_ ?_⟩
    · rw [count_same h]; simp
    · rw [w1]
      refine .mk [] (n :: vis, some (mkS d, mkI .i64 (shN l d : Nat))) ?_ ⟨hnd2, hlt2⟩ (by show m.length - (vis.length + 1) < m.length - vis.length; omega)
      show S.le _ (stK2 l L Z m (sumV (valAt m) (n :: vis) : Nat) (n :: vis) (some (mkS d, mkI .i64 (shN l d : Nat))))
      generalize (sumV (valAt m) (n :: vis) : Nat) = z
      generalize (shN l d : Nat) = y
      simp [S.le, sealAll, leL, leA, leO, jks, stK2, mkI, mkS, mkB, S.fits, fitsL, AV.fits, Ob.fits, fobC, cbo, obLk]
  · intro _
    have : sumV (valAt m) vis = cntL l := by rw [sumV_perm (all_perm hnd hlt hv), hall]
    rw [this, onL_len, h.len, show (((cntL l : Nat) : Int) == ((cntL l : Nat) : Int)) = true by simp]
    exact ⟨_, _, weak_packG [some 0, some 1, some 2, some 3] rfl, hq⟩
theorem cLk : RSound Tryd.prog 21 ELk := by
  refine ref_gen trimW trimW_ok (code_bsound (c := Tryd.b21) mixed KS_ok (gsound_det c14 (gsound_ref (RSound.frame cUs) (gsound_ref (RSound.frame cDv) (gsound_ref (RSound.frame cBs) (gsound_ref (RSound.frame cCt) (gsound_ref (RSound.frame cUr) (gsound_ref (RSound.frame cDe) (gsound_ref (RSound.frame cBr) (gsound_ref (RSound.frame cCo) gsound_nil)))))))))) KS_ok Tryd.func21 rfl rfl Tryd.call21 fun al o q ⟨l, L, h1, h2, h, hq⟩ => ?_
  subst h1 h2
  have hC := h.ok
  have hn := h.n
  have hL := h.okl
  refine cast (rLk l L (trimW q)).symm ⟨L, rfl, rfl, hL, rfl, l, rfl, rfl, hC, by omega, fun ks hks => ⟨rfl, ⟨by simp, by simp⟩, bcaseF ?_ ?_⟩⟩
  · rw [us_same h hks]; simp
  have hus : ∀ u ∈ usTo L L.length, u.size ≤ SZC := fun u hu => by
    obtain ⟨j, hj, rfl⟩ := (usTo_mem h.srt (Nat.le_refl _) u).1 hu
    rw [uAt_lt hj]
    have := (hL.sz _ (List.getElem_mem hj)).1
    unfold SZC; omega
  have hul := usTo_len L L.length
  have hll := hL.len
  generalize usTo L L.length = us at hus hul
  refine ALoop.introM [] (maskOf (stK1 l L (strsD us) 0)) (fun i : Nat => stK1 l L (strsD us) (i : Int)) (fun i => i ≤ us.length) (fun i => us.length - i)
    ⟨[], 0, by generalize strsD us = k1; simp [S.le, sealAll, leL, leA, leO, jks, stK1, mkI, mkS, mkB, S.fits, fitsL, AV.fits, Ob.fits, fobC, cbo, obLk], Nat.zero_le _⟩ fun i hi => ?_
  have hi : i ≤ us.length := hi
  refine cast (rLk_b _ _ _ i l L (strsD us) (i : Int) (trimW q)).symm fun _ => bcase_dec (fun hlt => ?_) (fun hge => ?_)
  · have hlt : i < us.length := by rw [strsD_length] at hlt; omega
    have w1 : IntKind.wrap .i64 ((i : Int) + 1) = ((i + 1 : Nat) : Int) := by rw [IntWalk.i64_in _ (by omega)]; omega
    have hi1 : (0 ≤ (i : Int)) ∧ ((i : Int) < ((strsD us).length : Int)) := ⟨by omega, by rw [strsD_length]; omega⟩
    have hu := hus _ (List.getElem_mem hlt)
    rw [strs_at us hlt, w1]
    refine ⟨hi1, rfl, by simp, rfl, L, us[i], rfl, rfl, hL, rfl, hi1, rfl, by simp, rfl, l, us[i], rfl, rfl, hC, by omega, hu, fun k1 hk1 => ⟨rfl, hi1, rfl, by simp, rfl, L, us[i], rfl, rfl, hL, hu, rfl, hi1, rfl, by simp, rfl, l, us[i], rfl, rfl, hC, by omega, fun k2 hk2 => ⟨rfl, ⟨by simp, by simp⟩, bcaseF ?_ (bcaseF ?_ (bcaseF ?_ ?_))⟩⟩⟩
    · rw [dev_same h hk2]; simp
    · rw [dev_same h hk1, show_same h]; simp
    · rw [dev_same h hk1, show_same h]; simp
    · refine .mk [] (i + 1) ?_ hlt (show us.length - (i + 1) < us.length - i by omega)
      generalize strsD us = k1
      simp [S.le, sealAll, leL, leA, leO, jks, stK1, mkI, mkS, mkB, S.fits, fitsL, AV.fits, Ob.fits, fobC, cbo, obLk]
  · refine ⟨l, rfl, rfl, hC, by omega, fun m hm => ⟨rfl, fun e he => ?_, fun Z => lk_loop2 (Z := Z) h hm hq ?_⟩⟩
    · obtain ⟨d, rfl, _⟩ := hm.val e he
      exact ⟨_, rfl, trivial⟩
    · skip
      generalize strsD us = k1
      simp [S.le, sealAll, leL, leA, leO, jks, stK2, mkI, mkS, mkB, S.fits, fitsL, AV.fits, Ob.fits, fobC, cbo, obLk]
end Go.Proofs.YthbejheedpdioaaDoor

namespace Go.Proofs.YthbejheedpdioaaDoor
open Go Go.AM Go.RowKit
attribute [local irreducible] aUnr aUnS aCode
noncomputable abbrev KP : TypeId → Option TK := cutK KS [14]
theorem KP_ok : KOk Tryd.prog KP := cutK_ok KS_ok _
noncomputable abbrev GPl : List (FuncId × En) := [(8, .det FLv), (9, .new ENw), (10, .ref (frameE EHe)), (11, .ref (frameE EShow)), (17, .ref (frameE EFo)), (19, .ref (frameE EHr)), (20, .ref (frameE ESw)), (18, .ref (frameE EFr)), (21, .ref (frameE ELk))]
noncomputable def rPc_k0 (q : AV → Prop) : Kont := kBlk (0 : Nat) (kSeq (aCode KP GPl (cAt [1, 1, 1, 1] Tryd.b6) (kRet KP (Array.toList (Func.results Tryd.f6)) q)) (kRet KP (Array.toList (Func.results Tryd.f6)) q))
theorem rPc (sl : List (List D)) (x : ByteArray) (q : AV → Prop) :
  (aCode KP GPl Tryd.b6 (kRet KP Tryd.f6.results.toList q) ⟨[.d (.sl sl), mkS x] ++ List.replicate (Tryd.f6.ntmps - 2) .jk, []⟩) = (
  True ∧
  (([] : List AV) = []) ∧
  ALoop (aCode KP GPl (cAt [1, 1, 1, 0, 1, 0, 0] Tryd.b6)) (rPc_k0 q) ⟨[AV.d (.sl sl), mkS x, AV.jk, AV.jk, mkB false, AV.rf (0 + 1) 0, AV.rf 2 0, mkI .i64 0] ++ (jks 10 ++ ([mkB true, mkB false, AV.rf (0 + 1) 0, AV.ag [AV.nl], AV.rf 2 0] ++ (jks 90))), [Ob.bun (famR (FamD.mk KK.str (Shp.map KK.str) [])), Ob.box [AV.mp (0 + 0)], Ob.box [AV.nl]]⟩) := by kernel_rfl
def stP1 (sl : List (List D)) (x : ByteArray) (l : FLs) (L : List One) (i : Int) : S := ⟨[.d (.sl sl), mkS x, .jk, .jk, mkB false, .rf 1 0, .rf 2 0, mkI .i64 i] ++ jks 105, [fobC l, .box [.mp 0], .box [.d (.sl (onL L))]]⟩
noncomputable def rPc_b_k0 {ι : Type} (st : ι → S) (inv : ι → Prop) (μ : ι → Nat) (kk : ι) (sl : List (List D)) (x : ByteArray) (l : FLs) (L : List One) (i : Int) (q : AV → Prop) : Kont := kBlk (1 : Nat) (kSeq (aCode KP GPl (cAt [1, 1, 1, 0, 1, 0, 0, 1, 1] Tryd.b6) (kFamM [] (maskOf (stP1 sl x l L i)) st inv μ kk (rPc_k0 q))) (kFamM [] (maskOf (stP1 sl x l L i)) st inv μ kk (rPc_k0 q)))
theorem rPc_b {ι : Type} (st : ι → S) (inv : ι → Prop) (μ : ι → Nat) (kk : ι) (sl : List (List D)) (x : ByteArray) (l : FLs) (L : List One) (i : Int) (q : AV → Prop) :
  (aCode KP GPl (cAt [1, 1, 1, 0, 1, 0, 0] Tryd.b6) (kFamM [] (maskOf (stP1 sl x l L i)) st inv μ kk (rPc_k0 q)) (stP1 sl x l L i)) = (
  ((List.length sl) ≤ LIM) →
  bcase (decide (i < ((List.length sl) : Int))) (
   bcase (decide (i < (120 : Int))) (
    (((0 : Int) ≤ i) ∧ (i < ((List.length sl) : Int))) ∧
    ((List.length (List.getD sl (Int.toNat i) [])) = 14) ∧
    (14 ≤ (List.length (List.getD sl (Int.toNat i) []))) ∧
    (((List.getD (List.getD sl (Int.toNat i) []) 0 d0) = (D.v (.int IntKind.i64 (intD (List.getD (List.getD sl (Int.toNat i) []) 0 d0))))) ∧ (((List.getD (List.drop 1 (List.getD sl (Int.toNat i) [])) 0 d0) = (D.v (.string (strD (List.getD (List.drop 1 (List.getD sl (Int.toNat i) [])) 0 d0))))) ∧ (((List.getD (List.drop 1 (List.drop 1 (List.getD sl (Int.toNat i) []))) 0 d0) = (D.v (.string (strD (List.getD (List.drop 1 (List.drop 1 (List.getD sl (Int.toNat i) []))) 0 d0))))) ∧ (((List.getD (List.drop 1 (List.drop 1 (List.drop 1 (List.getD sl (Int.toNat i) [])))) 0 d0) = (D.v (.string (strD (List.getD (List.drop 1 (List.drop 1 (List.drop 1 (List.getD sl (Int.toNat i) [])))) 0 d0))))) ∧ (((List.getD (List.drop 1 (List.drop 1 (List.drop 1 (List.drop 1 (List.getD sl (Int.toNat i) []))))) 0 d0) = (D.v (.string (strD (List.getD (List.drop 1 (List.drop 1 (List.drop 1 (List.drop 1 (List.getD sl (Int.toNat i) []))))) 0 d0))))) ∧ (((List.getD (List.drop 1 (List.drop 1 (List.drop 1 (List.drop 1 (List.drop 1 (List.getD sl (Int.toNat i) [])))))) 0 d0) = (D.v (.string (strD (List.getD (List.drop 1 (List.drop 1 (List.drop 1 (List.drop 1 (List.drop 1 (List.getD sl (Int.toNat i) [])))))) 0 d0))))) ∧ (((List.getD (List.drop 1 (List.drop 1 (List.drop 1 (List.drop 1 (List.drop 1 (List.drop 1 (List.getD sl (Int.toNat i) []))))))) 0 d0) = (D.v (.string (strD (List.getD (List.drop 1 (List.drop 1 (List.drop 1 (List.drop 1 (List.drop 1 (List.drop 1 (List.getD sl (Int.toNat i) []))))))) 0 d0))))) ∧ (((List.getD (List.drop 1 (List.drop 1 (List.drop 1 (List.drop 1 (List.drop 1 (List.drop 1 (List.drop 1 (List.getD sl (Int.toNat i) [])))))))) 0 d0) = (D.v (.string (strD (List.getD (List.drop 1 (List.drop 1 (List.drop 1 (List.drop 1 (List.drop 1 (List.drop 1 (List.drop 1 (List.getD sl (Int.toNat i) [])))))))) 0 d0))))) ∧ (((List.getD (List.drop 1 (List.drop 1 (List.drop 1 (List.drop 1 (List.drop 1 (List.drop 1 (List.drop 1 (List.drop 1 (List.getD sl (Int.toNat i) []))))))))) 0 d0) = (D.v (.int IntKind.u32 (intD (List.getD (List.drop 1 (List.drop 1 (List.drop 1 (List.drop 1 (List.drop 1 (List.drop 1 (List.drop 1 (List.drop 1 (List.getD sl (Int.toNat i) []))))))))) 0 d0))))) ∧ (((List.getD (List.drop 1 (List.drop 1 (List.drop 1 (List.drop 1 (List.drop 1 (List.drop 1 (List.drop 1 (List.drop 1 (List.drop 1 (List.getD sl (Int.toNat i) [])))))))))) 0 d0) = (D.v (.int IntKind.i64 (intD (List.getD (List.drop 1 (List.drop 1 (List.drop 1 (List.drop 1 (List.drop 1 (List.drop 1 (List.drop 1 (List.drop 1 (List.drop 1 (List.getD sl (Int.toNat i) [])))))))))) 0 d0))))) ∧ (((List.getD (List.drop 1 (List.drop 1 (List.drop 1 (List.drop 1 (List.drop 1 (List.drop 1 (List.drop 1 (List.drop 1 (List.drop 1 (List.drop 1 (List.getD sl (Int.toNat i) []))))))))))) 0 d0) = (D.v (.bool (boolD (List.getD (List.drop 1 (List.drop 1 (List.drop 1 (List.drop 1 (List.drop 1 (List.drop 1 (List.drop 1 (List.drop 1 (List.drop 1 (List.drop 1 (List.getD sl (Int.toNat i) []))))))))))) 0 d0))))) ∧ (((List.getD (List.drop 1 (List.drop 1 (List.drop 1 (List.drop 1 (List.drop 1 (List.drop 1 (List.drop 1 (List.drop 1 (List.drop 1 (List.drop 1 (List.drop 1 (List.getD sl (Int.toNat i) [])))))))))))) 0 d0) = (D.sl (slD (List.getD (List.drop 1 (List.drop 1 (List.drop 1 (List.drop 1 (List.drop 1 (List.drop 1 (List.drop 1 (List.drop 1 (List.drop 1 (List.drop 1 (List.drop 1 (List.getD sl (Int.toNat i) [])))))))))))) 0 d0)))) ∧ (((List.getD (List.drop 1 (List.drop 1 (List.drop 1 (List.drop 1 (List.drop 1 (List.drop 1 (List.drop 1 (List.drop 1 (List.drop 1 (List.drop 1 (List.drop 1 (List.drop 1 (List.getD sl (Int.toNat i) []))))))))))))) 0 d0) = (D.v (.bool (boolD (List.getD (List.drop 1 (List.drop 1 (List.drop 1 (List.drop 1 (List.drop 1 (List.drop 1 (List.drop 1 (List.drop 1 (List.drop 1 (List.drop 1 (List.drop 1 (List.drop 1 (List.getD sl (Int.toNat i) []))))))))))))) 0 d0))))) ∧ (((List.getD (List.drop 1 (List.drop 1 (List.drop 1 (List.drop 1 (List.drop 1 (List.drop 1 (List.drop 1 (List.drop 1 (List.drop 1 (List.drop 1 (List.drop 1 (List.drop 1 (List.drop 1 (List.getD sl (Int.toNat i) [])))))))))))))) 0 d0) = (D.sl (slD (List.getD (List.drop 1 (List.drop 1 (List.drop 1 (List.drop 1 (List.drop 1 (List.drop 1 (List.drop 1 (List.drop 1 (List.drop 1 (List.drop 1 (List.drop 1 (List.drop 1 (List.drop 1 (List.getD sl (Int.toNat i) [])))))))))))))) 0 d0)))) ∧ True)))))))))))))) ∧
    bcase (boolD (List.getD (List.drop 1 (List.drop 1 (List.drop 1 (List.drop 1 (List.drop 1 (List.drop 1 (List.drop 1 (List.drop 1 (List.drop 1 (List.drop 1 (List.drop 1 (List.drop 1 (List.getD sl (Int.toNat i) []))))))))))))) 0 d0)) (
     ((List.length (slD (List.getD (List.drop 1 (List.drop 1 (List.drop 1 (List.drop 1 (List.drop 1 (List.drop 1 (List.drop 1 (List.drop 1 (List.drop 1 (List.drop 1 (List.drop 1 (List.drop 1 (List.drop 1 (List.getD sl (Int.toNat i) [])))))))))))))) 0 d0))) ≤ LIM) →
     (IntKind.i64 = IntKind.i64) ∧
     (((0 : Int) ≤ (if (20 : Int) < ((List.length (slD (List.getD (List.drop 1 (List.drop 1 (List.drop 1 (List.drop 1 (List.drop 1 (List.drop 1 (List.drop 1 (List.drop 1 (List.drop 1 (List.drop 1 (List.drop 1 (List.drop 1 (List.drop 1 (List.getD sl (Int.toNat i) [])))))))))))))) 0 d0))) : Int) then (20 : Int) else ((List.length (slD (List.getD (List.drop 1 (List.drop 1 (List.drop 1 (List.drop 1 (List.drop 1 (List.drop 1 (List.drop 1 (List.drop 1 (List.drop 1 (List.drop 1 (List.drop 1 (List.drop 1 (List.drop 1 (List.getD sl (Int.toNat i) [])))))))))))))) 0 d0))) : Int))) ∧ ((if (20 : Int) < ((List.length (slD (List.getD (List.drop 1 (List.drop 1 (List.drop 1 (List.drop 1 (List.drop 1 (List.drop 1 (List.drop 1 (List.drop 1 (List.drop 1 (List.drop 1 (List.drop 1 (List.drop 1 (List.drop 1 (List.getD sl (Int.toNat i) [])))))))))))))) 0 d0))) : Int) then (20 : Int) else ((List.length (slD (List.getD (List.drop 1 (List.drop 1 (List.drop 1 (List.drop 1 (List.drop 1 (List.drop 1 (List.drop 1 (List.drop 1 (List.drop 1 (List.drop 1 (List.drop 1 (List.drop 1 (List.drop 1 (List.getD sl (Int.toNat i) [])))))))))))))) 0 d0))) : Int)) ≤ ((List.length (slD (List.getD (List.drop 1 (List.drop 1 (List.drop 1 (List.drop 1 (List.drop 1 (List.drop 1 (List.drop 1 (List.drop 1 (List.drop 1 (List.drop 1 (List.drop 1 (List.drop 1 (List.drop 1 (List.getD sl (Int.toNat i) [])))))))))))))) 0 d0))) : Int))) ∧ (
      ∃ (l_1 : FLs),
      ∃ (us : List ByteArray),
      ([AV.rf 0 0, AV.d (.sl (List.take (Int.toNat (if (20 : Int) < ((List.length (slD (List.getD (List.drop 1 (List.drop 1 (List.drop 1 (List.drop 1 (List.drop 1 (List.drop 1 (List.drop 1 (List.drop 1 (List.drop 1 (List.drop 1 (List.drop 1 (List.drop 1 (List.drop 1 (List.getD sl (Int.toNat i) [])))))))))))))) 0 d0))) : Int) then (20 : Int) else ((List.length (slD (List.getD (List.drop 1 (List.drop 1 (List.drop 1 (List.drop 1 (List.drop 1 (List.drop 1 (List.drop 1 (List.drop 1 (List.drop 1 (List.drop 1 (List.drop 1 (List.drop 1 (List.drop 1 (List.getD sl (Int.toNat i) [])))))))))))))) 0 d0))) : Int))) (slD (List.getD (List.drop 1 (List.drop 1 (List.drop 1 (List.drop 1 (List.drop 1 (List.drop 1 (List.drop 1 (List.drop 1 (List.drop 1 (List.drop 1 (List.drop 1 (List.drop 1 (List.drop 1 (List.getD sl (Int.toNat i) [])))))))))))))) 0 d0))))] = [AV.rf 0 0, AV.d (.sl (strsD us))]) ∧
      ([Ob.box [AV.mp (0 + 1)], Ob.bun (famR (FamD.mk KK.str (Shp.map KK.str) l)), Ob.gh [AV.rf 0 0]] = [Ob.box [AV.mp 1], Ob.bun (famR (FamD.mk KK.str (Shp.map KK.str) l_1)), Ob.gh [AV.rf 0 0]]) ∧
      (CrOk l_1) ∧ (
       ∀ (l' : FLs),
       (FgR us l_1 l') →
       ((Option.some (Ob.gh [AV.rf 0 0])) = (Option.some (Ob.gh [AV.rf 0 0]))) ∧ (
        ∃ (L_1 : List One),
        ∃ (us_1 : List ByteArray),
        ([AV.rf 0 0, AV.d (.sl (List.take (Int.toNat (if (20 : Int) < ((List.length (slD (List.getD (List.drop 1 (List.drop 1 (List.drop 1 (List.drop 1 (List.drop 1 (List.drop 1 (List.drop 1 (List.drop 1 (List.drop 1 (List.drop 1 (List.drop 1 (List.drop 1 (List.drop 1 (List.getD sl (Int.toNat i) [])))))))))))))) 0 d0))) : Int) then (20 : Int) else ((List.length (slD (List.getD (List.drop 1 (List.drop 1 (List.drop 1 (List.drop 1 (List.drop 1 (List.drop 1 (List.drop 1 (List.drop 1 (List.drop 1 (List.drop 1 (List.drop 1 (List.drop 1 (List.drop 1 (List.getD sl (Int.toNat i) [])))))))))))))) 0 d0))) : Int))) (slD (List.getD (List.drop 1 (List.drop 1 (List.drop 1 (List.drop 1 (List.drop 1 (List.drop 1 (List.drop 1 (List.drop 1 (List.drop 1 (List.drop 1 (List.drop 1 (List.drop 1 (List.drop 1 (List.getD sl (Int.toNat i) [])))))))))))))) 0 d0))))] = [AV.rf 0 0, AV.d (.sl (strsD us_1))]) ∧
        ([Ob.box [AV.d (.sl (onL L))], Ob.gh [AV.rf 0 0]] = [Ob.box [AV.d (.sl (onL L_1))], Ob.gh [AV.rf 0 0]]) ∧
        (OkL L_1) ∧
        ((List.length us_1) ≤ (1000 : Nat)) ∧
        ((Option.some (Ob.gh [AV.rf 0 0])) = (Option.some (Ob.gh [AV.rf 0 0]))) ∧ (
         ∃ (l_2 : FLs),
         ∃ (x_1 : ByteArray),
         ([AV.rf 0 0, mkS x] = [AV.rf 0 0, mkS x_1]) ∧
         ([Ob.box [AV.mp (0 + 1)], Ob.bun (famR (FamD.mk KK.str (Shp.map KK.str) l')), Ob.gh [AV.rf 0 0]] = [Ob.box [AV.mp 1], Ob.bun (famR (FamD.mk KK.str (Shp.map KK.str) l_2)), Ob.gh [AV.rf 0 0]]) ∧
         (CrOk l_2) ∧
         ((ByteArray.size x_1) ≤ LIM) ∧
         ((Option.some (Ob.gh [AV.rf 0 0])) = (Option.some (Ob.gh [AV.rf 0 0]))) ∧
         ACut (aCode KP GPl (cAt [1, 1, 1, 0, 1, 0, 0, 1, 0, 0, 1, 1, 1] Tryd.b6)) (rPc_b_k0 st inv μ kk sl x l L i q) ⟨[AV.d (.sl sl), mkS x, AV.jk, AV.jk, mkB false, AV.rf 1 0, AV.rf 2 0, mkI .i64 i, AV.rf 3 0, AV.d (.sl (List.take (Int.toNat (if (20 : Int) < ((List.length (slD (List.getD (List.drop 1 (List.drop 1 (List.drop 1 (List.drop 1 (List.drop 1 (List.drop 1 (List.drop 1 (List.drop 1 (List.drop 1 (List.drop 1 (List.drop 1 (List.drop 1 (List.drop 1 (List.getD sl (Int.toNat i) [])))))))))))))) 0 d0))) : Int) then (20 : Int) else ((List.length (slD (List.getD (List.drop 1 (List.drop 1 (List.drop 1 (List.drop 1 (List.drop 1 (List.drop 1 (List.drop 1 (List.drop 1 (List.drop 1 (List.drop 1 (List.drop 1 (List.drop 1 (List.drop 1 (List.getD sl (Int.toNat i) [])))))))))))))) 0 d0))) : Int))) (slD (List.getD (List.drop 1 (List.drop 1 (List.drop 1 (List.drop 1 (List.drop 1 (List.drop 1 (List.drop 1 (List.drop 1 (List.drop 1 (List.drop 1 (List.drop 1 (List.drop 1 (List.drop 1 (List.getD sl (Int.toNat i) [])))))))))))))) 0 d0)))), mkS (getS (Key.s (cutD x_1)) (devs l_2 (cutU x_1))), mkB (hasK (Key.s (cutD x_1)) (devs l_2 (cutU x_1)))] ++ (jks 11 ++ ([mkI .i64 i, AV.d (.sl sl), mkI .i64 ((List.length sl) : Int), mkB (decide (i < ((List.length sl) : Int))), mkB true, mkI .i64 i, mkB (decide (i < (120 : Int))), mkB true, AV.jk, AV.jk, AV.d (.sl sl), mkI .i64 i, AV.ep (List.getD sl (Int.toNat i) []), AV.ag [mkI .i64 (intD (List.getD (List.getD sl (Int.toNat i) []) 0 d0)), mkS (strD (List.getD (List.drop 1 (List.getD sl (Int.toNat i) [])) 0 d0)), mkS (strD (List.getD (List.drop 1 (List.drop 1 (List.getD sl (Int.toNat i) []))) 0 d0)), mkS (strD (List.getD (List.drop 1 (List.drop 1 (List.drop 1 (List.getD sl (Int.toNat i) [])))) 0 d0)), mkS (strD (List.getD (List.drop 1 (List.drop 1 (List.drop 1 (List.drop 1 (List.getD sl (Int.toNat i) []))))) 0 d0)), mkS (strD (List.getD (List.drop 1 (List.drop 1 (List.drop 1 (List.drop 1 (List.drop 1 (List.getD sl (Int.toNat i) [])))))) 0 d0)), mkS (strD (List.getD (List.drop 1 (List.drop 1 (List.drop 1 (List.drop 1 (List.drop 1 (List.drop 1 (List.getD sl (Int.toNat i) []))))))) 0 d0)), mkS (strD (List.getD (List.drop 1 (List.drop 1 (List.drop 1 (List.drop 1 (List.drop 1 (List.drop 1 (List.drop 1 (List.getD sl (Int.toNat i) [])))))))) 0 d0)), mkI .u32 (intD (List.getD (List.drop 1 (List.drop 1 (List.drop 1 (List.drop 1 (List.drop 1 (List.drop 1 (List.drop 1 (List.drop 1 (List.getD sl (Int.toNat i) []))))))))) 0 d0)), mkI .i64 (intD (List.getD (List.drop 1 (List.drop 1 (List.drop 1 (List.drop 1 (List.drop 1 (List.drop 1 (List.drop 1 (List.drop 1 (List.drop 1 (List.getD sl (Int.toNat i) [])))))))))) 0 d0)), mkB (boolD (List.getD (List.drop 1 (List.drop 1 (List.drop 1 (List.drop 1 (List.drop 1 (List.drop 1 (List.drop 1 (List.drop 1 (List.drop 1 (List.drop 1 (List.getD sl (Int.toNat i) []))))))))))) 0 d0)), AV.d (.sl (slD (List.getD (List.drop 1 (List.drop 1 (List.drop 1 (List.drop 1 (List.drop 1 (List.drop 1 (List.drop 1 (List.drop 1 (List.drop 1 (List.drop 1 (List.drop 1 (List.getD sl (Int.toNat i) [])))))))))))) 0 d0))), mkB (boolD (List.getD (List.drop 1 (List.drop 1 (List.drop 1 (List.drop 1 (List.drop 1 (List.drop 1 (List.drop 1 (List.drop 1 (List.drop 1 (List.drop 1 (List.drop 1 (List.drop 1 (List.getD sl (Int.toNat i) []))))))))))))) 0 d0)), AV.d (.sl (slD (List.getD (List.drop 1 (List.drop 1 (List.drop 1 (List.drop 1 (List.drop 1 (List.drop 1 (List.drop 1 (List.drop 1 (List.drop 1 (List.drop 1 (List.drop 1 (List.drop 1 (List.drop 1 (List.getD sl (Int.toNat i) [])))))))))))))) 0 d0)))], AV.rf 3 (0 + 12), mkB true, AV.rf 3 (0 + 13), AV.d (.sl (slD (List.getD (List.drop 1 (List.drop 1 (List.drop 1 (List.drop 1 (List.drop 1 (List.drop 1 (List.drop 1 (List.drop 1 (List.drop 1 (List.drop 1 (List.drop 1 (List.drop 1 (List.drop 1 (List.getD sl (Int.toNat i) [])))))))))))))) 0 d0))), AV.rf 3 (0 + 13), AV.d (.sl (slD (List.getD (List.drop 1 (List.drop 1 (List.drop 1 (List.drop 1 (List.drop 1 (List.drop 1 (List.drop 1 (List.drop 1 (List.drop 1 (List.drop 1 (List.drop 1 (List.drop 1 (List.drop 1 (List.getD sl (Int.toNat i) [])))))))))))))) 0 d0))), mkI .i64 ((List.length (slD (List.getD (List.drop 1 (List.drop 1 (List.drop 1 (List.drop 1 (List.drop 1 (List.drop 1 (List.drop 1 (List.drop 1 (List.drop 1 (List.drop 1 (List.drop 1 (List.drop 1 (List.drop 1 (List.getD sl (Int.toNat i) [])))))))))))))) 0 d0))) : Int), mkI .i64 (if (20 : Int) < ((List.length (slD (List.getD (List.drop 1 (List.drop 1 (List.drop 1 (List.drop 1 (List.drop 1 (List.drop 1 (List.drop 1 (List.drop 1 (List.drop 1 (List.drop 1 (List.drop 1 (List.drop 1 (List.drop 1 (List.getD sl (Int.toNat i) [])))))))))))))) 0 d0))) : Int) then (20 : Int) else ((List.length (slD (List.getD (List.drop 1 (List.drop 1 (List.drop 1 (List.drop 1 (List.drop 1 (List.drop 1 (List.drop 1 (List.drop 1 (List.drop 1 (List.drop 1 (List.drop 1 (List.drop 1 (List.drop 1 (List.getD sl (Int.toNat i) [])))))))))))))) 0 d0))) : Int)), AV.d (.sl (List.take (Int.toNat (if (20 : Int) < ((List.length (slD (List.getD (List.drop 1 (List.drop 1 (List.drop 1 (List.drop 1 (List.drop 1 (List.drop 1 (List.drop 1 (List.drop 1 (List.drop 1 (List.drop 1 (List.drop 1 (List.drop 1 (List.drop 1 (List.getD sl (Int.toNat i) [])))))))))))))) 0 d0))) : Int) then (20 : Int) else ((List.length (slD (List.getD (List.drop 1 (List.drop 1 (List.drop 1 (List.drop 1 (List.drop 1 (List.drop 1 (List.drop 1 (List.drop 1 (List.drop 1 (List.drop 1 (List.drop 1 (List.drop 1 (List.drop 1 (List.getD sl (Int.toNat i) [])))))))))))))) 0 d0))) : Int))) (slD (List.getD (List.drop 1 (List.drop 1 (List.drop 1 (List.drop 1 (List.drop 1 (List.drop 1 (List.drop 1 (List.drop 1 (List.drop 1 (List.drop 1 (List.drop 1 (List.drop 1 (List.drop 1 (List.getD sl (Int.toNat i) [])))))))))))))) 0 d0)))), AV.rf 1 0, AV.d (.sl (List.take (Int.toNat (if (20 : Int) < ((List.length (slD (List.getD (List.drop 1 (List.drop 1 (List.drop 1 (List.drop 1 (List.drop 1 (List.drop 1 (List.drop 1 (List.drop 1 (List.drop 1 (List.drop 1 (List.drop 1 (List.drop 1 (List.drop 1 (List.getD sl (Int.toNat i) [])))))))))))))) 0 d0))) : Int) then (20 : Int) else ((List.length (slD (List.getD (List.drop 1 (List.drop 1 (List.drop 1 (List.drop 1 (List.drop 1 (List.drop 1 (List.drop 1 (List.drop 1 (List.drop 1 (List.drop 1 (List.drop 1 (List.drop 1 (List.drop 1 (List.getD sl (Int.toNat i) [])))))))))))))) 0 d0))) : Int))) (slD (List.getD (List.drop 1 (List.drop 1 (List.drop 1 (List.drop 1 (List.drop 1 (List.drop 1 (List.drop 1 (List.drop 1 (List.drop 1 (List.drop 1 (List.drop 1 (List.drop 1 (List.drop 1 (List.getD sl (Int.toNat i) [])))))))))))))) 0 d0)))), AV.tp [], AV.rf 2 0, AV.d (.sl (List.take (Int.toNat (if (20 : Int) < ((List.length (slD (List.getD (List.drop 1 (List.drop 1 (List.drop 1 (List.drop 1 (List.drop 1 (List.drop 1 (List.drop 1 (List.drop 1 (List.drop 1 (List.drop 1 (List.drop 1 (List.drop 1 (List.drop 1 (List.getD sl (Int.toNat i) [])))))))))))))) 0 d0))) : Int) then (20 : Int) else ((List.length (slD (List.getD (List.drop 1 (List.drop 1 (List.drop 1 (List.drop 1 (List.drop 1 (List.drop 1 (List.drop 1 (List.drop 1 (List.drop 1 (List.drop 1 (List.drop 1 (List.drop 1 (List.drop 1 (List.getD sl (Int.toNat i) [])))))))))))))) 0 d0))) : Int))) (slD (List.getD (List.drop 1 (List.drop 1 (List.drop 1 (List.drop 1 (List.drop 1 (List.drop 1 (List.drop 1 (List.drop 1 (List.drop 1 (List.drop 1 (List.drop 1 (List.drop 1 (List.drop 1 (List.getD sl (Int.toNat i) [])))))))))))))) 0 d0)))), AV.tp []] ++ (jks 9 ++ ([AV.tp [mkS (getS (Key.s (cutD x_1)) (devs l_2 (cutU x_1))), mkB (hasK (Key.s (cutD x_1)) (devs l_2 (cutU x_1)))], AV.rf 1 0, mkS x, AV.tp [mkS (getS (Key.s (cutD x_1)) (devs l_2 (cutU x_1))), mkB (hasK (Key.s (cutD x_1)) (devs l_2 (cutU x_1)))], mkS (getS (Key.s (cutD x_1)) (devs l_2 (cutU x_1))), mkB (hasK (Key.s (cutD x_1)) (devs l_2 (cutU x_1)))] ++ (jks 46))))), [Ob.bun (famR (FamD.mk KK.str (Shp.map KK.str) l_2)), Ob.box [AV.mp (if 1 < 2 then 0 else 9 + (1 - 2))], Ob.box [AV.d (.sl (onL (fgL us_1 L_1)))], Ob.box [mkI .i64 (intD (List.getD (List.getD sl (Int.toNat i) []) 0 d0)), mkS (strD (List.getD (List.drop 1 (List.getD sl (Int.toNat i) [])) 0 d0)), mkS (strD (List.getD (List.drop 1 (List.drop 1 (List.getD sl (Int.toNat i) []))) 0 d0)), mkS (strD (List.getD (List.drop 1 (List.drop 1 (List.drop 1 (List.getD sl (Int.toNat i) [])))) 0 d0)), mkS (strD (List.getD (List.drop 1 (List.drop 1 (List.drop 1 (List.drop 1 (List.getD sl (Int.toNat i) []))))) 0 d0)), mkS (strD (List.getD (List.drop 1 (List.drop 1 (List.drop 1 (List.drop 1 (List.drop 1 (List.getD sl (Int.toNat i) [])))))) 0 d0)), mkS (strD (List.getD (List.drop 1 (List.drop 1 (List.drop 1 (List.drop 1 (List.drop 1 (List.drop 1 (List.getD sl (Int.toNat i) []))))))) 0 d0)), mkS (strD (List.getD (List.drop 1 (List.drop 1 (List.drop 1 (List.drop 1 (List.drop 1 (List.drop 1 (List.drop 1 (List.getD sl (Int.toNat i) [])))))))) 0 d0)), mkI .u32 (intD (List.getD (List.drop 1 (List.drop 1 (List.drop 1 (List.drop 1 (List.drop 1 (List.drop 1 (List.drop 1 (List.drop 1 (List.getD sl (Int.toNat i) []))))))))) 0 d0)), mkI .i64 (intD (List.getD (List.drop 1 (List.drop 1 (List.drop 1 (List.drop 1 (List.drop 1 (List.drop 1 (List.drop 1 (List.drop 1 (List.drop 1 (List.getD sl (Int.toNat i) [])))))))))) 0 d0)), mkB (boolD (List.getD (List.drop 1 (List.drop 1 (List.drop 1 (List.drop 1 (List.drop 1 (List.drop 1 (List.drop 1 (List.drop 1 (List.drop 1 (List.drop 1 (List.getD sl (Int.toNat i) []))))))))))) 0 d0)), AV.d (.sl (slD (List.getD (List.drop 1 (List.drop 1 (List.drop 1 (List.drop 1 (List.drop 1 (List.drop 1 (List.drop 1 (List.drop 1 (List.drop 1 (List.drop 1 (List.drop 1 (List.getD sl (Int.toNat i) [])))))))))))) 0 d0))), mkB (boolD (List.getD (List.drop 1 (List.drop 1 (List.drop 1 (List.drop 1 (List.drop 1 (List.drop 1 (List.drop 1 (List.drop 1 (List.drop 1 (List.drop 1 (List.drop 1 (List.drop 1 (List.getD sl (Int.toNat i) []))))))))))))) 0 d0)), AV.d (.sl (slD (List.getD (List.drop 1 (List.drop 1 (List.drop 1 (List.drop 1 (List.drop 1 (List.drop 1 (List.drop 1 (List.drop 1 (List.drop 1 (List.drop 1 (List.drop 1 (List.drop 1 (List.drop 1 (List.getD sl (Int.toNat i) [])))))))))))))) 0 d0)))], Ob.gone, Ob.gone, Ob.gone, Ob.gone, Ob.gone, Ob.gone]⟩))))) (
     (∃ (l_1 : FLs), ∃ (kind : Int), ∃ (ty : ByteArray), ∃ (id : ByteArray), ∃ (fr : ByteArray), ∃ (to : ByteArray), ∃ (sh : ByteArray), ∃ (tok : ByteArray), ∃ (rea : ByteArray), ∃ (hh : Int), ∃ (ver : Int), ∃ (rem : Bool), ∃ (its : List (List D)), ([AV.rf 0 0, AV.ag [mkI .i64 (intD (List.getD (List.getD sl (Int.toNat i) []) 0 d0)), mkS (strD (List.getD (List.drop 1 (List.getD sl (Int.toNat i) [])) 0 d0)), mkS (strD (List.getD (List.drop 1 (List.drop 1 (List.getD sl (Int.toNat i) []))) 0 d0)), mkS (strD (List.getD (List.drop 1 (List.drop 1 (List.drop 1 (List.getD sl (Int.toNat i) [])))) 0 d0)), mkS (strD (List.getD (List.drop 1 (List.drop 1 (List.drop 1 (List.drop 1 (List.getD sl (Int.toNat i) []))))) 0 d0)), mkS (strD (List.getD (List.drop 1 (List.drop 1 (List.drop 1 (List.drop 1 (List.drop 1 (List.getD sl (Int.toNat i) [])))))) 0 d0)), mkS (strD (List.getD (List.drop 1 (List.drop 1 (List.drop 1 (List.drop 1 (List.drop 1 (List.drop 1 (List.getD sl (Int.toNat i) []))))))) 0 d0)), mkS (strD (List.getD (List.drop 1 (List.drop 1 (List.drop 1 (List.drop 1 (List.drop 1 (List.drop 1 (List.drop 1 (List.getD sl (Int.toNat i) [])))))))) 0 d0)), mkI .u32 (intD (List.getD (List.drop 1 (List.drop 1 (List.drop 1 (List.drop 1 (List.drop 1 (List.drop 1 (List.drop 1 (List.drop 1 (List.getD sl (Int.toNat i) []))))))))) 0 d0)), mkI .i64 (intD (List.getD (List.drop 1 (List.drop 1 (List.drop 1 (List.drop 1 (List.drop 1 (List.drop 1 (List.drop 1 (List.drop 1 (List.drop 1 (List.getD sl (Int.toNat i) [])))))))))) 0 d0)), mkB (boolD (List.getD (List.drop 1 (List.drop 1 (List.drop 1 (List.drop 1 (List.drop 1 (List.drop 1 (List.drop 1 (List.drop 1 (List.drop 1 (List.drop 1 (List.getD sl (Int.toNat i) []))))))))))) 0 d0)), AV.d (.sl (slD (List.getD (List.drop 1 (List.drop 1 (List.drop 1 (List.drop 1 (List.drop 1 (List.drop 1 (List.drop 1 (List.drop 1 (List.drop 1 (List.drop 1 (List.drop 1 (List.getD sl (Int.toNat i) [])))))))))))) 0 d0)))]] = [AV.rf 0 0, AV.ag [mkI .i64 kind, mkS ty, mkS id, mkS fr, mkS to, mkS sh, mkS tok, mkS rea, mkI .u32 hh, mkI .i64 ver, mkB rem, AV.d (.sl its)]]) ∧ (([Ob.box [AV.mp (0 + 1)], Ob.bun (famR (FamD.mk KK.str (Shp.map KK.str) l)), Ob.gh [AV.rf 0 0]] = [Ob.box [AV.mp 1], Ob.bun (famR (FamD.mk KK.str (Shp.map KK.str) l_1)), Ob.gh [AV.rf 0 0]]) ∧ ((CrOk l_1) ∧ (((cntL l_1) ≤ (1000 : Nat)) ∧ (((ByteArray.size fr) ≤ SZC) ∧ (((ByteArray.size sh) ≤ LIM) ∧ (∀ (e : Int), ∀ (l' : FLs), (HeR l_1 kind ty fr sh e l') → ((Option.some (Ob.gh [AV.rf 0 0])) = (Option.some (Ob.gh [AV.rf 0 0]))) ∧ (∃ (L_1 : List One), ∃ (kind_1 : Int), ∃ (ty_1 : ByteArray), ∃ (id_1 : ByteArray), ∃ (fr_1 : ByteArray), ∃ (to_1 : ByteArray), ∃ (sh_1 : ByteArray), ∃ (tok_1 : ByteArray), ∃ (rea_1 : ByteArray), ∃ (hh_1 : Int), ∃ (ver_1 : Int), ∃ (rem_1 : Bool), ∃ (its_1 : List (List D)), ([AV.rf 0 0, AV.ag [mkI .i64 (intD (List.getD (List.getD sl (Int.toNat i) []) 0 d0)), mkS (strD (List.getD (List.drop 1 (List.getD sl (Int.toNat i) [])) 0 d0)), mkS (strD (List.getD (List.drop 1 (List.drop 1 (List.getD sl (Int.toNat i) []))) 0 d0)), mkS (strD (List.getD (List.drop 1 (List.drop 1 (List.drop 1 (List.getD sl (Int.toNat i) [])))) 0 d0)), mkS (strD (List.getD (List.drop 1 (List.drop 1 (List.drop 1 (List.drop 1 (List.getD sl (Int.toNat i) []))))) 0 d0)), mkS (strD (List.getD (List.drop 1 (List.drop 1 (List.drop 1 (List.drop 1 (List.drop 1 (List.getD sl (Int.toNat i) [])))))) 0 d0)), mkS (strD (List.getD (List.drop 1 (List.drop 1 (List.drop 1 (List.drop 1 (List.drop 1 (List.drop 1 (List.getD sl (Int.toNat i) []))))))) 0 d0)), mkS (strD (List.getD (List.drop 1 (List.drop 1 (List.drop 1 (List.drop 1 (List.drop 1 (List.drop 1 (List.drop 1 (List.getD sl (Int.toNat i) [])))))))) 0 d0)), mkI .u32 (intD (List.getD (List.drop 1 (List.drop 1 (List.drop 1 (List.drop 1 (List.drop 1 (List.drop 1 (List.drop 1 (List.drop 1 (List.getD sl (Int.toNat i) []))))))))) 0 d0)), mkI .i64 (intD (List.getD (List.drop 1 (List.drop 1 (List.drop 1 (List.drop 1 (List.drop 1 (List.drop 1 (List.drop 1 (List.drop 1 (List.drop 1 (List.getD sl (Int.toNat i) [])))))))))) 0 d0)), mkB (boolD (List.getD (List.drop 1 (List.drop 1 (List.drop 1 (List.drop 1 (List.drop 1 (List.drop 1 (List.drop 1 (List.drop 1 (List.drop 1 (List.drop 1 (List.getD sl (Int.toNat i) []))))))))))) 0 d0)), AV.d (.sl (slD (List.getD (List.drop 1 (List.drop 1 (List.drop 1 (List.drop 1 (List.drop 1 (List.drop 1 (List.drop 1 (List.drop 1 (List.drop 1 (List.drop 1 (List.drop 1 (List.getD sl (Int.toNat i) [])))))))))))) 0 d0)))]] = [AV.rf 0 0, AV.ag [mkI .i64 kind_1, mkS ty_1, mkS id_1, mkS fr_1, mkS to_1, mkS sh_1, mkS tok_1, mkS rea_1, mkI .u32 hh_1, mkI .i64 ver_1, mkB rem_1, AV.d (.sl its_1)]]) ∧ (([Ob.box [AV.d (.sl (onL L))], Ob.gh [AV.rf 0 0]] = [Ob.box [AV.d (.sl (onL L_1))], Ob.gh [AV.rf 0 0]]) ∧ ((OkL L_1) ∧ (((ByteArray.size fr_1) ≤ SZC) ∧ (∀ (e_1 : Int), ∀ (L' : List One), (HrR L_1 kind_1 ty_1 fr_1 sh_1 e_1 L') → ((Option.some (Ob.gh [AV.rf 0 0])) = (Option.some (Ob.gh [AV.rf 0 0]))) ∧ (bcase (e != e_1) (q (mkB false)) (∃ (l_2 : FLs), ∃ (x_1 : ByteArray), ([AV.rf 0 0, mkS x] = [AV.rf 0 0, mkS x_1]) ∧ (([Ob.box [AV.mp (0 + 1)], Ob.bun (famR (FamD.mk KK.str (Shp.map KK.str) l')), Ob.gh [AV.rf 0 0]] = [Ob.box [AV.mp 1], Ob.bun (famR (FamD.mk KK.str (Shp.map KK.str) l_2)), Ob.gh [AV.rf 0 0]]) ∧ ((CrOk l_2) ∧ (((ByteArray.size x_1) ≤ LIM) ∧ (((Option.some (Ob.gh [AV.rf 0 0])) = (Option.some (Ob.gh [AV.rf 0 0]))) ∧ (ACut (aCode KP GPl (cAt [1, 1, 1, 0, 1, 0, 0, 1, 0, 0, 1, 1, 1] Tryd.b6)) (rPc_b_k0 st inv μ kk sl x l L i q) ⟨[AV.d (.sl sl), mkS x, AV.jk, AV.jk, mkB false, AV.rf 1 0, AV.rf 2 0, mkI .i64 i, AV.rf 3 0, AV.jk, mkS (getS (Key.s (cutD x_1)) (devs l_2 (cutU x_1))), mkB (hasK (Key.s (cutD x_1)) (devs l_2 (cutU x_1)))] ++ (jks 11 ++ ([mkI .i64 i, AV.d (.sl sl), mkI .i64 ((List.length sl) : Int), mkB (decide (i < ((List.length sl) : Int))), mkB true, mkI .i64 i, mkB (decide (i < (120 : Int))), mkB true, AV.jk, AV.jk, AV.d (.sl sl), mkI .i64 i, AV.ep (List.getD sl (Int.toNat i) []), AV.ag [mkI .i64 (intD (List.getD (List.getD sl (Int.toNat i) []) 0 d0)), mkS (strD (List.getD (List.drop 1 (List.getD sl (Int.toNat i) [])) 0 d0)), mkS (strD (List.getD (List.drop 1 (List.drop 1 (List.getD sl (Int.toNat i) []))) 0 d0)), mkS (strD (List.getD (List.drop 1 (List.drop 1 (List.drop 1 (List.getD sl (Int.toNat i) [])))) 0 d0)), mkS (strD (List.getD (List.drop 1 (List.drop 1 (List.drop 1 (List.drop 1 (List.getD sl (Int.toNat i) []))))) 0 d0)), mkS (strD (List.getD (List.drop 1 (List.drop 1 (List.drop 1 (List.drop 1 (List.drop 1 (List.getD sl (Int.toNat i) [])))))) 0 d0)), mkS (strD (List.getD (List.drop 1 (List.drop 1 (List.drop 1 (List.drop 1 (List.drop 1 (List.drop 1 (List.getD sl (Int.toNat i) []))))))) 0 d0)), mkS (strD (List.getD (List.drop 1 (List.drop 1 (List.drop 1 (List.drop 1 (List.drop 1 (List.drop 1 (List.drop 1 (List.getD sl (Int.toNat i) [])))))))) 0 d0)), mkI .u32 (intD (List.getD (List.drop 1 (List.drop 1 (List.drop 1 (List.drop 1 (List.drop 1 (List.drop 1 (List.drop 1 (List.drop 1 (List.getD sl (Int.toNat i) []))))))))) 0 d0)), mkI .i64 (intD (List.getD (List.drop 1 (List.drop 1 (List.drop 1 (List.drop 1 (List.drop 1 (List.drop 1 (List.drop 1 (List.drop 1 (List.drop 1 (List.getD sl (Int.toNat i) [])))))))))) 0 d0)), mkB (boolD (List.getD (List.drop 1 (List.drop 1 (List.drop 1 (List.drop 1 (List.drop 1 (List.drop 1 (List.drop 1 (List.drop 1 (List.drop 1 (List.drop 1 (List.getD sl (Int.toNat i) []))))))))))) 0 d0)), AV.d (.sl (slD (List.getD (List.drop 1 (List.drop 1 (List.drop 1 (List.drop 1 (List.drop 1 (List.drop 1 (List.drop 1 (List.drop 1 (List.drop 1 (List.drop 1 (List.drop 1 (List.getD sl (Int.toNat i) [])))))))))))) 0 d0))), mkB (boolD (List.getD (List.drop 1 (List.drop 1 (List.drop 1 (List.drop 1 (List.drop 1 (List.drop 1 (List.drop 1 (List.drop 1 (List.drop 1 (List.drop 1 (List.drop 1 (List.drop 1 (List.getD sl (Int.toNat i) []))))))))))))) 0 d0)), AV.d (.sl (slD (List.getD (List.drop 1 (List.drop 1 (List.drop 1 (List.drop 1 (List.drop 1 (List.drop 1 (List.drop 1 (List.drop 1 (List.drop 1 (List.drop 1 (List.drop 1 (List.drop 1 (List.drop 1 (List.getD sl (Int.toNat i) [])))))))))))))) 0 d0)))], AV.rf 3 (0 + 12), mkB false] ++ (jks 13 ++ ([AV.rf 1 0, AV.rf 3 (0 + 0), AV.ag [mkI .i64 (intD (List.getD (List.getD sl (Int.toNat i) []) 0 d0)), mkS (strD (List.getD (List.drop 1 (List.getD sl (Int.toNat i) [])) 0 d0)), mkS (strD (List.getD (List.drop 1 (List.drop 1 (List.getD sl (Int.toNat i) []))) 0 d0)), mkS (strD (List.getD (List.drop 1 (List.drop 1 (List.drop 1 (List.getD sl (Int.toNat i) [])))) 0 d0)), mkS (strD (List.getD (List.drop 1 (List.drop 1 (List.drop 1 (List.drop 1 (List.getD sl (Int.toNat i) []))))) 0 d0)), mkS (strD (List.getD (List.drop 1 (List.drop 1 (List.drop 1 (List.drop 1 (List.drop 1 (List.getD sl (Int.toNat i) [])))))) 0 d0)), mkS (strD (List.getD (List.drop 1 (List.drop 1 (List.drop 1 (List.drop 1 (List.drop 1 (List.drop 1 (List.getD sl (Int.toNat i) []))))))) 0 d0)), mkS (strD (List.getD (List.drop 1 (List.drop 1 (List.drop 1 (List.drop 1 (List.drop 1 (List.drop 1 (List.drop 1 (List.getD sl (Int.toNat i) [])))))))) 0 d0)), mkI .u32 (intD (List.getD (List.drop 1 (List.drop 1 (List.drop 1 (List.drop 1 (List.drop 1 (List.drop 1 (List.drop 1 (List.drop 1 (List.getD sl (Int.toNat i) []))))))))) 0 d0)), mkI .i64 (intD (List.getD (List.drop 1 (List.drop 1 (List.drop 1 (List.drop 1 (List.drop 1 (List.drop 1 (List.drop 1 (List.drop 1 (List.drop 1 (List.getD sl (Int.toNat i) [])))))))))) 0 d0)), mkB (boolD (List.getD (List.drop 1 (List.drop 1 (List.drop 1 (List.drop 1 (List.drop 1 (List.drop 1 (List.drop 1 (List.drop 1 (List.drop 1 (List.drop 1 (List.getD sl (Int.toNat i) []))))))))))) 0 d0)), AV.d (.sl (slD (List.getD (List.drop 1 (List.drop 1 (List.drop 1 (List.drop 1 (List.drop 1 (List.drop 1 (List.drop 1 (List.drop 1 (List.drop 1 (List.drop 1 (List.drop 1 (List.getD sl (Int.toNat i) [])))))))))))) 0 d0)))], mkI .i64 e, AV.rf 2 0, AV.rf 3 (0 + 0), AV.ag [mkI .i64 (intD (List.getD (List.getD sl (Int.toNat i) []) 0 d0)), mkS (strD (List.getD (List.drop 1 (List.getD sl (Int.toNat i) [])) 0 d0)), mkS (strD (List.getD (List.drop 1 (List.drop 1 (List.getD sl (Int.toNat i) []))) 0 d0)), mkS (strD (List.getD (List.drop 1 (List.drop 1 (List.drop 1 (List.getD sl (Int.toNat i) [])))) 0 d0)), mkS (strD (List.getD (List.drop 1 (List.drop 1 (List.drop 1 (List.drop 1 (List.getD sl (Int.toNat i) []))))) 0 d0)), mkS (strD (List.getD (List.drop 1 (List.drop 1 (List.drop 1 (List.drop 1 (List.drop 1 (List.getD sl (Int.toNat i) [])))))) 0 d0)), mkS (strD (List.getD (List.drop 1 (List.drop 1 (List.drop 1 (List.drop 1 (List.drop 1 (List.drop 1 (List.getD sl (Int.toNat i) []))))))) 0 d0)), mkS (strD (List.getD (List.drop 1 (List.drop 1 (List.drop 1 (List.drop 1 (List.drop 1 (List.drop 1 (List.drop 1 (List.getD sl (Int.toNat i) [])))))))) 0 d0)), mkI .u32 (intD (List.getD (List.drop 1 (List.drop 1 (List.drop 1 (List.drop 1 (List.drop 1 (List.drop 1 (List.drop 1 (List.drop 1 (List.getD sl (Int.toNat i) []))))))))) 0 d0)), mkI .i64 (intD (List.getD (List.drop 1 (List.drop 1 (List.drop 1 (List.drop 1 (List.drop 1 (List.drop 1 (List.drop 1 (List.drop 1 (List.drop 1 (List.getD sl (Int.toNat i) [])))))))))) 0 d0)), mkB (boolD (List.getD (List.drop 1 (List.drop 1 (List.drop 1 (List.drop 1 (List.drop 1 (List.drop 1 (List.drop 1 (List.drop 1 (List.drop 1 (List.drop 1 (List.getD sl (Int.toNat i) []))))))))))) 0 d0)), AV.d (.sl (slD (List.getD (List.drop 1 (List.drop 1 (List.drop 1 (List.drop 1 (List.drop 1 (List.drop 1 (List.drop 1 (List.drop 1 (List.drop 1 (List.drop 1 (List.drop 1 (List.getD sl (Int.toNat i) [])))))))))))) 0 d0)))], mkI .i64 e_1, mkB false, AV.tp [mkS (getS (Key.s (cutD x_1)) (devs l_2 (cutU x_1))), mkB (hasK (Key.s (cutD x_1)) (devs l_2 (cutU x_1)))], AV.rf 1 0, mkS x, AV.tp [mkS (getS (Key.s (cutD x_1)) (devs l_2 (cutU x_1))), mkB (hasK (Key.s (cutD x_1)) (devs l_2 (cutU x_1)))], mkS (getS (Key.s (cutD x_1)) (devs l_2 (cutU x_1))), mkB (hasK (Key.s (cutD x_1)) (devs l_2 (cutU x_1)))] ++ (jks 46))))), [Ob.bun (famR (FamD.mk KK.str (Shp.map KK.str) l_2)), Ob.box [AV.mp (if 1 < 2 then 0 else 9 + (1 - 2))], Ob.box [AV.d (.sl (onL L'))], Ob.box [mkI .i64 (intD (List.getD (List.getD sl (Int.toNat i) []) 0 d0)), mkS (strD (List.getD (List.drop 1 (List.getD sl (Int.toNat i) [])) 0 d0)), mkS (strD (List.getD (List.drop 1 (List.drop 1 (List.getD sl (Int.toNat i) []))) 0 d0)), mkS (strD (List.getD (List.drop 1 (List.drop 1 (List.drop 1 (List.getD sl (Int.toNat i) [])))) 0 d0)), mkS (strD (List.getD (List.drop 1 (List.drop 1 (List.drop 1 (List.drop 1 (List.getD sl (Int.toNat i) []))))) 0 d0)), mkS (strD (List.getD (List.drop 1 (List.drop 1 (List.drop 1 (List.drop 1 (List.drop 1 (List.getD sl (Int.toNat i) [])))))) 0 d0)), mkS (strD (List.getD (List.drop 1 (List.drop 1 (List.drop 1 (List.drop 1 (List.drop 1 (List.drop 1 (List.getD sl (Int.toNat i) []))))))) 0 d0)), mkS (strD (List.getD (List.drop 1 (List.drop 1 (List.drop 1 (List.drop 1 (List.drop 1 (List.drop 1 (List.drop 1 (List.getD sl (Int.toNat i) [])))))))) 0 d0)), mkI .u32 (intD (List.getD (List.drop 1 (List.drop 1 (List.drop 1 (List.drop 1 (List.drop 1 (List.drop 1 (List.drop 1 (List.drop 1 (List.getD sl (Int.toNat i) []))))))))) 0 d0)), mkI .i64 (intD (List.getD (List.drop 1 (List.drop 1 (List.drop 1 (List.drop 1 (List.drop 1 (List.drop 1 (List.drop 1 (List.drop 1 (List.drop 1 (List.getD sl (Int.toNat i) [])))))))))) 0 d0)), mkB (boolD (List.getD (List.drop 1 (List.drop 1 (List.drop 1 (List.drop 1 (List.drop 1 (List.drop 1 (List.drop 1 (List.drop 1 (List.drop 1 (List.drop 1 (List.getD sl (Int.toNat i) []))))))))))) 0 d0)), AV.d (.sl (slD (List.getD (List.drop 1 (List.drop 1 (List.drop 1 (List.drop 1 (List.drop 1 (List.drop 1 (List.drop 1 (List.drop 1 (List.drop 1 (List.drop 1 (List.drop 1 (List.getD sl (Int.toNat i) [])))))))))))) 0 d0))), mkB (boolD (List.getD (List.drop 1 (List.drop 1 (List.drop 1 (List.drop 1 (List.drop 1 (List.drop 1 (List.drop 1 (List.drop 1 (List.drop 1 (List.drop 1 (List.drop 1 (List.drop 1 (List.getD sl (Int.toNat i) []))))))))))))) 0 d0)), AV.d (.sl (slD (List.getD (List.drop 1 (List.drop 1 (List.drop 1 (List.drop 1 (List.drop 1 (List.drop 1 (List.drop 1 (List.drop 1 (List.drop 1 (List.drop 1 (List.drop 1 (List.drop 1 (List.drop 1 (List.getD sl (Int.toNat i) [])))))))))))))) 0 d0)))], Ob.gone, Ob.gone, Ob.gone, Ob.gone, Ob.gone, Ob.gone]⟩))))))))))))))))))) ∧ (
      ∃ (l_1 : FLs),
      ∃ (kind : Int),
      ∃ (ty : ByteArray),
      ∃ (id : ByteArray),
      ∃ (fr : ByteArray),
      ∃ (to : ByteArray),
      ∃ (sh : ByteArray),
      ∃ (tok : ByteArray),
      ∃ (rea : ByteArray),
      ∃ (hh : Int),
      ∃ (ver : Int),
      ∃ (rem : Bool),
      ∃ (its : List (List D)),
      ([AV.rf 0 0, AV.ag [mkI .i64 (intD (List.getD (List.getD sl (Int.toNat i) []) 0 d0)), mkS (strD (List.getD (List.drop 1 (List.getD sl (Int.toNat i) [])) 0 d0)), mkS (strD (List.getD (List.drop 1 (List.drop 1 (List.getD sl (Int.toNat i) []))) 0 d0)), mkS (strD (List.getD (List.drop 1 (List.drop 1 (List.drop 1 (List.getD sl (Int.toNat i) [])))) 0 d0)), mkS (strD (List.getD (List.drop 1 (List.drop 1 (List.drop 1 (List.drop 1 (List.getD sl (Int.toNat i) []))))) 0 d0)), mkS (strD (List.getD (List.drop 1 (List.drop 1 (List.drop 1 (List.drop 1 (List.drop 1 (List.getD sl (Int.toNat i) [])))))) 0 d0)), mkS (strD (List.getD (List.drop 1 (List.drop 1 (List.drop 1 (List.drop 1 (List.drop 1 (List.drop 1 (List.getD sl (Int.toNat i) []))))))) 0 d0)), mkS (strD (List.getD (List.drop 1 (List.drop 1 (List.drop 1 (List.drop 1 (List.drop 1 (List.drop 1 (List.drop 1 (List.getD sl (Int.toNat i) [])))))))) 0 d0)), mkI .u32 (intD (List.getD (List.drop 1 (List.drop 1 (List.drop 1 (List.drop 1 (List.drop 1 (List.drop 1 (List.drop 1 (List.drop 1 (List.getD sl (Int.toNat i) []))))))))) 0 d0)), mkI .i64 (intD (List.getD (List.drop 1 (List.drop 1 (List.drop 1 (List.drop 1 (List.drop 1 (List.drop 1 (List.drop 1 (List.drop 1 (List.drop 1 (List.getD sl (Int.toNat i) [])))))))))) 0 d0)), mkB (boolD (List.getD (List.drop 1 (List.drop 1 (List.drop 1 (List.drop 1 (List.drop 1 (List.drop 1 (List.drop 1 (List.drop 1 (List.drop 1 (List.drop 1 (List.getD sl (Int.toNat i) []))))))))))) 0 d0)), AV.d (.sl (slD (List.getD (List.drop 1 (List.drop 1 (List.drop 1 (List.drop 1 (List.drop 1 (List.drop 1 (List.drop 1 (List.drop 1 (List.drop 1 (List.drop 1 (List.drop 1 (List.getD sl (Int.toNat i) [])))))))))))) 0 d0)))]] = [AV.rf 0 0, AV.ag [mkI .i64 kind, mkS ty, mkS id, mkS fr, mkS to, mkS sh, mkS tok, mkS rea, mkI .u32 hh, mkI .i64 ver, mkB rem, AV.d (.sl its)]]) ∧
      ([Ob.box [AV.mp (0 + 1)], Ob.bun (famR (FamD.mk KK.str (Shp.map KK.str) l)), Ob.gh [AV.rf 0 0]] = [Ob.box [AV.mp 1], Ob.bun (famR (FamD.mk KK.str (Shp.map KK.str) l_1)), Ob.gh [AV.rf 0 0]]) ∧
      (CrOk l_1) ∧
      ((cntL l_1) ≤ (1000 : Nat)) ∧
      ((ByteArray.size fr) ≤ SZC) ∧
      ((ByteArray.size sh) ≤ LIM) ∧ (
       ∀ (e : Int),
       ∀ (l' : FLs),
       (HeR l_1 kind ty fr sh e l') →
       ((Option.some (Ob.gh [AV.rf 0 0])) = (Option.some (Ob.gh [AV.rf 0 0]))) ∧ (
        ∃ (L_1 : List One),
        ∃ (kind_1 : Int),
        ∃ (ty_1 : ByteArray),
        ∃ (id_1 : ByteArray),
        ∃ (fr_1 : ByteArray),
        ∃ (to_1 : ByteArray),
        ∃ (sh_1 : ByteArray),
        ∃ (tok_1 : ByteArray),
        ∃ (rea_1 : ByteArray),
        ∃ (hh_1 : Int),
        ∃ (ver_1 : Int),
        ∃ (rem_1 : Bool),
        ∃ (its_1 : List (List D)),
        ([AV.rf 0 0, AV.ag [mkI .i64 (intD (List.getD (List.getD sl (Int.toNat i) []) 0 d0)), mkS (strD (List.getD (List.drop 1 (List.getD sl (Int.toNat i) [])) 0 d0)), mkS (strD (List.getD (List.drop 1 (List.drop 1 (List.getD sl (Int.toNat i) []))) 0 d0)), mkS (strD (List.getD (List.drop 1 (List.drop 1 (List.drop 1 (List.getD sl (Int.toNat i) [])))) 0 d0)), mkS (strD (List.getD (List.drop 1 (List.drop 1 (List.drop 1 (List.drop 1 (List.getD sl (Int.toNat i) []))))) 0 d0)), mkS (strD (List.getD (List.drop 1 (List.drop 1 (List.drop 1 (List.drop 1 (List.drop 1 (List.getD sl (Int.toNat i) [])))))) 0 d0)), mkS (strD (List.getD (List.drop 1 (List.drop 1 (List.drop 1 (List.drop 1 (List.drop 1 (List.drop 1 (List.getD sl (Int.toNat i) []))))))) 0 d0)), mkS (strD (List.getD (List.drop 1 (List.drop 1 (List.drop 1 (List.drop 1 (List.drop 1 (List.drop 1 (List.drop 1 (List.getD sl (Int.toNat i) [])))))))) 0 d0)), mkI .u32 (intD (List.getD (List.drop 1 (List.drop 1 (List.drop 1 (List.drop 1 (List.drop 1 (List.drop 1 (List.drop 1 (List.drop 1 (List.getD sl (Int.toNat i) []))))))))) 0 d0)), mkI .i64 (intD (List.getD (List.drop 1 (List.drop 1 (List.drop 1 (List.drop 1 (List.drop 1 (List.drop 1 (List.drop 1 (List.drop 1 (List.drop 1 (List.getD sl (Int.toNat i) [])))))))))) 0 d0)), mkB (boolD (List.getD (List.drop 1 (List.drop 1 (List.drop 1 (List.drop 1 (List.drop 1 (List.drop 1 (List.drop 1 (List.drop 1 (List.drop 1 (List.drop 1 (List.getD sl (Int.toNat i) []))))))))))) 0 d0)), AV.d (.sl (slD (List.getD (List.drop 1 (List.drop 1 (List.drop 1 (List.drop 1 (List.drop 1 (List.drop 1 (List.drop 1 (List.drop 1 (List.drop 1 (List.drop 1 (List.drop 1 (List.getD sl (Int.toNat i) [])))))))))))) 0 d0)))]] = [AV.rf 0 0, AV.ag [mkI .i64 kind_1, mkS ty_1, mkS id_1, mkS fr_1, mkS to_1, mkS sh_1, mkS tok_1, mkS rea_1, mkI .u32 hh_1, mkI .i64 ver_1, mkB rem_1, AV.d (.sl its_1)]]) ∧
        ([Ob.box [AV.d (.sl (onL L))], Ob.gh [AV.rf 0 0]] = [Ob.box [AV.d (.sl (onL L_1))], Ob.gh [AV.rf 0 0]]) ∧
        (OkL L_1) ∧
        ((ByteArray.size fr_1) ≤ SZC) ∧ (
         ∀ (e_1 : Int),
         ∀ (L' : List One),
         (HrR L_1 kind_1 ty_1 fr_1 sh_1 e_1 L') →
         ((Option.some (Ob.gh [AV.rf 0 0])) = (Option.some (Ob.gh [AV.rf 0 0]))) ∧
         bcase (e != e_1) (
          q (mkB false)) (
          ∃ (l_2 : FLs),
          ∃ (x_1 : ByteArray),
          ([AV.rf 0 0, mkS x] = [AV.rf 0 0, mkS x_1]) ∧
          ([Ob.box [AV.mp (0 + 1)], Ob.bun (famR (FamD.mk KK.str (Shp.map KK.str) l')), Ob.gh [AV.rf 0 0]] = [Ob.box [AV.mp 1], Ob.bun (famR (FamD.mk KK.str (Shp.map KK.str) l_2)), Ob.gh [AV.rf 0 0]]) ∧
          (CrOk l_2) ∧
          ((ByteArray.size x_1) ≤ LIM) ∧
          ((Option.some (Ob.gh [AV.rf 0 0])) = (Option.some (Ob.gh [AV.rf 0 0]))) ∧
          ACut (aCode KP GPl (cAt [1, 1, 1, 0, 1, 0, 0, 1, 0, 0, 1, 1, 1] Tryd.b6)) (rPc_b_k0 st inv μ kk sl x l L i q) ⟨[AV.d (.sl sl), mkS x, AV.jk, AV.jk, mkB false, AV.rf 1 0, AV.rf 2 0, mkI .i64 i, AV.rf 3 0, AV.jk, mkS (getS (Key.s (cutD x_1)) (devs l_2 (cutU x_1))), mkB (hasK (Key.s (cutD x_1)) (devs l_2 (cutU x_1)))] ++ (jks 11 ++ ([mkI .i64 i, AV.d (.sl sl), mkI .i64 ((List.length sl) : Int), mkB (decide (i < ((List.length sl) : Int))), mkB true, mkI .i64 i, mkB (decide (i < (120 : Int))), mkB true, AV.jk, AV.jk, AV.d (.sl sl), mkI .i64 i, AV.ep (List.getD sl (Int.toNat i) []), AV.ag [mkI .i64 (intD (List.getD (List.getD sl (Int.toNat i) []) 0 d0)), mkS (strD (List.getD (List.drop 1 (List.getD sl (Int.toNat i) [])) 0 d0)), mkS (strD (List.getD (List.drop 1 (List.drop 1 (List.getD sl (Int.toNat i) []))) 0 d0)), mkS (strD (List.getD (List.drop 1 (List.drop 1 (List.drop 1 (List.getD sl (Int.toNat i) [])))) 0 d0)), mkS (strD (List.getD (List.drop 1 (List.drop 1 (List.drop 1 (List.drop 1 (List.getD sl (Int.toNat i) []))))) 0 d0)), mkS (strD (List.getD (List.drop 1 (List.drop 1 (List.drop 1 (List.drop 1 (List.drop 1 (List.getD sl (Int.toNat i) [])))))) 0 d0)), mkS (strD (List.getD (List.drop 1 (List.drop 1 (List.drop 1 (List.drop 1 (List.drop 1 (List.drop 1 (List.getD sl (Int.toNat i) []))))))) 0 d0)), mkS (strD (List.getD (List.drop 1 (List.drop 1 (List.drop 1 (List.drop 1 (List.drop 1 (List.drop 1 (List.drop 1 (List.getD sl (Int.toNat i) [])))))))) 0 d0)), mkI .u32 (intD (List.getD (List.drop 1 (List.drop 1 (List.drop 1 (List.drop 1 (List.drop 1 (List.drop 1 (List.drop 1 (List.drop 1 (List.getD sl (Int.toNat i) []))))))))) 0 d0)), mkI .i64 (intD (List.getD (List.drop 1 (List.drop 1 (List.drop 1 (List.drop 1 (List.drop 1 (List.drop 1 (List.drop 1 (List.drop 1 (List.drop 1 (List.getD sl (Int.toNat i) [])))))))))) 0 d0)), mkB (boolD (List.getD (List.drop 1 (List.drop 1 (List.drop 1 (List.drop 1 (List.drop 1 (List.drop 1 (List.drop 1 (List.drop 1 (List.drop 1 (List.drop 1 (List.getD sl (Int.toNat i) []))))))))))) 0 d0)), AV.d (.sl (slD (List.getD (List.drop 1 (List.drop 1 (List.drop 1 (List.drop 1 (List.drop 1 (List.drop 1 (List.drop 1 (List.drop 1 (List.drop 1 (List.drop 1 (List.drop 1 (List.getD sl (Int.toNat i) [])))))))))))) 0 d0))), mkB (boolD (List.getD (List.drop 1 (List.drop 1 (List.drop 1 (List.drop 1 (List.drop 1 (List.drop 1 (List.drop 1 (List.drop 1 (List.drop 1 (List.drop 1 (List.drop 1 (List.drop 1 (List.getD sl (Int.toNat i) []))))))))))))) 0 d0)), AV.d (.sl (slD (List.getD (List.drop 1 (List.drop 1 (List.drop 1 (List.drop 1 (List.drop 1 (List.drop 1 (List.drop 1 (List.drop 1 (List.drop 1 (List.drop 1 (List.drop 1 (List.drop 1 (List.drop 1 (List.getD sl (Int.toNat i) [])))))))))))))) 0 d0)))], AV.rf 3 (0 + 12), mkB false] ++ (jks 13 ++ ([AV.rf 1 0, AV.rf 3 (0 + 0), AV.ag [mkI .i64 (intD (List.getD (List.getD sl (Int.toNat i) []) 0 d0)), mkS (strD (List.getD (List.drop 1 (List.getD sl (Int.toNat i) [])) 0 d0)), mkS (strD (List.getD (List.drop 1 (List.drop 1 (List.getD sl (Int.toNat i) []))) 0 d0)), mkS (strD (List.getD (List.drop 1 (List.drop 1 (List.drop 1 (List.getD sl (Int.toNat i) [])))) 0 d0)), mkS (strD (List.getD (List.drop 1 (List.drop 1 (List.drop 1 (List.drop 1 (List.getD sl (Int.toNat i) []))))) 0 d0)), mkS (strD (List.getD (List.drop 1 (List.drop 1 (List.drop 1 (List.drop 1 (List.drop 1 (List.getD sl (Int.toNat i) [])))))) 0 d0)), mkS (strD (List.getD (List.drop 1 (List.drop 1 (List.drop 1 (List.drop 1 (List.drop 1 (List.drop 1 (List.getD sl (Int.toNat i) []))))))) 0 d0)), mkS (strD (List.getD (List.drop 1 (List.drop 1 (List.drop 1 (List.drop 1 (List.drop 1 (List.drop 1 (List.drop 1 (List.getD sl (Int.toNat i) [])))))))) 0 d0)), mkI .u32 (intD (List.getD (List.drop 1 (List.drop 1 (List.drop 1 (List.drop 1 (List.drop 1 (List.drop 1 (List.drop 1 (List.drop 1 (List.getD sl (Int.toNat i) []))))))))) 0 d0)), mkI .i64 (intD (List.getD (List.drop 1 (List.drop 1 (List.drop 1 (List.drop 1 (List.drop 1 (List.drop 1 (List.drop 1 (List.drop 1 (List.drop 1 (List.getD sl (Int.toNat i) [])))))))))) 0 d0)), mkB (boolD (List.getD (List.drop 1 (List.drop 1 (List.drop 1 (List.drop 1 (List.drop 1 (List.drop 1 (List.drop 1 (List.drop 1 (List.drop 1 (List.drop 1 (List.getD sl (Int.toNat i) []))))))))))) 0 d0)), AV.d (.sl (slD (List.getD (List.drop 1 (List.drop 1 (List.drop 1 (List.drop 1 (List.drop 1 (List.drop 1 (List.drop 1 (List.drop 1 (List.drop 1 (List.drop 1 (List.drop 1 (List.getD sl (Int.toNat i) [])))))))))))) 0 d0)))], mkI .i64 e, AV.rf 2 0, AV.rf 3 (0 + 0), AV.ag [mkI .i64 (intD (List.getD (List.getD sl (Int.toNat i) []) 0 d0)), mkS (strD (List.getD (List.drop 1 (List.getD sl (Int.toNat i) [])) 0 d0)), mkS (strD (List.getD (List.drop 1 (List.drop 1 (List.getD sl (Int.toNat i) []))) 0 d0)), mkS (strD (List.getD (List.drop 1 (List.drop 1 (List.drop 1 (List.getD sl (Int.toNat i) [])))) 0 d0)), mkS (strD (List.getD (List.drop 1 (List.drop 1 (List.drop 1 (List.drop 1 (List.getD sl (Int.toNat i) []))))) 0 d0)), mkS (strD (List.getD (List.drop 1 (List.drop 1 (List.drop 1 (List.drop 1 (List.drop 1 (List.getD sl (Int.toNat i) [])))))) 0 d0)), mkS (strD (List.getD (List.drop 1 (List.drop 1 (List.drop 1 (List.drop 1 (List.drop 1 (List.drop 1 (List.getD sl (Int.toNat i) []))))))) 0 d0)), mkS (strD (List.getD (List.drop 1 (List.drop 1 (List.drop 1 (List.drop 1 (List.drop 1 (List.drop 1 (List.drop 1 (List.getD sl (Int.toNat i) [])))))))) 0 d0)), mkI .u32 (intD (List.getD (List.drop 1 (List.drop 1 (List.drop 1 (List.drop 1 (List.drop 1 (List.drop 1 (List.drop 1 (List.drop 1 (List.getD sl (Int.toNat i) []))))))))) 0 d0)), mkI .i64 (intD (List.getD (List.drop 1 (List.drop 1 (List.drop 1 (List.drop 1 (List.drop 1 (List.drop 1 (List.drop 1 (List.drop 1 (List.drop 1 (List.getD sl (Int.toNat i) [])))))))))) 0 d0)), mkB (boolD (List.getD (List.drop 1 (List.drop 1 (List.drop 1 (List.drop 1 (List.drop 1 (List.drop 1 (List.drop 1 (List.drop 1 (List.drop 1 (List.drop 1 (List.getD sl (Int.toNat i) []))))))))))) 0 d0)), AV.d (.sl (slD (List.getD (List.drop 1 (List.drop 1 (List.drop 1 (List.drop 1 (List.drop 1 (List.drop 1 (List.drop 1 (List.drop 1 (List.drop 1 (List.drop 1 (List.drop 1 (List.getD sl (Int.toNat i) [])))))))))))) 0 d0)))], mkI .i64 e_1, mkB false, AV.tp [mkS (getS (Key.s (cutD x_1)) (devs l_2 (cutU x_1))), mkB (hasK (Key.s (cutD x_1)) (devs l_2 (cutU x_1)))], AV.rf 1 0, mkS x, AV.tp [mkS (getS (Key.s (cutD x_1)) (devs l_2 (cutU x_1))), mkB (hasK (Key.s (cutD x_1)) (devs l_2 (cutU x_1)))], mkS (getS (Key.s (cutD x_1)) (devs l_2 (cutU x_1))), mkB (hasK (Key.s (cutD x_1)) (devs l_2 (cutU x_1)))] ++ (jks 46))))), [Ob.bun (famR (FamD.mk KK.str (Shp.map KK.str) l_2)), Ob.box [AV.mp (if 1 < 2 then 0 else 9 + (1 - 2))], Ob.box [AV.d (.sl (onL L'))], Ob.box [mkI .i64 (intD (List.getD (List.getD sl (Int.toNat i) []) 0 d0)), mkS (strD (List.getD (List.drop 1 (List.getD sl (Int.toNat i) [])) 0 d0)), mkS (strD (List.getD (List.drop 1 (List.drop 1 (List.getD sl (Int.toNat i) []))) 0 d0)), mkS (strD (List.getD (List.drop 1 (List.drop 1 (List.drop 1 (List.getD sl (Int.toNat i) [])))) 0 d0)), mkS (strD (List.getD (List.drop 1 (List.drop 1 (List.drop 1 (List.drop 1 (List.getD sl (Int.toNat i) []))))) 0 d0)), mkS (strD (List.getD (List.drop 1 (List.drop 1 (List.drop 1 (List.drop 1 (List.drop 1 (List.getD sl (Int.toNat i) [])))))) 0 d0)), mkS (strD (List.getD (List.drop 1 (List.drop 1 (List.drop 1 (List.drop 1 (List.drop 1 (List.drop 1 (List.getD sl (Int.toNat i) []))))))) 0 d0)), mkS (strD (List.getD (List.drop 1 (List.drop 1 (List.drop 1 (List.drop 1 (List.drop 1 (List.drop 1 (List.drop 1 (List.getD sl (Int.toNat i) [])))))))) 0 d0)), mkI .u32 (intD (List.getD (List.drop 1 (List.drop 1 (List.drop 1 (List.drop 1 (List.drop 1 (List.drop 1 (List.drop 1 (List.drop 1 (List.getD sl (Int.toNat i) []))))))))) 0 d0)), mkI .i64 (intD (List.getD (List.drop 1 (List.drop 1 (List.drop 1 (List.drop 1 (List.drop 1 (List.drop 1 (List.drop 1 (List.drop 1 (List.drop 1 (List.getD sl (Int.toNat i) [])))))))))) 0 d0)), mkB (boolD (List.getD (List.drop 1 (List.drop 1 (List.drop 1 (List.drop 1 (List.drop 1 (List.drop 1 (List.drop 1 (List.drop 1 (List.drop 1 (List.drop 1 (List.getD sl (Int.toNat i) []))))))))))) 0 d0)), AV.d (.sl (slD (List.getD (List.drop 1 (List.drop 1 (List.drop 1 (List.drop 1 (List.drop 1 (List.drop 1 (List.drop 1 (List.drop 1 (List.drop 1 (List.drop 1 (List.drop 1 (List.getD sl (Int.toNat i) [])))))))))))) 0 d0))), mkB (boolD (List.getD (List.drop 1 (List.drop 1 (List.drop 1 (List.drop 1 (List.drop 1 (List.drop 1 (List.drop 1 (List.drop 1 (List.drop 1 (List.drop 1 (List.drop 1 (List.drop 1 (List.getD sl (Int.toNat i) []))))))))))))) 0 d0)), AV.d (.sl (slD (List.getD (List.drop 1 (List.drop 1 (List.drop 1 (List.drop 1 (List.drop 1 (List.drop 1 (List.drop 1 (List.drop 1 (List.drop 1 (List.drop 1 (List.drop 1 (List.drop 1 (List.drop 1 (List.getD sl (Int.toNat i) [])))))))))))))) 0 d0)))], Ob.gone, Ob.gone, Ob.gone, Ob.gone, Ob.gone, Ob.gone]⟩))))))) (
    q (mkB true))) (
   q (mkB true))) := by kernel_rfl
def stP2 (sl : List (List D)) (x : ByteArray) (l : FLs) (L : List One) (i : Int) (a : ByteArray) (ok : Bool) (kind : Int) (ty id fr to sh tok rea : ByteArray) (hh ver : Int) (rem : Bool) (its : List (List D)) (on : Bool) (us : List (List D)) : S := ⟨[.d (.sl sl), mkS x, .jk, .jk, mkB false, .rf 1 0, .rf 2 0, mkI .i64 i, .rf 3 0, .jk, mkS a, mkB ok] ++ jks 101, [fobC l, .box [.mp 0], .box [.d (.sl (onL L))], .box [mkI .i64 kind, mkS ty, mkS id, mkS fr, mkS to, mkS sh, mkS tok, mkS rea, mkI .u32 hh, mkI .i64 ver, mkB rem, .d (.sl its), mkB on, .d (.sl us)]]⟩
theorem rPc_c {ι : Type} (st : ι → S) (inv : ι → Prop) (μ : ι → Nat) (kk : ι) (sl : List (List D)) (x : ByteArray) (l0 : FLs) (L0 : List One) (l : FLs) (L : List One) (i : Int) (a : ByteArray) (ok : Bool) (kind : Int) (ty id fr to sh tok rea : ByteArray) (hh ver : Int) (rem : Bool) (its : List (List D)) (on : Bool) (us : List (List D)) (q : AV → Prop) :
  (aCode KP GPl (cAt [1, 1, 1, 0, 1, 0, 0, 1, 0, 0, 1, 1, 1] Tryd.b6) (rPc_b_k0 st inv μ kk sl x l0 L0 i q) (stP2 sl x l L i a ok kind ty id fr to sh tok rea hh ver rem its on us)) = (
  ∃ (L_1 : List One),
  ∃ (x_1 : ByteArray),
  ([AV.rf 0 0, mkS x] = [AV.rf 0 0, mkS x_1]) ∧
  ([Ob.box [AV.d (.sl (onL L))], Ob.gh [AV.rf 0 0]] = [Ob.box [AV.d (.sl (onL L_1))], Ob.gh [AV.rf 0 0]]) ∧
  (OkL L_1) ∧
  ((Option.some (Ob.gh [AV.rf 0 0])) = (Option.some (Ob.gh [AV.rf 0 0]))) ∧ (
   ∃ (l_1 : FLs),
   ∃ (x_2 : ByteArray),
   ([AV.rf 0 0, mkS fr] = [AV.rf 0 0, mkS x_2]) ∧
   ([Ob.box [AV.mp (0 + 1)], Ob.bun (famR (FamD.mk KK.str (Shp.map KK.str) l)), Ob.gh [AV.rf 0 0]] = [Ob.box [AV.mp 1], Ob.bun (famR (FamD.mk KK.str (Shp.map KK.str) l_1)), Ob.gh [AV.rf 0 0]]) ∧
   (CrOk l_1) ∧
   ((ByteArray.size x_2) ≤ LIM) ∧
   ((Option.some (Ob.gh [AV.rf 0 0])) = (Option.some (Ob.gh [AV.rf 0 0]))) ∧ (
    ∃ (L_2 : List One),
    ∃ (x_3 : ByteArray),
    ([AV.rf 0 0, mkS fr] = [AV.rf 0 0, mkS x_3]) ∧
    ([Ob.box [AV.d (.sl (onL L_1))], Ob.gh [AV.rf 0 0]] = [Ob.box [AV.d (.sl (onL L_2))], Ob.gh [AV.rf 0 0]]) ∧
    (OkL L_2) ∧
    ((Option.some (Ob.gh [AV.rf 0 0])) = (Option.some (Ob.gh [AV.rf 0 0]))) ∧
    bcase (!(decide (a = (shO L_1 x_1)))) (
     q (mkB false)) (
     bcase (!(ok == (hasO L_1 x_1))) (
      q (mkB false)) (
      bcase (!(decide ((getS (Key.s (cutD x_2)) (devs l_1 (cutU x_2))) = (shO L_2 x_3)))) (
       q (mkB false)) (
       bcase (!((hasK (Key.s (cutD x_2)) (devs l_1 (cutU x_2))) == (hasO L_2 x_3))) (
        q (mkB false)) (
        ∃ (l_2 : FLs),
        ∃ (L_3 : List One),
        ([AV.rf 0 0, AV.rf ((0 + 1) + 1) 0] = [AV.rf 0 0, AV.rf 2 0]) ∧
        ([Ob.box [AV.mp (0 + 1)], Ob.bun (famR (FamD.mk KK.str (Shp.map KK.str) l_1)), Ob.box [AV.d (.sl (onL L_2))], Ob.gh [AV.rf 0 0, AV.rf ((0 + 1) + 1) 0]] = [Ob.box [AV.mp 1], Ob.bun (famR (FamD.mk KK.str (Shp.map KK.str) l_2)), Ob.box [AV.d (.sl (onL L_3))], Ob.gh [AV.rf 0 0, AV.rf 2 0]]) ∧
        (RlC l_2 L_3) ∧
        ((Option.some (Ob.gh [AV.rf 0 0, AV.rf 2 0])) = (Option.some (Ob.gh [AV.rf 0 0, AV.rf ((0 + 1) + 1) 0]))) ∧
        FamNext st inv μ kk ⟨[AV.d (.sl sl), mkS x, AV.jk, AV.jk, mkB false, AV.rf 1 0, AV.rf 2 0, mkI .i64 (IntKind.wrap .i64 (i + (1 : Int)))] ++ (jks 105), [Ob.bun (famR (FamD.mk KK.str (Shp.map KK.str) l_2)), Ob.box [AV.mp (if 1 < 3 then 0 else 11 + (1 - 3))], Ob.box [AV.d (.sl (onL L_3))], Ob.box [mkI .i64 kind, mkS ty, mkS id, mkS fr, mkS to, mkS sh, mkS tok, mkS rea, mkI .u32 hh, mkI .i64 ver, mkB rem, AV.d (.sl its), mkB on, AV.d (.sl us)], Ob.gone, Ob.gone, Ob.gone, Ob.gone, Ob.gone, Ob.gone, Ob.gone, Ob.gone]⟩))))))) := by kernel_rfl
structure OpS where
  s : Stz
  on : Bool
  us : List BA
def opD (o : OpS) : List D := stzD o.s ++ [.v (.bool o.on), .sl (strsD o.us)]
def opsL (l : List OpS) : List (List D) := l.map opD
theorem opsL_len (l : List OpS) : (opsL l).length = l.length := by simp [opsL]
theorem ops_at (l : List OpS) {i : Nat} (h : i < l.length) : (opsL l).getD ((i : Int).toNat) [] = opD l[i] := by
  rw [Int.toNat_natCast, List.getD_eq_getElem?_getD, opsL, List.getElem?_map, List.getElem?_eq_getElem h]; rfl
theorem ty_op {n : Nat} {ds : List D} (h : Ty Tryd.prog n 50 ds) : ∃ o : OpS, ds = opD o ∧ o.s.fit := by
  obtain ⟨m, _, h⟩ := tySt (ts := [29, 4, 34]) Tryd.underlying50 rfl h
  obtain ⟨_, _, rfl, h1, _, _, rfl, h2, _, _, rfl, h3, rfl⟩ := h
  obtain ⟨s, rfl, hs⟩ := ty_stz h1
  obtain ⟨b, rfl⟩ := tyB Tryd.underlying4 h2
  obtain ⟨es, rfl, _, k, _, he⟩ := tyL Tryd.underlying34 h3
  obtain ⟨us, rfl, _⟩ := ty_strs Tryd.underlying9 he
  exact ⟨⟨s, b, us⟩, rfl, hs⟩
theorem arg_ops {a : AV} (h : TyArg Tryd.prog 44 a) : ∃ l : List OpS, a = .d (.sl (opsL l)) ∧ l.length ≤ 1048576 ∧ ∀ o ∈ l, o.s.fit := by
  obtain ⟨es, rfl, hl, n, hs⟩ := arg_slice Tryd.underlying44 h
  obtain ⟨l, rfl, hf⟩ := list_of opD (fun o => o.s.fit) es fun c hc => ty_op (hs c hc)
  exact ⟨l, rfl, by simpa using hl, hf⟩
theorem str_take (us : List BA) (n : Nat) : (strsD us).take n = strsD (us.take n) := by simp [strsD, List.map_take]
def FPl : List AV → Option (Prop × AV) := fun al => match al with
  | [.d (.sl es), .d (.v (.string x))] => some (x.size ≤ SZC ∧ ∃ l : List OpS, es = opsL l ∧ l.length ≤ 1048576 ∧ ∀ o ∈ l, o.s.fit, mkB true)
  | _ => none
theorem gPl : GSound Tryd.prog GPl := gsound_det cLives (gsound_new cNw (gsound_ref (RSound.frame (cHe_of cCnt)) (gsound_ref (RSound.frame cShow) (gsound_ref (RSound.frame cFo) (gsound_ref (RSound.frame cRh) (gsound_ref (RSound.frame cSw) (gsound_ref (RSound.frame cFr) (gsound_ref (RSound.frame cLk) gsound_nil))))))))
theorem cPl : PSound Tryd.prog 6 (detE FPl) := by
  refine det_fn (c := Tryd.b6) mixed KP_ok gPl Tryd.func6 rfl rfl Tryd.call6 fun al p r q hF hp hq => ?_
  unfold FPl at hF; split at hF <;> cases hF
  rename_i x
  obtain ⟨hx, ops, rfl, hlen, hfit⟩ := hp
  have hSl := opsL_len ops
  refine cast (rPc (opsL ops) x q).symm ⟨trivial, rfl, ALoop.weak _ ((weak_openB _ 2 0 3 (by omega)).trans (weak_seal _ [3])) ?_⟩
  refine ALoop.introM [] (maskOf (stP1 (opsL ops) x [] [] 0)) (fun y : FLs × List One × Nat => stP1 (opsL ops) x y.1 y.2.1 (y.2.2 : Int)) (fun y => RlC y.1 y.2.1 ∧ y.2.2 ≤ ops.length) (fun y => ops.length - y.2.2)
    ⟨[], ([], [], 0), by generalize opsL ops = sl; simp [S.le, sealAll, S.sealR, subL, AV.sub, Ob.subO, leL, leA, leO, jks, stP1, S.openB, openNil, onL, mkI, mkS, mkB, S.fits, fitsL, AV.fits, Ob.fits, fobC], rl_nil, Nat.zero_le _⟩ fun ⟨l, L, i⟩ ⟨hR, hi⟩ => ?_
  simp only at hR hi
  have hC := hR.ok
  have hn := hR.n
  have hL := hR.okl
  refine cast (rPc_b _ _ _ (l, L, i) (opsL ops) x l L (i : Int) q).symm fun hlim => bcase_dec (fun hlt => bcase_dec (fun h120 => ?_) (fun h120 => hq)) (fun hge => hq)
  have hlt : i < ops.length := by rw [hSl] at hlt; omega
  have w1 : IntKind.wrap .i64 ((i : Int) + 1) = ((i + 1 : Nat) : Int) := by rw [IntWalk.i64_in _ (by omega)]; omega
  have hi1 : (0 ≤ (i : Int)) ∧ ((i : Int) < ((opsL ops).length : Int)) := ⟨by omega, by rw [hSl]; omega⟩
  have hf := hfit _ (List.getElem_mem hlt)
  rw [ops_at ops hlt]
  generalize ops[i] = o at hf
  obtain ⟨⟨kind, ty, id, fr, to, sh, tok, rea, hh, ver, rem, its⟩, on, us⟩ := o
  have hfr := hf.fr
  have hsh := hf.sh
  simp only at hfr hsh
  have cont : ∀ {l' : FLs} {L' : List One}, RlC l' L' → aCode KP GPl (cAt [1, 1, 1, 0, 1, 0, 0, 1, 0, 0, 1, 1, 1] Tryd.b6) (rPc_b_k0 (fun y : FLs × List One × Nat => stP1 (opsL ops) x y.1 y.2.1 (y.2.2 : Int)) (fun y => RlC y.1 y.2.1 ∧ y.2.2 ≤ ops.length) (fun y => ops.length - y.2.2) (l, L, i) (opsL ops) x l L (i : Int) q) (stP2 (opsL ops) x l' L' (i : Int) (getS (.s (cutD x)) (devs l' (cutU x))) (hasK (.s (cutD x)) (devs l' (cutU x))) kind ty id fr to sh tok rea hh ver rem its on (strsD us)) := fun {l' L'} h => by
    refine cast (rPc_c _ _ _ (l, L, i) (opsL ops) x l L l' L' (i : Int) _ _ kind ty id fr to sh tok rea hh ver rem its on (strsD us) q).symm ⟨L', x, rfl, rfl, h.okl, rfl, l', fr, rfl, rfl, h.ok, szc_lim hfr, rfl, L', fr, rfl, rfl, h.okl, rfl, bcaseF (by rw [show_get h]; simp) (bcaseF (by rw [show_has h]; simp) (bcaseF (by rw [show_get h]; simp) (bcaseF (by rw [show_has h]; simp) ⟨l', L', rfl, rfl, h, rfl, ?_⟩)))⟩
    rw [w1]
    refine .mk [] (l', L', i + 1) ?_ ⟨h, hlt⟩ (show ops.length - (i + 1) < ops.length - i by omega)
    generalize opsL ops = sl
    simp [S.le, sealAll, leL, leA, leO, jks, stP1, mkI, mkS, mkB, S.fits, fitsL, AV.fits, Ob.fits, fobC]
  have st2 : ∀ {l' : FLs} {L' : List One} {t : S}, RlC l' L' → S.le (sealAll [] t) (stP2 (opsL ops) x l' L' (i : Int) (getS (.s (cutD x)) (devs l' (cutU x))) (hasK (.s (cutD x)) (devs l' (cutU x))) kind ty id fr to sh tok rea hh ver rem its on (strsD us)) → ACut (aCode KP GPl (cAt [1, 1, 1, 0, 1, 0, 0, 1, 0, 0, 1, 1, 1] Tryd.b6)) (rPc_b_k0 (fun y : FLs × List One × Nat => stP1 (opsL ops) x y.1 y.2.1 (y.2.2 : Int)) (fun y => RlC y.1 y.2.1 ∧ y.2.2 ≤ ops.length) (fun y => ops.length - y.2.2) (l, L, i) (opsL ops) x l L (i : Int) q) t := fun h hs => .wk [] _ hs (cont h)
  have two : ∀ {e e' : Int} {l' : FLs} {L' : List One} {P : Prop}, HeR l kind ty fr sh e l' → HrR L kind ty fr sh e' L' → (RlC l' L' → P) → bcase (e != e') (q (mkB false)) P := fun h1 h2 hP => by
    obtain ⟨rfl, h3⟩ := rl_hear hR h1 h2
    exact bcaseF (by simp) (hP h3)
  refine ⟨hi1, rfl, Nat.le_refl 14, ⟨rfl, rfl, rfl, rfl, rfl, rfl, rfl, rfl, rfl, rfl, rfl, rfl, rfl, rfl, trivial⟩, bcase_mk (fun hon => fun hl2 => ⟨rfl, ?_, ?_⟩) (fun hon => ⟨?_, ?_⟩)⟩
  · have hl2 : (strsD us).length ≤ LIM := hl2
    show (0 ≤ (if 20 < (((strsD us).length : Nat) : Int) then 20 else (((strsD us).length : Nat) : Int))) ∧ ((if 20 < (((strsD us).length : Nat) : Int) then 20 else (((strsD us).length : Nat) : Int)) ≤ (((strsD us).length : Nat) : Int))
    split <;> omega
  · have hnn : (us.take (Int.toNat (if 20 < (((strsD us).length : Nat) : Int) then 20 else (((strsD us).length : Nat) : Int)))).length ≤ 1000 := by
      rw [List.length_take]
      split <;> omega
    have ee : ([.rf 0 0, .d (.sl ((strsD us).take (Int.toNat (if 20 < (((strsD us).length : Nat) : Int) then 20 else (((strsD us).length : Nat) : Int)))))] : List AV) = [.rf 0 0, .d (.sl (strsD (us.take (Int.toNat (if 20 < (((strsD us).length : Nat) : Int) then 20 else (((strsD us).length : Nat) : Int))))))] := by rw [str_take]
    refine ⟨l, _, ee, rfl, hC, fun l' hl' => ⟨rfl, L, _, ee, rfl, hL, hnn, rfl, l', x, rfl, rfl, hl'.ok, szc_lim hx, rfl, st2 (rl_forget hR hl') ?_⟩⟩
    generalize opsL ops = sl
    simp [S.le, sealAll, leL, leA, leO, jks, stP2, mkI, mkS, mkB, S.fits, fitsL, AV.fits, Ob.fits, fobC, opD, stzD, intD, strD, boolD, slD]
  · refine ⟨l, kind, ty, id, fr, to, sh, tok, rea, hh, ver, rem, its, rfl, rfl, hC, by omega, hfr, szc_lim hsh, fun e l' h1 => ⟨rfl, L, kind, ty, id, fr, to, sh, tok, rea, hh, ver, rem, its, rfl, rfl, hL, hfr, fun e' L' h2 => ⟨rfl, two h1 h2 fun h3 => ⟨l', x, rfl, rfl, h3.ok, szc_lim hx, rfl, st2 h3 ?_⟩⟩⟩⟩
    generalize opsL ops = sl
    simp [S.le, sealAll, leL, leA, leO, jks, stP2, mkI, mkS, mkB, S.fits, fitsL, AV.fits, Ob.fits, fobC, opD, stzD, intD, strD, boolD, slD]
  · refine ⟨l, kind, ty, id, fr, to, sh, tok, rea, hh, ver, rem, its, rfl, rfl, hC, by omega, hfr, szc_lim hsh, fun e l' h1 => ⟨rfl, L, kind, ty, id, fr, to, sh, tok, rea, hh, ver, rem, its, rfl, rfl, hL, hfr, fun e' L' h2 => ⟨rfl, two h1 h2 fun h3 => ⟨l', x, rfl, rfl, h3.ok, szc_lim hx, rfl, st2 h3 ?_⟩⟩⟩⟩
    generalize opsL ops = sl
    simp [S.le, sealAll, leL, leA, leO, jks, stP2, mkI, mkS, mkB, S.fits, fitsL, AV.fits, Ob.fits, fobC, opD, stzD, intD, strD, boolD, slD]
theorem hPl : ∀ as', TyArgs Tryd.prog Tryd.f6.params.toList as' → ∃ p, FPl as' = some (p, mkB true) ∧ p := by
  intro as' h
  rw [Tryd.params6] at h
  obtain ⟨a, b, rfl, ha, hb⟩ := tyargs2 h
  obtain ⟨l, rfl, hl, hf⟩ := arg_ops ha
  obtain ⟨s, rfl, hs⟩ := arg_str Tryd.underlying9 hb
  exact ⟨_, rfl, hs, l, rfl, hl, hf⟩
end Go.Proofs.YthbejheedpdioaaDoor
