import Derived.Test.YtoobhfbamikanaaDoorStaLive
set_option linter.unusedSimpArgs false
set_option linter.unusedVariables false
namespace Go.Proofs.YtoobhfbamikanaaDoor
open Go Go.AM Go.RowKit
theorem read_err (e : El) (h : (readM e).2 ≠ 0) : (readM e).1 = zS := by
  revert h
  unfold readM presM iqM simpleM
  repeat' split
  all_goals first
    | (intro h; rfl)
    | (intro h; exact absurd rfl h)
/-- The attributes that have a value, in the row of these keys. -/
def canon (keys : List BA) (ats : List At) : List At := keys.filterMap fun k => if valueM ats k = ⟨#[]⟩ then none else some (k, valueM ats k)
theorem canon_snoc (keys : List BA) (k : BA) (ats : List At) : canon (keys ++ [k]) ats = withL (canon keys ats) k (valueM ats k) := by
  unfold canon withL
  rw [List.filterMap_append]
  by_cases h : valueM ats k = ⟨#[]⟩ <;> simp [h]
theorem canon1 (a : BA) (ats : List At) : canon [a] ats = withL [] a (valueM ats a) := canon_snoc [] a ats
theorem canon2 (a b : BA) (ats : List At) : canon [a, b] ats = withL (withL [] a (valueM ats a)) b (valueM ats b) := by
  rw [← canon1]; exact canon_snoc [a] b ats
theorem canon3 (a b c : BA) (ats : List At) : canon [a, b, c] ats = withL (withL (withL [] a (valueM ats a)) b (valueM ats b)) c (valueM ats c) := by
  rw [← canon2]; exact canon_snoc [a, b] c ats
theorem canon4 (a b c d : BA) (ats : List At) : canon [a, b, c, d] ats = withL (withL (withL (withL [] a (valueM ats a)) b (valueM ats b)) c (valueM ats c)) d (valueM ats d) := by
  rw [← canon3]; exact canon_snoc [a, b, c] d ats
theorem value_mem {ats : List At} {k : BA} (h : valueM ats k ≠ ⟨#[]⟩) : (k, valueM ats k) ∈ ats := by
  unfold valueM at h ⊢
  cases hf : ats.find? fun a => decide (a.1 = k) with
  | none => rw [hf] at h; exact absurd rfl h
  | some x =>
    have hk : x.1 = k := by simpa using List.find?_some hf
    have := List.mem_of_find?_eq_some hf
    rw [← hk]
    exact this
theorem uniq_at {l : List At} (h : (l.map Prod.fst).Nodup) : ∀ x ∈ l, ∀ y ∈ l, x.1 = y.1 → x = y := by
  induction l with
  | nil => intro x hx; cases hx
  | cons a l ih =>
    simp only [List.map_cons, List.nodup_cons] at h
    intro x hx y hy e
    rcases List.mem_cons.1 hx with e1 | hx <;> rcases List.mem_cons.1 hy with e2 | hy
    · rw [e1, e2]
    · exact absurd (show a.1 ∈ l.map Prod.fst by rw [← e1, e]; exact List.mem_map_of_mem hy) h.1
    · exact absurd (show a.1 ∈ l.map Prod.fst by rw [← e2, ← e]; exact List.mem_map_of_mem hx) h.1
    · exact ih h.2 x hx y hy e
theorem value_of_mem {ats : List At} (hn : (ats.map Prod.fst).Nodup) {a : At} (h : a ∈ ats) : valueM ats a.1 = a.2 := by
  unfold valueM
  cases hf : ats.find? fun x => decide (x.1 = a.1) with
  | none =>
    rw [List.find?_eq_none] at hf
    exact absurd (decide_eq_true rfl) (hf a h)
  | some x =>
    have hk : x.1 = a.1 := by simpa using List.find?_some hf
    rw [uniq_at hn x (List.mem_of_find?_eq_some hf) a h hk]; rfl
structure FitsP (must may : Tst) (ats : List At) : Prop where
  ok : ∀ a ∈ ats, atOk must may a = true
  nd : (ats.map Prod.fst).Nodup
  must : ats.countP (inM must) = must.length
theorem fits_iff {must may : Tst} {ats : List At} : fitsM must may ats = true ↔ FitsP must may ats := by
  unfold fitsM
  simp only [Bool.and_eq_true, List.all_eq_true, decide_eq_true_eq, beq_iff_eq]
  exact ⟨fun h => ⟨h.1.1, h.1.2, h.2⟩, fun h => ⟨⟨h.ok, h.nd⟩, h.must⟩⟩
/-- No test is passed by the empty text, and the keys are these. -/
structure KeysOf (must may : Tst) (keys : List BA) : Prop where
  nd : keys.Nodup
  mem : ∀ a : At, atOk must may a = true → a.1 ∈ keys ∧ a.2 ≠ ⟨#[]⟩
theorem canon_perm {must may : Tst} {ats : List At} {keys : List BA} (hf : FitsP must may ats) (hk : KeysOf must may keys) : ats.Perm (canon keys ats) := by
  have n1 : ats.Nodup := by
    have := hf.nd
    unfold List.Nodup at this ⊢
    rw [List.pairwise_map] at this
    exact this.imp fun h e => h (by rw [e])
  have n2 : (canon keys ats).Nodup := by
    unfold canon List.Nodup
    rw [List.pairwise_filterMap]
    refine List.Pairwise.imp ?_ hk.nd
    intro a b hab x hx y hy e
    split at hx <;> cases hx
    split at hy <;> cases hy
    exact hab (congrArg Prod.fst e)
  refine (List.perm_ext_iff_of_nodup n1 n2).2 fun a => ⟨fun h => ?_, fun h => ?_⟩
  · obtain ⟨h1, h2⟩ := hk.mem a (hf.ok a h)
    have hv := value_of_mem hf.nd h
    unfold canon
    rw [List.mem_filterMap]
    exact ⟨a.1, h1, by rw [hv, if_neg h2]⟩
  · unfold canon at h
    rw [List.mem_filterMap] at h
    obtain ⟨k, _, h⟩ := h
    split at h <;> cases h
    rename_i hv
    exact value_mem hv
/-- The values that a fitting element has pass their tests. -/
theorem value_test {must may : Tst} {ats : List At} (hf : FitsP must may ats) {k : BA} (h : valueM ats k ≠ ⟨#[]⟩) : atOk must may (k, valueM ats k) = true := hf.ok _ (value_mem h)
theorem lkT_mem {k : BA} {p : BA → Bool} : ∀ {l : Tst}, lkT k l = some p → (k, p) ∈ l
  | [], h => by cases h
  | (x, r) :: l, h => by
    simp only [lkT] at h
    split at h
    · rename_i e; subst e; cases h; simp
    · exact List.mem_cons_of_mem _ (lkT_mem h)
theorem atOk_mem {must may : Tst} {a : At} (h : atOk must may a = true) : ∃ p, (a.1, p) ∈ must ++ may ∧ p a.2 = true := by
  unfold atOk at h
  split at h
  · rename_i p hp; exact ⟨p, List.mem_append_left _ (lkT_mem hp), h⟩
  · split at h
    · rename_i p hp; exact ⟨p, List.mem_append_right _ (lkT_mem hp), h⟩
    · cases h
theorem keys_of {must may : Tst} (h1 : ((must ++ may).map Prod.fst).Nodup) (h2 : ∀ x ∈ must ++ may, x.2 ⟨#[]⟩ = false) : KeysOf must may ((must ++ may).map Prod.fst) :=
  ⟨h1, fun a h => by
    obtain ⟨p, h3, h4⟩ := atOk_mem h
    refine ⟨List.mem_map.2 ⟨_, h3, rfl⟩, fun e => ?_⟩
    have h5 : p ⟨#[]⟩ = false := h2 _ h3
    rw [e, h5] at h4; cases h4⟩
theorem dec_ne (n : Nat) : decS n ≠ ⟨#[]⟩ := fun h => by
  have e : (Lib.decDigits n) = [] := by
    have := congrArg (fun b : ByteArray => b.data.toList) h
    simpa [decS] using this
  rw [Lib.decDigits] at e
  split at e <;> simp at e
theorem readN_nil : readN ⟨#[]⟩ = none := by
  have h : readGo (⟨#[]⟩ : BA).data.toList 0 = some 0 := rfl
  unfold readN
  rw [h]
  show (if decS 0 = ⟨#[]⟩ then some 0 else none) = none
  rw [if_neg (dec_ne 0)]
theorem num_nil : numB ⟨#[]⟩ = false := by unfold numB; rw [readN_nil]
theorem cnt_nil : cntB ⟨#[]⟩ = false := by unfold cntB; rw [readN_nil]; rfl
theorem numOf_nil : numOf ⟨#[]⟩ = 0 := by unfold numOf; rw [readN_nil]; rfl
theorem readN_dec {s : BA} {n : Nat} (h : readN s = some n) : decS n = s := by
  unfold readN at h
  split at h
  · split at h
    · rename_i e; cases h; exact e
    · cases h
  · cases h
theorem keys_pres : KeysOf [] shPres [kType, kFrom, kTo] := keys_of (must := []) (may := shPres) (by decide) (fun x hx => by
  simp only [shPres, List.nil_append, List.mem_cons, List.not_mem_nil, or_false] at hx
  rcases hx with rfl | rfl | rfl <;> decide)
theorem keys_id : KeysOf shId [] [kId] := keys_of (must := shId) (may := []) (by decide) (fun x hx => by
  simp only [shId, List.append_nil, List.mem_cons, List.not_mem_nil, or_false] at hx
  subst hx; decide)
theorem keys_h : KeysOf shH [] [kH] := keys_of (must := shH) (may := []) (by decide) (fun x hx => by
  simp only [shH, List.append_nil, List.mem_cons, List.not_mem_nil, or_false] at hx
  subst hx; exact cnt_nil)
theorem keys_both : KeysOf shBoth [] [kH, kPrev] := keys_of (must := shBoth) (may := []) (by decide) (fun x hx => by
  simp only [shBoth, List.append_nil, List.mem_cons, List.not_mem_nil, or_false] at hx
  rcases hx with rfl | rfl
  · exact cnt_nil
  · decide)
theorem keys_iq : KeysOf [(kType, wordB), (kId, wordB)] [] [kType, kId] := keys_of (must := [(kType, wordB), (kId, wordB)]) (may := []) (by decide) (fun x hx => by
  simp only [List.append_nil, List.mem_cons, List.not_mem_nil, or_false] at hx
  rcases hx with rfl | rfl <;> decide)
theorem keys_query : KeysOf [] [(kVer, numB)] [kVer] := keys_of (must := []) (may := [(kVer, numB)]) (by decide) (fun x hx => by
  simp only [List.nil_append, List.mem_cons, List.not_mem_nil, or_false] at hx
  subst hx; exact num_nil)
theorem keys_item (b : Bool) : KeysOf [(kJid, userB)] (shItem b) [kJid, kName, kSub, kAsk] := keys_of (must := [(kJid, userB)]) (may := shItem b) (by cases b <;> decide) (fun x hx => by
  simp only [shItem, List.cons_append, List.nil_append, List.mem_cons, List.not_mem_nil, or_false] at hx
  rcases hx with rfl | rfl | rfl | rfl
  · decide
  · decide
  · cases b <;> decide
  · decide)
/-- An element told with its attributes in the keys' order asks the same. -/
theorem read_canon {n t : BA} {l : List At} {k : List El} {must may : Tst} {keys : List BA} (hf : FitsP must may l) (hk : KeysOf must may keys) : readM (.mk n (canon keys l) t k) = readM (.mk n l t k) := (read_perm (canon_perm hf hk) hf.nd).symm
theorem empty_of {l : List At} (hf : FitsP [] [] l) : l = [] := by
  cases l with
  | nil => rfl
  | cons a l => exact absurd (hf.ok a (by simp)) (by simp [atOk, lkT])
theorem isEmpty_nil {α : Type} {l : List α} (h : l.isEmpty = true) : l = [] := by cases l with | nil => rfl | cons a l => cases h
theorem must_len {must : Tst} {l : List At} (hf : FitsP must [] l) : l.length = must.length := by
  have hall : l.countP (inM must) = l.length := by
    rw [List.countP_eq_length]
    intro a ha
    have h := hf.ok a ha
    unfold atOk at h
    unfold inM
    cases hh : lkT a.1 must with
    | none => rw [hh] at h; simp [lkT] at h
    | some p => rfl
  rw [← hall]; exact hf.must
/-- What must stand stands, where only it may. -/
theorem must1 {k : BA} {p : BA → Bool} {l : List At} (hf : FitsP [(k, p)] [] l) : ∃ v, l = [(k, v)] ∧ p v = true := by
  have hl := must_len hf
  match l, hl with
  | [(x, v)], _ =>
    obtain ⟨q, h1, h2⟩ := atOk_mem (hf.ok (x, v) (by simp))
    simp only [List.append_nil, List.mem_singleton, Prod.mk.injEq] at h1
    obtain ⟨rfl, rfl⟩ := h1
    exact ⟨v, rfl, h2⟩
theorem must2 {k m : BA} {p r : BA → Bool} {l : List At} (hf : FitsP [(k, p), (m, r)] [] l) : ∃ a b, p a = true ∧ r b = true ∧ (l = [(k, a), (m, b)] ∨ l = [(m, b), (k, a)]) := by
  have hl := must_len hf
  match l, hl with
  | [(x, v), (y, u)], _ =>
    obtain ⟨q, h1, h2⟩ := atOk_mem (hf.ok (x, v) (by simp))
    obtain ⟨q2, h3, h4⟩ := atOk_mem (hf.ok (y, u) (by simp))
    have hn := hf.nd
    simp only [List.map_cons, List.map_nil, List.nodup_cons, List.mem_singleton] at hn
    have hxy : x ≠ y := hn.1
    simp only [List.append_nil, List.mem_cons, List.not_mem_nil, or_false, Prod.mk.injEq] at h1 h3
    rcases h1 with ⟨e1, e2⟩ | ⟨e1, e2⟩ <;> rcases h3 with ⟨e3, e4⟩ | ⟨e3, e4⟩
    · exact absurd (e1.trans e3.symm) hxy
    · subst e1 e2 e3 e4; exact ⟨v, u, h2, h4, .inl rfl⟩
    · subst e1 e2 e3 e4; exact ⟨u, v, h4, h2, .inr rfl⟩
    · exact absurd (e1.trans e3.symm) hxy
theorem cnt_num {s : BA} (h : cntB s = true) : ∃ n : Nat, readN s = some n ∧ numOf s = n ∧ decS (numOf s).toNat = s := by
  unfold cntB at h
  obtain ⟨n, hn⟩ := Option.isSome_iff_exists.1 h
  have e : numOf s = n := by unfold numOf; rw [hn]; rfl
  exact ⟨n, hn, e, by rw [e]; exact readN_dec hn⟩
theorem simple_back {n t : BA} {l : List At} {k : List El} {s : Sz} {kd : Int} {must : Tst} (hp : plainsM n = some (kd, must)) (h : simpleM kd must (.mk n l t k) = (s, 0)) : (1 ≤ s.kind ∧ s.kind ≤ 14) ∧ ∃ l', drawnM s = .mk n l' t k ∧ l.Perm l' ∧ (l.map Prod.fst).Nodup := by
  unfold simpleM at h
  split at h
  · rename_i hc
    simp only [El.ats_mk, El.t_mk, El.ks_mk, Bool.and_eq_true, decide_eq_true_eq] at hc
    obtain ⟨⟨hf, ht⟩, hk⟩ := hc
    have ht := of_decide_eq_true ht
    subst ht
    have hk := isEmpty_nil hk
    subst hk
    have hf := fits_iff.1 hf
    have hn := hf.nd
    simp only [El.ats_mk, Prod.mk.injEq, and_true] at h
    subst h
    unfold plainsM at hp
    repeat' split at hp
    all_goals first | (cases hp; done) | skip
    all_goals
      rename_i hname
      try subst hname
      cases hp
      refine ⟨⟨by simp, by simp⟩, ?_⟩
    · have := empty_of hf; subst this; exact ⟨[], rfl, .refl _, hn⟩
    · have := empty_of hf; subst this; exact ⟨[], rfl, .refl _, hn⟩
    · have := empty_of hf; subst this; exact ⟨[], rfl, .refl _, hn⟩
    · have := empty_of hf; subst this; exact ⟨[], rfl, .refl _, hn⟩
    · have := empty_of hf; subst this; exact ⟨[], rfl, .refl _, hn⟩
    · exact ⟨canon [kId] l, by rw [canon1]; rfl, canon_perm hf keys_id, hn⟩
    · refine ⟨canon [kH] l, ?_, canon_perm hf keys_h, hn⟩
      obtain ⟨v, rfl, hv⟩ := must1 hf
      have e : valueM [(kH, v)] kH = v := value_of_mem hn (by simp : (kH, v) ∈ _)
      rw [canon1]
      unfold drawnM
      simp only [e, (cnt_num hv).choose_spec.2.2]
    all_goals
      refine ⟨canon [kH, kPrev] l, ?_, canon_perm hf keys_both, hn⟩
      obtain ⟨a, b, ha, hb, hl⟩ := must2 hf
      have e : valueM l kH = a := value_of_mem (a := (kH, a)) hn (by rcases hl with rfl | rfl <;> simp)
      rw [canon2]
      unfold drawnM
      simp only [e, (cnt_num ha).choose_spec.2.2]
      rfl
  · cases h
theorem pres_back {n t : BA} {l : List At} {k : List El} {s : Sz} (h : presM (.mk n l t k) = (s, 0)) : s.kind = 1 ∧ ∃ l', drawnM s = .mk sPresence l' t k ∧ l.Perm l' ∧ (l.map Prod.fst).Nodup := by
  unfold presM at h
  split at h
  · rename_i hc
    simp only [El.ats_mk, El.t_mk, El.ks_mk, Bool.and_eq_true] at hc h
    obtain ⟨hf, ht⟩ := hc
    have ht := of_decide_eq_true ht
    subst ht
    have hf := fits_iff.1 hf
    have hp := canon_perm hf keys_pres
    rw [canon3] at hp
    split at h
    · cases h
      exact ⟨rfl, _, rfl, hp, hf.nd⟩
    · rename_i e
      split at h
      · rename_i hc
        cases h
        obtain ⟨⟨⟨⟨h1, h2⟩, h3⟩, h4⟩, h5⟩ := hc
        obtain ⟨en, ea, et, ek⟩ := e
        simp only [El.n_mk, El.t_mk, El.ats_mk, El.ks_mk] at h2 h3 h4 h5
        have h2 := of_decide_eq_true h2
        have h4 := isEmpty_nil h4
        have h5 := isEmpty_nil h5
        subst h2 h4 h5
        refine ⟨rfl, _, ?_, hp, hf.nd⟩
        have e : kidsP et = [.mk sShow [] et []] := if_neg fun e => by rw [e] at h3; revert h3; decide
        show El.mk sPresence _ _ (kidsP et) = _
        rw [e]
      · cases h
    · cases h
  · cases h
theorem kind_word {v : BA} {kd : Int} (h : kindM v = some kd) : (kd = 2 ∧ v = sGet) ∨ (kd = 3 ∧ v = sSet) ∨ (kd = 4 ∧ v = sResult) ∨ (kd = 5 ∧ v = sError) := by
  unfold kindM at h
  repeat' split at h
  all_goals first
    | (cases h; done)
    | (cases h; rename_i e; simp [e])
theorem itemM_eq (b : Bool) (n : BA) (l : List At) (t : BA) (k : List El) : itemM b (.mk n l t k) = if decide (n = sItem) && fitsM [(kJid, userB)] (shItem b) l && decide (t = ⟨#[]⟩) && k.isEmpty then some (⟨valueM l kJid, valueM l kName, subM (valueM l kSub), !decide (valueM l kAsk = ⟨#[]⟩)⟩, decide (valueM l kSub = sRemove)) else none := rfl
/-- One item, told by what it asks, asks the same. -/
theorem sub_text {b : Bool} {v : BA} (h : v = ⟨#[]⟩ ∨ statesB b v = true) : subW (subM v) (decide (v = sRemove)) = v := by
  have hv : v = ⟨#[]⟩ ∨ v = kTo ∨ v = kFrom ∨ v = sBoth ∨ v = sRemove := by
    rcases h with h | h
    · exact .inl h
    · cases b with
      | true =>
        have : v ∈ [kTo, kFrom, sBoth, sRemove] := by
          simp only [statesB, oneB, if_true] at h
          exact (memB_iff _ _).1 h
        simp only [List.mem_cons, List.not_mem_nil, or_false] at this
        exact .inr this
      | false =>
        have : v ∈ [kTo, kFrom, sBoth] := by
          simp only [statesB, oneB, Bool.false_eq_true, if_false] at h
          exact (memB_iff _ _).1 h
        simp only [List.mem_cons, List.not_mem_nil, or_false] at this
        rcases this with h | h | h <;> simp [h]
  rcases hv with rfl | rfl | rfl | rfl | rfl <;> decide +kernel
theorem item_perm {b : Bool} {n t : BA} {l l' : List At} {k : List El} (h : l.Perm l') (hn : (l.map Prod.fst).Nodup) : itemM b (.mk n l t k) = itemM b (.mk n l' t k) := by
  have v := value_perm h hn
  have f := fun must may => fits_perm h must may
  unfold itemM
  simp only [El.n_mk, El.ats_mk, El.t_mk, El.ks_mk, v, f]
  rfl
theorem item_back {b : Bool} {e : El} {x : It} {r : Bool} (h : itemM b e = some (x, r)) : itemM b (itemE r x) = some (x, r) ∧ (b = false → r = false) := by
  obtain ⟨n, l, t, k⟩ := e
  have h0 := h
  rw [itemM_eq] at h
  split at h
  · rename_i hc
    simp only [Bool.and_eq_true] at hc
    obtain ⟨⟨⟨g1, hf⟩, g2⟩, g3⟩ := hc
    obtain rfl := of_decide_eq_true g1
    obtain rfl := of_decide_eq_true g2
    obtain rfl := isEmpty_nil g3
    have hf := fits_iff.1 hf
    have hp := canon_perm hf (keys_item b)
    rw [canon4] at hp
    cases h
    have hsub : valueM l kSub = ⟨#[]⟩ ∨ statesB b (valueM l kSub) = true := by
      by_cases hv : valueM l kSub = ⟨#[]⟩
      · exact .inl hv
      · exact .inr (value_test hf hv)
    have hask : valueM l kAsk = ⟨#[]⟩ ∨ valueM l kAsk = sSubscribe := by
      by_cases hv : valueM l kAsk = ⟨#[]⟩
      · exact .inl hv
      · have : oneB [sSubscribe] (valueM l kAsk) = true := value_test hf hv
        unfold oneB at this
        have := (memB_iff _ _).1 this
        exact .inr (by simpa using this)
    have e : itemE (decide (valueM l kSub = sRemove)) ⟨valueM l kJid, valueM l kName, subM (valueM l kSub), !decide (valueM l kAsk = ⟨#[]⟩)⟩ = .mk sItem (withL (withL (withL (withL [] kJid (valueM l kJid)) kName (valueM l kName)) kSub (valueM l kSub)) kAsk (valueM l kAsk)) ⟨#[]⟩ [] := by
      rw [itemE_mk]
      simp only [sub_text hsub]
      rcases hask with ha | ha
      · rw [ha]; simp [withL]
      · rw [ha]; rw [if_pos (by decide)]
    refine ⟨?_, fun hb => ?_⟩
    · rw [e, ← item_perm hp hf.nd]
      exact h0
    · subst hb
      rcases hsub with hv | hv
      · rw [hv]; decide
      · refine decide_eq_false fun e => ?_
        rw [e] at hv
        revert hv; decide
  · cases h
theorem items_len : ∀ {b : Bool} {ks : List El} {xs : List It} {r : Bool}, itemsGo b ks = some (xs, r) → xs.length = ks.length
  | b, [], xs, r, h => by cases h; rfl
  | b, k :: l, xs, r, h => by
    simp only [itemsGo] at h
    split at h
    · split at h
      · rename_i h2; cases h; simp [items_len h2]
      · cases h
    · cases h
theorem items_false : ∀ {ks : List El} {xs : List It} {r : Bool}, itemsGo false ks = some (xs, r) → r = false ∧ itemsGo false (xs.map (itemE false)) = some (xs, false)
  | [], xs, r, h => by cases h; exact ⟨rfl, rfl⟩
  | k :: l, xs, r, h => by
    simp only [itemsGo] at h
    split at h
    · rename_i x r1 h1
      split at h
      · rename_i ys r2 h2
        cases h
        obtain ⟨e1, e2⟩ := items_false h2
        obtain ⟨e3, e4⟩ := item_back h1
        have e4 := e4 rfl
        subst e1 e4
        refine ⟨rfl, ?_⟩
        simp only [List.map_cons, itemsGo, e3, e2, Bool.or_self]
      · cases h
    · cases h
theorem items_one : ∀ {ks : List El} {xs : List It} {r : Bool}, itemsGo true ks = some (xs, r) → xs.length = 1 → itemsGo true (xs.map (itemE r)) = some (xs, r)
  | [], xs, r, h, hl => by cases h; cases hl
  | k :: l, xs, r, h, hl => by
    simp only [itemsGo] at h
    split at h
    · rename_i x r1 h1
      split at h
      · rename_i ys r2 h2
        cases h
        have : ys = [] := by cases ys with | nil => rfl | cons a b => simp at hl
        subst this
        have hz := items_len h2
        have : l = [] := by cases l with | nil => rfl | cons a b => simp at hz
        subst this
        cases h2
        obtain ⟨e3, _⟩ := item_back h1
        simp only [Bool.or_false, List.map_cons, List.map_nil, itemsGo, e3]
      · cases h
    · cases h
theorem asked_back {kd : Int} {id : BA} {q : El} {s : Sz} (hk : kd = 2 ∨ kd = 3 ∨ kd = 4) (h : askedM kd id q = some s) : s.kind = kd ∧ s.id = id ∧ (kd = 4 → s.ver > 0) ∧ askedM kd id (.mk sQuery (listedA s) ⟨#[]⟩ (listedK s)) = some s := by
  obtain ⟨n, l, t, k⟩ := q
  have h0 := h
  rw [askedM_eq] at h
  split at h
  · rename_i hc
    simp only [Bool.and_eq_true] at hc
    obtain ⟨⟨⟨g1, hf⟩, g2⟩, h3⟩ := hc
    obtain rfl := of_decide_eq_true g1
    obtain rfl := of_decide_eq_true g2
    have hf := fits_iff.1 hf
    have hp := canon_perm hf keys_query
    rw [canon1] at hp
    split at h
    · rename_i xs r hI
      by_cases hcond : (if kd = 2 then xs.length == 0 else if kd = 3 then xs.length == 1 else decide (0 < numOf (valueM l kVer))) = true
      · rw [if_pos hcond] at h
        cases h
        have hlen := items_len hI
        have hb : itemsGo (kd == 3) (xs.map (itemE r)) = some (xs, r) := by
          rcases hk with rfl | rfl | rfl
          · obtain ⟨e1, e2⟩ := items_false hI
            subst e1; exact e2
          · exact items_one hI (by simpa using hcond)
          · obtain ⟨e1, e2⟩ := items_false hI
            subst e1; exact e2
        have hA : listedA { kind := kd, id := id, ver := numOf (valueM l kVer), its := xs, rem := r } = withL [] kVer (valueM l kVer) := by
          by_cases hv : valueM l kVer = ⟨#[]⟩
          · unfold listedA
            rw [hv, numOf_nil]; rfl
          · have ht : numB (valueM l kVer) = true := value_test hf hv
            unfold numB at ht
            split at ht
            · rename_i m hm
              simp only [Bool.and_eq_true, decide_eq_true_eq] at ht
              have e : numOf (valueM l kVer) = m := by unfold numOf; rw [hm]; rfl
              unfold listedA
              simp only [e]
              rw [if_pos (by omega), IntWalk.u32_in _ (by omega), Int.toNat_natCast, readN_dec hm]
            · cases ht
        refine ⟨rfl, rfl, fun h4 => ?_, ?_⟩
        · subst h4; simpa using hcond
        · rw [hA]
          have v := value_perm hp hf.nd
          have f := fun must may => fits_perm hp must may
          have f1 : fitsM [] [(kVer, numB)] (withL [] kVer (valueM l kVer)) = true := by rw [← f]; exact fits_iff.2 hf
          rw [askedM_eq]
          simp only [← v, f1, listedK, hb, List.length_map, hlen, h3, decide_true, Bool.and_self, if_true]
          exact if_pos (by rw [hlen] at hcond; exact hcond)
      · rw [if_neg hcond] at h
        cases h
    · cases h
  · cases h
theorem drawn_get (s : Sz) (h : s.kind = 2) : drawnM s = .mk sIq (withL (withL [] kType sGet) kId s.id) ⟨#[]⟩ [.mk sQuery (listedA s) ⟨#[]⟩ (listedK s)] := by
  obtain ⟨a, b, c, d, e, f, g, i, j, k, l, m⟩ := s
  have h : a = 2 := h
  subst h; rfl
theorem drawn_set (s : Sz) (h : s.kind = 3) : drawnM s = .mk sIq (withL (withL [] kType sSet) kId s.id) ⟨#[]⟩ [.mk sQuery (listedA s) ⟨#[]⟩ (listedK s)] := by
  obtain ⟨a, b, c, d, e, f, g, i, j, k, l, m⟩ := s
  have h : a = 3 := h
  subst h; rfl
theorem drawn_res (s : Sz) (h : s.kind = 4) (hv : s.ver > 0) : drawnM s = .mk sIq (withL (withL [] kType sResult) kId s.id) ⟨#[]⟩ [.mk sQuery (listedA s) ⟨#[]⟩ (listedK s)] := by
  obtain ⟨a, b, c, d, e, f, g, i, j, k, l, m⟩ := s
  have h : a = 4 := h
  subst h
  have hv : k > 0 := hv
  show El.mk sIq _ _ (if k > 0 then _ else _) = _
  rw [if_pos hv]
theorem read_iq (l : List At) (t : BA) (k : List El) : readM (.mk sIq l t k) = iqM (.mk sIq l t k) := rfl
theorem iq_name (n : BA) (l : List At) (t : BA) (k : List El) : iqM (.mk sIq l t k) = iqM (.mk n l t k) := rfl
theorem iq_back {n t : BA} {l : List At} {k : List El} {s : Sz} (h : iqM (.mk n l t k) = (s, 0)) : (1 ≤ s.kind ∧ s.kind ≤ 14) ∧ readM (drawnM s) = (s, 0) := by
  cases hkd : kindM (valueM l kType) with
  | none =>
    have : iqM (.mk n l t k) = (zS, 6) := by
      unfold iqM; simp only [El.ats_mk, hkd]
    rw [this] at h; cases h
  | some kd =>
    have h0 := h
    have hw := kind_word hkd
    rw [iqM_eq n l t k kd hkd] at h
    split at h
    · rename_i hc
      simp only [Bool.and_eq_true] at hc
      obtain ⟨hf, g2⟩ := hc
      obtain rfl := of_decide_eq_true g2
      have hf := fits_iff.1 hf
      have back : ∀ k', readM (.mk sIq (withL (withL [] kType (valueM l kType)) kId (valueM l kId)) ⟨#[]⟩ k') = iqM (.mk n l ⟨#[]⟩ k') := fun k' => by
        rw [← canon2, read_canon hf keys_iq, read_iq, iq_name n]
      split at h
      · split at h
        · rename_i h4
          cases h
          have e : valueM l kType = sResult := by rcases hw with ⟨a, b⟩ | ⟨a, b⟩ | ⟨a, b⟩ | ⟨a, b⟩ <;> first | exact b | omega
          subst h4
          refine ⟨⟨by simp, by simp⟩, ?_⟩
          have := back []
          rw [e, h0] at this
          exact this
        · cases h
      · rename_i e
        split at h
        · rename_i h5
          split at h
          · rename_i hc
            cases h
            simp only [Bool.and_eq_true] at hc
            obtain ⟨⟨⟨g1, g3⟩, g4⟩, g5⟩ := hc
            obtain ⟨en, ea, et, ek⟩ := e
            obtain rfl : en = sError := of_decide_eq_true g1
            obtain rfl : ea = [] := isEmpty_nil g4
            obtain rfl : ek = [] := isEmpty_nil g5
            have e : valueM l kType = sError := by rcases hw with ⟨a, b⟩ | ⟨a, b⟩ | ⟨a, b⟩ | ⟨a, b⟩ <;> first | exact b | omega
            subst h5
            refine ⟨⟨by simp, by simp⟩, ?_⟩
            have := back [.mk sError [] et []]
            rw [e, h0] at this
            exact this
          · cases h
        · rename_i h5
          split at h
          · rename_i s' hs
            cases h
            have hk3 : kd = 2 ∨ kd = 3 ∨ kd = 4 := by rcases hw with ⟨a, _⟩ | ⟨a, _⟩ | ⟨a, _⟩ | ⟨a, _⟩ <;> simp [a] at h5 ⊢
            obtain ⟨e1, e2, e3, e4⟩ := asked_back hk3 hs
            have fin : readM (.mk sIq (withL (withL [] kType (valueM l kType)) kId (valueM l kId)) ⟨#[]⟩ [.mk sQuery (listedA s) ⟨#[]⟩ (listedK s)]) = (s, 0) := by
              rw [back, iqM_eq n l ⟨#[]⟩ _ kd hkd]
              simp only [fits_iff.2 hf, decide_true, Bool.and_self, if_true, if_neg h5, e4]
            rw [← e2] at fin
            refine ⟨by omega, ?_⟩
            rcases hw with ⟨a, b⟩ | ⟨a, b⟩ | ⟨a, b⟩ | ⟨a, b⟩
            · rw [drawn_get s (e1.trans a), ← b]; exact fin
            · rw [drawn_set s (e1.trans a), ← b]; exact fin
            · rw [drawn_res s (e1.trans a) (e3 a), ← b]; exact fin
            · exact absurd a h5
          · cases h
      · cases h
    · cases h
/-- What is read is what its own element asks. -/
theorem read_back {e : El} {s : Sz} (h : readM e = (s, 0)) : (1 ≤ s.kind ∧ s.kind ≤ 14) ∧ readM (drawnM s) = (s, 0) := by
  obtain ⟨n, l, t, k⟩ := e
  have h0 := h
  unfold readM at h
  rw [El.n_mk] at h
  by_cases hn : n = sPresence
  · rw [if_pos hn] at h
    obtain ⟨h1, l', h2, h3, h4⟩ := pres_back h
    refine ⟨by omega, ?_⟩
    rw [h2, ← hn, ← read_perm h3 h4]; exact h0
  · rw [if_neg hn] at h
    by_cases hq : n = sIq
    · rw [if_pos hq] at h
      exact iq_back h
    · rw [if_neg hq] at h
      split at h
      · rename_i kd must hp
        obtain ⟨h1, l', h2, h3, h4⟩ := simple_back hp h
        exact ⟨h1, by rw [h2, ← read_perm h3 h4]; exact h0⟩
      · cases h
theorem write_back {e : El} {s : Sz} (h : readM e = (s, 0)) : writeM s = (drawnM s, 0) := by
  obtain ⟨h1, h2⟩ := read_back h
  unfold writeM
  rw [h2]
  exact if_pos ⟨h1.1, h1.2, rfl, rfl⟩
end Go.Proofs.YtoobhfbamikanaaDoor
