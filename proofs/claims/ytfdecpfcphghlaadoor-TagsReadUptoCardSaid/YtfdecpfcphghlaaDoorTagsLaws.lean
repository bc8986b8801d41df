import Derived.Test.YtfdecpfcphghlaaDoorTagsPlain
set_option linter.unusedSimpArgs false
set_option linter.unusedVariables false
namespace Go.Proofs.YtfdecpfcphghlaaDoor
open Go Go.AM Go.RowKit

-- plain laws under TagsRead: runs of signs
section
variable {p : UInt8 → Bool}
theorem tw_le (l : List UInt8) : (l.takeWhile p).length ≤ l.length := (List.takeWhile_sublist p).length_le
theorem tw_lt : ∀ {l : List UInt8} {j : Nat}, j < (l.takeWhile p).length → p (l.getD j 0) = true
  | [], j, h => absurd h (by simp)
  | x :: l, j, h => by
    by_cases hx : p x = true
    · rw [List.takeWhile_cons_of_pos hx] at h
      cases j with
      | zero => exact hx
      | succ j => exact tw_lt (l := l) (by simpa using h)
    · rw [List.takeWhile_cons_of_neg hx] at h
      exact absurd h (by simp)
theorem tw_end : ∀ {l : List UInt8}, (l.takeWhile p).length < l.length → p (l.getD (l.takeWhile p).length 0) = false
  | [], h => absurd h (by simp)
  | x :: l, h => by
    by_cases hx : p x = true
    · rw [List.takeWhile_cons_of_pos hx] at h ⊢
      exact tw_end (l := l) (by simpa using h)
    · rw [List.takeWhile_cons_of_neg hx]
      simpa using hx
theorem tw_len : ∀ {l : List UInt8} {n : Nat}, n ≤ l.length → (∀ j, j < n → p (l.getD j 0) = true) → (n < l.length → p (l.getD n 0) = false) → (l.takeWhile p).length = n
  | [], n, h, _, _ => by simp at h; subst h; rfl
  | x :: l, 0, _, _, h2 => by
    have : p x = false := h2 (by simp)
    rw [List.takeWhile_cons_of_neg (by rw [this]; simp)]; rfl
  | x :: l, n + 1, h, h1, h2 => by
    have hx : p x = true := h1 0 (by omega)
    rw [List.takeWhile_cons_of_pos hx, List.length_cons, tw_len (l := l) (n := n) (by simpa using h) (fun j hj => h1 (j + 1) (by omega)) (fun h' => h2 (by simpa using h'))]
theorem tw_drop : ∀ (l : List UInt8), l.dropWhile p = l.drop (l.takeWhile p).length
  | [] => rfl
  | x :: l => by
    by_cases hx : p x = true
    · rw [List.takeWhile_cons_of_pos hx, List.dropWhile_cons_of_pos hx, List.length_cons, List.drop_succ_cons, tw_drop l]
    · rw [List.takeWhile_cons_of_neg hx, List.dropWhile_cons_of_neg hx]; rfl
end
theorem dl (s : ByteArray) : s.data.toList.length = s.size := Array.length_toList
theorem ba_ext {a b : ByteArray} (h : a.data.toList = b.data.toList) : a = b := by
  obtain ⟨⟨a⟩⟩ := a; obtain ⟨⟨b⟩⟩ := b
  exact congrArg (fun l => (⟨⟨l⟩⟩ : ByteArray)) h
theorem ext_list (s : ByteArray) (a b : Nat) : (s.extract a b).data.toList = (s.data.toList.take b).drop a := by
  rw [ByteArray.data_extract, Array.toList_extract, List.extract_eq_take_drop, List.take_drop]
  rcases Nat.le_total a b with h | h
  · rw [Nat.add_sub_cancel' h]
  · rw [Nat.sub_eq_zero_of_le h, Nat.add_zero, List.drop_eq_nil_of_le (by rw [List.length_take]; omega), List.drop_eq_nil_of_le (by rw [List.length_take]; omega)]
theorem ext_end (s : ByteArray) (a : Nat) : (s.extract a s.size).data.toList = s.data.toList.drop a := by
  rw [ext_list, List.take_of_length_le (by rw [dl]; exact Nat.le_refl _)]
theorem getD_drop (l : List UInt8) (k j : Nat) : (l.drop k).getD j 0 = l.getD (k + j) 0 := by
  simp [List.getD_eq_getElem?_getD, List.getElem?_drop]
theorem getD_take {l : List UInt8} {k j : Nat} (h : j < k) : (l.take k).getD j 0 = l.getD j 0 := by
  simp [List.getD_eq_getElem?_getD, List.getElem?_take, h]
/-- The first place of a byte. -/
def fstN (c : UInt8) (l : List UInt8) : Nat := (l.takeWhile (· != c)).length
theorem indexByte_fst (c : UInt8) : ∀ l : List UInt8, Lib.indexByte l c = if fstN c l < l.length then (fstN c l : Int) else -1
  | [] => rfl
  | x :: l => by
    have ih := indexByte_fst c l
    have hle : fstN c l ≤ l.length := tw_le l
    unfold Lib.indexByte
    by_cases hx : x = c
    · subst hx
      have : fstN x (x :: l) = 0 := by unfold fstN; rw [List.takeWhile_cons_of_neg (by simp)]; rfl
      simp [this]
    · have e : fstN c (x :: l) = fstN c l + 1 := by unfold fstN; rw [List.takeWhile_cons_of_pos (by simpa using hx)]; rfl
      have hx' : (x == c) = false := by simpa using hx
      rw [hx', e, ih]
      simp only [List.length_cons, Bool.false_eq_true, if_false]
      by_cases h : fstN c l < l.length
      · have b : ((fstN c l : Int) == -1) = false := beq_eq_false_iff_ne.2 (by omega)
        have h' : fstN c l + 1 < l.length + 1 := by omega
        simp only [if_pos h, b, Bool.false_eq_true, if_false, if_pos h']; omega
      · have h' : ¬ fstN c l + 1 < l.length + 1 := by omega
        simp only [if_neg h, if_neg h']; rfl
theorem cutB_fst (c : UInt8) (s : ByteArray) : cutB c s = decide (fstN c s.data.toList < s.size) := by
  unfold cutB cutI
  rw [indexByte_fst, dl]
  by_cases h : fstN c s.data.toList < s.size
  · rw [if_pos h]; simp [h]
  · rw [if_neg h]; simp [h]
theorem cut_yes {c : UInt8} {s : ByteArray} (h : fstN c s.data.toList < s.size) : cutU c s = s.extract 0 (fstN c s.data.toList) ∧ cutD c s = s.extract (fstN c s.data.toList + 1) s.size := by
  have e : cutI c s = (fstN c s.data.toList : Int) := by unfold cutI; rw [indexByte_fst, dl, if_pos h]
  unfold cutU cutD
  rw [e]
  simp
theorem cut_no {c : UInt8} {s : ByteArray} (h : ¬ fstN c s.data.toList < s.size) : cutU c s = s := by
  have e : cutI c s = -1 := by unfold cutI; rw [indexByte_fst, dl, if_neg h]
  unfold cutU
  rw [e]; rfl
theorem fst_lt {c : UInt8} {l : List UInt8} {j : Nat} (h : j < fstN c l) : l.getD j 0 ≠ c := by
  have := tw_lt (p := (· != c)) (l := l) h
  simpa using this
theorem fst_at {c : UInt8} {l : List UInt8} (h : fstN c l < l.length) : l.getD (fstN c l) 0 = c := by
  have := tw_end (p := (· != c)) (l := l) h
  simpa [fstN] using this
theorem fst_eq {c : UInt8} {l : List UInt8} {n : Nat} (h : n < l.length) (h1 : ∀ j, j < n → l.getD j 0 ≠ c) (h2 : l.getD n 0 = c) : fstN c l = n :=
  tw_len (Nat.le_of_lt h) (fun j hj => by simpa using h1 j hj) (fun _ => by simpa using h2)

-- names
def isNC (c : UInt8) : Bool := decide ((97 ≤ c.toNat ∧ c.toNat ≤ 122) ∨ (48 ≤ c.toNat ∧ c.toNat ≤ 57) ∨ c.toNat = 45 ∨ c.toNat = 58)
/-- How many bytes at the beginning are those of names. -/
def runN (s : ByteArray) : Nat := (s.data.toList.takeWhile isNC).length
def isBl (c : UInt8) : Bool := sBlanks.data.toList.contains c
def runB (s : ByteArray) : Nat := (s.data.toList.takeWhile isBl).length
theorem isBl_iff (c : UInt8) : isBl c = true ↔ (c = 32 ∨ c = 9 ∨ c = 10 ∨ c = 13) := by
  unfold isBl sBlanks
  simp
theorem runN_le (s : ByteArray) : runN s ≤ s.size := by have := tw_le (p := isNC) s.data.toList; rw [dl] at this; exact this
theorem runB_le (s : ByteArray) : runB s ≤ s.size := by have := tw_le (p := isBl) s.data.toList; rw [dl] at this; exact this
theorem nameB_signs {t : ByteArray} (h : nameB t = true) (j : Nat) (hj : j < t.size) : isNC (t.data.toList.getD j 0) = true := by
  unfold nameB at h
  simp only [Bool.and_eq_true, decide_eq_true_eq] at h
  have := h.1 j hj
  unfold chOK byteAt at this
  unfold isNC
  rw [decide_eq_true_eq]
  omega
theorem nameB_pos {t : ByteArray} (h : nameB t = true) : 0 < t.size := by
  unfold nameB at h
  simp only [Bool.and_eq_true, Bool.not_eq_true', decide_eq_false_iff_not] at h
  exact size_pos h.2.1
/-- A name at the beginning, and no such sign behind it, is the run. -/
theorem runN_eq {s : ByteArray} {n : Nat} (hn : n ≤ s.size) (h : nameB (s.extract 0 n) = true) (h2 : n < s.size → isNC (s.data.toList.getD n 0) = false) : runN s = n := by
  refine tw_len (by rw [dl]; exact hn) (fun j hj => ?_) (fun h' => h2 (by rw [dl] at h'; exact h'))
  have hsz : (s.extract 0 n).size = n := by rw [ByteArray.size_extract]; omega
  have := nameB_signs h j (by omega)
  rw [ext_list, List.drop_zero, getD_take hj] at this
  exact this
theorem trimLB_run (s : ByteArray) : trimLB s = s.extract (runB s) s.size := by
  refine ba_ext ?_
  rw [ext_end]
  show Lib.trimLeftS s.data.toList sBlanks.data.toList = _
  unfold Lib.trimLeftS
  exact tw_drop _

-- attributes
/-- The document's attribute, and how many bytes it has. -/
def attrE (s : ByteArray) : Nat := runN s + 2 + fstN (s.data.toList.getD (runN s + 1) 0) (s.data.toList.drop (runN s + 2))
def attrC (s : ByteArray) : Prop := nameB (s.extract 0 (runN s)) = true ∧ runN s + 2 ≤ s.size ∧ byteAt s (runN s) = 61 ∧ (byteAt s (runN s + 1) = 34 ∨ byteAt s (runN s + 1) = 39) ∧ attrE s < s.size ∧ (unesc (s.extract (runN s + 2) (attrE s))).2 = 0
theorem byteAt_eq (s : ByteArray) (j : Nat) (c : UInt8) : byteAt s j = (c.toNat : Int) ↔ s.data.toList.getD j 0 = c := by
  unfold byteAt
  constructor
  · intro h; exact UInt8.toNat_inj.1 (by omega)
  · intro h; rw [h]
theorem attrT_yes {s : ByteArray} (h : attrC s) : attrT s = ((s.extract 0 (runN s), (unesc (s.extract (runN s + 2) (attrE s))).1), s.extract (attrE s + 1) s.size, true) := by
  obtain ⟨h1, h2, h3, h4, h5, h6⟩ := h
  have h3 : s.data.toList.getD (runN s) 0 = 61 := (byteAt_eq s _ 61).1 h3
  have hf : fstN 61 s.data.toList = runN s := by
    refine fst_eq (by rw [dl]; omega) (fun j hj h => ?_) h3
    have := tw_lt (p := isNC) (l := s.data.toList) hj
    rw [h] at this
    exact absurd this (by decide)
  have hB : cutB 61 s = true := by rw [cutB_fst, hf]; simp; omega
  obtain ⟨hU, hD⟩ := cut_yes (c := 61) (s := s) (by rw [hf]; omega)
  rw [hf] at hU hD
  unfold attrT
  rw [if_pos hB, hU, if_pos h1, hD]
  have hdl : (s.extract (runN s + 1) s.size).data.toList = s.data.toList.drop (runN s + 1) := ext_end _ _
  have hsz : (s.extract (runN s + 1) s.size).size = s.size - (runN s + 1) := by rw [ByteArray.size_extract]; omega
  have hb : byteAt (s.extract (runN s + 1) s.size) 0 = byteAt s (runN s + 1) := by unfold byteAt; rw [hdl, getD_drop]
  have hne : ¬ s.extract (runN s + 1) s.size = ⟨#[]⟩ := fun e => by rw [e] at hsz; have : (⟨#[]⟩ : ByteArray).size = 0 := rfl; omega
  have hq : valueC (s.extract (runN s + 1) s.size) = s.data.toList.getD (runN s + 1) 0 := by
    unfold valueC sepC
    rw [ext_list, List.drop_zero, getD_take (by omega), hdl, getD_drop]
  have hx : (s.extract (runN s + 1) s.size).extract 1 (s.extract (runN s + 1) s.size).size = s.extract (runN s + 2) s.size := by
    refine ba_ext ?_
    rw [ext_end, hdl, ext_end, List.drop_drop]
  have hV : valueT (s.extract (runN s + 1) s.size) = ((unesc (s.extract (runN s + 2) (attrE s))).1, s.extract (attrE s + 1) s.size, true) := by
    unfold valueT
    rw [if_neg hne, hb, if_pos h4, hq, hx]
    generalize hc : s.data.toList.getD (runN s + 1) 0 = c
    have hE : attrE s = runN s + 2 + fstN c (s.data.toList.drop (runN s + 2)) := by unfold attrE; rw [hc]
    have hd2 : (s.extract (runN s + 2) s.size).data.toList = s.data.toList.drop (runN s + 2) := ext_end _ _
    have hz2 : (s.extract (runN s + 2) s.size).size = s.size - (runN s + 2) := by rw [ByteArray.size_extract]; omega
    have hB2 : fstN c (s.extract (runN s + 2) s.size).data.toList < (s.extract (runN s + 2) s.size).size := by rw [hd2, hz2]; omega
    obtain ⟨hU2, hD2⟩ := cut_yes hB2
    rw [if_pos (by rw [cutB_fst]; simpa using hB2), hU2, hD2, hd2]
    have e1 : (s.extract (runN s + 2) s.size).extract 0 (fstN c (s.data.toList.drop (runN s + 2))) = s.extract (runN s + 2) (attrE s) := by
      refine ba_ext ?_
      rw [ext_list, hd2, ext_list, List.drop_zero, hE, List.take_drop]
    have e2 : (s.extract (runN s + 2) s.size).extract (fstN c (s.data.toList.drop (runN s + 2)) + 1) (s.extract (runN s + 2) s.size).size = s.extract (attrE s + 1) s.size := by
      refine ba_ext ?_
      rw [ext_end, hd2, ext_end, hE, List.drop_drop]
      congr 1
    rw [e1, e2, h6]
    rfl
  rw [hV]
theorem attrT_no {s : ByteArray} (h : ¬ attrC s) : (attrT s).2.2 = false := by
  cases hT : (attrT s).2.2 with
  | false => rfl
  | true =>
    exfalso
    apply h
    unfold attrT at hT
    split at hT
    · rename_i hB
      have hB' := hB
      rw [cutB_fst, decide_eq_true_eq] at hB'
      obtain ⟨hU, hD⟩ := cut_yes hB'
      split at hT
      · rename_i hN
        rw [hU] at hN
        have hn : runN s = fstN 61 s.data.toList := runN_eq (Nat.le_of_lt hB') hN (fun _ => by rw [fst_at (by rw [dl]; exact hB')]; decide)
        rw [hD, ← hn] at hT
        rw [← hn] at hN hB'
        have h61 : s.data.toList.getD (runN s) 0 = 61 := by rw [hn]; exact fst_at (by rw [dl, ← hn]; exact hB')
        have hdl : (s.extract (runN s + 1) s.size).data.toList = s.data.toList.drop (runN s + 1) := ext_end _ _
        have hsz : (s.extract (runN s + 1) s.size).size = s.size - (runN s + 1) := by rw [ByteArray.size_extract]; omega
        have hb : byteAt (s.extract (runN s + 1) s.size) 0 = byteAt s (runN s + 1) := by unfold byteAt; rw [hdl, getD_drop]
        have hx : (s.extract (runN s + 1) s.size).extract 1 (s.extract (runN s + 1) s.size).size = s.extract (runN s + 2) s.size := by
          refine ba_ext ?_
          rw [ext_end, hdl, ext_end, List.drop_drop]
        unfold valueT at hT
        split at hT
        · cases hT
        · rename_i hne
          have hpos := size_pos hne
          have hq : valueC (s.extract (runN s + 1) s.size) = s.data.toList.getD (runN s + 1) 0 := by
            unfold valueC sepC
            rw [ext_list, List.drop_zero, getD_take (by omega), hdl, getD_drop]
          split at hT
          · rename_i h4
            rw [hb] at h4
            rw [hq, hx] at hT
            split at hT
            · rename_i hB2
              generalize hc : s.data.toList.getD (runN s + 1) 0 = c at hT hB2
              have hE : attrE s = runN s + 2 + fstN c (s.data.toList.drop (runN s + 2)) := by unfold attrE; rw [hc]
              have hd2 : (s.extract (runN s + 2) s.size).data.toList = s.data.toList.drop (runN s + 2) := ext_end _ _
              have hz2 : (s.extract (runN s + 2) s.size).size = s.size - (runN s + 2) := by rw [ByteArray.size_extract]; omega
              rw [cutB_fst, decide_eq_true_eq] at hB2
              obtain ⟨hU2, hD2⟩ := cut_yes hB2
              rw [hU2] at hT
              rw [hd2, hz2] at hB2
              have e1 : (s.extract (runN s + 2) s.size).extract 0 (fstN c (s.extract (runN s + 2) s.size).data.toList) = s.extract (runN s + 2) (attrE s) := by
                refine ba_ext ?_
                rw [ext_list, hd2, ext_list, List.drop_zero, hE, List.take_drop]
              rw [e1] at hT
              exact ⟨hN, by omega, (byteAt_eq s _ 61).2 h61, h4, by omega, by simpa using hT⟩
            · cases hT
          · cases hT
      · cases hT
    · cases hT

-- ends
theorem bl_not_nc {c : UInt8} (h : isBl c = true) : isNC c = false := by
  rcases (isBl_iff c).1 h with rfl | rfl | rfl | rfl <;> decide
/-- The document's condition of an end. -/
def endC (t : ByteArray) : Prop := nameB (t.extract 0 (runN t)) = true ∧ runB (t.extract (runN t) t.size) = t.size - runN t
theorem ext0_list (s : ByteArray) (n : Nat) : (s.extract 0 n).data.toList = s.data.toList.take n := by rw [ext_list, List.drop_zero]
theorem getD_eq (l : List UInt8) (j : Nat) (b : UInt8) (h : l[j]? = some b) : l.getD j 0 = b := by
  rw [List.getD_eq_getElem?_getD, h]; rfl
theorem trimRB_take {t : ByteArray} {n : Nat} (hn : n ≤ t.size) (h1 : ∀ j, n ≤ j → j < t.size → isBl (t.data.toList.getD j 0) = true) (h2 : 0 < n → isBl (t.data.toList.getD (n - 1) 0) = false) : trimRB t = t.extract 0 n := by
  refine ba_ext ?_
  rw [ext0_list]
  refine Lib.trimRightS_take t.data.toList sBlanks.data.toList n (by rw [dl]; exact hn) (fun j b hj hb => ?_) (fun b hp hb => ?_)
  · have : j < t.size := by
      rcases Nat.lt_or_ge j t.data.toList.length with h | h
      · rw [dl] at h; exact h
      · rw [List.getElem?_eq_none h] at hb; cases hb
    have := h1 j hj this
    rw [getD_eq _ _ _ hb] at this
    exact this
  · have := h2 hp
    rw [getD_eq _ _ _ hb] at this
    exact this
theorem runB_all {t : ByteArray} (h : runB t = t.size) (j : Nat) (hj : j < t.size) : isBl (t.data.toList.getD j 0) = true := tw_lt (p := isBl) (by unfold runB at h; omega)
theorem endT_yes {t : ByteArray} (h : endC t) : endT t = ([⟨2, t.extract 0 (runN t), [], ⟨#[]⟩⟩], 0) := by
  obtain ⟨h1, h2⟩ := h
  have hle := runN_le t
  have hz : (t.extract (runN t) t.size).size = t.size - runN t := by rw [ByteArray.size_extract]; omega
  have e : trimRB t = t.extract 0 (runN t) := by
    refine trimRB_take hle (fun j hj1 hj2 => ?_) (fun hp => ?_)
    · have := runB_all (t := t.extract (runN t) t.size) (by rw [hz]; exact h2) (j - runN t) (by omega)
      rw [ext_end, getD_drop, Nat.add_sub_cancel' hj1] at this
      exact this
    · have := tw_lt (p := isNC) (l := t.data.toList) (j := runN t - 1) (by unfold runN at hp ⊢; omega)
      cases hb : isBl (t.data.toList.getD (runN t - 1) 0) with
      | false => rfl
      | true => rw [bl_not_nc hb] at this; cases this
  unfold endT
  rw [e, if_pos h1]
theorem trimRB_spec (t : ByteArray) : ∃ n, n ≤ t.size ∧ trimRB t = t.extract 0 n ∧ (∀ j, n ≤ j → j < t.size → isBl (t.data.toList.getD j 0) = true) := by
  have key : ∀ m, m ≤ t.size → (∀ j, m ≤ j → j < t.size → isBl (t.data.toList.getD j 0) = true) → ∃ n, n ≤ t.size ∧ trimRB t = t.extract 0 n ∧ (∀ j, n ≤ j → j < t.size → isBl (t.data.toList.getD j 0) = true) := by
    intro m
    induction m with
    | zero => intro hm h; exact ⟨0, hm, trimRB_take hm h (fun h => absurd h (by omega)), h⟩
    | succ m ih =>
      intro hm h
      cases hb : isBl (t.data.toList.getD m 0) with
      | true =>
        refine ih (by omega) fun j hj1 hj2 => ?_
        by_cases e : j = m
        · subst e; exact hb
        · exact h j (by omega) hj2
      | false => exact ⟨m + 1, hm, trimRB_take hm h (fun _ => by simpa using hb), h⟩
  exact key t.size (Nat.le_refl _) (fun j h1 h2 => absurd h2 (by omega))
theorem endT_no {t : ByteArray} (h : ¬ endC t) : endT t = ([], 3) := by
  unfold endT
  cases hN : nameB (trimRB t) with
  | false => rw [if_neg (by simp)]
  | true =>
    exfalso; apply h
    obtain ⟨n, hn, e, hb⟩ := trimRB_spec t
    rw [e] at hN
    have hr : runN t = n := runN_eq hn hN (fun hlt => bl_not_nc (hb n (Nat.le_refl _) hlt))
    subst hr
    refine ⟨hN, tw_len (by rw [dl, ByteArray.size_extract]; omega) (fun j hj => ?_) (fun h => ?_)⟩
    · rw [ext_end, getD_drop]
      exact hb _ (by omega) (by omega)
    · rw [dl, ByteArray.size_extract] at h; omega

-- beginnings
/-- The tokens of a beginning behind its name, as the document reads them. -/
noncomputable def beginR (name : ByteArray) : Nat → ByteArray → List (ByteArray × ByteArray) → List Tok × Int
  | 0, _, _ => ([], 3)
  | f + 1, s, l =>
    have rest := s.extract (runB s) s.size
    if rest = ⟨#[]⟩ then ([⟨1, name, l, ⟨#[]⟩⟩], 0)
    else if rest = sSlash then ([⟨1, name, l, ⟨#[]⟩⟩, ⟨2, name, [], ⟨#[]⟩⟩], 0)
    else if runB s = 0 ∨ (attrT rest).2.2 = false ∨ 6 ≤ l.length ∨ anyA l (attrT rest).1.1 = true then ([], 3)
    else beginR name f (attrT rest).2.1 (l ++ [(attrT rest).1])
theorem beginR_eq (name : ByteArray) : ∀ (f : Nat) (s : ByteArray) (l : List (ByteArray × ByteArray)), l.length ≤ 6 → beginL name f s l = beginR name f s l
  | 0, _, _, _ => rfl
  | f + 1, s, l, hl => by
    have hle := runB_le s
    have hz : (s.extract (runB s) s.size).size = s.size - runB s := by rw [ByteArray.size_extract]; omega
    unfold beginL beginR
    rw [trimLB_run]
    simp only
    by_cases h1 : s.extract (runB s) s.size = ⟨#[]⟩
    · rw [if_pos h1, if_pos h1]
    rw [if_neg h1, if_neg h1]
    by_cases h2 : s.extract (runB s) s.size = sSlash
    · rw [if_pos h2, if_pos h2]
    rw [if_neg h2, if_neg h2]
    have hp := size_pos h1
    by_cases h3 : (s.extract (runB s) s.size).size = s.size
    · rw [if_pos h3, if_pos (.inl (by omega))]
    have h3' : ¬ runB s = 0 := fun e => h3 (by omega)
    rw [if_neg h3]
    by_cases h4 : (attrT (s.extract (runB s) s.size)).2.2 = false
    · rw [if_pos h4, if_pos (.inr (.inl h4))]
    rw [if_neg h4]
    by_cases h5 : anyA l (attrT (s.extract (runB s) s.size)).1.1 = true
    · rw [if_pos h5, if_pos (.inr (.inr (.inr h5)))]
    rw [if_neg h5]
    by_cases h6 : l.length = 6
    · rw [if_pos h6, if_pos (.inr (.inr (.inl (by omega))))]
    rw [if_neg h6, if_neg (by rintro (h | h | h | h); exact h3' h; exact h4 h; omega; exact h5 h)]
    exact beginR_eq name f _ _ (by rw [List.length_append]; simp; omega)

def isAny (c : UInt8) : Bool := sAny.data.toList.contains c
theorem isAny_iff (c : UInt8) : isAny c = true ↔ (c = 32 ∨ c = 9 ∨ c = 10 ∨ c = 13 ∨ c = 47) := by
  unfold isAny sAny
  simp
theorem indexAny_run : ∀ l : List UInt8, Lib.indexAny (l ++ [32]) sAny.data.toList = ((l.takeWhile fun c => !isAny c).length : Int)
  | [] => by decide
  | x :: l => by
    have ih := indexAny_run l
    rw [List.cons_append]
    unfold Lib.indexAny
    by_cases hx : isAny x = true
    · have hx' : sAny.data.toList.contains x = true := hx
      rw [if_pos hx', List.takeWhile_cons_of_neg (by rw [hx]; simp)]; rfl
    · have hx' : ¬ sAny.data.toList.contains x = true := hx
      rw [if_neg hx', List.takeWhile_cons_of_pos (by simpa using hx), ih, if_neg (by rw [beq_iff_eq]; omega), List.length_cons]; omega
theorem nameN_run (s : ByteArray) : nameN s = (s.data.toList.takeWhile fun c => !isAny c).length := by
  have e : (s ++ sSp).data.toList = s.data.toList ++ [32] := by rw [ByteArray.data_append, Array.toList_append]; rfl
  unfold nameN anyI
  rw [e, indexAny_run]; simp
theorem any_not_nc {c : UInt8} (h : isAny c = true) : isNC c = false := by
  rcases (isAny_iff c).1 h with rfl | rfl | rfl | rfl | rfl <;> decide
theorem beginT_ref (s : ByteArray) : beginT s = if nameB (s.extract 0 (runN s)) = true then beginR (s.extract 0 (runN s)) 8 (s.extract (runN s) s.size) [] else ([], 3) := by
  have hle : nameN s ≤ s.size := by rw [nameN_run]; have := tw_le (p := fun c => !isAny c) s.data.toList; rw [dl] at this; exact this
  have hend : nameN s < s.size → isAny (s.data.toList.getD (nameN s) 0) = true := fun h => by
    have := tw_end (p := fun c => !isAny c) (l := s.data.toList) (by rw [dl, ← nameN_run]; exact h)
    rw [← nameN_run] at this
    simpa using this
  unfold beginT
  cases hN : nameB (s.extract 0 (nameN s)) with
  | true =>
    have hr : runN s = nameN s := runN_eq hle hN (fun h => any_not_nc (hend h))
    rw [if_pos rfl, hr, if_pos hN]
    exact beginR_eq _ _ _ _ (by simp)
  | false =>
    rw [if_neg (by simp)]
    cases hN2 : nameB (s.extract 0 (runN s)) with
    | false => rw [if_neg (by simp)]
    | true =>
      rw [if_pos rfl]
      have hne : ¬ runN s = nameN s := fun e => by rw [e] at hN2; rw [hN2] at hN; cases hN
      have hge : runN s ≤ nameN s := by
        rcases Nat.lt_or_ge (nameN s) (runN s) with h | h
        · have h1 := hend (by have := runN_le s; omega)
          have h2 := tw_lt (p := isNC) (l := s.data.toList) h
          rw [any_not_nc h1] at h2; cases h2
        · exact h
      have hlt : runN s < nameN s := by omega
      have hc : isAny (s.data.toList.getD (runN s) 0) = false := by
        have := tw_lt (p := fun c => !isAny c) (l := s.data.toList) (j := runN s) (by rw [← nameN_run]; exact hlt)
        simpa using this
      have hz : (s.extract (runN s) s.size).size = s.size - runN s := by rw [ByteArray.size_extract]; omega
      have hg : (s.extract (runN s) s.size).data.toList.getD 0 0 = s.data.toList.getD (runN s) 0 := by rw [ext_end, getD_drop]; rfl
      generalize s.data.toList.getD (runN s) 0 = c at hc hg
      generalize s.extract (runN s) s.size = t at hz hg
      have hb : isBl c = false := by
        cases h : isBl c with
        | false => rfl
        | true =>
          rcases (isBl_iff c).1 h with rfl | rfl | rfl | rfl <;> exact absurd hc (by decide)
      have hr0 : runB t = 0 := by
        unfold runB
        exact tw_len (Nat.zero_le _) (fun j h => absurd h (by omega)) (fun _ => by rw [hg]; exact hb)
      have hall : t.extract 0 t.size = t := ByteArray.extract_zero_size
      unfold beginR
      simp only [hr0, hall]
      rw [if_neg (fun e => by rw [e] at hz; have : (⟨#[]⟩ : ByteArray).size = 0 := rfl; omega), if_neg (fun e => by rw [e] at hg; have : c = 47 := hg.symm; subst this; exact absurd hc (by decide)), if_pos (.inl trivial)]

-- tags
/-- The document's tokens of a tag. -/
noncomputable def tagR (s : ByteArray) : List Tok × Int := if rightB s = true then
    (if 0 < s.size ∧ byteAt s 0 = 47 then (open Classical in if endC (s.extract 1 s.size) then ([⟨2, (s.extract 1 s.size).extract 0 (runN (s.extract 1 s.size)), [], ⟨#[]⟩⟩], 0) else ([], 3))
     else if nameB (s.extract 0 (runN s)) = true then beginR (s.extract 0 (runN s)) 8 (s.extract (runN s) s.size) [] else ([], 3))
  else ([], 2)
theorem pfx_slash (s : ByteArray) : pfxB s = decide (0 < s.size ∧ byteAt s 0 = 47) := by
  unfold pfxB Lib.hasPrefix sSlash byteAt
  rw [← dl s]
  cases h : s.data.toList with
  | nil => rfl
  | cons x l =>
    show (List.isPrefixOf [47] (x :: l)) = _
    simp only [List.isPrefixOf, List.length_cons, List.getD_cons_zero, Bool.and_true]
    by_cases hx : x = 47
    · subst hx; simp
    · have h1 : ¬ ((x.toNat : Int) = 47) := fun e => hx (UInt8.toNat_inj.1 (by show _ = 47; omega))
      simp [h1]
      exact fun e => hx e.symm
theorem pfxS_slash {s : ByteArray} (h : pfxB s = true) : pfxS s = s.extract 1 s.size := by
  refine ba_ext ?_
  rw [ext_end]
  show Lib.trimPrefix s.data.toList sSlash.data.toList = _
  unfold Lib.trimPrefix
  have h' : Lib.hasPrefix s.data.toList sSlash.data.toList = true := h
  rw [if_pos h']; rfl
theorem tagT_ref (s : ByteArray) : tagT s = tagR s := by
  unfold tagT tagR
  split
  · rename_i hr
    rw [pfx_slash]
    by_cases h : 0 < s.size ∧ byteAt s 0 = 47
    · rw [if_pos (by simpa using h), if_pos h, pfxS_slash (by rw [pfx_slash]; simpa using h)]
      by_cases hc : endC (s.extract 1 s.size)
      · rw [if_pos hc, endT_yes hc]
      · rw [if_neg hc, endT_no hc]
    · rw [if_neg (by simpa using h), if_neg h, beginT_ref]
  · rfl

-- Unescape, as the document reads: a byte at a time
/-- The sign that stands at the beginning of a text, and how many bytes it has. -/
def entL (l : List UInt8) : Option (UInt8 × Nat) :=
  if [38, 97, 112, 111, 115, 59].isPrefixOf l then some (39, 6) else if [38, 113, 117, 111, 116, 59].isPrefixOf l then some (34, 6) else if [38, 103, 116, 59].isPrefixOf l then some (62, 4)
  else if [38, 108, 116, 59].isPrefixOf l then some (60, 4) else if [38, 97, 109, 112, 59].isPrefixOf l then some (38, 5) else none
def unR : Nat → List UInt8 → List UInt8 → Option (List UInt8)
  | 0, _, _ => none
  | f + 1, [], acc => some acc
  | f + 1, c :: l, acc => if c = 60 then none else if c = 38 then (match entL (c :: l) with | some (t, n) => unR f ((c :: l).drop n) (acc ++ [t]) | none => none) else unR f l (acc ++ [c])
theorem fst_cons {c x : UInt8} {l : List UInt8} (h : x ≠ c) : fstN c (x :: l) = fstN c l + 1 := by
  unfold fstN; rw [List.takeWhile_cons_of_pos (by simpa using h)]; rfl
theorem fst_hit {c : UInt8} {l : List UInt8} : fstN c (c :: l) = 0 := by
  unfold fstN; rw [List.takeWhile_cons_of_neg (by simp)]; rfl
/-- A text that begins with a name and a semicolon. -/
theorem fst_pre {n : List UInt8} (hn : ∀ b ∈ n, b ≠ 59) (l : List UInt8) : fstN 59 (n ++ 59 :: l) = n.length := by
  induction n with
  | nil => exact fst_hit
  | cons x n ih => rw [List.cons_append, fst_cons (hn x (by simp)), ih (fun b hb => hn b (by simp [hb]))]; rfl
theorem pre_iff (n R : List UInt8) (hn : ∀ b ∈ n, b ≠ 59) : (n ++ [59]).isPrefixOf R = decide (fstN 59 R < R.length ∧ R.take (fstN 59 R) = n) := by
  rw [Bool.eq_iff_iff, List.isPrefixOf_iff_prefix, decide_eq_true_eq]
  constructor
  · rintro ⟨t, rfl⟩
    have e : n ++ [59] ++ t = n ++ 59 :: t := by simp
    rw [e, fst_pre hn]
    simp
  · rintro ⟨h1, h2⟩
    have h3 := fst_at h1
    refine ⟨R.drop (fstN 59 R + 1), ?_⟩
    have h4 : R = R.take (fstN 59 R) ++ R.drop (fstN 59 R) := (List.take_append_drop _ _).symm
    have h5 : R.drop (fstN 59 R) = 59 :: R.drop (fstN 59 R + 1) := by
      rw [List.drop_eq_getElem_cons h1]
      rw [List.getD_eq_getElem?_getD, List.getElem?_eq_getElem h1] at h3
      simp only [Option.getD_some] at h3
      rw [h3]
    conv => rhs; rw [h4, h2, h5]
    simp
theorem entL_cut (R : List UInt8) : entL (38 :: R) = if fstN 59 R < R.length ∧ signOf ⟨(R.take (fstN 59 R)).toArray⟩ ≠ 0 then some (signOf ⟨(R.take (fstN 59 R)).toArray⟩, fstN 59 R + 2) else none := by
  have pre : ∀ n : List UInt8, (38 :: n).isPrefixOf (38 :: R) = n.isPrefixOf R := fun n => by simp [List.isPrefixOf]
  have eqv : ∀ (n : List UInt8) (T : List UInt8), (decide ((⟨T.toArray⟩ : ByteArray) = ⟨n.toArray⟩)) = decide (T = n) := fun n T => by
    rw [decide_eq_decide]
    constructor
    · intro h; have := congrArg (fun b : ByteArray => b.data.toList) h; simpa using this
    · rintro rfl; rfl
  unfold entL
  rw [pre, pre, pre, pre, pre]
  rw [show ([97, 112, 111, 115, 59] : List UInt8) = [97, 112, 111, 115] ++ [59] from rfl, show ([113, 117, 111, 116, 59] : List UInt8) = [113, 117, 111, 116] ++ [59] from rfl, show ([103, 116, 59] : List UInt8) = [103, 116] ++ [59] from rfl, show ([108, 116, 59] : List UInt8) = [108, 116] ++ [59] from rfl, show ([97, 109, 112, 59] : List UInt8) = [97, 109, 112] ++ [59] from rfl]
  rw [pre_iff _ R (by decide), pre_iff _ R (by decide), pre_iff _ R (by decide), pre_iff _ R (by decide), pre_iff _ R (by decide)]
  have hl : (R.take (fstN 59 R)).length = fstN 59 R := by rw [List.length_take]; have := tw_le (p := (· != 59)) R; unfold fstN; omega
  generalize hK : fstN 59 R = K at *
  generalize hT : R.take K = T at *
  by_cases h0 : K < R.length
  · simp only [h0, true_and]
    by_cases h1 : T = [97, 112, 111, 115]
    · subst h1; simp at hl; subst hl; rfl
    by_cases h2 : T = [113, 117, 111, 116]
    · subst h2; simp at hl; subst hl; rfl
    by_cases h3 : T = [103, 116]
    · subst h3; simp at hl; subst hl; rfl
    by_cases h4 : T = [108, 116]
    · subst h4; simp at hl; subst hl; rfl
    by_cases h5 : T = [97, 109, 112]
    · subst h5; simp at hl; subst hl; rfl
    · have q : ∀ n : List UInt8, T ≠ n → ¬ (⟨T.toArray⟩ : ByteArray) = ⟨n.toArray⟩ := fun n h e => h (by have := congrArg (fun b : ByteArray => b.data.toList) e; simpa using this)
      have : signOf ⟨T.toArray⟩ = 0 := by
        unfold signOf sAmp sLt sGt sQuot sApos
        rw [if_neg (q [97, 109, 112] h5), if_neg (q [108, 116] h4), if_neg (q [103, 116] h3), if_neg (q [113, 117, 111, 116] h2), if_neg (q [97, 112, 111, 115] h1)]
      simp [h1, h2, h3, h4, h5, this]
  · simp [h0]
theorem unR_skip : ∀ (H : List UInt8), (∀ b ∈ H, b ≠ 38) → ∀ (f : Nat) (l acc : List UInt8), H.length ≤ f → unR f (H ++ l) acc = if (60 : UInt8) ∈ H then none else unR (f - H.length) l (acc ++ H)
  | [], _, f, l, acc, _ => by simp
  | x :: H, hH, 0, l, acc, h => absurd h (by simp)
  | x :: H, hH, f + 1, l, acc, h => by
    have hx : x ≠ 38 := hH x (by simp)
    rw [List.cons_append, unR]
    by_cases h6 : x = 60
    · rw [if_pos h6, if_pos (by rw [h6]; simp)]
    · rw [if_neg h6, if_neg hx, unR_skip H (fun b hb => hH b (by simp [hb])) f l _ (by simpa using h)]
      have : ((60 : UInt8) ∈ x :: H) = ((60 : UInt8) ∈ H) := by simp; intro e; exact absurd e.symm h6
      simp only [this, List.length_cons, Nat.add_sub_add_right, List.append_assoc, List.singleton_append]
theorem signOf_60 (n : ByteArray) (h : signOf n ≠ 0) : (60 : UInt8) ∉ n.data.toList := by
  unfold signOf at h
  by_cases h1 : n = sAmp
  · rw [h1]; decide
  by_cases h2 : n = sLt
  · rw [h2]; decide
  by_cases h3 : n = sGt
  · rw [h3]; decide
  by_cases h4 : n = sQuot
  · rw [h4]; decide
  by_cases h5 : n = sApos
  · rw [h5]; decide
  · rw [if_neg h1, if_neg h2, if_neg h3, if_neg h4, if_neg h5] at h; exact absurd rfl h
/-- It is what the program makes of it. -/
theorem unR_eq : ∀ (m f g : Nat) (s : ByteArray) (acc : List UInt8), s.size ≤ m → s.size < f → s.size < g → unR f s.data.toList acc = if (60 : UInt8) ∈ s.data.toList then none else unescN g s acc
  | m, f, 0, s, acc, hm, hf, hg => absurd hg (by omega)
  | m, f, g + 1, s, acc, hm, hf, hg => by
    have hk : fstN 38 s.data.toList ≤ s.size := by have := tw_le (p := (· != 38)) s.data.toList; rw [dl] at this; exact this
    have hsp : s.data.toList = s.data.toList.take (fstN 38 s.data.toList) ++ s.data.toList.drop (fstN 38 s.data.toList) := (List.take_append_drop _ _).symm
    have hH : ∀ b ∈ s.data.toList.take (fstN 38 s.data.toList), b ≠ 38 := fun b hb => by
      obtain ⟨j, hj, rfl⟩ := List.mem_iff_getElem.1 hb
      have hj' : j < fstN 38 s.data.toList := by rw [List.length_take] at hj; omega
      have := fst_lt hj'
      rw [List.getD_eq_getElem?_getD, List.getElem?_eq_getElem (by rw [dl]; omega)] at this
      simpa using this
    have hHl : (s.data.toList.take (fstN 38 s.data.toList)).length = fstN 38 s.data.toList := by rw [List.length_take, dl]; omega
    have sk := unR_skip _ hH f (s.data.toList.drop (fstN 38 s.data.toList)) acc (by omega)
    rw [← hsp, hHl] at sk
    rw [sk]
    unfold unescN
    by_cases hB : fstN 38 s.data.toList < s.size
    · obtain ⟨hU, hD⟩ := cut_yes hB
      have hB1 : cutB 38 s = true := by rw [cutB_fst]; simpa using hB
      rw [if_pos hB1]
      have h38 := fst_at (c := 38) (l := s.data.toList) (by rw [dl]; exact hB)
      have hdr : s.data.toList.drop (fstN 38 s.data.toList) = 38 :: s.data.toList.drop (fstN 38 s.data.toList + 1) := by
        have hlt : fstN 38 s.data.toList < s.data.toList.length := by rw [dl]; exact hB
        rw [List.drop_eq_getElem_cons hlt]
        rw [List.getD_eq_getElem?_getD, List.getElem?_eq_getElem hlt] at h38
        simp only [Option.getD_some] at h38
        rw [h38]
      have hDl : (cutD 38 s).data.toList = s.data.toList.drop (fstN 38 s.data.toList + 1) := by rw [hD, ext_end]
      have hUl : (cutU 38 s).data.toList = s.data.toList.take (fstN 38 s.data.toList) := by rw [hU, ext0_list]
      have hDz : (cutD 38 s).size = s.size - (fstN 38 s.data.toList + 1) := by rw [hD, ByteArray.size_extract]; omega
      have hmem : ((60 : UInt8) ∈ s.data.toList) = ((60 : UInt8) ∈ s.data.toList.take (fstN 38 s.data.toList) ∨ (60 : UInt8) ∈ (cutD 38 s).data.toList) := by
        conv => lhs; rw [hsp, hdr, ← hDl]
        simp
      rw [hdr, ← hDl]
      generalize cutD 38 s = R at hDl hDz hmem ⊢
      generalize cutU 38 s = U at hUl ⊢
      rw [← hUl] at hmem ⊢
      simp only [hmem]
      by_cases hu : (60 : UInt8) ∈ U.data.toList
      · rw [if_pos hu, if_pos (.inl hu)]
      have hmem : ((60 : UInt8) ∈ U.data.toList ∨ (60 : UInt8) ∈ R.data.toList) = ((60 : UInt8) ∈ R.data.toList) := propext ⟨fun h => h.resolve_left hu, .inr⟩
      simp only [hmem]
      rw [if_neg hu]
      obtain ⟨f', hf'⟩ : ∃ f', f - fstN 38 s.data.toList = f' + 1 := ⟨f - fstN 38 s.data.toList - 1, by omega⟩
      rw [hf', unR, if_neg (by decide), if_pos rfl, entL_cut]
      have hR : R.data.toList.length = R.size := dl R
      by_cases h59 : fstN 59 R.data.toList < R.size
      · obtain ⟨hU2, hD2⟩ := cut_yes h59
        have hnm : (⟨(R.data.toList.take (fstN 59 R.data.toList)).toArray⟩ : ByteArray) = cutU 59 R := by
          refine ba_ext ?_
          rw [hU2, ext0_list]
        rw [hnm, hR, show cutB 59 R = true from by rw [cutB_fst]; simpa using h59]
        by_cases hs : signOf (cutU 59 R) ≠ 0
        · have p1 : fstN 59 R.data.toList < R.size ∧ signOf (cutU 59 R) ≠ 0 := ⟨h59, hs⟩
          have p2 : true = true ∧ decide (signOf (cutU 59 R) ≠ 0) = true := ⟨rfl, by simpa using hs⟩
          rw [if_pos p1, if_pos p2]
          simp only
          have hdd : (38 :: R.data.toList).drop (fstN 59 R.data.toList + 2) = (cutD 59 R).data.toList := by
            rw [hD2, ext_end]; rfl
          have hz : (cutD 59 R).size = R.size - (fstN 59 R.data.toList + 1) := by rw [hD2, ByteArray.size_extract]; omega
          have hss : (signS (cutU 59 R)).data.toList = [signOf (cutU 59 R)] := by unfold signS; rw [if_neg hs]
          rw [hdd, hss, unR_eq (m - 1) f' g (cutD 59 R) _ (by omega) (by omega) (by omega)]
          have hno : (60 : UInt8) ∉ R.data.toList.take (fstN 59 R.data.toList) := by
            have := signOf_60 _ hs
            rw [hU2, ext0_list] at this
            exact this
          have hm2 : ((60 : UInt8) ∈ R.data.toList) = ((60 : UInt8) ∈ (cutD 59 R).data.toList) := by
            have hat := fst_at (c := 59) (l := R.data.toList) (by rw [hR]; exact h59)
            have hlt : fstN 59 R.data.toList < R.data.toList.length := by rw [hR]; exact h59
            have e : R.data.toList = R.data.toList.take (fstN 59 R.data.toList) ++ 59 :: (cutD 59 R).data.toList := by
              conv => lhs; rw [← List.take_append_drop (fstN 59 R.data.toList) R.data.toList]
              rw [List.drop_eq_getElem_cons hlt, hD2, ext_end]
              rw [List.getD_eq_getElem?_getD, List.getElem?_eq_getElem hlt] at hat
              simp only [Option.getD_some] at hat
              rw [hat]
            conv => lhs; rw [e]
            simp [hno]
          simp only [hm2]
        · have n1 : ¬ (fstN 59 R.data.toList < R.size ∧ signOf (cutU 59 R) ≠ 0) := by rintro ⟨_, h⟩; exact hs h
          have n2 : ¬ (true = true ∧ decide (signOf (cutU 59 R) ≠ 0) = true) := by rintro ⟨_, h⟩; exact hs (by simpa using h)
          rw [if_neg n1, if_neg n2]
          simp
      · have n1 : ∀ p : Prop, ¬ (fstN 59 R.data.toList < R.data.toList.length ∧ p) := by rintro p ⟨h, _⟩; exact h59 (by rw [← hR]; exact h)
        have n2 : ∀ p : Prop, ¬ (cutB 59 R = true ∧ p) := by rintro p ⟨h, _⟩; rw [cutB_fst] at h; exact h59 (by simpa using h)
        rw [if_neg (n1 _), if_neg (n2 _)]
        simp
    · have hB1 : ¬ cutB 38 s = true := by rw [cutB_fst]; simpa using hB
      rw [if_neg hB1, cut_no hB]
      have : fstN 38 s.data.toList = s.data.toList.length := by rw [dl]; omega
      rw [this, List.take_length, List.drop_length]
      obtain ⟨f', hf'⟩ : ∃ f', f - s.data.toList.length = f' + 1 := ⟨f - s.data.toList.length - 1, by rw [dl]; omega⟩
      rw [hf', unR]
theorem mem_cut (s : ByteArray) : cutB 60 s = decide ((60 : UInt8) ∈ s.data.toList) := by
  rw [cutB_fst, decide_eq_decide]
  constructor
  · intro h
    have hlt : fstN 60 s.data.toList < s.data.toList.length := by rw [dl]; exact h
    have := fst_at hlt
    rw [List.getD_eq_getElem?_getD, List.getElem?_eq_getElem hlt] at this
    simp only [Option.getD_some] at this
    rw [← this]; exact List.getElem_mem hlt
  · intro h
    obtain ⟨j, hj, e⟩ := List.mem_iff_getElem.1 h
    rcases Nat.lt_or_ge (fstN 60 s.data.toList) s.size with h | h
    · exact h
    · have := fst_lt (c := 60) (l := s.data.toList) (j := j) (by rw [dl] at hj; omega)
      rw [List.getD_eq_getElem?_getD, List.getElem?_eq_getElem hj] at this
      simp only [Option.getD_some] at this
      exact absurd e this
theorem unesc_ref (s : ByteArray) : unesc s = if rightB s = true then unescV (unR (s.size + 1) s.data.toList []) else (⟨#[]⟩, 2) := by
  unfold unesc unescR
  split
  · rw [unR_eq s.size (s.size + 1) (s.size + 1) s [] (Nat.le_refl _) (by omega) (by omega), mem_cut]
    by_cases h : (60 : UInt8) ∈ s.data.toList
    · simp [h, unescV]
    · simp [h]
  · rfl

-- signs, as the document reads them
def signEnd (s : ByteArray) (n : Nat) (least lo hi : Int) : Int × Int :=
  if (s.size : Int) ≥ n then (if lo < least ∨ lo > 1114111 ∨ (lo ≥ 55296 ∧ lo ≤ 57343) then (0, 0) else (lo, n))
  else if hi < least ∨ lo > 1114111 ∨ (lo ≥ 55296 ∧ hi ≤ 57343) then (0, 0) else (0, -1)
def signGo (s : ByteArray) (n : Nat) (least : Int) : Nat → Nat → Int → Int → Int × Int
  | 0, _, _, _ => (0, 0)
  | f + 1, i, lo, hi => if i < n then (if s.size ≤ i then signGo s n least f (i + 1) (lo * 64) (64 * hi + 63) else if byteAt s i < 128 ∨ byteAt s i ≥ 192 then (0, 0) else signGo s n least f (i + 1) (64 * lo + byteAt s i - 128) (64 * hi + byteAt s i - 128))
    else signEnd s n least lo hi
def signT (s : ByteArray) : Int × Int :=
  if s.size = 0 then (0, -1)
  else if byteAt s 0 < 128 then (byteAt s 0, 1)
  else if 192 ≤ byteAt s 0 ∧ byteAt s 0 < 224 then signGo s 2 128 4 1 (byteAt s 0 - 192) (byteAt s 0 - 192)
  else if 224 ≤ byteAt s 0 ∧ byteAt s 0 < 240 then signGo s 3 2048 4 1 (byteAt s 0 - 224) (byteAt s 0 - 224)
  else if 240 ≤ byteAt s 0 ∧ byteAt s 0 < 248 then signGo s 4 65536 4 1 (byteAt s 0 - 240) (byteAt s 0 - 240)
  else (0, 0)
/-- What the decoder says of a text's first sign. -/
def dec0 (s : ByteArray) : Nat × Nat := Lib.decodeN s.size (s.data.toList.getD 0 0).toNat (s.data.toList.getD 1 0).toNat (s.data.toList.getD 2 0).toNat (s.data.toList.getD 3 0).toNat
/-- The next byte. -/
def sgN (s : ByteArray) (i : Nat) (k : Int → Int → Int × Int) (lo hi : Int) : Int × Int := if s.size ≤ i then k (lo * 64) (64 * hi + 63) else if byteAt s i < 128 ∨ byteAt s i ≥ 192 then (0, 0) else k (64 * lo + byteAt s i - 128) (64 * hi + byteAt s i - 128)
theorem sg_step {s : ByteArray} {n : Nat} {least : Int} {f i : Nat} (h : i < n) : signGo s n least (f + 1) i = sgN s i (signGo s n least f (i + 1)) := by
  funext lo hi; rw [signGo, if_pos h]; rfl
theorem sg_stop {s : ByteArray} {n : Nat} {least : Int} {f i : Nat} (h : ¬ i < n) : signGo s n least (f + 1) i = signEnd s n least := by
  funext lo hi; rw [signGo, if_neg h]
theorem sg2 (s : ByteArray) : signGo s 2 128 4 1 = sgN s 1 (signEnd s 2 128) := by rw [sg_step (by decide), sg_stop (by decide)]
theorem sg3 (s : ByteArray) : signGo s 3 2048 4 1 = sgN s 1 (sgN s 2 (signEnd s 3 2048)) := by rw [sg_step (by decide), sg_step (by decide), sg_stop (by decide)]
theorem sg4 (s : ByteArray) : signGo s 4 65536 4 1 = sgN s 1 (sgN s 2 (sgN s 3 (signEnd s 4 65536))) := by rw [sg_step (by decide), sg_step (by decide), sg_step (by decide), sg_stop (by decide)]
theorem sign_bad (s : ByteArray) (hs : 0 < s.size) (h : dec0 s = (65533, 1)) : (signT s).2 ≤ 0 := by
  unfold dec0 Lib.decodeN at h
  have hb : ∀ j, byteAt s j = ((s.data.toList.getD j 0).toNat : Int) := fun _ => rfl
  unfold signT
  rw [sg2, sg3, sg4]
  have k0 := (s.data.toList.getD 0 0).toNat_lt
  have k1 := (s.data.toList.getD 1 0).toNat_lt
  have k2 := (s.data.toList.getD 2 0).toNat_lt
  have k3 := (s.data.toList.getD 3 0).toNat_lt
  have e0 := hb 0; have e1 := hb 1; have e2 := hb 2; have e3 := hb 3
  clear hb
  generalize (s.data.toList.getD 0 0).toNat = b0 at h k0 e0
  generalize (s.data.toList.getD 1 0).toNat = b1 at h k1 e1
  generalize (s.data.toList.getD 2 0).toNat = b2 at h k2 e2
  generalize (s.data.toList.getD 3 0).toNat = b3 at h k3 e3
  have endN : ∀ (n : Nat) (least lo hi : Int), (s.size : Int) < n ∨ lo < least ∨ lo > 1114111 ∨ (lo ≥ 55296 ∧ lo ≤ 57343) → (signEnd s n least lo hi).2 ≤ 0 := by
    intro n least lo hi hh
    unfold signEnd
    repeat' split
    all_goals first | (simp only; omega) | (exfalso; omega)
  have nxt : ∀ (i : Nat) (k : Int → Int → Int × Int) (lo hi : Int), (∀ lo' hi', (s.size ≤ i ∨ (i < s.size ∧ ¬ (byteAt s i < 128 ∨ byteAt s i ≥ 192) ∧ lo' = 64 * lo + byteAt s i - 128)) → (k lo' hi').2 ≤ 0) → (sgN s i k lo hi).2 ≤ 0 := by
    intro i k lo hi hh
    unfold sgN
    split
    · rename_i h1; exact hh _ _ (.inl h1)
    · split
      · exact Int.le_refl _
      · rename_i h1 h2; exact hh _ _ (.inr ⟨by omega, h2, rfl⟩)
  by_cases c0 : b0 < 128
  · rw [if_pos c0] at h; simp only [Prod.mk.injEq] at h; omega
  rw [if_neg c0] at h
  have z1 : ¬ s.size = 0 := by omega
  have z2 : ¬ byteAt s 0 < 128 := by omega
  rw [if_neg z1, if_neg z2]
  split
  · have a1 : b0 / 32 = 6 := by omega
    have a2 : ¬ b0 / 16 = 14 := by omega
    have a3 : ¬ b0 / 8 = 30 := by omega
    simp only [a1, a2, a3, true_and, false_and, if_false] at h
    refine nxt 1 _ _ _ fun lo hi h1 => endN 2 128 lo hi ?_
    split at h
    · split at h
      · simp only [Prod.mk.injEq] at h; omega
      · omega
    · omega
  split
  · have a1 : ¬ b0 / 32 = 6 := by omega
    have a2 : b0 / 16 = 14 := by omega
    have a3 : ¬ b0 / 8 = 30 := by omega
    simp only [a1, a2, a3, true_and, false_and, if_false] at h
    refine nxt 1 _ _ _ fun lo hi h1 => nxt 2 _ _ _ fun lo' hi' h2 => endN 3 2048 lo' hi' ?_
    split at h
    · split at h
      · simp only [Prod.mk.injEq] at h; omega
      · omega
    · omega
  split
  · have a1 : ¬ b0 / 32 = 6 := by omega
    have a2 : ¬ b0 / 16 = 14 := by omega
    have a3 : b0 / 8 = 30 := by omega
    simp only [a1, a2, a3, true_and, false_and, if_false] at h
    refine nxt 1 _ _ _ fun lo hi h1 => nxt 2 _ _ _ fun lo' hi' h2 => nxt 3 _ _ _ fun lo'' hi'' h3 => endN 4 65536 lo'' hi'' ?_
    split at h
    · split at h
      · simp only [Prod.mk.injEq] at h; omega
      · omega
    · omega
  · exact Int.le_refl _
theorem sign_good (s : ByteArray) (hs : 0 < s.size) (h : ¬ dec0 s = (65533, 1)) : signT s = (((dec0 s).1 : Int), ((dec0 s).2 : Int)) ∧ 0 < (dec0 s).2 := by
  unfold dec0 Lib.decodeN at h ⊢
  have hb : ∀ j, byteAt s j = ((s.data.toList.getD j 0).toNat : Int) := fun _ => rfl
  unfold signT
  rw [sg2, sg3, sg4]
  have k0 := (s.data.toList.getD 0 0).toNat_lt
  have k1 := (s.data.toList.getD 1 0).toNat_lt
  have k2 := (s.data.toList.getD 2 0).toNat_lt
  have k3 := (s.data.toList.getD 3 0).toNat_lt
  have e0 := hb 0; have e1 := hb 1; have e2 := hb 2; have e3 := hb 3
  clear hb
  generalize (s.data.toList.getD 0 0).toNat = b0 at h k0 e0 ⊢
  generalize (s.data.toList.getD 1 0).toNat = b1 at h k1 e1 ⊢
  generalize (s.data.toList.getD 2 0).toNat = b2 at h k2 e2 ⊢
  generalize (s.data.toList.getD 3 0).toNat = b3 at h k3 e3 ⊢
  have endY : ∀ (n : Nat) (least lo hi : Int), (s.size : Int) ≥ n → ¬ (lo < least ∨ lo > 1114111 ∨ (lo ≥ 55296 ∧ lo ≤ 57343)) → signEnd s n least lo hi = (lo, (n : Int)) := by
    intro n least lo hi h1 h2
    unfold signEnd
    rw [if_pos h1, if_neg h2]
  have nxt : ∀ (i : Nat) (k : Int → Int → Int × Int) (lo hi : Int), i < s.size → 128 ≤ byteAt s i ∧ byteAt s i < 192 → sgN s i k lo hi = k (64 * lo + byteAt s i - 128) (64 * hi + byteAt s i - 128) := by
    intro i k lo hi h1 h2
    have n1 : ¬ s.size ≤ i := by omega
    have n2 : ¬ (byteAt s i < 128 ∨ byteAt s i ≥ 192) := by omega
    unfold sgN
    rw [if_neg n1, if_neg n2]
  have z1 : ¬ s.size = 0 := by omega
  rw [if_neg z1]
  by_cases c0 : b0 < 128
  · have z2 : byteAt s 0 < 128 := by omega
    rw [if_pos z2, if_pos c0, e0]; exact ⟨rfl, Nat.one_pos⟩
  have z2 : ¬ byteAt s 0 < 128 := by omega
  rw [if_neg c0] at h ⊢
  rw [if_neg z2]
  by_cases c2 : b0 / 32 = 6 ∧ (1 < s.size ∧ b1 / 64 = 2)
  · rw [if_pos c2] at h ⊢
    split at h
    · rename_i hc
      have d1 : 192 ≤ byteAt s 0 ∧ byteAt s 0 < 224 := by omega
      rw [if_pos hc, if_pos d1, nxt 1 _ _ _ c2.2.1 (by omega), endY 2 128 _ _ (by omega) ?_]
      · refine ⟨Prod.ext ?_ ?_, Nat.succ_pos _⟩
        · show _ = ((_ : Nat) : Int)
          dsimp only
          omega
        · rfl
      · omega
    · exact absurd rfl h
  rw [if_neg c2] at h ⊢
  by_cases c3 : b0 / 16 = 14 ∧ (1 < s.size ∧ b1 / 64 = 2) ∧ (2 < s.size ∧ b2 / 64 = 2)
  · rw [if_pos c3] at h ⊢
    split at h
    · rename_i hc
      have d1 : ¬ (192 ≤ byteAt s 0 ∧ byteAt s 0 < 224) := by omega
      have d2 : 224 ≤ byteAt s 0 ∧ byteAt s 0 < 240 := by omega
      rw [if_pos hc, if_neg d1, if_pos d2, nxt 1 _ _ _ c3.2.1.1 (by omega), nxt 2 _ _ _ c3.2.2.1 (by omega), endY 3 2048 _ _ (by omega) ?_]
      · refine ⟨Prod.ext ?_ ?_, Nat.succ_pos _⟩
        · show _ = ((_ : Nat) : Int)
          dsimp only
          omega
        · rfl
      · omega
    · exact absurd rfl h
  rw [if_neg c3] at h ⊢
  by_cases c4 : b0 / 8 = 30 ∧ (1 < s.size ∧ b1 / 64 = 2) ∧ (2 < s.size ∧ b2 / 64 = 2) ∧ (3 < s.size ∧ b3 / 64 = 2)
  · rw [if_pos c4] at h ⊢
    split at h
    · rename_i hc
      have d1 : ¬ (192 ≤ byteAt s 0 ∧ byteAt s 0 < 224) := by omega
      have d2 : ¬ (224 ≤ byteAt s 0 ∧ byteAt s 0 < 240) := by omega
      have d3 : 240 ≤ byteAt s 0 ∧ byteAt s 0 < 248 := by omega
      rw [if_pos hc, if_neg d1, if_neg d2, if_pos d3, nxt 1 _ _ _ c4.2.1.1 (by omega), nxt 2 _ _ _ c4.2.2.1.1 (by omega), nxt 3 _ _ _ c4.2.2.2.1 (by omega), endY 4 65536 _ _ (by omega) ?_]
      · refine ⟨Prod.ext ?_ ?_, Nat.succ_pos _⟩
        · show _ = ((_ : Nat) : Int)
          dsimp only
          omega
        · rfl
      · omega
    · exact absurd rfl h
  · rw [if_neg c4] at h; exact absurd rfl h

/-- Are they signs that may be? As the document reads: one behind the other. -/
def refR : Nat → ByteArray → Bool
  | 0, _ => true
  | f + 1, s => if s.size = 0 then true else if (signT s).2 ≤ 0 ∨ mayB (signT s).1 = false then false else refR f (s.extract (signT s).2.toNat s.size)
theorem dec0_list (s : ByteArray) : Lib.decodeL s.data.toList = dec0 s := by rw [Lib.decodeL_N, dl]; rfl
theorem get_listD (t : ByteArray) (k : Nat) : t.get! k = t.data.toList.getD k 0 := by
  obtain ⟨⟨l⟩⟩ := t
  simp [ByteArray.get!, List.getD_eq_getElem?_getD, List.getElem!_eq_getElem?_getD]
  rfl
theorem decode_shift (s : ByteArray) (pos : Nat) (hp : pos ≤ s.size) : Utf8.decode s pos = dec0 (s.extract pos s.size) := by
  have hz : (s.extract pos s.size).size = s.size - pos := by rw [ByteArray.size_extract]; omega
  unfold dec0
  rw [Lib.decode_at, hz, get_listD, get_listD, get_listD, get_listD, ext_end, getD_drop, getD_drop, getD_drop, getD_drop]; rfl
theorem dec0_le (s : ByteArray) (h : 0 < s.size) : (dec0 s).2 ≤ s.size := by
  have hne : s.data.toList ≠ [] := fun e => by have := dl s; rw [e] at this; simp at this; omega
  have := Lib.decodeL_le s.data.toList hne
  rw [dec0_list, dl] at this
  exact this
theorem runesB_shift (s : ByteArray) : ∀ (n pos : Nat), pos ≤ s.size → runesB s n pos = runesB (s.extract pos s.size) n 0
  | 0, _, _ => rfl
  | n + 1, pos, hp => by
    have hz : (s.extract pos s.size).size = s.size - pos := by rw [ByteArray.size_extract]; omega
    have h0 : (s.extract pos s.size).extract 0 (s.extract pos s.size).size = s.extract pos s.size := ByteArray.extract_zero_size
    have hd : Utf8.decode (s.extract pos s.size) 0 = dec0 (s.extract pos s.size) := by
      rw [decode_shift _ 0 (Nat.zero_le _), h0]
    unfold runesB
    rw [hz, hd, decode_shift s pos hp]
    by_cases h : pos < s.size
    · rw [if_pos h, if_pos (show 0 < s.size - pos by omega), Nat.zero_add]
      have hw := dec0_le (s.extract pos s.size) (by omega)
      rw [hz] at hw
      have e1 := runesB_shift s n (pos + (dec0 (s.extract pos s.size)).2) (by omega)
      have e2 := runesB_shift (s.extract pos s.size) n (dec0 (s.extract pos s.size)).2 (by rw [hz]; exact hw)
      have e3 : s.extract (pos + (dec0 (s.extract pos s.size)).2) s.size = (s.extract pos s.size).extract (dec0 (s.extract pos s.size)).2 (s.extract pos s.size).size := by
        refine ba_ext ?_
        rw [ext_end, ext_end, ext_end, List.drop_drop]
      rw [e1, e2, e3]
    · rw [if_neg h, if_neg (show ¬ 0 < s.size - pos by omega)]
theorem refR_eq : ∀ (f : Nat) (s : ByteArray), s.size ≤ f → refR f s = (Lib.validD s.data.toList && runesB s f 0)
  | 0, s, h => by
    have : s.data.toList = [] := List.length_eq_zero_iff.1 (by rw [dl]; omega)
    rw [this]; rfl
  | f + 1, s, h => by
    unfold refR runesB
    by_cases h0 : s.size = 0
    · have : s.data.toList = [] := List.length_eq_zero_iff.1 (by rw [dl]; omega)
      rw [if_pos h0, this, if_neg (by omega)]; rfl
    have hp0 : 0 < s.size := by omega
    rw [if_neg h0, if_pos hp0]
    have hne : s.data.toList ≠ [] := fun e => h0 (by rw [← dl, e]; rfl)
    have hz0 : s.extract 0 s.size = s := ByteArray.extract_zero_size
    have hdc : Utf8.decode s 0 = dec0 s := by rw [decode_shift _ 0 (Nat.zero_le _), hz0]
    rw [Lib.validD_step _ hne, dec0_list, hdc]
    by_cases hb : dec0 s = (65533, 1)
    · have h1 : (signT s).2 ≤ 0 ∨ mayB (signT s).1 = false := .inl (sign_bad s hp0 hb)
      have h2 : (dec0 s).1 = 65533 ∧ (dec0 s).2 = 1 := by rw [hb]; exact ⟨rfl, rfl⟩
      rw [if_pos h1, if_pos h2]; rfl
    · obtain ⟨e, hp⟩ := sign_good s hp0 hb
      have h2 : ¬ ((dec0 s).1 = 65533 ∧ (dec0 s).2 = 1) := fun ⟨h1, h2⟩ => hb (Prod.ext h1 h2)
      have hw := dec0_le s hp0
      rw [if_neg h2, e]
      simp only [Int.toNat_natCast, Nat.zero_add]
      by_cases hm : mayB ((dec0 s).1 : Int) = true
      · have h1 : ¬ (((dec0 s).2 : Int) ≤ 0 ∨ mayB ((dec0 s).1 : Int) = false) := by rintro (h | h); omega; rw [hm] at h; cases h
        rw [if_neg h1, refR_eq f _ (by rw [ByteArray.size_extract]; omega), ext_end, hm, Bool.true_and, runesB_shift s f _ hw]
      · have hm : mayB ((dec0 s).1 : Int) = false := by simpa using hm
        rw [if_pos (.inr hm), hm]; simp
theorem rightB_ref (s : ByteArray) : rightB s = refR s.size s := by rw [refR_eq s.size s (Nat.le_refl _)]; rfl
end Go.Proofs.YtfdecpfcphghlaaDoor
