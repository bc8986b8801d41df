import Derived.Test.YtfdecpfcphghlaaDoorTagsAs
set_option linter.unusedSimpArgs false
set_option linter.unusedVariables false
namespace Go.Proofs.YtfdecpfcphghlaaDoor
open Go Go.AM Go.RowKit

theorem feedL_append : ∀ (l1 l2 : List UInt8) (b : ByteArray) (w : Bool) (e : Int), feedL (l1 ++ l2) b w e =
    ((feedL l1 b w e).1 ++ (feedL l2 (feedL l1 b w e).2.1 (feedL l1 b w e).2.2.1 (feedL l1 b w e).2.2.2).1, (feedL l2 (feedL l1 b w e).2.1 (feedL l1 b w e).2.2.1 (feedL l1 b w e).2.2.2).2)
  | [], l2, b, w, e => rfl
  | c :: l1, l2, b, w, e => by
    rw [List.cons_append]
    by_cases h : e ≠ 0
    · rw [feedL_err _ _ _ _ h, feedL_err _ _ _ _ h]
      simp only
      rw [feedL_err _ _ _ _ h]; rfl
    · rw [feedL, if_neg h, feedL, if_neg h]
      rw [feedL_append l1 l2]
      simp only [List.append_assoc]
/-- Behind a whole tag no tag is open. -/
theorem next_gt (b : ByteArray) (w : Bool) (h0 : (nextT b w 62).2.1 = 0) (hs : (nextT b w 62).2.2.1.size = 0) : (nextT b w 62).2.2.2 = false := by
  unfold nextT at *
  rw [if_neg (by decide)] at *
  cases w with
  | true => rw [if_pos ⟨rfl, rfl⟩]
  | false =>
    rw [if_neg (by simp)] at *
    split at h0
    · exact absurd h0 (by simp)
    · rename_i h5
      rw [if_neg h5, size_push] at hs
      exact absurd hs (by simp)
theorem feedL_gt (l : List UInt8) (b : ByteArray) (w : Bool) (e : Int) (h0 : (feedL (l ++ [62]) b w e).2.2.2 = 0) (hs : (feedL (l ++ [62]) b w e).2.1.size = 0) : (feedL (l ++ [62]) b w e).2.2.1 = false := by
  rw [feedL_append] at *
  simp only at *
  generalize (feedL l b w e).2.1 = b' at *
  generalize (feedL l b w e).2.2.1 = w' at *
  generalize (feedL l b w e).2.2.2 = e' at *
  by_cases h : e' ≠ 0
  · rw [feedL_err _ _ _ _ h] at h0
    exact absurd h0 h
  · rw [feedL, if_neg h] at *
    exact next_gt b' w' h0 hs
theorem feedL_len : ∀ (l : List UInt8) (b : ByteArray) (w : Bool) (e : Int), (feedL l b w e).1.length ≤ 2 * l.length
  | [], _, _, _ => Nat.zero_le _
  | c :: l, b, w, e => by
    unfold feedL
    split
    · exact Nat.zero_le _
    · have h1 := nextT_len b w c
      have h2 := feedL_len l (nextT b w c).2.2.1 (nextT b w c).2.2.2 (nextT b w c).2.1
      simp only [List.length_append, List.length_cons]
      omega
theorem tk_app {α : Type} (a b : List α) : List.take (a.length + b.length) (a ++ b) = a ++ b := by rw [← List.length_append, List.take_length]
theorem toksD_app (a b : List Tok) : toksD a ++ toksD b = toksD (a ++ b) := by unfold toksD; rw [List.map_append]
theorem tk_toks (a b : List Tok) : List.take ((toksD a).length + (toksD b).length) (toksD (a ++ b)) = toksD (a ++ b) := by rw [← toksD_app, tk_app]
/-- The last byte of a text. -/
theorem last_byte (s : ByteArray) (h : 0 < s.size) (x : UInt8) (hx : s.data.toList.getD (s.size - 1) 0 = x) : s.data.toList = s.data.toList.dropLast ++ [x] := by
  have e : s.data.toList.length = s.size := Array.length_toList
  have hne : s.data.toList ≠ [] := fun h0 => by rw [h0] at e; simp at e; omega
  conv => lhs; rw [← List.dropLast_concat_getLast hne]
  congr 2
  rw [← hx, List.getLast_eq_getElem, List.getD_eq_getElem?_getD, List.getElem?_eq_getElem (by omega)]
  simp only [Option.getD_some, e]
theorem data_append (a b : ByteArray) : (a ++ b).data.toList = a.data.toList ++ b.data.toList := by rw [ByteArray.data_append, Array.toList_append]
/-- Bytes that leave nothing, and others behind them. -/
theorem feed_join (A B : ByteArray) (h0 : (feedL A.data.toList ⟨#[]⟩ false 0).2.2.2 = 0) (hs : (feedL A.data.toList ⟨#[]⟩ false 0).2.1.size = 0) (hg : A.size = 0 ∨ A.data.toList.getD (A.size - 1) 0 = 62) :
    feedL (A ++ B).data.toList ⟨#[]⟩ false 0 = ((feedL A.data.toList ⟨#[]⟩ false 0).1 ++ (feedL B.data.toList ⟨#[]⟩ false 0).1, (feedL B.data.toList ⟨#[]⟩ false 0).2) := by
  have hw : (feedL A.data.toList ⟨#[]⟩ false 0).2.2.1 = false := by
    rcases Nat.eq_zero_or_pos A.size with h | h
    · have : A.data.toList = [] := List.length_eq_zero_iff.1 (by rw [← h]; exact Array.length_toList)
      rw [this]; rfl
    · have e := last_byte A h 62 (hg.resolve_left (by omega))
      rw [e] at h0 hs ⊢
      exact feedL_gt _ _ _ _ h0 hs
  rw [data_append, feedL_append, hw, h0, bytes_nil hs]

/-- Signs of a text, one by one. -/
theorem feed_x (b : ByteArray) (w : Bool) (e : Int) : feedL (⟨#[120]⟩ : ByteArray).data.toList b w e = if e ≠ 0 then ([], b, w, e) else if b.size = 512 then ([], b, w, 4) else ([], b.push 120, w, 0) := by
  show feedL [120] b w e = _
  rw [feedL]
  split
  · rfl
  · simp only [feedL]
    unfold nextT
    rw [if_neg (by decide), if_neg (by rintro ⟨h, _⟩; exact absurd h (by decide))]
    split <;> rfl
theorem feed_lt : feedL (⟨#[60]⟩ : ByteArray).data.toList ⟨#[]⟩ false 0 = ([], ⟨#[]⟩, true, 0) := by decide +kernel
/-- A number, however it was given, told modulo m. -/
theorem umod (n : Int) (m : Nat) (hm : 0 < m) (h : m ≤ LIM) : ∃ k : Nat, k < m ∧ IntKind.i64.wrap (Int.tmod (IntKind.u64.wrap n) (m : Int)) = (k : Int) := by
  have h0 : 0 ≤ IntKind.u64.wrap n := by rw [IntKind.wrap_u64]; omega
  obtain ⟨u, hu⟩ : ∃ u : Nat, IntKind.u64.wrap n = (u : Int) := ⟨(IntKind.u64.wrap n).toNat, by omega⟩
  rw [hu, ← Int.ofNat_tmod]
  have := Nat.mod_lt u hm
  refine ⟨u % m, this, ?_⟩
  rw [IntWalk.i64_in _ (by unfold LIM at h; omega)]
theorem split_bytes (s : ByteArray) (k : Nat) (h : k ≤ s.size) : s.data.toList = (s.extract 0 k).data.toList ++ (s.extract k s.size).data.toList := by
  have e : s.data.toList.length = s.size := Array.length_toList
  rw [ByteArray.data_extract, ByteArray.data_extract, Array.toList_extract, Array.toList_extract]
  simp only [List.extract_eq_take_drop, List.drop_zero, Nat.sub_zero]
  rw [List.take_of_length_le (i := s.size - k) (by rw [List.length_drop]; omega), List.take_append_drop]
theorem ty_ints {P : Program} {n : Nat} {es : List (List D)} {e : TypeId} {k : IntKind} (hu : P.underlying e = some (.int k)) (h : ∀ c ∈ es, Ty P (n + 1) e c) : ∀ c ∈ es, ∃ i : Int, c = [.v (.int k i)] := fun c hc => by
  have := h c hc
  unfold Ty at this; rw [hu] at this
  obtain ⟨i, rfl, _⟩ := this
  exact ⟨i, rfl⟩
theorem arg_ints {P : Program} {t e : TypeId} {a : AV} {k : IntKind} (hu : P.underlying t = some (.slice e)) (he : P.underlying e = some (.int k)) (h : ∃ ds, Ty P 12 t ds ∧ a = argAV (aggB P t) ds) :
    ∃ es : List (List D), a = .d (.sl es) ∧ es.length ≤ 1048576 ∧ ∀ c ∈ es, ∃ i : Int, c = [.v (.int k i)] := by
  obtain ⟨es, rfl, hl, hs⟩ := arg_slice hu h
  exact ⟨es, rfl, hl, ty_ints he hs⟩
theorem tyargs1 {P : Program} {t : TypeId} : ∀ {as' : List AV}, TyArgs P [t] as' → ∃ a, as' = [a] ∧ ∃ ds, Ty P 12 t ds ∧ a = argAV (aggB P t) ds
  | [], h => h.elim
  | [a], h => ⟨a, rfl, h.1⟩
  | _ :: _ :: _, h => h.2.elim
theorem tyargs2 {P : Program} {t u : TypeId} : ∀ {as' : List AV}, TyArgs P [t, u] as' → ∃ a b, as' = [a, b] ∧ (∃ ds, Ty P 12 t ds ∧ a = argAV (aggB P t) ds) ∧ ∃ ds, Ty P 12 u ds ∧ b = argAV (aggB P u) ds
  | [], h => h.elim
  | [_], h => h.2.elim
  | [a, b], h => ⟨a, b, rfl, h.1, h.2.1⟩
  | _ :: _ :: _ :: _, h => h.2.2.elim
end Go.Proofs.YtfdecpfcphghlaaDoor
