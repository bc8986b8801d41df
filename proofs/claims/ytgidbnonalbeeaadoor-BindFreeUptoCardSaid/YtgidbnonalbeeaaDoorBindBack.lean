import Derived.Test.YtgidbnonalbeeaaDoorBindRef
import Derived.Test.YtgidbnonalbeeaaDoorFrame3
set_option linter.unusedSimpArgs false
set_option linter.unusedVariables false
set_option linter.unnecessarySimpa false
namespace Go.Proofs.YtgidbnonalbeeaaDoor
open Go Go.AM Go.RowKit

theorem c14 : PSound Tryd.prog 14 (detE F13) := by
  refine det_fn (c := Tryd.b14) mixed Tryd.K_ok (gsound_det c17 gsound_nil) Tryd.func14 rfl rfl Tryd.call14 fun al p r q hF hp hq => ?_
  unfold F13 at hF; split at hF <;> cases hF
  rename_i u d
  refine cast (r14 _ _ q).symm ⟨trivial, bcase_mk (fun h => ?_) (fun h => bcase_mk (fun h2 => ⟨trivial, bcase_mk (fun h3 => ?_) (fun h3 => bcase_mk (fun h4 => ?_) (fun h4 => ?_))⟩) (fun h2 => bcase_mk (fun h3 => ?_) (fun h3 => ?_)))⟩
  · have h : userB u = false := by simpa using h
    simpa [fullF, h] using hq
  · have h : userB u = true := by simpa using h
    have h2 : ¬ d = ⟨#[]⟩ := by simpa using h2
    have h3 : userB d = false := by simpa using h3
    simpa [fullF, h, h2, h3] using hq
  · exact absurd (of_decide_eq_true h4) (by simpa using h2)
  · have h : userB u = true := by simpa using h
    have h2 : ¬ d = ⟨#[]⟩ := by simpa using h2
    have h3 : userB d = true := by simpa using h3
    have := user_size h
    have := user_size h3
    have : slash.size = 1 := rfl
    refine ⟨by unfold LIM; show u.size + slash.size ≤ _; omega, by unfold LIM; show (u ++ slash).size + d.size ≤ _; rw [ByteArray.size_append]; omega, ?_⟩
    rw [show fullF u d = (u ++ slash ++ d, 0) by simp [fullF, h, h2, h3]] at hq
    exact hq
  · have h : userB u = true := by simpa using h
    have h3 : d = ⟨#[]⟩ := of_decide_eq_true h3
    simpa [fullF, h, h3] using hq
  · exact absurd (by simpa using h2) (of_decide_eq_false h3)

theorem c16 : PSound Tryd.prog 16 (detE F15) := by
  refine det_fn (c := Tryd.b16) mixed Tryd.K_ok (gsound_det c18 gsound_nil) Tryd.func16 rfl rfl Tryd.call16 fun al p r q hF hp hq => ?_
  unfold F15 at hF; split at hF <;> cases hF
  refine cast (r16 _ _ _ q).symm ⟨hp, bcase_mk (fun h => bcase_mk (fun h2 => bcase_mk (fun h3 => ?_) (fun h3 => ?_)) (fun h2 => ?_)) (fun h => ?_)⟩
  all_goals
    simp only [meantB] at hq
    simp_all

def F4 : List AV → Option (Prop × AV) := fun al => match al with
  | [.d (.v (.string u)), .d (.v (.string d)), .d (.v (.string o))] => some (o.size ≤ LIM, mkB true)
  | _ => none
theorem c4 : PSound Tryd.prog 4 (detE F4) := by
  refine det_fn (c := Tryd.b4) mixed Tryd.K_ok (gsound_det c8 (gsound_det c14 (gsound_det c16 (gsound_det c13 (gsound_det c15 gsound_nil))))) Tryd.func4 rfl rfl Tryd.call4 fun al p r q hF hp hq => ?_
  unfold F4 at hF; split at hF <;> cases hF
  refine cast (r4 _ _ _ q).symm ⟨trivial, trivial, trivial, bcase_mk (fun _ => bcase_mk (fun _ => ⟨hp, hp, ?_⟩) (fun h => ?_)) (fun h => absurd rfl (of_decide_eq_false h))⟩
  · rw [beq_self_eq_true]; exact hq
  · rw [beq_self_eq_true] at h; cases h
theorem h4 : ∀ as', TyArgs Tryd.prog Tryd.f4.params.toList as' → ∃ p, F4 as' = some (p, mkB true) ∧ p := by
  intro as' h
  rw [Tryd.params4] at h
  match as', h with
  | [a, b, c], ⟨ha, hb, hc, _⟩ =>
    obtain ⟨x, rfl, _⟩ := arg_str Tryd.underlying9 ha
    obtain ⟨y, rfl, _⟩ := arg_str Tryd.underlying9 hb
    obtain ⟨z, rfl, hz⟩ := arg_str Tryd.underlying9 hc
    exact ⟨_, rfl, Nat.le_trans hz (by decide)⟩

-- the plain law
theorem user_noslash {u : ByteArray} (h : userB u = true) (k : Nat) : u.data.toList[k]? ≠ some 47 := by
  intro e
  simp only [userB, Bool.and_eq_true, List.all_eq_true, decide_eq_true_eq] at h
  have := h.2 47 (List.mem_of_getElem? e)
  exact absurd this (by decide)
theorem cut_plain {u : ByteArray} (h : userB u = true) : cutI u = -1 := indexByte_not _ _ (user_noslash h)
theorem join_list (u d : ByteArray) : (u ++ slash ++ d).data.toList = u.data.toList ++ 47 :: d.data.toList := by
  rw [ByteArray.data_append, ByteArray.data_append]
  simp [slash]
theorem cut_join {u : ByteArray} (d : ByteArray) (h : userB u = true) : cutI (u ++ slash ++ d) = (u.size : Nat) := by
  have el : u.data.toList.length = u.size := Array.length_toList
  refine indexByte_at _ _ _ ?_ fun k hk => ?_
  · rw [join_list, ← el]; simp
  · rw [join_list, List.getElem?_append_left (by omega)]; exact user_noslash h k
theorem bytes_ext {a b : ByteArray} (h : a.data.toList = b.data.toList) : a = b := by
  cases a; cases b
  congr 1
  exact Array.toList_inj.1 h
theorem join_left (u d : ByteArray) : (u ++ slash ++ d).extract 0 u.size = u := by
  apply bytes_ext
  have el : u.data.toList.length = u.size := Array.length_toList
  rw [ByteArray.data_extract, Array.toList_extract, join_list, List.extract_eq_take_drop, List.drop_zero, ← el]
  simp
theorem join_right (u d : ByteArray) : (u ++ slash ++ d).extract (u.size + 1) (u ++ slash ++ d).size = d := by
  apply bytes_ext
  have el : u.data.toList.length = u.size := Array.length_toList
  have e2 : (u ++ slash ++ d).data.toList.length = (u ++ slash ++ d).size := Array.length_toList
  rw [ByteArray.data_extract, Array.toList_extract, List.extract_eq_take_drop, ← e2, join_list, ← el]
  rw [show (u.data.toList ++ 47 :: d.data.toList) = (u.data.toList ++ [47]) ++ d.data.toList by simp, show u.data.toList.length + 1 = (u.data.toList ++ [47]).length by simp, List.drop_left]
  rw [List.take_of_length_le]
  simp
  omega
theorem meant_plain {u : ByteArray} (o : ByteArray) (h : userB u = true) : meantB u u o = true := by
  have e := cut_plain h
  have e1 : cutU u = u := by rw [cutU, e]; rfl
  have e2 : cutD u = ⟨#[]⟩ := by rw [cutD, e]; rfl
  have e3 : cutB u = false := by rw [cutB, e]; rfl
  simp [meantB, addrB, e1, e2, e3, h]
theorem addr_join {u d : ByteArray} (hu : userB u = true) (hd : userB d = true) : cutU (u ++ slash ++ d) = u ∧ cutD (u ++ slash ++ d) = d ∧ addrB (u ++ slash ++ d) = true := by
  have e := cut_join d hu
  have e1 : cutU (u ++ slash ++ d) = u := by rw [cutU, e, if_pos (by omega)]; exact join_left u d
  have e2 : cutD (u ++ slash ++ d) = d := by rw [cutD, e, if_pos (by omega)]; exact join_right u d
  have e3 : cutB (u ++ slash ++ d) = true := by rw [cutB, e]; exact decide_eq_true (by omega)
  exact ⟨e1, e2, by simp [addrB, e1, e2, e3, hu, hd]⟩

def F6 : List AV → Option (Prop × AV) := fun al => match al with
  | [.d (.v (.string u)), .d (.v (.string d)), .d (.v (.string o))] => some (True, mkB true)
  | _ => none
theorem c6 : PSound Tryd.prog 6 (detE F6) := by
  refine det_fn (c := Tryd.b6) mixed Tryd.K_ok (gsound_det c8 (gsound_det c18 (gsound_det c13 (gsound_det c15 gsound_nil)))) Tryd.func6 rfl rfl Tryd.call6 fun al p r q hF hp hq => ?_
  unfold F6 at hF; split at hF <;> cases hF
  rename_i u d o
  refine cast (r6 _ _ _ q).symm ⟨trivial, trivial, ?_⟩
  by_cases h : userB u = false ∨ (d ≠ ⟨#[]⟩ ∧ userB d = false)
  · have e : fullF u d = (⟨#[]⟩, 1) := if_pos h
    simp [bcase_true, bcase_false, e, hq]
  · have hu : userB u = true := by
      cases hu : userB u
      · exact absurd (.inl hu) h
      · rfl
    have us := user_size hu
    by_cases hd : d = ⟨#[]⟩
    · have e : fullF u d = (u, 0) := by rw [fullF, if_neg h, if_pos hd]
      have c := cut_plain hu
      have e1 : cutU u = u := by rw [cutU, c]; rfl
      have e2 : cutD u = ⟨#[]⟩ := by rw [cutD, c]; rfl
      have e3 : cutB u = false := by rw [cutB, c]; rfl
      have e4 : addrB u = true := by simp [addrB, e1, e2, e3, hu]
      have hs : u.size ≤ LIM := Nat.le_trans us (by decide)
      subst hd
      simp [bcase_true, bcase_false, e, e1, e2, e4, meant_plain _ hu, hs, hq]
    · have hdu : userB d = true := by
        cases hdu : userB d
        · exact absurd (.inr ⟨hd, hdu⟩) h
        · rfl
      have e : fullF u d = (u ++ slash ++ d, 0) := by rw [fullF, if_neg h, if_neg hd]
      obtain ⟨e1, e2, e4⟩ := addr_join hu hdu
      have ds := user_size hdu
      have hs : u.size ≤ LIM := Nat.le_trans us (by decide)
      have hj : (u ++ slash ++ d).size ≤ LIM := by
        rw [ByteArray.size_append, ByteArray.size_append]
        have : slash.size = 1 := rfl
        unfold LIM; omega
      have m1 : ∀ o, meantB (u ++ slash ++ d) u o = decide (o = d) := by
        intro o
        rw [meantB, e1, e2, e4, decide_eq_true rfl, decide_eq_false hd, Bool.eq_iff_iff]
        simp [eq_comm]
      simp [bcase_true, bcase_false, e, e1, e2, e4, meant_plain _ hu, m1, hd, hs, hj, hq, - ByteArray.size_append]
theorem h6 : ∀ as', TyArgs Tryd.prog Tryd.f6.params.toList as' → ∃ p, F6 as' = some (p, mkB true) ∧ p := by
  intro as' h
  rw [Tryd.params6] at h
  match as', h with
  | [a, b, c], ⟨ha, hb, hc, _⟩ =>
    obtain ⟨x, rfl, _⟩ := arg_str Tryd.underlying9 ha
    obtain ⟨y, rfl, _⟩ := arg_str Tryd.underlying9 hb
    obtain ⟨z, rfl, hz⟩ := arg_str Tryd.underlying9 hc
    exact ⟨_, rfl, trivial⟩
end Go.Proofs.YtgidbnonalbeeaaDoor
