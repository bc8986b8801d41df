import Derived.Test.YtoobhfbamikanaaDoorStaLive
import Derived.Test.YtoobhfbamikanaaDoorBindRef
import Derived.Test.YtoobhfbamikanaaDoorFrame4
set_option linter.unusedSimpArgs false
set_option linter.unusedVariables false
namespace Go.Proofs.YtoobhfbamikanaaDoor
open Go Go.AM Go.RowKit
attribute [local irreducible] aCode aUnr aUnS aOut
noncomputable abbrev GNames : List (FuncId × En) := [(6, .pure ELive), (12, .det F25), (13, .det F25), (14, .det F19), (15, .det F19)]
theorem rNames (s t : BA) (q : AV → Prop) :
  (aCode KS GNames Tryd.b4 (kRet KS Tryd.f4.results.toList q) ⟨[mkS s, mkS t] ++ List.replicate (Tryd.f4.ntmps - 2) .jk, []⟩) = (
  (([] : List AV) = []) ∧
  ((ByteArray.size s) ≤ LIM) ∧
  ((ByteArray.size s) ≤ LIM) ∧
  (((ByteArray.size t) + (ByteArray.size (⟨#[(47 : UInt8)]⟩ : ByteArray))) ≤ LIM) ∧
  (((ByteArray.size (t ++ (⟨#[(47 : UInt8)]⟩ : ByteArray))) + (ByteArray.size s)) ≤ LIM) ∧
  ((ByteArray.size ((t ++ (⟨#[(47 : UInt8)]⟩ : ByteArray)) ++ s)) ≤ LIM) ∧
  True ∧
  bcase (userB t) (
   True ∧
   True ∧
   True ∧
   bcase ((userB s) == (userB s)) (
    bcase ((addrB s) == (addrB s)) (
     bcase (!(addrB s)) (
      bcase ((addrB ((t ++ (⟨#[(47 : UInt8)]⟩ : ByteArray)) ++ s)) == (userB s)) (
       bcase (!(addrB ((t ++ (⟨#[(47 : UInt8)]⟩ : ByteArray)) ++ s))) (
        q (mkB true)) (
        bcase (decide ((cutU ((t ++ (⟨#[(47 : UInt8)]⟩ : ByteArray)) ++ s)) = t)) (
         q (mkB (decide ((cutD ((t ++ (⟨#[(47 : UInt8)]⟩ : ByteArray)) ++ s)) = s)))) (
         q (mkB false)))) (
       q (mkB false))) (
      bcase (decide ((cutU s) = (cutU s))) (
       bcase (decide ((cutD s) = (cutD s))) (
        bcase ((addrB ((t ++ (⟨#[(47 : UInt8)]⟩ : ByteArray)) ++ s)) == (userB s)) (
         bcase (!(addrB ((t ++ (⟨#[(47 : UInt8)]⟩ : ByteArray)) ++ s))) (
          q (mkB true)) (
          bcase (decide ((cutU ((t ++ (⟨#[(47 : UInt8)]⟩ : ByteArray)) ++ s)) = t)) (
           q (mkB (decide ((cutD ((t ++ (⟨#[(47 : UInt8)]⟩ : ByteArray)) ++ s)) = s)))) (
           q (mkB false)))) (
         q (mkB false))) (
        q (mkB false))) (
       q (mkB false)))) (
     q (mkB false))) (
    q (mkB false))) (
   True ∧
   True ∧
   bcase ((userB s) == (userB s)) (
    bcase ((addrB s) == (addrB s)) (
     bcase (!(addrB s)) (
      bcase ((addrB ((t ++ (⟨#[(47 : UInt8)]⟩ : ByteArray)) ++ s)) == false) (
       bcase (!(addrB ((t ++ (⟨#[(47 : UInt8)]⟩ : ByteArray)) ++ s))) (
        q (mkB true)) (
        bcase (decide ((cutU ((t ++ (⟨#[(47 : UInt8)]⟩ : ByteArray)) ++ s)) = t)) (
         q (mkB (decide ((cutD ((t ++ (⟨#[(47 : UInt8)]⟩ : ByteArray)) ++ s)) = s)))) (
         q (mkB false)))) (
       q (mkB false))) (
      bcase (decide ((cutU s) = (cutU s))) (
       bcase (decide ((cutD s) = (cutD s))) (
        bcase ((addrB ((t ++ (⟨#[(47 : UInt8)]⟩ : ByteArray)) ++ s)) == false) (
         bcase (!(addrB ((t ++ (⟨#[(47 : UInt8)]⟩ : ByteArray)) ++ s))) (
          q (mkB true)) (
          bcase (decide ((cutU ((t ++ (⟨#[(47 : UInt8)]⟩ : ByteArray)) ++ s)) = t)) (
           q (mkB (decide ((cutD ((t ++ (⟨#[(47 : UInt8)]⟩ : ByteArray)) ++ s)) = s)))) (
           q (mkB false)))) (
         q (mkB false))) (
        q (mkB false))) (
       q (mkB false)))) (
     q (mkB false))) (
    q (mkB false)))) := by kernel_rfl
theorem nba_ext {a b : BA} (h : a.data.toList = b.data.toList) : a = b := by
  obtain ⟨⟨a⟩⟩ := a; obtain ⟨⟨b⟩⟩ := b
  exact congrArg (fun l => (⟨⟨l⟩⟩ : ByteArray)) h
theorem next_list (s : BA) (a b : Nat) : (s.extract a b).data.toList = (s.data.toList.take b).drop a := by
  rw [ByteArray.data_extract, Array.toList_extract, List.extract_eq_take_drop, List.take_drop]
  rcases Nat.le_total a b with h | h
  · rw [Nat.add_sub_cancel' h]
  · rw [Nat.sub_eq_zero_of_le h, Nat.add_zero, List.drop_eq_nil_of_le (by rw [List.length_take]; omega), List.drop_eq_nil_of_le (by rw [List.length_take]; omega)]
theorem ndl (s : BA) : s.data.toList.length = s.size := Array.length_toList
def sSl : BA := ⟨#[47]⟩
theorem user_no {s : BA} (h : (47 : UInt8) ∈ s.data.toList) : userB s = false := by
  cases hu : userB s
  · rfl
  · simp only [userB, Bool.and_eq_true, decide_eq_true_eq, List.all_eq_true] at hu
    exact absurd (hu.2 47 h) (by decide)
/-- A text ahead of the first stroke, and what follows it. -/
theorem cut_at (u : BA) (a b : List UInt8) (h : u.data.toList = a ++ 47 :: b) (ha : (47 : UInt8) ∉ a) : cutI u = a.length ∧ (cutU u).data.toList = a ∧ (cutD u).data.toList = b := by
  have e : cutI u = a.length := by
    unfold cutI
    rw [h]
    refine indexByte_at _ _ _ (by simp) fun k hk hh => ha ?_
    rw [List.getElem?_append_left hk] at hh
    exact List.mem_of_getElem? hh
  have hs : u.size = a.length + 1 + b.length := by rw [← ndl, h]; simp; omega
  refine ⟨e, ?_, ?_⟩
  · rw [cutU, e, if_pos (by omega), next_list, h]; simp
  · rw [cutD, e, if_pos (by omega), next_list, h, hs]
    simp only [Int.toNat_natCast]
    rw [List.take_of_length_le (by simp; omega)]
    simp [List.drop_append]
theorem split_first : ∀ l : List UInt8, (47 : UInt8) ∈ l → ∃ a b, l = a ++ 47 :: b ∧ (47 : UInt8) ∉ a
  | [], h => by cases h
  | x :: l, h => by
    by_cases e : x = 47
    · subst e; exact ⟨[], l, rfl, by simp⟩
    · obtain ⟨a, b, h1, h2⟩ := split_first l (by rcases List.mem_cons.1 h with h | h; exact absurd h.symm e; exact h)
      exact ⟨x :: a, b, by rw [h1]; rfl, by simp [h2, Ne.symm e]⟩
theorem joined (s t : BA) : ((t ++ sSl) ++ s).data.toList = t.data.toList ++ 47 :: s.data.toList := by
  simp [sSl]
theorem names_yes (s t : BA) (h : userB t = true) : addrB ((t ++ sSl) ++ s) = userB s ∧ cutU ((t ++ sSl) ++ s) = t ∧ cutD ((t ++ sSl) ++ s) = s := by
  have hn : (47 : UInt8) ∉ t.data.toList := fun hm => by rw [user_no hm] at h; cases h
  obtain ⟨h1, h2, h3⟩ := cut_at _ _ _ (joined s t) hn
  have e1 := nba_ext h2
  have e2 := nba_ext h3
  have e3 : cutB ((t ++ sSl) ++ s) = true := by rw [cutB, h1]; exact decide_eq_true (by omega)
  exact ⟨by rw [addrB, e1, e2, e3, h]; simp, e1, e2⟩
theorem names_no (s t : BA) (h : userB t = false) : addrB ((t ++ sSl) ++ s) = false := by
  by_cases hm : (47 : UInt8) ∈ t.data.toList
  · obtain ⟨a, b, h1, h2⟩ := split_first _ hm
    have hj := joined s t
    rw [h1] at hj
    rw [List.append_assoc, List.cons_append] at hj
    obtain ⟨g1, g2, g3⟩ := cut_at _ _ _ hj h2
    have e3 : cutB ((t ++ sSl) ++ s) = true := by rw [cutB, g1]; exact decide_eq_true (by omega)
    have : userB (cutD ((t ++ sSl) ++ s)) = false := user_no (by rw [g3]; simp)
    rw [addrB, this, e3]; simp
  · obtain ⟨h1, h2, h3⟩ := cut_at _ _ _ (joined s t) hm
    rw [addrB, nba_ext h2, h]; rfl
def FNm : List AV → Option (Prop × AV) := fun al => match al with
  | [.d (.v (.string s)), .d (.v (.string t))] => some (s.size ≤ 1048576 ∧ t.size ≤ 1048576, mkB true)
  | _ => none
theorem cNm : PSound Tryd.prog 4 (detE FNm) := by
  refine det_fn (c := Tryd.b4) mixed KS_ok (gsound_pure cLive (gsound_det c25 (gsound_det c18 (gsound_det c19 (gsound_det c17 gsound_nil))))) Tryd.func4 rfl rfl Tryd.call4 fun al p r q hF hp hq => ?_
  unfold FNm at hF; split at hF <;> cases hF
  rename_i s t
  obtain ⟨h1, h2⟩ := hp
  have sl : sSl.size = 1 := rfl
  have z1 : s.size ≤ LIM := by unfold LIM; omega
  have z2 : t.size + sSl.size ≤ LIM := by unfold LIM; omega
  have z3 : (t ++ sSl).size + s.size ≤ LIM := by rw [ByteArray.size_append]; unfold LIM; omega
  have z4 : ((t ++ sSl) ++ s).size ≤ LIM := by rw [ByteArray.size_append]; exact z3
  refine cast (rNames s t q).symm ⟨rfl, z1, z1, z2, z3, z4, trivial, bcase_mk (fun h => ⟨trivial, trivial, trivial, ?_⟩) (fun h => ⟨trivial, trivial, ?_⟩)⟩
  · obtain ⟨e1, e2, e3⟩ := names_yes s t h
    unfold sSl at e1 e2 e3
    rw [e1, e2, e3]
    simp only [beq_self_eq_true, decide_true, bcase]
    cases addrB s <;> cases userB s <;> exact hq
  · have e1 := names_no s t h
    unfold sSl at e1
    rw [e1]
    simp only [beq_self_eq_true, decide_true, bcase]
    cases addrB s <;> exact hq
theorem tyargs2 {P : Program} {t u : TypeId} : ∀ {as' : List AV}, TyArgs P [t, u] as' → ∃ a b, as' = [a, b] ∧ (∃ ds, Ty P 12 t ds ∧ a = argAV (aggB P t) ds) ∧ ∃ ds, Ty P 12 u ds ∧ b = argAV (aggB P u) ds
  | [], h => h.elim
  | [_], h => h.2.elim
  | [a, b], h => ⟨a, b, rfl, h.1, h.2.1⟩
  | _ :: _ :: _ :: _, h => h.2.2.elim
theorem hNm : ∀ as', TyArgs Tryd.prog Tryd.f4.params.toList as' → ∃ p, FNm as' = some (p, mkB true) ∧ p := by
  intro as' h
  rw [Tryd.params4] at h
  obtain ⟨a, b, rfl, ha, hb⟩ := tyargs2 h
  obtain ⟨x, rfl, hx⟩ := arg_str Tryd.underlying9 ha
  obtain ⟨y, rfl, hy⟩ := arg_str Tryd.underlying9 hb
  exact ⟨_, rfl, hx, hy⟩
end Go.Proofs.YtoobhfbamikanaaDoor
