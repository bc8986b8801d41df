import Derived.Test.YthbejheedpdioaaDoorCrOps
import Derived.Test.YthbejheedpdioaaDoorCrCnt
import Derived.Test.YthbejheedpdioaaDoorShelf
import Derived.Test.YthbejheedpdioaaDoorCrLives
import Derived.Test.YthbejheedpdioaaDoorCrSame
set_option linter.unusedSimpArgs false
set_option linter.unusedVariables false
set_option maxRecDepth 10000
namespace Go.Proofs.YthbejheedpdioaaDoor
open Go Go.AM Go.RowKit
attribute [local irreducible] aUnr aUnS aCode
theorem CrOk.sub {l l' : FLs} (h : CrOk l) (hs : l'.Sublist l) : CrOk l' :=
  ⟨h.nd.sublist (hs.map _), h.kd.sublist (hs.map _), fun e he => h.key e (hs.subset he), fun e he => h.ms e (hs.subset he)⟩
end Go.Proofs.YthbejheedpdioaaDoor

namespace Go.Proofs.YthbejheedpdioaaDoor
open Go Go.AM Go.RowKit
attribute [local irreducible] aUnr aUnS aCode
theorem he_keep {l l' : FLs} {kind e : Int} {ty fr sh : ByteArray} (h : HeR l kind ty fr sh e l') (hC : CrOk l) (hn : cntL l ≤ 64) : CrOk l' ∧ cntL l' ≤ 64 := by
  cases h with
  | bad h => exact ⟨hC, hn⟩
  | full h1 h2 h3 h4 h5 h6 => exact ⟨hC, hn⟩
  | off h1 h2 h3 h =>
    refine ⟨h.ok, ?_⟩
    have hc := h.cnt
    have : (lvM (cutD fr) (devs l (cutU fr))).length ≤ (devs l (cutU fr)).length := by
      unfold lvM
      split
      · exact Nat.zero_le _
      · exact (del_sublK _).length_le
    omega
  | on h1 h2 h3 h4 h5 h =>
    refine ⟨h.ok, ?_⟩
    have hc := h.cnt
    have hs := (set_has (k := .s (cutD fr)) (v := mkS sh) (devs l (cutU fr))).2
    rcases h5 with h5 | h5
    · rw [h5] at hs; simp at hs; omega
    · split at hs <;> omega
theorem stz_cons (sl : List Stz) {i : Nat} (h : i < sl.length) : (stzL sl).getD ((i : Int).toNat) [] = stzD sl[i] := by rw [Int.toNat_natCast]; exact stzL_getD sl h
def FCs : List AV → Option (Prop × AV) := fun al => match al with
  | [.d (.sl es)] => some (∃ l : List Stz, es = stzL l ∧ l.length ≤ 1048576 ∧ ∀ s ∈ l, s.fit, mkB true)
  | _ => none
end Go.Proofs.YthbejheedpdioaaDoor

namespace Go.Proofs.YthbejheedpdioaaDoor
open Go Go.AM Go.RowKit
attribute [local irreducible] aUnr aUnS aCode
theorem mem_idx : ∀ (l : List UInt8) (c : UInt8), 0 ≤ Lib.indexByte l c ↔ c ∈ l
  | [], c => by simp [Lib.indexByte]
  | b :: l, c => by
    have ih := mem_idx l c
    have ge := Lib.indexByte_ge l c
    unfold Lib.indexByte
    by_cases h : b = c
    · simp [h]
    · have h' : ¬ c = b := fun e => h e.symm
      simp only [beq_iff_eq, h, if_false, List.mem_cons, h', false_or, ← ih]
      split <;> rename_i hh
      · omega
      · have : Lib.indexByte l c ≠ -1 := by simpa using hh
        omega
theorem cutB_iff (s : ByteArray) : cutB s = true ↔ (47 : UInt8) ∈ s.data.toList := by
  unfold cutB cutI
  rw [decide_eq_true_eq, ← mem_idx]
theorem cut_no {s : ByteArray} (h : cutB s = false) : cutU s = s ∧ cutD s = ⟨#[]⟩ := by
  have h : ¬ cutI s ≥ 0 := of_decide_eq_false h
  unfold cutU cutD
  rw [if_neg h, if_neg h]
  exact ⟨rfl, rfl⟩
def anyTo (u : ByteArray) (k : Nat) : Bool := (u.data.toList.take k).any (· == 47)
theorem anyTo_succ (u : ByteArray) {k : Nat} (h : k < u.size) : anyTo u (k + 1) = (anyTo u k || (((u.data.toList.getD ((k : Int).toNat) 0).toNat : Int) == 47)) := by
  have hl : k < u.data.toList.length := by rw [Array.length_toList]; exact h
  unfold anyTo
  rw [List.take_add_one, List.getElem?_eq_getElem hl, List.any_append, Int.toNat_natCast, List.getD_eq_getElem?_getD, List.getElem?_eq_getElem hl]
  congr 1
  simp only [Option.toList_some, List.any_cons, List.any_nil, Bool.or_false, Option.getD_some]
  rw [Bool.eq_iff_iff, beq_iff_eq, beq_iff_eq]
  constructor
  · intro e; rw [e]; rfl
  · intro e
    have : (u.data.toList[k]).toNat = (47 : UInt8).toNat := by
      have e2 : (47 : UInt8).toNat = 47 := rfl
      omega
    exact UInt8.toNat_inj.1 this
theorem anyTo_all (u : ByteArray) : anyTo u u.size = cutB u := by
  unfold anyTo
  rw [List.take_of_length_le (by rw [Array.length_toList]; exact Nat.le_refl _), Bool.eq_iff_iff, cutB_iff, List.any_eq_true]
  constructor
  · rintro ⟨x, hx, e⟩; rw [← beq_iff_eq.1 e]; exact hx
  · exact fun h => ⟨_, h, by simp⟩
def NoSl (l : FLs) : Prop := ∀ u d, (lk l u d).isSome = true → userB u = true
structure GoS (u : ByteArray) (l l' : FLs) : Prop where
  ok : CrOk l
  no : NoSl l
  ch : ChR (cutU u) l l' (lvM (cutD u) (devs l (cutU u)))
theorem GoS.lk {u : ByteArray} {l l' : FLs} (h : GoS u l l') (w e : ByteArray) : lk l' w e = if w = cutU u ∧ (cutD u = ⟨#[]⟩ ∨ e = cutD u) then none else lk l w e := lk_off h.ok h.ch w e
theorem GoS.none {u : ByteArray} {l l' : FLs} (h : GoS u l l') (hc : cutB u = false) : devs l' u = [] := by
  obtain ⟨e1, e2⟩ := cut_no hc
  rw [h.ch.dv, if_pos e1.symm, e2]
  rfl
theorem GoS.len {u : ByteArray} {l l' : FLs} (h : GoS u l l') {ks now : List ByteArray} (h1 : SortB ks (l.map (·.1))) (h2 : SortB now (l'.map (·.1))) : ks.length ≤ now.length + 1 := by
  have := nd_le (b := cutU u :: now) (sortB_nd h.ok h1) fun w hw => by
    obtain ⟨d, hd⟩ := (us_mem h.ok).1 ((sortB_mem h1).1 hw)
    by_cases e : w = cutU u
    · rw [e]; exact List.mem_cons_self
    · refine List.mem_cons_of_mem _ ((sortB_mem h2).2 ((us_mem h.ch.ok).2 ⟨d, ?_⟩))
      rw [h.lk, if_neg fun hh => e hh.1]
      exact hd
  rwa [List.length_cons] at this
end Go.Proofs.YthbejheedpdioaaDoor
