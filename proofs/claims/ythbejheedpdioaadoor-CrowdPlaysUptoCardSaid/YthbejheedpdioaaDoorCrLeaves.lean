import Derived.Test.YthbejheedpdioaaDoorCrLives
import Derived.Test.YthbejheedpdioaaDoorCrSame
import Derived.Test.YthbejheedpdioaaDoorCrFgt
set_option linter.unusedSimpArgs false
set_option linter.unusedVariables false
set_option maxRecDepth 10000
namespace Go.Proofs.YthbejheedpdioaaDoor
open Go Go.AM Go.RowKit
attribute [local irreducible] aUnr aUnS aCode
theorem he_keep {l l' : FLs} {kind e : Int} {ty fr sh : ByteArray} (h : HeR l kind ty fr sh e l') (hC : CrOk l) (hn : cntL l ≤ 64) : CrOk l' ∧ cntL l' ≤ 64 := by
  cases h with
  | bad h => exact ⟨hC, hn⟩
  | full h1 h2 h3 h4 h5 h6 => exact ⟨hC, hn⟩
  | off h1 h2 h3 h =>
    refine ⟨h.ok, ?_⟩
    have hc := h.cnt
    have : (lvM (cutD fr) (devs l (cutU fr))).length ≤ (devs l (cutU fr)).length := by
      unfold lvM
      split
      · exact Nat.zero_le _
      · exact (del_sublK _).length_le
    omega
  | on h1 h2 h3 h4 h5 h =>
    refine ⟨h.ok, ?_⟩
    have hc := h.cnt
    have hs := (set_has (k := .s (cutD fr)) (v := mkS sh) (devs l (cutU fr))).2
    rcases h5 with h5 | h5
    · rw [h5] at hs; simp at hs; omega
    · split at hs <;> omega
theorem sum_rng {α : Type} {g : α → Nat} : ∀ (l : List α) (f : Nat → Nat), (∀ (n : Nat) (h : n < l.length), f n = g l[n]) → ((List.range l.length).map f).sum = (l.map g).sum
  | [], _, _ => rfl
  | e :: l, f, h => by
    rw [List.length_cons, List.range_succ_eq_map, List.map_cons, List.sum_cons, List.map_map, List.map_cons, List.sum_cons, sum_rng l (f ∘ Nat.succ) fun n hn => h (n + 1) (by simpa using hn), h 0 (by simp)]
    rfl
theorem sumV_le {f : Nat → Nat} {k : Nat} {vis : List Nat} (hn : vis.Nodup) (hl : ∀ n ∈ vis, n < k) : sumV f vis ≤ sumV f (List.range k) := by
  have h1 := ((rest_perm hn hl).map f).sum_nat
  rw [List.map_append, List.sum_append] at h1
  unfold sumV
  omega
def valAt (m : MapL) (n : Nat) : Nat := match m[n]? with | some p => (intA p.2).toNat | none => 0
theorem ct_nat : ∀ (m : MapL), (∀ p ∈ m, 0 ≤ intA p.2) → (((m.map fun p => (intA p.2).toNat).sum : Nat) : Int) = (m.map fun p => intA p.2).sum
  | [], _ => rfl
  | p :: m, h => by
    have h1 := ct_nat m fun x hx => h x (by simp [hx])
    have h2 := h p (by simp)
    simp only [List.map_cons, List.sum_cons]
    omega
theorem ct_sum {m : MapL} {f : ByteArray → Nat} {T : Nat} (h : CtM m f T) : sumV (valAt m) (List.range m.length) = T := by
  have h1 := ct_nat m fun p hp => by
    obtain ⟨d, rfl, _, _⟩ := h.val p hp
    simp [mkI, intA]
  rw [h.tot] at h1
  unfold sumV
  rw [sum_rng (g := fun p : Key × AV => (intA p.2).toNat) m (valAt m) fun n hn => by simp [valAt, hn]]
  omega
end Go.Proofs.YthbejheedpdioaaDoor

namespace Go.Proofs.YthbejheedpdioaaDoor
open Go Go.AM Go.RowKit
attribute [local irreducible] aUnr aUnS aCode
theorem cut_no {s : ByteArray} (h : cutB s = false) : cutU s = s ∧ cutD s = ⟨#[]⟩ := by
  have h : ¬ cutI s ≥ 0 := of_decide_eq_false h
  unfold cutU cutD
  rw [if_neg h, if_neg h]
  exact ⟨rfl, rfl⟩
def NoSl (l : FLs) : Prop := ∀ u d, (lk l u d).isSome = true → userB u = true
structure GoS (u : ByteArray) (l l' : FLs) : Prop where
  ok : CrOk l
  no : NoSl l
  ch : ChR (cutU u) l l' (lvM (cutD u) (devs l (cutU u)))
theorem GoS.lk {u : ByteArray} {l l' : FLs} (h : GoS u l l') (w e : ByteArray) : lk l' w e = if w = cutU u ∧ (cutD u = ⟨#[]⟩ ∨ e = cutD u) then none else lk l w e := lk_off h.ok h.ch w e
theorem GoS.none {u : ByteArray} {l l' : FLs} (h : GoS u l l') (hc : cutB u = false) : devs l' u = [] := by
  obtain ⟨e1, e2⟩ := cut_no hc
  rw [h.ch.dv, if_pos e1.symm, e2]
  rfl
theorem GoS.len {u : ByteArray} {l l' : FLs} (h : GoS u l l') {ks now : List ByteArray} (h1 : SortB ks (l.map (·.1))) (h2 : SortB now (l'.map (·.1))) : ks.length ≤ now.length + 1 := by
  have := nd_le (b := cutU u :: now) (sortB_nd h.ok h1) fun w hw => by
    obtain ⟨d, hd⟩ := (us_mem h.ok).1 ((sortB_mem h1).1 hw)
    by_cases e : w = cutU u
    · rw [e]; exact List.mem_cons_self
    · refine List.mem_cons_of_mem _ ((sortB_mem h2).2 ((us_mem h.ch.ok).2 ⟨d, ?_⟩))
      rw [h.lk, if_neg fun hh => e hh.1]
      exact hd
  rwa [List.length_cons] at this
end Go.Proofs.YthbejheedpdioaaDoor
