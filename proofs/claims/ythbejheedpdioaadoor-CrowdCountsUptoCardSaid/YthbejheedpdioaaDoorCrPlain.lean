import Derived.Test.YthbejheedpdioaaDoorCrHear
import Derived.Test.YthbejheedpdioaaDoorCrKeys
set_option linter.unusedSimpArgs false
set_option linter.unusedVariables false
namespace Go.Proofs.YthbejheedpdioaaDoor
open Go Go.AM Go.RowKit
abbrev BA := ByteArray
def lk (l : FLs) (u d : BA) : Option BA := (findKeyA (.s d) (devs l u)).map strA
theorem find_set {k k' : Key} {v : AV} : ∀ m : MapL, findKeyA k' (setKeyA k v m) = if k' = k then some v else findKeyA k' m
  | [] => by
    simp only [setKeyA, findKeyA]
    by_cases h : k = k'
    · rw [if_pos h, if_pos h.symm]
    · rw [if_neg h, if_neg fun e => h e.symm]
  | (j, x) :: m => by
    simp only [setKeyA]
    by_cases h : j = k
    · subst h
      rw [if_pos rfl]
      simp only [findKeyA]
      by_cases h2 : j = k'
      · rw [if_pos h2, if_pos h2.symm]
      · rw [if_neg h2, if_neg (fun e => h2 e.symm), if_neg h2]
    · rw [if_neg h]
      simp only [findKeyA, find_set m]
      by_cases h2 : j = k'
      · subst h2
        rw [if_pos rfl, if_neg h, if_pos rfl]
      · rw [if_neg h2, if_neg h2]
theorem find_memk {k : Key} : ∀ {m : MapL}, (findKeyA k m).isSome = true ↔ k ∈ m.map (·.1)
  | [] => by simp [findKeyA]
  | (j, x) :: m => by
    simp only [findKeyA, List.map_cons, List.mem_cons]
    by_cases h : j = k
    · subst h; simp
    · rw [if_neg h, find_memk]
      exact ⟨.inr, fun h2 => h2.elim (fun e => absurd e.symm h) id⟩
def prs (l : FLs) : List (BA × BA) := l.flatMap fun e => e.2.2.m.map fun p => (keyS e.1, keyS p.1)
theorem nd_of_map {α β : Type} {f : α → β} : ∀ {l : List α}, (l.map f).Nodup → l.Nodup
  | [], _ => List.nodup_nil
  | x :: l, h => by
    rw [List.map_cons, List.nodup_cons] at h
    exact List.nodup_cons.2 ⟨fun hm => h.1 (List.mem_map_of_mem hm), nd_of_map h.2⟩
theorem prs_mem {l : FLs} (h : CrOk l) {u d : BA} : (u, d) ∈ prs l ↔ (lk l u d).isSome = true := by
  have e0 : (lk l u d).isSome = true ↔ Key.s d ∈ (devs l u).map (·.1) := by unfold lk; rw [Option.isSome_map, find_memk]
  rw [e0]
  unfold prs
  rw [List.mem_flatMap]
  constructor
  · rintro ⟨⟨k, b, r⟩, he, hm⟩
    obtain ⟨p, hp, e2⟩ := List.mem_map.1 hm
    obtain ⟨v, hv, _⟩ := h.key _ he
    obtain ⟨d', x, rfl, _⟩ := (h.ms _ he).2.str p hp
    simp only at hv
    subst hv
    obtain ⟨rfl, rfl⟩ := Prod.mk.inj e2
    simp only [keyS]
    rw [devs_mem h he]
    exact List.mem_map_of_mem (f := fun x : Key × AV => x.1) hp
  · intro hd
    rcases devs_cases h u with ⟨b, r, h1, h2, _⟩ | ⟨h2, _⟩
    · rw [h2] at hd
      obtain ⟨p, hp, e⟩ := List.mem_map.1 hd
      refine ⟨_, h1, List.mem_map.2 ⟨p, hp, ?_⟩⟩
      rw [e]; rfl
    · rw [h2] at hd; cases hd
theorem us_mem {l : FLs} (h : CrOk l) {u : BA} : Key.s u ∈ l.map (·.1) ↔ ∃ d, (lk l u d).isSome = true := by
  constructor
  · intro hm
    obtain ⟨⟨k, b, r⟩, he, e⟩ := List.mem_map.1 hm
    simp only at e
    subst e
    have h2 := (h.ms _ he).1
    cases hr : r.m with
    | nil => exact absurd hr h2
    | cons p m =>
      have hp : p ∈ r.m := by rw [hr]; simp
      obtain ⟨d, x, rfl, _⟩ := (h.ms _ he).2.str p hp
      refine ⟨d, (prs_mem h).1 (List.mem_flatMap.2 ⟨_, he, List.mem_map.2 ⟨_, hp, rfl⟩⟩)⟩
  · rintro ⟨d, hd⟩
    obtain ⟨⟨k, b, r⟩, he, hm⟩ := List.mem_flatMap.1 ((prs_mem h).2 hd)
    obtain ⟨p, hp, e⟩ := List.mem_map.1 hm
    obtain ⟨v, hv, _⟩ := h.key _ he
    simp only at hv
    subst hv
    have : v = u := (Prod.mk.inj e).1
    rw [← this]
    exact List.mem_map_of_mem (f := fun x : Ent3 => x.1) he
theorem bytes_ext {a b : ByteArray} (h : a.data.toList = b.data.toList) : a = b := by
  cases a; cases b
  congr 1
  exact Array.toList_inj.1 h
theorem u8le_antisymm {a b : List UInt8} (h1 : a ≤ b) (h2 : b ≤ a) : a = b := List.le_antisymm h1 h2
theorem perm_sorted {a b : List BA} (hp : a.Perm b) (ha : a.Pairwise fun a b => a.data.toList ≤ b.data.toList) (hb : b.Pairwise fun a b => a.data.toList ≤ b.data.toList) : a = b :=
  hp.eq_of_pairwise (fun x y _ _ h1 h2 => bytes_ext (u8le_antisymm h1 h2)) ha hb
theorem s_perm {a b : List BA} (h : (a.map Key.s).Perm (b.map Key.s)) : a.Perm b := by
  have := h.map keyS
  rw [List.map_map, List.map_map] at this
  simpa [Function.comp_def, keyS] using this
theorem sortB_mem {l : FLs} {ks : List BA} (h1 : SortB ks (l.map (·.1))) {u : BA} : u ∈ ks ↔ Key.s u ∈ l.map (·.1) := by
  rw [← h1.perm.mem_iff]
  constructor
  · exact fun h => List.mem_map_of_mem h
  · intro h
    obtain ⟨v, hv, e⟩ := List.mem_map.1 h
    cases e; exact hv
theorem sortB_nd {l : FLs} (h : CrOk l) {ks : List BA} (h1 : SortB ks (l.map (·.1))) : ks.Nodup := nd_of_map (h1.perm.nodup_iff.2 h.kd)
def sumU (l : FLs) (ks : List BA) : Nat := (ks.map fun u => (devs l u).length).sum
theorem sumU_all {l : FLs} (h : CrOk l) {ks : List BA} (h1 : SortB ks (l.map (·.1))) : sumU l ks = cntL l := by
  have e : sumU l ks = ((ks.map Key.s).map fun k => (devs l (keyS k)).length).sum := by
    unfold sumU; rw [List.map_map]; rfl
  rw [e, (h1.perm.map _).sum_nat, List.map_map]
  unfold cntL
  congr 1
  refine List.map_congr_left fun x hx => ?_
  obtain ⟨u, hu, _⟩ := h.key _ hx
  obtain ⟨k, b, r⟩ := x
  simp only at hu
  subst hu
  show (devs l u).length = r.m.length
  rw [devs_mem h hx]
theorem sumU_take (l : FLs) (ks : List BA) (j : Nat) : sumU l (ks.take j) ≤ sumU l ks := by
  have : sumU l ks = sumU l (ks.take j) + sumU l (ks.drop j) := by
    unfold sumU
    rw [← List.sum_append, ← List.map_append, List.take_append_drop]
  omega
theorem sumU_succ (l : FLs) (ks : List BA) {j : Nat} (h : j < ks.length) : sumU l (ks.take (j + 1)) = sumU l (ks.take j) + (devs l ks[j]).length := by
  unfold sumU
  rw [List.take_add_one, List.getElem?_eq_getElem h, List.map_append, List.sum_append]
  simp
theorem devs_len (l : FLs) {ks : List BA} {u : BA} (h : SortB ks ((devs l u).map (·.1))) : ks.length = (devs l u).length := by
  have := h.perm.length_eq
  simpa using this
end Go.Proofs.YthbejheedpdioaaDoor
