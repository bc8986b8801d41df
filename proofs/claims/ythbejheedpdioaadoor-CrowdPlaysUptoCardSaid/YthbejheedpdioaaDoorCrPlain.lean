import Derived.Test.YthbejheedpdioaaDoorCrHear
import Derived.Test.YthbejheedpdioaaDoorCrKeys
set_option linter.unusedSimpArgs false
set_option linter.unusedVariables false
namespace Go.Proofs.YthbejheedpdioaaDoor
open Go Go.AM Go.RowKit
abbrev BA := ByteArray
def lk (l : FLs) (u d : BA) : Option BA := (findKeyA (.s d) (devs l u)).map strA
theorem lk_has (l : FLs) (u d : BA) : hasK (.s d) (devs l u) = (lk l u d).isSome := by unfold lk hasK; rw [Option.isSome_map]
theorem lk_get (l : FLs) (u d : BA) : getS (.s d) (devs l u) = (lk l u d).getD ⟨#[]⟩ := by
  unfold lk getS
  cases findKeyA (.s d) (devs l u) <;> rfl
theorem find_set {k k' : Key} {v : AV} : ∀ m : MapL, findKeyA k' (setKeyA k v m) = if k' = k then some v else findKeyA k' m
  | [] => by
    simp only [setKeyA, findKeyA]
    by_cases h : k = k'
    · rw [if_pos h, if_pos h.symm]
    · rw [if_neg h, if_neg fun e => h e.symm]
  | (j, x) :: m => by
    simp only [setKeyA]
    by_cases h : j = k
    · subst h
      rw [if_pos rfl]
      simp only [findKeyA]
      by_cases h2 : j = k'
      · rw [if_pos h2, if_pos h2.symm]
      · rw [if_neg h2, if_neg (fun e => h2 e.symm), if_neg h2]
    · rw [if_neg h]
      simp only [findKeyA, find_set m]
      by_cases h2 : j = k'
      · subst h2
        rw [if_pos rfl, if_neg h, if_pos rfl]
      · rw [if_neg h2, if_neg h2]
theorem find_no {k : Key} : ∀ {m : MapL}, k ∉ m.map (·.1) → findKeyA k m = none
  | [], _ => rfl
  | (j, x) :: m, h => by
    rw [List.map_cons, List.mem_cons, not_or] at h
    simp only [findKeyA]
    rw [if_neg fun e => h.1 e.symm]
    exact find_no h.2
theorem find_del {k k' : Key} : ∀ {m : MapL}, (m.map (·.1)).Nodup → findKeyA k' (delKeyA k m) = if k' = k then none else findKeyA k' m
  | [], _ => by simp [delKeyA, findKeyA]
  | (j, x) :: m, hn => by
    rw [List.map_cons, List.nodup_cons] at hn
    simp only [delKeyA]
    by_cases h : j = k
    · subst h
      rw [if_pos rfl]
      by_cases h2 : k' = j
      · subst h2; rw [if_pos rfl]; exact find_no hn.1
      · rw [if_neg h2]; simp only [findKeyA]; rw [if_neg fun e => h2 e.symm]
    · rw [if_neg h]
      simp only [findKeyA, find_del hn.2]
      by_cases h2 : j = k'
      · subst h2; rw [if_pos rfl, if_neg h, if_pos rfl]
      · rw [if_neg h2, if_neg h2]
theorem devs_ok {l : FLs} (h : CrOk l) (u : BA) : MOk (devs l u) := by
  rcases devs_cases h u with ⟨b, r, _, h1, _, h3⟩ | ⟨h1, _⟩
  · rw [h1]; exact h3
  · rw [h1]; exact ⟨by simp, by simp⟩
theorem lk_on {l l' : FLs} {u d sh : BA} (h : ChR u l l' (setKeyA (.s d) (mkS sh) (devs l u))) (w e : BA) : lk l' w e = if w = u ∧ e = d then some sh else lk l w e := by
  unfold lk
  rw [h.dv w]
  by_cases hw : w = u
  · subst hw
    rw [if_pos rfl, find_set]
    by_cases he : e = d
    · subst he; rw [if_pos rfl, if_pos ⟨rfl, rfl⟩]; rfl
    · rw [if_neg (fun h => he (Key.s.inj h)), if_neg (fun h => he h.2)]
  · rw [if_neg hw, if_neg fun h => hw h.1]
theorem lk_off {l l' : FLs} (hC : CrOk l) {u d : BA} (h : ChR u l l' (lvM d (devs l u))) (w e : BA) : lk l' w e = if w = u ∧ (d = ⟨#[]⟩ ∨ e = d) then none else lk l w e := by
  unfold lk
  rw [h.dv w]
  by_cases hw : w = u
  · subst hw
    rw [if_pos rfl]
    unfold lvM
    by_cases hd : d = ⟨#[]⟩
    · rw [if_pos hd, if_pos ⟨rfl, .inl hd⟩]; rfl
    · rw [if_neg hd, find_del (devs_ok hC w).nd]
      by_cases he : e = d
      · subst he; rw [if_pos rfl, if_pos ⟨rfl, .inr rfl⟩]; rfl
      · rw [if_neg (fun h => he (Key.s.inj h)), if_neg]
        rintro ⟨_, h | h⟩
        · exact hd h
        · exact he h
  · rw [if_neg hw, if_neg fun h => hw h.1]
theorem find_memk {k : Key} : ∀ {m : MapL}, (findKeyA k m).isSome = true ↔ k ∈ m.map (·.1)
  | [] => by simp [findKeyA]
  | (j, x) :: m => by
    simp only [findKeyA, List.map_cons, List.mem_cons]
    by_cases h : j = k
    · subst h; simp
    · rw [if_neg h, find_memk]
      exact ⟨.inr, fun h2 => h2.elim (fun e => absurd e.symm h) id⟩
def prs (l : FLs) : List (BA × BA) := l.flatMap fun e => e.2.2.m.map fun p => (keyS e.1, keyS p.1)
theorem prs_len (l : FLs) : (prs l).length = cntL l := by
  unfold prs cntL
  rw [List.length_flatMap]
  congr 1
  exact List.map_congr_left fun e _ => List.length_map ..
theorem keyS_inj {l : List Key} (h : ∀ k ∈ l, ∃ u, k = Key.s u) {a b : Key} (ha : a ∈ l) (hb : b ∈ l) (e : keyS a = keyS b) : a = b := by
  obtain ⟨u, rfl⟩ := h a ha
  obtain ⟨v, rfl⟩ := h b hb
  exact congrArg Key.s e
theorem nodup_map_on {α β : Type} {f : α → β} : ∀ {l : List α}, l.Nodup → (∀ a ∈ l, ∀ b ∈ l, f a = f b → a = b) → (l.map f).Nodup
  | [], _, _ => List.nodup_nil
  | x :: l, hn, h => by
    rw [List.nodup_cons] at hn
    rw [List.map_cons, List.nodup_cons]
    refine ⟨fun hm => ?_, nodup_map_on hn.2 fun a ha b hb => h a (by simp [ha]) b (by simp [hb])⟩
    obtain ⟨y, hy, e⟩ := List.mem_map.1 hm
    have := h y (by simp [hy]) x (by simp) e
    subst this
    exact hn.1 hy
theorem nd_of_map {α β : Type} {f : α → β} : ∀ {l : List α}, (l.map f).Nodup → l.Nodup
  | [], _ => List.nodup_nil
  | x :: l, h => by
    rw [List.map_cons, List.nodup_cons] at h
    exact List.nodup_cons.2 ⟨fun hm => h.1 (List.mem_map_of_mem hm), nd_of_map h.2⟩
theorem nd_le {α : Type} [DecidableEq α] : ∀ {a b : List α}, a.Nodup → (∀ x ∈ a, x ∈ b) → a.length ≤ b.length
  | [], b, _, _ => Nat.zero_le _
  | x :: a, b, hn, h => by
    rw [List.nodup_cons] at hn
    have h1 := nd_le (b := b.erase x) hn.2 fun y hy => by
      have : y ≠ x := fun e => hn.1 (e ▸ hy)
      exact (List.mem_erase_of_ne this).2 (h y (by simp [hy]))
    have h2 := List.length_erase_of_mem (h x (by simp))
    have h3 : 0 < b.length := List.length_pos_of_mem (h x (by simp))
    rw [List.length_cons]
    omega
theorem mok_nd {m : MapL} (h : MOk m) : (m.map fun p => keyS p.1).Nodup := by
  have : (m.map fun p => keyS p.1) = (m.map (·.1)).map keyS := by rw [List.map_map]; rfl
  rw [this]
  refine nodup_map_on h.nd fun a ha b hb => keyS_inj (l := m.map (·.1)) (fun k hk => ?_) ha hb
  obtain ⟨p, hp, rfl⟩ := List.mem_map.1 hk
  obtain ⟨d, v, rfl, _⟩ := h.str p hp
  exact ⟨d, rfl⟩
theorem prs_nd {l : FLs} (h : CrOk l) : (prs l).Nodup := by
  have go : ∀ l : FLs, (l.map (·.1)).Nodup → (∀ e ∈ l, ∃ u, e.1 = Key.s u) → (∀ e ∈ l, MOk e.2.2.m) → (prs l).Nodup := fun l => by
    induction l with
    | nil => intro _ _ _; exact List.nodup_nil
    | cons e l ih =>
      intro h1 h2 h3
      rw [List.map_cons, List.nodup_cons] at h1
      unfold prs
      rw [List.flatMap_cons, List.nodup_append]
      refine ⟨?_, ih h1.2 (fun x hx => h2 x (by simp [hx])) (fun x hx => h3 x (by simp [hx])), fun a ha b hb eab => ?_⟩
      · refine nodup_map_on (nd_of_map (mok_nd (h3 e (by simp)))) fun a ha b hb eq => ?_
        have hnd := mok_nd (h3 e (by simp))
        rw [List.Nodup, List.pairwise_iff_getElem] at hnd
        obtain ⟨i, hi, rfl⟩ := List.getElem_of_mem ha
        obtain ⟨j, hj, rfl⟩ := List.getElem_of_mem hb
        have e2 := (Prod.mk.inj eq).2
        rcases Nat.lt_trichotomy i j with hlt | he | hlt
        · exact absurd (by rw [List.getElem_map, List.getElem_map]; exact e2) (hnd i j (by simpa using hi) (by simpa using hj) hlt)
        · subst he; rfl
        · exact absurd (by rw [List.getElem_map, List.getElem_map]; exact e2.symm) (hnd j i (by simpa using hj) (by simpa using hi) hlt)
      · subst eab
        obtain ⟨p, _, rfl⟩ := List.mem_map.1 ha
        obtain ⟨x, hx, hb⟩ := List.mem_flatMap.1 hb
        obtain ⟨p', _, e2⟩ := List.mem_map.1 hb
        obtain ⟨u, hu⟩ := h2 e (by simp)
        obtain ⟨v, hv⟩ := h2 x (by simp [hx])
        have e3 := (Prod.mk.inj e2).1
        rw [hu, hv] at e3
        have e4 : v = u := e3
        exact h1.1 (by rw [hu, ← e4, ← hv]; exact List.mem_map_of_mem (f := fun x : Ent3 => x.1) hx)
  exact go l h.kd (fun e he => let ⟨u, h1, _⟩ := h.key e he; ⟨u, h1⟩) fun e he => (h.ms e he).2
theorem prs_mem {l : FLs} (h : CrOk l) {u d : BA} : (u, d) ∈ prs l ↔ (lk l u d).isSome = true := by
  have e0 : (lk l u d).isSome = true ↔ Key.s d ∈ (devs l u).map (·.1) := by unfold lk; rw [Option.isSome_map, find_memk]
  rw [e0]
  unfold prs
  rw [List.mem_flatMap]
  constructor
  · rintro ⟨⟨k, b, r⟩, he, hm⟩
    obtain ⟨p, hp, e2⟩ := List.mem_map.1 hm
    obtain ⟨v, hv, _⟩ := h.key _ he
    obtain ⟨d', x, rfl, _⟩ := (h.ms _ he).2.str p hp
    simp only at hv
    subst hv
    obtain ⟨rfl, rfl⟩ := Prod.mk.inj e2
    simp only [keyS]
    rw [devs_mem h he]
    exact List.mem_map_of_mem (f := fun x : Key × AV => x.1) hp
  · intro hd
    rcases devs_cases h u with ⟨b, r, h1, h2, _⟩ | ⟨h2, _⟩
    · rw [h2] at hd
      obtain ⟨p, hp, e⟩ := List.mem_map.1 hd
      refine ⟨_, h1, List.mem_map.2 ⟨p, hp, ?_⟩⟩
      rw [e]; rfl
    · rw [h2] at hd; cases hd
theorem us_mem {l : FLs} (h : CrOk l) {u : BA} : Key.s u ∈ l.map (·.1) ↔ ∃ d, (lk l u d).isSome = true := by
  constructor
  · intro hm
    obtain ⟨⟨k, b, r⟩, he, e⟩ := List.mem_map.1 hm
    simp only at e
    subst e
    have h2 := (h.ms _ he).1
    cases hr : r.m with
    | nil => exact absurd hr h2
    | cons p m =>
      have hp : p ∈ r.m := by rw [hr]; simp
      obtain ⟨d, x, rfl, _⟩ := (h.ms _ he).2.str p hp
      refine ⟨d, (prs_mem h).1 (List.mem_flatMap.2 ⟨_, he, List.mem_map.2 ⟨_, hp, rfl⟩⟩)⟩
  · rintro ⟨d, hd⟩
    obtain ⟨⟨k, b, r⟩, he, hm⟩ := List.mem_flatMap.1 ((prs_mem h).2 hd)
    obtain ⟨p, hp, e⟩ := List.mem_map.1 hm
    obtain ⟨v, hv, _⟩ := h.key _ he
    simp only at hv
    subst hv
    have : v = u := (Prod.mk.inj e).1
    rw [← this]
    exact List.mem_map_of_mem (f := fun x : Ent3 => x.1) he
theorem bytes_ext {a b : ByteArray} (h : a.data.toList = b.data.toList) : a = b := by
  cases a; cases b
  congr 1
  exact Array.toList_inj.1 h
theorem u8le_antisymm {a b : List UInt8} (h1 : a ≤ b) (h2 : b ≤ a) : a = b := List.le_antisymm h1 h2
theorem perm_sorted {a b : List BA} (hp : a.Perm b) (ha : a.Pairwise fun a b => a.data.toList ≤ b.data.toList) (hb : b.Pairwise fun a b => a.data.toList ≤ b.data.toList) : a = b :=
  hp.eq_of_pairwise (fun x y _ _ h1 h2 => bytes_ext (u8le_antisymm h1 h2)) ha hb
theorem s_perm {a b : List BA} (h : (a.map Key.s).Perm (b.map Key.s)) : a.Perm b := by
  have := h.map keyS
  rw [List.map_map, List.map_map] at this
  simpa [Function.comp_def, keyS] using this
theorem sortB_mem {l : FLs} {ks : List BA} (h1 : SortB ks (l.map (·.1))) {u : BA} : u ∈ ks ↔ Key.s u ∈ l.map (·.1) := by
  rw [← h1.perm.mem_iff]
  constructor
  · exact fun h => List.mem_map_of_mem h
  · intro h
    obtain ⟨v, hv, e⟩ := List.mem_map.1 h
    cases e; exact hv
theorem sortB_nd {l : FLs} (h : CrOk l) {ks : List BA} (h1 : SortB ks (l.map (·.1))) : ks.Nodup := nd_of_map (h1.perm.nodup_iff.2 h.kd)
theorem devs_len (l : FLs) {ks : List BA} {u : BA} (h : SortB ks ((devs l u).map (·.1))) : ks.length = (devs l u).length := by
  have := h.perm.length_eq
  simpa using this
theorem cutI_addr {s : ByteArray} (h : cutB s = true) : s = cutU s ++ ⟨#[47]⟩ ++ cutD s := by
  have h : cutI s ≥ 0 := of_decide_eq_true h
  have h1 := cutI_lt h
  have e : Lib.indexByte s.data.toList 47 = ((cutI s).toNat : Int) := by unfold cutI at *; omega
  have h2 := (Lib.indexByte_some e).1
  unfold cutU cutD
  rw [if_pos h, if_pos h]
  generalize (cutI s).toNat = n at h1 h2
  apply bytes_ext
  have el : s.data.toList.length = s.size := Array.length_toList
  have hn : n < s.data.toList.length := by omega
  have e47 : s.data.toList[n] = 47 := by rw [List.getElem?_eq_getElem hn] at h2; exact Option.some.inj h2
  have : s.data.toList = s.data.toList.take n ++ (s.data.toList[n] :: s.data.toList.drop (n + 1)) := by rw [← List.drop_eq_getElem_cons hn, List.take_append_drop]
  rw [e47] at this
  have e0 : ((s.extract 0 n ++ (⟨#[47]⟩ : ByteArray) ++ s.extract (n + 1) s.size)).data.toList = s.data.toList.take n ++ [47] ++ s.data.toList.drop (n + 1) := by
    have e9 : List.take (s.size - (n + 1)) (List.drop (n + 1) s.data.toList) = List.drop (n + 1) s.data.toList := List.take_of_length_le (by rw [List.length_drop]; omega)
    simp [ByteArray.data_append, ByteArray.data_extract, List.extract_eq_take_drop, e9]
  rw [e0]
  conv => lhs; rw [this]
  simp
theorem empty_user : userB ⟨#[]⟩ = false := by decide
end Go.Proofs.YthbejheedpdioaaDoor
