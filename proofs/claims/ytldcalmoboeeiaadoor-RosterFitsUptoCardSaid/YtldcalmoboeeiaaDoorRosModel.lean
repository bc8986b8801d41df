import Derived.Test.YtldcalmoboeeiaaDoorRosName
import Derived.Test.YtldcalmoboeeiaaDoorRosDoR
set_option linter.unusedSimpArgs false
set_option linter.unusedVariables false
namespace Go.Proofs.YtldcalmoboeeiaaDoor
open Go Go.AM Go.RowKit
/-- What comes of a call that may turn a book. -/
structure Out where
  sd : Sds
  nm : Nms
  vs : Vss
  p : List BA
  t : List Td
  e : Int
def turnO (us : List BA) (sd : Sds) (nm : Nms) (vs : Vss) (u c : BA) (sd' : Sds) (nm' : Nms) (T : List Td) : Out := ⟨sd', nm', bumps vs (pushM us sd sd' nm nm' u c), pushM us sd sd' nm nm' u c, T, 0⟩
def errO (sd : Sds) (nm : Nms) (vs : Vss) (e : Int) : Out := ⟨sd, nm, vs, [], [], e⟩
def fineA (act : Int) : Bool := decide (1 ≤ act) && decide (act ≤ 4)
def nameO (us : List BA) (sd : Sds) (nm : Nms) (vs : Vss) (u c x : BA) : Out :=
  if mayM us sd nm u c (fineM x) true = 0 then turnO us sd nm vs u c sd (aset (u, c) x nm) [] else errO sd nm vs (mayM us sd nm u c (fineM x) true)
def actO (us : List BA) (sd : Sds) (nm : Nms) (vs : Vss) (u c : BA) (act : Int) : Out :=
  if mayM us sd nm u c (fineA act) (act == 1) = 0 then turnO us sd nm vs u c (actSd sd u c act) (actNm nm u c act) (toldM sd u c act) else errO sd nm vs (mayM us sd nm u c (fineA act) (act == 1))
def remO (us : List BA) (sd : Sds) (nm : Nms) (vs : Vss) (u c : BA) : Out :=
  if isC nm u c = true then turnO us sd nm vs u c (remSd sd u c) (adel (u, c) nm) (remTd sd u c) else errO sd nm vs 7
theorem both_ok : ∀ (a1 a2 a3 a4 b1 b2 b3 b4 : Bool), rightM ⟨a1, a2, a3, a4⟩ = true → rightM ⟨b1, b2, b3, b4⟩ = true → fitM ⟨a1, a2, a3, a4⟩ ⟨b1, b2, b3, b4⟩ = true → ∀ act ∈ ([1, 2, 3, 4] : List Int),
    rightM (bothM ⟨a1, a2, a3, a4⟩ ⟨b1, b2, b3, b4⟩ act).1 = true ∧ rightM (bothM ⟨a1, a2, a3, a4⟩ ⟨b1, b2, b3, b4⟩ act).2.1 = true ∧ fitM (bothM ⟨a1, a2, a3, a4⟩ ⟨b1, b2, b3, b4⟩ act).1 (bothM ⟨a1, a2, a3, a4⟩ ⟨b1, b2, b3, b4⟩ act).2.1 = true := by decide
theorem fit_symm {a b : Sd} (h : fitM a b = true) : fitM b a = true := by
  obtain ⟨a1, a2, a3, a4⟩ := a
  obtain ⟨b1, b2, b3, b4⟩ := b
  revert h a1 a2 a3 a4 b1 b2 b3 b4; decide
theorem both_good {a b : Sd} (h1 : rightM a = true) (h2 : rightM b = true) (h3 : fitM a b = true) {act : Int} (h : fineA act = true) : rightM (bothM a b act).1 = true ∧ rightM (bothM a b act).2.1 = true ∧ fitM (bothM a b act).1 (bothM a b act).2.1 = true := by
  refine both_ok a.t a.f a.a a.w b.t b.f b.a b.w h1 h2 h3 act ?_
  have : act = 1 ∨ act = 2 ∨ act = 3 ∨ act = 4 := by simp [fineA] at h; omega
  rcases this with rfl | rfl | rfl | rfl <;> decide
theorem side_set (sd : Sds) (k : BA × BA) (x : Sd) (u c : BA) : sideOf (aset k x sd) u c = if (u, c) = k then x else sideOf sd u c := by
  unfold sideOf
  rw [alk_set]
  split <;> rfl
theorem side_act {sd : Sds} {u c : BA} (h : u ≠ c) (act : Int) (x y : BA) : sideOf (actSd sd u c act) x y = if (x, y) = (c, u) then (bothM (sideOf sd u c) (sideOf sd c u) act).2.1 else if (x, y) = (u, c) then (bothM (sideOf sd u c) (sideOf sd c u) act).1 else sideOf sd x y := by
  unfold actSd
  rw [side_set, side_set]
theorem isC_set (nm : Nms) (k : BA × BA) (n : BA) (u c : BA) : isC (aset k n nm) u c = if (u, c) = k then true else isC nm u c := by
  unfold isC
  rw [alk_set]
  split <;> rfl
/-- No key stands twice. -/
def uniq (nm : Nms) : Prop := (nm.map Prod.fst).Nodup
theorem keys_set (k : BA × BA) (n : BA) : ∀ (nm : Nms) (x : BA × BA), x ∈ (aset k n nm).map Prod.fst → x = k ∨ x ∈ nm.map Prod.fst
  | [], x, h => by simp [aset] at h; exact .inl h
  | (a, y) :: l, x, h => by
    unfold aset at h
    split at h
    · rename_i e; subst e; exact .inr (by simpa using h)
    · rcases (by simpa using h : x = a ∨ x ∈ (aset k n l).map Prod.fst) with e | e
      · exact .inr (by simp [e])
      · rcases keys_set k n l x e with e | e
        · exact .inl e
        · exact .inr (by simp at e ⊢; exact .inr e)
theorem uniq_set (k : BA × BA) (n : BA) : ∀ (nm : Nms), uniq nm → uniq (aset k n nm)
  | [], _ => by simp [uniq, aset]
  | (a, y) :: l, h => by
    have h' : a ∉ l.map Prod.fst ∧ (l.map Prod.fst).Nodup := by simpa [uniq] using h
    unfold aset
    split
    · rename_i e; subst e; simpa [uniq] using h
    · rename_i e
      have := uniq_set k n l h'.2
      show ((a, y) :: aset k n l).map Prod.fst |>.Nodup
      rw [List.map_cons, List.nodup_cons]
      refine ⟨fun hm => ?_, this⟩
      rcases keys_set k n l a hm with e2 | e2
      · exact e e2
      · exact h'.1 e2
theorem keys_del (k : BA × BA) : ∀ (nm : Nms) (x : BA × BA), x ∈ (adel k nm).map Prod.fst → x ∈ nm.map Prod.fst
  | [], x, h => by simp [adel] at h
  | (a, y) :: l, x, h => by
    unfold adel at h
    split at h
    · simp at h ⊢; exact .inr h
    · rcases (by simpa using h : x = a ∨ x ∈ (adel k l).map Prod.fst) with e | e
      · simp [e]
      · have := keys_del k l x e
        simp at this ⊢; exact .inr this
theorem uniq_del (k : BA × BA) : ∀ (nm : Nms), uniq nm → uniq (adel k nm)
  | [], _ => by simp [uniq, adel]
  | (a, y) :: l, h => by
    have h' : a ∉ l.map Prod.fst ∧ (l.map Prod.fst).Nodup := by simpa [uniq] using h
    unfold adel
    split
    · exact h'.2
    · show ((a, y) :: adel k l).map Prod.fst |>.Nodup
      rw [List.map_cons, List.nodup_cons]
      exact ⟨fun hm => h'.1 (keys_del k l a hm), uniq_del k l h'.2⟩
theorem alk_none {k : BA × BA} : ∀ {nm : Nms}, k ∉ nm.map Prod.fst → alk k nm = none
  | [], _ => rfl
  | (a, y) :: l, h => by
    unfold alk
    split
    · rename_i e; subst e; simp at h
    · exact alk_none (by simp at h ⊢; exact h.2)
theorem alk_del (k k' : BA × BA) : ∀ (nm : Nms), uniq nm → alk k (adel k' nm) = if k = k' then none else alk k nm
  | [], _ => by simp [adel, alk]
  | (a, y) :: l, h => by
    have h' : a ∉ l.map Prod.fst ∧ (l.map Prod.fst).Nodup := by simpa [uniq] using h
    by_cases e : a = k'
    · subst e
      by_cases e2 : k = a
      · subst e2; simp [adel, alk_none h'.1]
      · have e3 : ¬ a = k := fun e => e2 e.symm
        simp [adel, alk, e2, e3]
    · have ih := alk_del k k' l h'.2
      by_cases e2 : a = k
      · subst e2; simp [adel, alk, e]
      · simp [adel, alk, e, e2, ih]
theorem isC_del {nm : Nms} (h : uniq nm) (k : BA × BA) (u c : BA) : isC (adel k nm) u c = if (u, c) = k then false else isC nm u c := by
  unfold isC
  rw [alk_del _ _ _ h]
  split <;> rfl
theorem items_len (sd : Sds) (nm : Nms) (u : BA) : ∀ us : List BA, (itemsM us sd nm u).length = (us.filter (isC nm u)).length
  | [] => rfl
  | c :: us => by
    have ih := items_len sd nm u us
    unfold itemsM at ih ⊢
    rw [List.flatMap_cons, List.length_append, ih, List.filter_cons]
    unfold itemOf
    cases isC nm u c <;> simp <;> omega
/-- What holds of a book all along. -/
structure Good (us : List BA) (sd : Sds) (nm : Nms) : Prop where
  un : uniq nm
  self : ∀ u, isC nm u u = false
  right : ∀ u c, rightM (sideOf sd u c) = true
  fit : ∀ u c, fitM (sideOf sd u c) (sideOf sd c u) = true
  zero : ∀ u, sideOf sd u u = Sd.zero
  cap : ∀ u, (us.filter (isC nm u)).length ≤ 6
theorem filter_set {us : List BA} (hn : us.Nodup) (p : BA → Bool) (c : BA) : (us.filter fun x => if x = c then true else p x).length ≤ (us.filter p).length + (if p c = true then 0 else 1) := by
  induction us with
  | nil => simp
  | cons a us ih =>
    have h := List.nodup_cons.1 hn
    have ih := ih h.2
    rw [List.filter_cons, List.filter_cons]
    by_cases e : a = c
    · subst e
      have same : us.filter (fun x => if x = a then true else p x) = us.filter p := by
        apply List.filter_congr
        intro x hx
        have : x ≠ a := fun e => h.1 (e ▸ hx)
        simp [this]
      simp only [if_true, List.length_cons, same]
      cases p a <;> simp
    · simp only [e, if_false]
      cases p a
      · simpa only [Bool.false_eq_true, if_false] using ih
      · simp only [if_true, List.length_cons]; omega
theorem filter_del (us : List BA) (p : BA → Bool) (c : BA) : (us.filter fun x => if x = c then false else p x).length ≤ (us.filter p).length := by
  induction us with
  | nil => simp
  | cons a us ih =>
    rw [List.filter_cons, List.filter_cons]
    by_cases e : a = c
    · subst e
      simp only [if_true, Bool.false_eq_true, if_false]
      cases p a
      · simpa only [Bool.false_eq_true, if_false] using ih
      · simp only [if_true, List.length_cons]; omega
    · simp only [e, if_false]
      cases p a
      · simpa only [Bool.false_eq_true, if_false] using ih
      · simp only [if_true, List.length_cons]; omega
theorem may_zero {us : List BA} {sd : Sds} {nm : Nms} {u c : BA} {fine more : Bool} (h : mayM us sd nm u c fine more = 0) : memB u us = true ∧ memB c us = true ∧ u ≠ c ∧ fine = true ∧ (more = true → isC nm u c = false → (itemsM us sd nm u).length < 6) := by
  unfold mayM at h
  split at h
  · omega
  · rename_i h1
    split at h
    · omega
    · rename_i h2
      split at h
      · omega
      · rename_i h3
        split at h
        · omega
        · rename_i h4
          split at h
          · omega
          · rename_i h5
            refine ⟨by simpa using h1, by simpa using h2, h3, by simpa using h4, fun a b => ?_⟩
            have : ¬ 6 ≤ (itemsM us sd nm u).length := fun hh => h5 ⟨a, b, hh⟩
            omega
theorem good_set {us : List BA} (hn : us.Nodup) {sd : Sds} {nm : Nms} (g : Good us sd nm) {u c : BA} (h : u ≠ c) (n : BA) (hc : isC nm u c = false → (itemsM us sd nm u).length < 6) : Good us sd (aset (u, c) n nm) := by
  refine ⟨uniq_set _ _ _ g.un, fun w => ?_, g.right, g.fit, g.zero, fun w => ?_⟩
  · rw [isC_set, if_neg (fun e => h (by injection e with e1 e2; exact e1.symm.trans e2))]; exact g.self w
  · by_cases e : w = u
    · subst e
      have : (isC (aset (w, c) n nm) w) = fun x => if x = c then true else isC nm w x := by
        funext x; rw [isC_set]; simp
      rw [this]
      have h1 := filter_set hn (isC nm w) c
      have h2 := g.cap w
      have h3 := hc
      rw [items_len] at h3
      cases hx : isC nm w c
      · have := h3 hx; rw [hx] at h1; simp only [Bool.false_eq_true, if_false] at h1; omega
      · rw [hx] at h1; simp only [if_true] at h1; omega
    · have : (isC (aset (u, c) n nm) w) = isC nm w := by
        funext x; rw [isC_set, if_neg (fun e2 => e (by injection e2))]
      rw [this]; exact g.cap w
theorem good_del {us : List BA} {sd : Sds} {nm : Nms} (g : Good us sd nm) (u c : BA) : Good us sd (adel (u, c) nm) := by
  refine ⟨uniq_del _ _ g.un, fun w => ?_, g.right, g.fit, g.zero, fun w => ?_⟩
  · rw [isC_del g.un]; split
    · rfl
    · exact g.self w
  · by_cases e : w = u
    · subst e
      have : (isC (adel (w, c) nm) w) = fun x => if x = c then false else isC nm w x := by
        funext x; rw [isC_del g.un]; simp
      rw [this]
      exact Nat.le_trans (filter_del us (isC nm w) c) (g.cap w)
    · have : (isC (adel (u, c) nm) w) = isC nm w := by
        funext x; rw [isC_del g.un, if_neg (fun e2 => e (by injection e2))]
      rw [this]; exact g.cap w
theorem good_act {us : List BA} {sd : Sds} {nm : Nms} (g : Good us sd nm) {u c : BA} (h : u ≠ c) {act : Int} (ha : fineA act = true) : Good us (actSd sd u c act) nm := by
  obtain ⟨b1, b2, b3⟩ := both_good (g.right u c) (g.right c u) (g.fit u c) ha
  refine ⟨g.un, g.self, fun x y => ?_, fun x y => ?_, fun x => ?_, g.cap⟩
  · rw [side_act h]
    split
    · exact b2
    · split
      · exact b1
      · exact g.right x y
  · rw [side_act h, side_act h]
    by_cases e1 : (x, y) = (c, u)
    · injection e1 with e1 e2
      subst e1 e2
      have : ¬ ((y, x) = (x, y)) := fun e => h (by injection e)
      simp only [if_true, this, if_false]
      exact fit_symm b3
    · by_cases e2 : (x, y) = (u, c)
      · injection e2 with e2 e3
        subst e2 e3
        have : ¬ ((x, y) = (y, x)) := fun e => h (by injection e)
        simp only [this, if_true, if_false]
        exact b3
      · have e3 : ¬ ((y, x) = (c, u)) := fun e => e2 (by injection e with e e'; rw [e, e'])
        have e4 : ¬ ((y, x) = (u, c)) := fun e => e1 (by injection e with e e'; rw [e, e'])
        simp only [e1, e2, e3, e4, if_false]
        exact g.fit x y
  · rw [side_act h, if_neg (fun e => h (by injection e with e e'; exact e'.symm.trans e)), if_neg (fun e => h (by injection e with e e'; exact e.symm.trans e'))]
    exact g.zero x
theorem good_nm {us : List BA} (hn : us.Nodup) {sd : Sds} {nm : Nms} (g : Good us sd nm) {u c : BA} (h : u ≠ c) (act : Int) (hc : (act == 1) = true → isC nm u c = false → (itemsM us sd nm u).length < 6) : Good us sd (actNm nm u c act) := by
  unfold actNm
  split
  · rename_i e
    exact good_set hn g h _ (fun hx => hc (by simp [e.1]) hx)
  · exact g
/-- All of it holds behind each call. -/
theorem good_name {us : List BA} (hn : us.Nodup) {sd : Sds} {nm : Nms} (g : Good us sd nm) (vs : Vss) (u c x : BA) : Good us (nameO us sd nm vs u c x).sd (nameO us sd nm vs u c x).nm := by
  unfold nameO
  split
  · rename_i h
    obtain ⟨_, _, h3, _, h5⟩ := may_zero h
    exact good_set hn g h3 _ (h5 rfl)
  · exact g
theorem good_actO {us : List BA} (hn : us.Nodup) {sd : Sds} {nm : Nms} (g : Good us sd nm) (vs : Vss) (u c : BA) (act : Int) : Good us (actO us sd nm vs u c act).sd (actO us sd nm vs u c act).nm := by
  unfold actO
  split
  · rename_i h
    obtain ⟨_, _, h3, h4, h5⟩ := may_zero h
    have g1 := good_nm hn g h3 act h5
    exact good_act g1 h3 h4
  · exact g
theorem good_rem {us : List BA} {sd : Sds} {nm : Nms} (g : Good us sd nm) (vs : Vss) (u c : BA) : Good us (remO us sd nm vs u c).sd (remO us sd nm vs u c).nm := by
  unfold remO
  split
  · rename_i h
    have hne : u ≠ c := fun e => by subst e; rw [g.self u] at h; cases h
    exact good_act (good_act (good_del g u c) hne (by decide)) hne (by decide)
  · exact g
theorem good_new (us : List BA) : Good us [] [] := ⟨by simp [uniq], fun u => rfl, fun u c => rfl, fun u c => rfl, fun u => rfl, fun u => by rw [List.filter_eq_nil_iff.2 (fun a _ => by simp [isC, alk])]; simp⟩
end Go.Proofs.YtldcalmoboeeiaaDoor
