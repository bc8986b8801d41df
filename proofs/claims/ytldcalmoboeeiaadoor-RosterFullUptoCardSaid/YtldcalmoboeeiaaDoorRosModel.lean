import Derived.Test.YtldcalmoboeeiaaDoorRosName
import Derived.Test.YtldcalmoboeeiaaDoorRosDoR
set_option linter.unusedSimpArgs false
set_option linter.unusedVariables false
namespace Go.Proofs.YtldcalmoboeeiaaDoor
open Go Go.AM Go.RowKit
/-- What comes of a call that may turn a book. -/
structure Out where
  sd : Sds
  nm : Nms
  vs : Vss
  p : List BA
  t : List Td
  e : Int
def turnO (us : List BA) (sd : Sds) (nm : Nms) (vs : Vss) (u c : BA) (sd' : Sds) (nm' : Nms) (T : List Td) : Out := ⟨sd', nm', bumps vs (pushM us sd sd' nm nm' u c), pushM us sd sd' nm nm' u c, T, 0⟩
def errO (sd : Sds) (nm : Nms) (vs : Vss) (e : Int) : Out := ⟨sd, nm, vs, [], [], e⟩
def fineA (act : Int) : Bool := decide (1 ≤ act) && decide (act ≤ 4)
def nameO (us : List BA) (sd : Sds) (nm : Nms) (vs : Vss) (u c x : BA) : Out :=
  if mayM us sd nm u c (fineM x) true = 0 then turnO us sd nm vs u c sd (aset (u, c) x nm) [] else errO sd nm vs (mayM us sd nm u c (fineM x) true)
def actO (us : List BA) (sd : Sds) (nm : Nms) (vs : Vss) (u c : BA) (act : Int) : Out :=
  if mayM us sd nm u c (fineA act) (act == 1) = 0 then turnO us sd nm vs u c (actSd sd u c act) (actNm nm u c act) (toldM sd u c act) else errO sd nm vs (mayM us sd nm u c (fineA act) (act == 1))
def remO (us : List BA) (sd : Sds) (nm : Nms) (vs : Vss) (u c : BA) : Out :=
  if isC nm u c = true then turnO us sd nm vs u c (remSd sd u c) (adel (u, c) nm) (remTd sd u c) else errO sd nm vs 7
theorem isC_set (nm : Nms) (k : BA × BA) (n : BA) (u c : BA) : isC (aset k n nm) u c = if (u, c) = k then true else isC nm u c := by
  unfold isC
  rw [alk_set]
  split <;> rfl
/-- No key stands twice. -/
def uniq (nm : Nms) : Prop := (nm.map Prod.fst).Nodup
theorem keys_set (k : BA × BA) (n : BA) : ∀ (nm : Nms) (x : BA × BA), x ∈ (aset k n nm).map Prod.fst → x = k ∨ x ∈ nm.map Prod.fst
  | [], x, h => by simp [aset] at h; exact .inl h
  | (a, y) :: l, x, h => by
    unfold aset at h
    split at h
    · rename_i e; subst e; exact .inr (by simpa using h)
    · rcases (by simpa using h : x = a ∨ x ∈ (aset k n l).map Prod.fst) with e | e
      · exact .inr (by simp [e])
      · rcases keys_set k n l x e with e | e
        · exact .inl e
        · exact .inr (by simp at e ⊢; exact .inr e)
theorem uniq_set (k : BA × BA) (n : BA) : ∀ (nm : Nms), uniq nm → uniq (aset k n nm)
  | [], _ => by simp [uniq, aset]
  | (a, y) :: l, h => by
    have h' : a ∉ l.map Prod.fst ∧ (l.map Prod.fst).Nodup := by simpa [uniq] using h
    unfold aset
    split
    · rename_i e; subst e; simpa [uniq] using h
    · rename_i e
      have := uniq_set k n l h'.2
      show ((a, y) :: aset k n l).map Prod.fst |>.Nodup
      rw [List.map_cons, List.nodup_cons]
      refine ⟨fun hm => ?_, this⟩
      rcases keys_set k n l a hm with e2 | e2
      · exact e e2
      · exact h'.1 e2
theorem alk_none {k : BA × BA} : ∀ {nm : Nms}, k ∉ nm.map Prod.fst → alk k nm = none
  | [], _ => rfl
  | (a, y) :: l, h => by
    unfold alk
    split
    · rename_i e; subst e; simp at h
    · exact alk_none (by simp at h ⊢; exact h.2)
theorem alk_del (k k' : BA × BA) : ∀ (nm : Nms), uniq nm → alk k (adel k' nm) = if k = k' then none else alk k nm
  | [], _ => by simp [adel, alk]
  | (a, y) :: l, h => by
    have h' : a ∉ l.map Prod.fst ∧ (l.map Prod.fst).Nodup := by simpa [uniq] using h
    by_cases e : a = k'
    · subst e
      by_cases e2 : k = a
      · subst e2; simp [adel, alk_none h'.1]
      · have e3 : ¬ a = k := fun e => e2 e.symm
        simp [adel, alk, e2, e3]
    · have ih := alk_del k k' l h'.2
      by_cases e2 : a = k
      · subst e2; simp [adel, alk, e]
      · simp [adel, alk, e, e2, ih]
theorem isC_del {nm : Nms} (h : uniq nm) (k : BA × BA) (u c : BA) : isC (adel k nm) u c = if (u, c) = k then false else isC nm u c := by
  unfold isC
  rw [alk_del _ _ _ h]
  split <;> rfl
theorem items_len (sd : Sds) (nm : Nms) (u : BA) : ∀ us : List BA, (itemsM us sd nm u).length = (us.filter (isC nm u)).length
  | [] => rfl
  | c :: us => by
    have ih := items_len sd nm u us
    unfold itemsM at ih ⊢
    rw [List.flatMap_cons, List.length_append, ih, List.filter_cons]
    unfold itemOf
    cases isC nm u c <;> simp <;> omega
end Go.Proofs.YtldcalmoboeeiaaDoor
