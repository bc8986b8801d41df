import Derived.Test.YtldcalmoboeeiaaDoorRosLaw1
import Derived.Test.YtldcalmoboeeiaaDoorFrame4
set_option linter.unusedSimpArgs false
set_option linter.unusedVariables false
namespace Go.Proofs.YtldcalmoboeeiaaDoor
open Go Go.AM Go.RowKit
attribute [local irreducible] aCode aUnr aUnS aOut
theorem good_does {us : List BA} (hn : us.Nodup) {sd : Sds} {nm : Nms} (g : Good us sd nm) (vs : Vss) (ul : List BA) (k a b c : Int) (x : BA) : Good us (doesO us sd nm vs ul k a b c x).sd (doesO us sd nm vs ul k a b c x).nm := by
  unfold doesO
  split
  · exact good_name hn g vs _ _ _
  · split
    · exact good_actO hn g vs _ _ _
    · exact good_rem g vs _ _
def opD (o : Op) : List D := [.v (.int .i64 o.k), .v (.int .i64 o.a), .v (.int .i64 o.b), .v (.int .i64 o.c), .v (.string o.x)]
def opsD (l : List Op) : List (List D) := l.map opD
def unOp (c : List D) : Op := ⟨intD (c.getD 0 d0), intD (c.getD 1 d0), intD (c.getD 2 d0), intD (c.getD 3 d0), strD (c.getD 4 d0)⟩
def unOps (es : List (List D)) : List Op := es.map unOp
theorem opsD_getD (l : List Op) (n : Nat) (h : n < l.length) : (opsD l).getD n [] = opD l[n] := by
  simp [opsD, List.getD_eq_getElem?_getD, h]
theorem opsD_len (l : List Op) : (opsD l).length = l.length := by simp [opsD]
theorem unOps_ops (l : List Op) : unOps (opsD l) = l := by
  unfold unOps opsD
  rw [List.map_map]
  exact (List.map_congr_left fun x _ => rfl).trans (List.map_id l)
theorem rEarly (l : List Op) (q : AV → Prop) :
  (aCode Tryd.K [] Tryd.b14 (kRet Tryd.K Tryd.f14.results.toList q) ⟨[.d (.sl (opsD l))] ++ List.replicate (Tryd.f14.ntmps - 1) .jk, []⟩) = (
  ((List.length (opsD l)) ≤ LIM) →
  (IntKind.i64 = IntKind.i64) ∧
  (((0 : Int) ≤ (if (80 : Int) < ((List.length (opsD l)) : Int) then (80 : Int) else ((List.length (opsD l)) : Int))) ∧ ((if (80 : Int) < ((List.length (opsD l)) : Int) then (80 : Int) else ((List.length (opsD l)) : Int)) ≤ ((List.length (opsD l)) : Int))) ∧
  q (AV.d (.sl (List.take (Int.toNat (if (80 : Int) < ((List.length (opsD l)) : Int) then (80 : Int) else ((List.length (opsD l)) : Int))) (opsD l))))) := by kernel_rfl
def FEarly : List AV → Option (Prop × AV) := fun al => match al with
  | [.d (.sl es)] => some (es = opsD (unOps es), .d (.sl (opsD ((unOps es).take 80))))
  | _ => none
theorem u5_nodup : u5.Nodup := by decide
theorem u5_in {m : Nat} (h : m < 5) : inB (u5.getD m ⟨#[]⟩) u5 = true ∧ memB (u5.getD m ⟨#[]⟩) u5 = true := by
  have : m = 0 ∨ m = 1 ∨ m = 2 ∨ m = 3 ∨ m = 4 := by omega
  rcases this with rfl | rfl | rfl | rfl | rfl <;> exact ⟨by decide, by decide⟩
theorem cEarly : PSound Tryd.prog 14 (detE FEarly) := by
  refine det_fn (c := Tryd.b14) mixed Tryd.K_ok gsound_nil Tryd.func14 rfl rfl Tryd.call14 fun al p r q hF hp hq => ?_
  unfold FEarly at hF; split at hF <;> cases hF
  rename_i es
  generalize unOps es = l at hp hq
  subst hp
  refine cast (rEarly l q).symm fun _ => ⟨rfl, ?_, ?_⟩
  · rw [opsD_len]; split <;> omega
  · have e : (opsD l).take (if 80 < ((opsD l).length : Int) then (80 : Int) else ((opsD l).length : Int)).toNat = opsD (l.take 80) := by
      rw [opsD_len]
      unfold opsD
      rw [← List.map_take]
      split
      · rfl
      · rw [Int.toNat_natCast, List.take_length, List.take_of_length_le (by omega)]
    rw [e]
    exact hq
theorem u5_ok : u5.length ≤ 1000 ∧ ∀ s ∈ u5, s.size ≤ 1000 := ⟨by decide, by decide⟩
theorem ty_ops {P : Program} {n : Nat} {es : List (List D)} {e : TypeId} {fs : Array Field} {i s : TypeId} (hu : P.underlying e = some (.struct fs)) (hf : fs.toList.map (·.type) = [i, i, i, i, s]) (hi : P.underlying i = some (.int .i64)) (hs : P.underlying s = some .string) (h : ∀ c ∈ es, Ty P (n + 2) e c) : ∃ l : List Op, es = opsD l := by
  obtain ⟨l, h, _⟩ := list_of opD (fun _ => True) es fun c hc => by
    have h1 := h c hc
    unfold Ty at h1; rw [hu] at h1
    simp only [hf] at h1
    obtain ⟨a1, b1, rfl, p1, a2, b2, rfl, p2, a3, b3, rfl, p3, a4, b4, rfl, p4, a5, b5, rfl, p5, rfl⟩ := h1
    unfold Ty at p1 p2 p3 p4 p5
    rw [hi] at p1 p2 p3 p4
    rw [hs] at p5
    obtain ⟨i1, rfl, _⟩ := p1
    obtain ⟨i2, rfl, _⟩ := p2
    obtain ⟨i3, rfl, _⟩ := p3
    obtain ⟨i4, rfl, _⟩ := p4
    obtain ⟨x, rfl, _⟩ := p5
    exact ⟨⟨i1, i2, i3, i4, x⟩, rfl, trivial⟩
  exact ⟨l, h⟩
theorem ty_args3 {P : Program} {t u v : TypeId} {al : List AV} (h : TyArgs P [t, u, v] al) : ∃ a b c, al = [a, b, c] ∧ (∃ ds, Ty P 12 t ds ∧ a = argAV (aggB P t) ds) ∧ (∃ ds, Ty P 12 u ds ∧ b = argAV (aggB P u) ds) ∧ ∃ ds, Ty P 12 v ds ∧ c = argAV (aggB P v) ds := by
  match al, h with
  | [a, b, c], ⟨ha, hb, hc, _⟩ => exact ⟨a, b, c, rfl, ha, hb, hc⟩
theorem arg_ops {P : Program} {t e : TypeId} {a : AV} {fs : Array Field} {i s : TypeId} (hu : P.underlying t = some (.slice e)) (he : P.underlying e = some (.struct fs)) (hf : fs.toList.map (·.type) = [i, i, i, i, s]) (hi : P.underlying i = some (.int .i64)) (hs : P.underlying s = some .string) (h : ∃ ds, Ty P 12 t ds ∧ a = argAV (aggB P t) ds) : ∃ l : List Op, a = .d (.sl (opsD l)) := by
  obtain ⟨es, rfl, hl, hh⟩ := arg_slice hu h
  obtain ⟨l, rfl⟩ := ty_ops he hf hi hs hh
  exact ⟨l, rfl⟩
end Go.Proofs.YtldcalmoboeeiaaDoor

namespace Go.Proofs.YtldcalmoboeeiaaDoor
open Go Go.AM Go.RowKit
theorem alk_other {k k' : BA × BA} (n : BA) (nm : Nms) (h : k ≠ k') : alk k (aset k' n nm) = alk k nm := by rw [alk_set, if_neg h]
theorem two_lohi (u c : BA) : (loB u c = u ∧ hiB u c = c) ∨ (loB u c = c ∧ hiB u c = u) := by
  unfold loB hiB
  split
  · exact .inr ⟨rfl, rfl⟩
  · exact .inl ⟨rfl, rfl⟩
theorem set_other {us : List BA} {sd : Sds} {nm : Nms} {u c : BA} (x : BA) {w : BA} (h : w ≠ u) : itemsM us sd (aset (u, c) x nm) w = itemsM us sd nm w :=
  items_same (fun d => alk_other x nm (fun e => h (by injection e))) (fun _ => rfl)
end Go.Proofs.YtldcalmoboeeiaaDoor

namespace Go.Proofs.YtldcalmoboeeiaaDoor
open Go Go.AM Go.RowKit
theorem aset_twice (k : BA × BA) (x : BA) : ∀ l : Nms, aset k x (aset k x l) = aset k x l
  | [] => by simp [aset]
  | (a, y) :: l => by
    by_cases h : a = k
    · subst h; simp [aset]
    · simp [aset, h, aset_twice k x l]
theorem push_none (us : List BA) (sd : Sds) (nm : Nms) (u c : BA) : pushM us sd sd nm nm u c = [] := by simp [pushM, pushes]
theorem pushes_len (us : List BA) (sd sd' : Sds) (nm nm' : Nms) (a : BA) : (pushes us sd sd' nm nm' a).length ≤ 1 := by
  unfold pushes; split <;> simp
theorem push_one {us : List BA} {sd : Sds} {nm : Nms} {u c : BA} (h : u ≠ c) (x : BA) : (pushM us sd sd nm (aset (u, c) x nm) u c).length ≤ 1 := by
  have hc : pushes us sd sd nm (aset (u, c) x nm) c = [] := if_pos (set_other x (fun e => h e.symm)).symm
  have hu := pushes_len us sd sd nm (aset (u, c) x nm) u
  unfold pushM
  rcases two_lohi u c with ⟨e1, e2⟩ | ⟨e1, e2⟩ <;> rw [e1, e2, hc] <;> simpa using hu
theorem any_named {us : List BA} {sd : Sds} {nm : Nms} {u c x : BA} (hc : inB c us = true) (h : alk (u, c) nm = some x) : ((itemsM us sd nm u).any fun it => decide (it.c = c) && decide (it.n = x)) = true := by
  rw [List.any_eq_true]
  refine ⟨⟨c, x, (sideOf sd u c).sub, (sideOf sd u c).a⟩, ?_, by simp⟩
  unfold itemsM
  rw [List.mem_flatMap]
  refine ⟨c, ?_, ?_⟩
  · unfold inB at hc
    rw [List.any_eq_true] at hc
    obtain ⟨y, hy, e⟩ := hc
    have e : y = c := by simpa using e
    exact e ▸ hy
  · unfold itemOf isC nameOf
    simp [h]
/-- A name that is given twice. -/
theorem name_twice {us : List BA} {sd : Sds} {nm : Nms} {vs : Vss} {u c x : BA} {r r2 : Out} (hc : inB c us = true) (hr : nameO us sd nm vs u c x = r) (hr2 : nameO us r.sd r.nm r.vs u c x = r2) :
    r2.sd = sd ∧ (r.e ≠ 0 → r2.e = r.e ∧ r.p = []) ∧
    (r.e = 0 → r2.e = 0 ∧ r2.p = [] ∧ r.p.length ≤ 1 ∧ r.t = [] ∧ ((itemsM us r2.sd r2.nm u).any fun it => decide (it.c = c) && decide (it.n = x)) = true) := by
  by_cases h : mayM us sd nm u c (fineM x) true = 0
  · obtain ⟨h1, h2, h3, h4, h5⟩ := may_zero h
    have e1 : r = turnO us sd nm vs u c sd (aset (u, c) x nm) [] := by rw [← hr]; unfold nameO; rw [if_pos h]
    subst e1
    have hi : isC (aset (u, c) x nm) u c = true := by rw [isC_set]; simp
    have m2 : mayM us sd (aset (u, c) x nm) u c (fineM x) true = 0 := by
      unfold mayM; simp [h1, h2, h3, h4, hi]
    have e2 : r2 = turnO us sd (aset (u, c) x nm) (bumps vs (pushM us sd sd nm (aset (u, c) x nm) u c)) u c sd (aset (u, c) x (aset (u, c) x nm)) [] := by
      rw [← hr2]; unfold nameO; exact if_pos m2
    rw [aset_twice] at e2
    subst e2
    refine ⟨rfl, fun h => (h rfl).elim, fun _ => ⟨rfl, push_none _ _ _ _ _, push_one h3 x, rfl, any_named hc (by show alk (u, c) (aset (u, c) x nm) = some x; rw [alk_set, if_pos rfl])⟩⟩
  · have e1 : r = errO sd nm vs (mayM us sd nm u c (fineM x) true) := by rw [← hr]; unfold nameO; rw [if_neg h]
    subst e1
    have e2 : r2 = errO sd nm vs (mayM us sd nm u c (fineM x) true) := by rw [← hr2]; unfold nameO; exact if_neg h
    subst e2
    exact ⟨rfl, fun _ => ⟨rfl, rfl⟩, fun h0 => (h h0).elim⟩
end Go.Proofs.YtldcalmoboeeiaaDoor
