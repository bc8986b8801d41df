import Derived.Test.YtldcalmoboeeiaaDoorRosLaw1
import Derived.Test.YtldcalmoboeeiaaDoorFrame4
set_option linter.unusedSimpArgs false
set_option linter.unusedVariables false
namespace Go.Proofs.YtldcalmoboeeiaaDoor
open Go Go.AM Go.RowKit
attribute [local irreducible] aCode aUnr aUnS aOut
theorem good_does {us : List BA} (hn : us.Nodup) {sd : Sds} {nm : Nms} (g : Good us sd nm) (vs : Vss) (ul : List BA) (k a b c : Int) (x : BA) : Good us (doesO us sd nm vs ul k a b c x).sd (doesO us sd nm vs ul k a b c x).nm := by
  unfold doesO
  split
  · exact good_name hn g vs _ _ _
  · split
    · exact good_actO hn g vs _ _ _
    · exact good_rem g vs _ _
def opD (o : Op) : List D := [.v (.int .i64 o.k), .v (.int .i64 o.a), .v (.int .i64 o.b), .v (.int .i64 o.c), .v (.string o.x)]
def opsD (l : List Op) : List (List D) := l.map opD
def unOp (c : List D) : Op := ⟨intD (c.getD 0 d0), intD (c.getD 1 d0), intD (c.getD 2 d0), intD (c.getD 3 d0), strD (c.getD 4 d0)⟩
def unOps (es : List (List D)) : List Op := es.map unOp
theorem opsD_getD (l : List Op) (n : Nat) (h : n < l.length) : (opsD l).getD n [] = opD l[n] := by
  simp [opsD, List.getD_eq_getElem?_getD, h]
theorem opsD_len (l : List Op) : (opsD l).length = l.length := by simp [opsD]
theorem unOps_ops (l : List Op) : unOps (opsD l) = l := by
  unfold unOps opsD
  rw [List.map_map]
  exact (List.map_congr_left fun x _ => rfl).trans (List.map_id l)
theorem rEarly (l : List Op) (q : AV → Prop) :
  (aCode Tryd.K [] Tryd.b14 (kRet Tryd.K Tryd.f14.results.toList q) ⟨[.d (.sl (opsD l))] ++ List.replicate (Tryd.f14.ntmps - 1) .jk, []⟩) = (
  ((List.length (opsD l)) ≤ LIM) →
  (IntKind.i64 = IntKind.i64) ∧
  (((0 : Int) ≤ (if (80 : Int) < ((List.length (opsD l)) : Int) then (80 : Int) else ((List.length (opsD l)) : Int))) ∧ ((if (80 : Int) < ((List.length (opsD l)) : Int) then (80 : Int) else ((List.length (opsD l)) : Int)) ≤ ((List.length (opsD l)) : Int))) ∧
  q (AV.d (.sl (List.take (Int.toNat (if (80 : Int) < ((List.length (opsD l)) : Int) then (80 : Int) else ((List.length (opsD l)) : Int))) (opsD l))))) := by kernel_rfl
def FEarly : List AV → Option (Prop × AV) := fun al => match al with
  | [.d (.sl es)] => some (es = opsD (unOps es), .d (.sl (opsD ((unOps es).take 80))))
  | _ => none
theorem cEarly : PSound Tryd.prog 14 (detE FEarly) := by
  refine det_fn (c := Tryd.b14) mixed Tryd.K_ok gsound_nil Tryd.func14 rfl rfl Tryd.call14 fun al p r q hF hp hq => ?_
  unfold FEarly at hF; split at hF <;> cases hF
  rename_i es
  generalize unOps es = l at hp hq
  subst hp
  refine cast (rEarly l q).symm fun _ => ⟨rfl, ?_, ?_⟩
  · rw [opsD_len]; split <;> omega
  · have e : (opsD l).take (if 80 < ((opsD l).length : Int) then (80 : Int) else ((opsD l).length : Int)).toNat = opsD (l.take 80) := by
      rw [opsD_len]
      unfold opsD
      rw [← List.map_take]
      split
      · rfl
      · rw [Int.toNat_natCast, List.take_length, List.take_of_length_le (by omega)]
    rw [e]
    exact hq
theorem ty_ops {P : Program} {n : Nat} {es : List (List D)} {e : TypeId} {fs : Array Field} {i s : TypeId} (hu : P.underlying e = some (.struct fs)) (hf : fs.toList.map (·.type) = [i, i, i, i, s]) (hi : P.underlying i = some (.int .i64)) (hs : P.underlying s = some .string) (h : ∀ c ∈ es, Ty P (n + 2) e c) : ∃ l : List Op, es = opsD l := by
  obtain ⟨l, h, _⟩ := list_of opD (fun _ => True) es fun c hc => by
    have h1 := h c hc
    unfold Ty at h1; rw [hu] at h1
    simp only [hf] at h1
    obtain ⟨a1, b1, rfl, p1, a2, b2, rfl, p2, a3, b3, rfl, p3, a4, b4, rfl, p4, a5, b5, rfl, p5, rfl⟩ := h1
    unfold Ty at p1 p2 p3 p4 p5
    rw [hi] at p1 p2 p3 p4
    rw [hs] at p5
    obtain ⟨i1, rfl, _⟩ := p1
    obtain ⟨i2, rfl, _⟩ := p2
    obtain ⟨i3, rfl, _⟩ := p3
    obtain ⟨i4, rfl, _⟩ := p4
    obtain ⟨x, rfl, _⟩ := p5
    exact ⟨⟨i1, i2, i3, i4, x⟩, rfl, trivial⟩
  exact ⟨l, h⟩
theorem arg_ops {P : Program} {t e : TypeId} {a : AV} {fs : Array Field} {i s : TypeId} (hu : P.underlying t = some (.slice e)) (he : P.underlying e = some (.struct fs)) (hf : fs.toList.map (·.type) = [i, i, i, i, s]) (hi : P.underlying i = some (.int .i64)) (hs : P.underlying s = some .string) (h : ∃ ds, Ty P 12 t ds ∧ a = argAV (aggB P t) ds) : ∃ l : List Op, a = .d (.sl (opsD l)) := by
  obtain ⟨es, rfl, hl, hh⟩ := arg_slice hu h
  obtain ⟨l, rfl⟩ := ty_ops he hf hi hs hh
  exact ⟨l, rfl⟩
end Go.Proofs.YtldcalmoboeeiaaDoor

namespace Go.Proofs.YtldcalmoboeeiaaDoor
open Go Go.AM Go.RowKit
/-- Versions are small. -/
def verIn (vs : Vss) (i : Nat) : Prop := ∀ w, 0 ≤ verOf vs w ∧ verOf vs w ≤ (i : Int) + 1
end Go.Proofs.YtldcalmoboeeiaaDoor

namespace Go.Proofs.YtldcalmoboeeiaaDoor
open Go Go.AM Go.RowKit
attribute [local irreducible] aCode aUnr aUnS aOut
def FHas : List AV → Option (Prop × AV) := fun al => match al with
  | [.d (.sl es), .d (.v (.string s))] => some (es = strsD (unSS es), mkB (inB s (unSS es)))
  | _ => none
noncomputable def rHas_k0 (q : AV → Prop) : Kont := kBlk (0 : Nat) (kSeq (aCode Tryd.K [] (cAt [1, 1] Tryd.b18) (kRet Tryd.K (Array.toList (Func.results Tryd.f18)) q)) (kRet Tryd.K (Array.toList (Func.results Tryd.f18)) q))
theorem rHas (l : List BA) (x : BA) (q : AV → Prop) :
  (aCode Tryd.K [] Tryd.b18 (kRet Tryd.K Tryd.f18.results.toList q) ⟨[mkSS l, mkS x] ++ List.replicate (Tryd.f18.ntmps - 2) .jk, []⟩) = (
  ALoop (aCode Tryd.K [] (cAt [1, 0, 1, 0, 0] Tryd.b18)) (rHas_k0 q) ⟨[mkSS l, mkS x, AV.jk, AV.jk, mkB false, mkI .i64 (0 : Int)] ++ (jks 12), []⟩) := by kernel_rfl
noncomputable abbrev GVs : List (FuncId × En) := [(12, .ref (frameX ELives)), (13, .ref (frameX EBegin5)), (14, .det FEarly), (16, .ref (frameX EDoes)), (15, .ref (frameX EItemsQ)), (17, .det FEq), (18, .det FHas), (19, .det FPick)]
noncomputable def rVs_k0 (q : AV → Prop) : Kont := kBlk (0 : Nat) (kSeq (aCode Tryd.K GVs (cAt [1, 1, 1, 1, 1] Tryd.b3) (kRet Tryd.K (Array.toList (Func.results Tryd.f3)) q)) (kRet Tryd.K (Array.toList (Func.results Tryd.f3)) q))
def stVs (l : List Op) (i : Int) (sd : Sds) (nm : Nms) (vs : Vss) : S := ⟨[.d (.sl (opsD l)), .jk, mkB false, .rf 17 0, mkSS u5, mkI .i64 i] ++ jks 172, lawO u5 sd nm vs⟩
def stH (l : List BA) (x : BA) (i : Int) : S := ⟨[mkSS l, mkS x, .jk, .jk, mkB false, mkI .i64 i] ++ jks 12, []⟩
theorem rHas_b {ι : Type} (st : ι → S) (inv : ι → Prop) (μ : ι → Nat) (k : ι) (l : List BA) (x : BA) (i : Int) (q : AV → Prop) :
  (aCode Tryd.K [] (cAt [1, 0, 1, 0, 0] Tryd.b18) (kFamM [] (maskOf (stH l x i)) st inv μ k (rHas_k0 q)) (stH l x i)) = (
  ((List.length (strsD l)) ≤ LIM) →
  bcase (decide (i < ((List.length (strsD l)) : Int))) (
   (((0 : Int) ≤ i) ∧ (i < ((List.length (strsD l)) : Int))) ∧
   ((List.length (List.getD (strsD l) (Int.toNat i) [])) = 1) ∧
   ((1 : Nat) ≤ (List.length (List.getD (strsD l) (Int.toNat i) []))) ∧
   ((List.getD (List.getD (strsD l) (Int.toNat i) []) (0 : Nat) d0) = (D.v (.string (strD (List.getD (List.getD (strsD l) (Int.toNat i) []) (0 : Nat) d0))))) ∧
   bcase (decide ((strD (List.getD (List.getD (strsD l) (Int.toNat i) []) (0 : Nat) d0)) = x)) (
    q (mkB true)) (
    FamNext st inv μ k ⟨[mkSS l, mkS x, AV.jk, AV.jk, mkB false, mkI .i64 (IntKind.wrap .i64 (i + (1 : Int)))] ++ (jks 12), []⟩)) (
   q (mkB false))) := by kernel_rfl
end Go.Proofs.YtldcalmoboeeiaaDoor

namespace Go.Proofs.YtldcalmoboeeiaaDoor
open Go Go.AM Go.RowKit
attribute [local irreducible] aCode aUnr aUnS aOut
theorem cHas : PSound Tryd.prog 18 (detE FHas) := by
  refine det_fn (c := Tryd.b18) mixed Tryd.K_ok gsound_nil Tryd.func18 rfl rfl Tryd.call18 fun al p r q hF hp hq => ?_
  unfold FHas at hF; split at hF <;> cases hF
  rename_i es x
  generalize unSS es = l at hp hq
  subst hp
  refine cast (rHas l x q).symm ?_
  refine ALoop.introM [] (maskOf (stH l x 0)) (fun n : Nat => stH l x n) (fun n => n ≤ l.length ∧ inB x (l.take n) = false) (fun n => l.length - n) ⟨[], 0, ?_, Nat.zero_le _, rfl⟩ fun n ⟨hn, hI⟩ => ?_
  · simp [S.le, sealAll, leL, leA, jks, stH, mkB, mkI, mkS, mkSS]
  · refine cast (rHas_b (fun n : Nat => stH l x n) (fun n => n ≤ l.length ∧ inB x (l.take n) = false) (fun n => l.length - n) n l x n q).symm fun hl => (bcase_dec (fun hlt => ?_) (fun hge => ?_))
    · rw [strsD_length] at hl hlt
      have hlt : n < l.length := by omega
      have hgd := strsD_getD l n hlt
      have ec : strD (.v (.string (l.getD n ⟨#[]⟩))) = l.getD n ⟨#[]⟩ := rfl
      have e1 : inB x (l.take (n + 1)) = (inB x (l.take n) || decide (l.getD n ⟨#[]⟩ = x)) := by
        unfold inB
        rw [List.take_add_one, List.any_append, List.getD_eq_getElem?_getD, List.getElem?_eq_getElem hlt]
        simp
      simp only [Int.toNat_natCast, hgd, List.getD_cons_zero, ec]
      refine ⟨⟨by omega, by rw [strsD_length]; omega⟩, by trivial, Nat.le_refl _, by trivial, bcase_mk (fun h => ?_) (fun h => ?_)⟩
      · have e2 : inB x l = true := by
          unfold inB
          rw [List.any_eq_true]
          refine ⟨l.getD n ⟨#[]⟩, ?_, h⟩
          rw [List.getD_eq_getElem?_getD, List.getElem?_eq_getElem hlt]
          exact List.getElem_mem hlt
        rw [e2] at hq
        exact hq
      · refine .mk [] (n + 1) ?_ ⟨by omega, by rw [e1, hI, h]; rfl⟩ (by omega)
        rw [wrap_succ hlt hl]
        simp [S.le, sealAll, leL, leA, jks, stH, mkB, mkI, mkS, mkSS]
    · rw [strsD_length] at hge
      have e : n = l.length := by omega
      subst e
      rw [List.take_length] at hI
      rw [hI] at hq
      exact hq
theorem kblk_mk {id : Nat} {q : Kont} {s : S} (h : q .nor s) : kBlk id q (.exit id) s := by
  unfold kBlk
  simpa using h
theorem kblk_nor {id : Nat} {q : Kont} {s : S} (h : q .nor s) : kBlk id q .nor s := h
/-- What follows a step's parts. -/
noncomputable abbrev KF (l : List Op) (i : Nat) (sd : Sds) (nm : Nms) (vs : Vss) (q : AV → Prop) : Kont := kFamM [] (maskOf (stVs l i sd nm vs)) (fun s : Nat × Sds × Nms × Vss => stVs l s.1 s.2.1 s.2.2.1 s.2.2.2) (fun s => s.1 ≤ l.length ∧ Good u5 s.2.1 s.2.2.1 ∧ verIn s.2.2.2 s.1) (fun s => l.length - s.1) (i, sd, nm, vs) (rVs_k0 q)
noncomputable abbrev KX (l : List Op) (i : Nat) (sd : Sds) (nm : Nms) (vs : Vss) (q : AV → Prop) : Kont := kBlk 1 (kSeq (aCode Tryd.K GVs (cAt [1, 1, 1, 1, 0, 1, 0, 0, 1, 1] Tryd.b3) (KF l i sd nm vs q)) (KF l i sd nm vs q))
theorem ty_args1v {P : Program} {t : TypeId} {al : List AV} (h : TyArgs P [t] al) : ∃ a, al = [a] ∧ ∃ ds, Ty P 12 t ds ∧ a = argAV (aggB P t) ds := by
  match al, h with
  | [a], ⟨ha, _⟩ => exact ⟨a, rfl, ha⟩
end Go.Proofs.YtldcalmoboeeiaaDoor
