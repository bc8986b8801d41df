import Derived.Test.YtepkbbkfcnejmaaDoorLeOf
import Derived.Test.YtepkbbkfcnejmaaDoorAmTail
set_option linter.unusedSimpArgs false
set_option linter.unusedVariables false
namespace Go.Proofs.YtepkbbkfcnejmaaDoor
open Go Go.AM Go.RowKit
set_option maxRecDepth 10000
attribute [local irreducible] aUnr aUnS aCode
theorem rCp (a b : Int) (q : AV → Prop) :
  (aUnS KL GA 4 Tryd.b52 (kRet KL Tryd.f52.results.toList q) ⟨[mkI .i64 a, mkI .i64 b] ++ List.replicate (Tryd.f52.ntmps - 2) .jk, []⟩) = (
  bcase (a != a) (
   bcase (b != b) (
    q (mkI .i64 0)) (
    q (mkI .i64 (-(1 : Int))))) (
   bcase (b != b) (
    q (mkI .i64 1)) (
    bcase (decide (a < b)) (
     q (mkI .i64 (-(1 : Int)))) (
     bcase (decide (a > b)) (
      q (mkI .i64 1)) (
      q (mkI .i64 0)))))) := by kernel_rfl
theorem rOr (a b : Int) (q : AV → Prop) :
  (aUnS KL GA 4 Tryd.b51 (kRet KL Tryd.f51.results.toList q) ⟨[.d (.sl [[.v (.int .i64 a)], [.v (.int .i64 b)]])] ++ List.replicate (Tryd.f51.ntmps - 1) .jk, []⟩) = (
  (2 ≤ LIM) →
  (((0 : Int) ≤ (0 : Int)) ∧ ((0 : Int) < (2 : Int))) ∧
  (1 = 1) ∧
  ((1 : Nat) ≤ 1) ∧
  ((D.v (.int IntKind.i64 a)) = (D.v (.int IntKind.i64 (intD (D.v (.int IntKind.i64 a)))))) ∧
  bcase ((intD (D.v (.int IntKind.i64 a))) != (0 : Int)) (
   q (mkI .i64 (intD (D.v (.int IntKind.i64 a))))) (
   (((0 : Int) ≤ (IntKind.wrap .i64 ((0 : Int) + (1 : Int)))) ∧ ((IntKind.wrap .i64 ((0 : Int) + (1 : Int))) < (2 : Int))) ∧
   (1 = 1) ∧
   ((1 : Nat) ≤ 1) ∧
   ((D.v (.int IntKind.i64 b)) = (D.v (.int IntKind.i64 (intD (D.v (.int IntKind.i64 b)))))) ∧
   bcase ((intD (D.v (.int IntKind.i64 b))) != (0 : Int)) (
    q (mkI .i64 (intD (D.v (.int IntKind.i64 b))))) (
    q (mkI .i64 0)))) := by kernel_rfl
def cmpI (a b : Int) : Int := if a < b then -1 else if a > b then 1 else 0
def orI (a b : Int) : Int := if a ≠ 0 then a else b
def FCp : List AV → Option (Prop × AV) := fun al => match al with
  | [.d (.v (.int .i64 a)), .d (.v (.int .i64 b))] => some (True, mkI .i64 (cmpI a b))
  | _ => none
theorem cCp : PSound Tryd.prog 52 (detE FCp) := by
  refine det_gen (unS_bsound 4 mixed KL_ok gA Tryd.b52) KL_ok Tryd.func52 rfl rfl Tryd.call52 fun al p r q hF hp hq => ?_
  unfold FCp at hF; split at hF <;> cases hF
  rename_i a b
  refine cast (rCp a b q).symm (bcaseF (by simp) (bcaseF (by simp) (bcase_dec (fun h => ?_) (fun h => bcase_dec (fun h2 => ?_) (fun h2 => ?_)))))
  · have e : cmpI a b = -1 := if_pos h
    rw [← e]; exact hq
  · have e : cmpI a b = 1 := by unfold cmpI; rw [if_neg h, if_pos h2]
    rw [← e]; exact hq
  · have e : cmpI a b = 0 := by unfold cmpI; rw [if_neg h, if_neg h2]
    rw [← e]; exact hq
def FOr : List AV → Option (Prop × AV) := fun al => match al with
  | [.d (.sl [[.v (.int .i64 a)], [.v (.int .i64 b)]])] => some (True, mkI .i64 (orI a b))
  | _ => none
theorem cOr : PSound Tryd.prog 51 (detE FOr) := by
  refine det_gen (unS_bsound 4 mixed KL_ok gA Tryd.b51) KL_ok Tryd.func51 rfl rfl Tryd.call51 fun al p r q hF hp hq => ?_
  unfold FOr at hF; split at hF <;> cases hF
  rename_i a b
  refine cast (rOr a b q).symm fun _ => ⟨⟨by omega, by omega⟩, rfl, Nat.le_refl 1, rfl, bcase_mk (fun h => ?_) (fun h => ⟨⟨by decide, by decide⟩, rfl, Nat.le_refl 1, rfl, bcase_mk (fun h2 => ?_) (fun h2 => ?_)⟩)⟩
  · have h : a ≠ 0 := by simpa [intD] using h
    have e : orI a b = a := if_pos h
    rw [e] at hq; exact hq
  · have h : a = 0 := by simpa [intD] using h
    have e : orI a b = b := if_neg (by simp [h])
    rw [e] at hq; exact hq
  · have h : a = 0 := by simpa [intD] using h
    have h2 : b = 0 := by simpa [intD] using h2
    have e : orI a b = 0 := by unfold orI; rw [if_neg (by simp [h]), h2]
    rw [e] at hq; exact hq
noncomputable abbrev GEa : List (FuncId × En) := [(52, .det FCp), (51, .det FOr)]
theorem gEa : GSound Tryd.prog GEa := gsound_det cCp (gsound_det cOr gsound_nil)
end Go.Proofs.YtepkbbkfcnejmaaDoor
