import Derived.Test.YtepkbbkfcnejmaaDoorLeSorted
import Derived.Test.YtepkbbkfcnejmaaDoorAmInl
set_option linter.unusedSimpArgs false
set_option linter.unusedVariables false
namespace Go.Proofs.YtepkbbkfcnejmaaDoor
open Go Go.AM Go.RowKit
set_option maxRecDepth 10000
attribute [local irreducible] aUnr
noncomputable abbrev KL : TypeId → Option TK := runK Tryd.K
theorem KL_ok : KOk Tryd.prog KL := runK_ok Tryd.K_ok
noncomputable abbrev GB : List (FuncId × En) := [(23, .det F19), (47, .full (keysE 65))]
noncomputable abbrev GI : List (FuncId × En) := inlΓ KL GB tabI 40 12
theorem rLives (q : AV → Prop) :
  (aUnr KL GI 40 Tryd.b8 (kRet KL Tryd.f8.results.toList q) ⟨List.replicate (Tryd.f8.ntmps) .jk, []⟩) = (
  (IntKind.i64 = IntKind.i64) ∧
  (IntKind.i64 = IntKind.i64) ∧
  (IntKind.i64 = IntKind.i64) ∧
  (IntKind.i64 = IntKind.i64) ∧
  True ∧
  True ∧ (
   (0 ≤ LIM) →
   (0 ≤ LIM) →
   (1 ≤ LIM) →
   (((0 : Int) ≤ ((0 : Nat) : Int)) ∧ (((0 : Nat) : Int) < (1 : Int))) ∧
   (1 = 1) ∧
   ((1 : Nat) ≤ 1) ∧
   ((D.v (.int IntKind.i64 ((0 + (1 : Nat)) : Int))) = (D.v (.int IntKind.i64 (intD (D.v (.int IntKind.i64 ((0 + (1 : Nat)) : Int))))))) ∧ (
    (1 ≤ LIM) →
    (((0 : Int) ≤ ((0 : Nat) : Int)) ∧ (((0 : Nat) : Int) < (1 : Int))) ∧
    (1 = 1) ∧
    ((1 : Nat) ≤ 1) ∧
    ((D.v (.int IntKind.i64 ((0 + (1 : Nat)) : Int))) = (D.v (.int IntKind.i64 (intD (D.v (.int IntKind.i64 ((0 + (1 : Nat)) : Int))))))) ∧
    (1 ≤ LIM) ∧
    (((0 : Int) ≤ (0 : Int)) ∧ ((0 : Int) < ((0 + (1 : Nat)) : Int))) ∧
    ((0 : Nat) < 1) ∧ (
     (1 ≤ LIM) →
     (((0 : Int) ≤ ((0 : Nat) : Int)) ∧ (((0 : Nat) : Int) < (1 : Int))) ∧
     (1 = 1) ∧
     ((1 : Nat) ≤ 1) ∧
     ((D.v (.int IntKind.i64 ((0 + (1 : Nat)) : Int))) = (D.v (.int IntKind.i64 (intD (D.v (.int IntKind.i64 ((0 + (1 : Nat)) : Int))))))) ∧
     q (mkB true))))) := by kernel_rfl
theorem gB : GSound Tryd.prog GB := gsound_det c19 (gsound_full cSorted gsound_nil)
theorem gI : GSound Tryd.prog GI := inl_sound mixed KL_ok gB tabI_ok 12
def FLv : List AV → Option (Prop × AV) := fun al => match al with
  | [] => some (True, mkB true)
  | _ => none
theorem cLv : PSound Tryd.prog 8 (detE FLv) := by
  refine det_unr 40 (c := Tryd.b8) mixed KL_ok gI Tryd.func8 rfl rfl Tryd.call8 fun al p r q hF hp hq => ?_
  unfold FLv at hF; split at hF <;> cases hF
  refine cast (rLives q).symm ?_
  repeat' (first | exact hq | exact trivial | rfl | decide | intro _ | (unfold LIM; omega) | refine And.intro ?_ ?_)
end Go.Proofs.YtepkbbkfcnejmaaDoor
