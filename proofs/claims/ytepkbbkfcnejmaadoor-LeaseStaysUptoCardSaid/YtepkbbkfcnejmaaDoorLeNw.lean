import Derived.Test.YtepkbbkfcnejmaaDoorLeOps2
set_option linter.unusedSimpArgs false
set_option linter.unusedVariables false
namespace Go.Proofs.YtepkbbkfcnejmaaDoor
open Go Go.AM Go.RowKit
set_option maxRecDepth 10000
attribute [local irreducible] aUnr aUnS aCode
def lim16 (a : Int) : Int := if 16 < (if 1 > a then 1 else a) then 16 else if 1 > a then 1 else a
def lim1000 (b : Int) : Int := if 1000 < (if 1 > b then 1 else b) then 1000 else if 1 > b then 1 else b
theorem rNw (a b : Int) (q : AV → List Ob → Prop) :
  (aCode KL [] Tryd.b9 (kRetF KL Tryd.f9.results.toList q) ⟨[mkI .i64 a, mkI .i64 b] ++ List.replicate (Tryd.f9.ntmps - 2) .jk, []⟩) = (
  (IntKind.i64 = IntKind.i64) ∧
  (IntKind.i64 = IntKind.i64) ∧
  (IntKind.i64 = IntKind.i64) ∧
  (IntKind.i64 = IntKind.i64) ∧
  q (AV.rf 1 0) [Ob.map (KK.int IntKind.i64) [], Ob.box [AV.mp 0, mkI .i64 0, mkI .i64 (if (16 : Int) < (if (1 : Int) > a then (1 : Int) else a) then (16 : Int) else if (1 : Int) > a then (1 : Int) else a), mkI .i64 (if (1000 : Int) < (if (1 : Int) > b then (1 : Int) else b) then (1000 : Int) else if (1 : Int) > b then (1 : Int) else b)]]) := by kernel_rfl
def ENw : List AV → (AV → List Ob → Prop) → Prop := fun al q => ∃ a b, al = [mkI .i64 a, mkI .i64 b] ∧ ∀ M L, M = lim16 a → L = lim1000 b → q (.rf 1 0) [fob [], .box [.mp 0, mkI .i64 0, mkI .i64 M, mkI .i64 L]]
theorem cNw : NSound Tryd.prog 9 ENw := new_fnN (famO (.int .i64) (.box SK) 0) (famO_ghost _ _ _) mixed KL_ok gsound_nil Tryd.func9 rfl rfl Tryd.call9 fun al q ⟨a, b, h, hq⟩ => by
  subst h
  exact cast (rNw a b (fun av o => q av (famO (.int .i64) (.box SK) 0 o))).symm ⟨rfl, rfl, rfl, rfl, hq _ _ rfl rfl⟩
end Go.Proofs.YtepkbbkfcnejmaaDoor
