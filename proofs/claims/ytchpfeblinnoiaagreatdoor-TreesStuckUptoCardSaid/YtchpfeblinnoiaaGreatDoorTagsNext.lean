import Derived.Test.YtchpfeblinnoiaaGreatDoorTagsAny
set_option linter.unusedSimpArgs false
set_option linter.unusedVariables false
namespace Go.Proofs.YtchpfeblinnoiaaGreatDoor
open Go Go.AM Go.RowKit
def rdO (b : List (List D)) (w : Bool) (e : Int) : List Ob := [.box [.vw 1 b.length, mkB w, mkI .i64 e], .row 1 b, .gh [.rf 0 0]]
theorem r21 (b : List (List D)) (w : Bool) (e : Int) (q : AV → List Ob → Prop) :
  (aCode Tryz.K [] Tryz.b63 (kRetF Tryz.K Tryz.f63.results.toList q) ⟨[.rf 0 0] ++ List.replicate (Tryz.f63.ntmps - 1) .jk, rdO b w e⟩) = (
  ((List.take (List.length b) b) = (bytesD (unB (List.take (List.length b) b)))) ∧
  q (mkS (unB (List.take (List.length b) b))) [Ob.box [AV.vw 1 0, mkB w, mkI .i64 e], Ob.row 1 [], Ob.gh [AV.rf 0 0]]) := by kernel_rfl
def E21 : List AV → List Ob → (AV → List Ob → Prop) → Prop := fun al o q => ∃ (b : List (List D)) (w : Bool) (e : Int), al = [.rf 0 0] ∧ o = rdO b w e ∧ b = bytesD (unB b) ∧ q (mkS (unB b)) (rdO [] w e)
theorem c21 : RSound Tryz.prog 63 E21 := by
  refine ref_fn (c := Tryz.b63) mixed Tryz.K_ok gsound_nil Tryz.func63 rfl rfl Tryz.call63 fun al o q ⟨b, w, e, h1, h2, hb, hq⟩ => ?_
  subst h1 h2
  refine cast (r21 b w e q).symm ?_
  rw [List.take_length]
  exact ⟨hb, hq⟩
end Go.Proofs.YtchpfeblinnoiaaGreatDoor
