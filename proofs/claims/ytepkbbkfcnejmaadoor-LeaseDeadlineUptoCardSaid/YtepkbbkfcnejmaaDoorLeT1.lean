import Derived.Test.YtepkbbkfcnejmaaDoorLeLives
import Derived.Test.YtepkbbkfcnejmaaDoorAmBun
set_option linter.unusedSimpArgs false
set_option linter.unusedVariables false
namespace Go.Proofs.YtepkbbkfcnejmaaDoor
open Go Go.AM Go.RowKit
set_option maxRecDepth 10000
attribute [local irreducible] aUnr aUnS aCode
noncomputable abbrev GS : List (FuncId × En) := inlΓS KL GB tabI 4 8
def lim16 (a : Int) : Int := if 16 < (if 1 > a then 1 else a) then 16 else if 1 > a then 1 else a
def lim1000 (b : Int) : Int := if 1000 < (if 1 > b then 1 else b) then 1000 else if 1 > b then 1 else b
theorem rNw (a b : Int) (q : AV → List Ob → Prop) :
  (aCode KL [] Tryd.b7 (kRetF KL Tryd.f7.results.toList q) ⟨[mkI .i64 a, mkI .i64 b] ++ List.replicate (Tryd.f7.ntmps - 2) .jk, []⟩) = (
  (IntKind.i64 = IntKind.i64) ∧
  (IntKind.i64 = IntKind.i64) ∧
  (IntKind.i64 = IntKind.i64) ∧
  (IntKind.i64 = IntKind.i64) ∧
  q (AV.rf 1 0) [Ob.map (KK.int IntKind.i64) [], Ob.box [AV.mp 0, mkI .i64 0, mkI .i64 (if (16 : Int) < (if (1 : Int) > a then (1 : Int) else a) then (16 : Int) else if (1 : Int) > a then (1 : Int) else a), mkI .i64 (if (1000 : Int) < (if (1 : Int) > b then (1 : Int) else b) then (1000 : Int) else if (1 : Int) > b then (1 : Int) else b)]]) := by kernel_rfl
theorem rSt0 (u d : ByteArray) (c M L : Int) (q : AV → List Ob → Prop) :
  (aUnS KL GS 4 Tryd.b8 (kRetF KL Tryd.f8.results.toList q) ⟨[.rf 0 0, mkS u, mkS d, mkI .i64 c] ++ List.replicate (Tryd.f8.ntmps - 4) .jk, [.box [.mp 1, mkI .i64 0, mkI .i64 M, mkI .i64 L], .map (.int .i64) [], .gh [.rf 0 0]]⟩) = (
  True ∧
  bcase (!(userB u)) (
   q (AV.tp [mkI .i64 0, mkI .i64 0, mkI .i64 1]) [Ob.box [AV.mp 1, mkI .i64 0, mkI .i64 M, mkI .i64 L], Ob.map (KK.int IntKind.i64) [], Ob.gh [AV.rf 0 0]]) (
   True ∧
   bcase (!(userB d)) (
    q (AV.tp [mkI .i64 0, mkI .i64 0, mkI .i64 1]) [Ob.box [AV.mp 1, mkI .i64 0, mkI .i64 M, mkI .i64 L], Ob.map (KK.int IntKind.i64) [], Ob.gh [AV.rf 0 0]]) (
    bcase (decide (c < (0 : Int))) (
     q (AV.tp [mkI .i64 0, mkI .i64 0, mkI .i64 1]) [Ob.box [AV.mp 1, mkI .i64 0, mkI .i64 M, mkI .i64 L], Ob.map (KK.int IntKind.i64) [], Ob.gh [AV.rf 0 0]]) (
     (0 ≤ LIM) →
     (0 ≤ LIM) →
     bcase (decide ((0 : Int) < M)) (
      q (AV.tp [mkI .i64 (IntKind.wrap .i64 ((0 : Int) + (1 : Int))), mkI .i64 0, mkI .i64 0]) [Ob.box [AV.mp 1, mkI .i64 (IntKind.wrap .i64 ((0 : Int) + (1 : Int))), mkI .i64 M, mkI .i64 L], Ob.map (KK.int IntKind.i64) [(Key.i IntKind.i64 (IntKind.wrap .i64 ((0 : Int) + (1 : Int))), AV.rf 14 0)], Ob.gh [AV.rf 0 0], Ob.gone, Ob.box [mkI .i64 c], Ob.gone, Ob.gone, Ob.gone, Ob.box [AV.mp 1], Ob.gone, Ob.box [mkS u], Ob.gone, Ob.gone, Ob.box [AV.mp 1], Ob.box [mkI .i64 (IntKind.wrap .i64 ((0 : Int) + (1 : Int))), mkS u, mkS d, mkS ⟨#[]⟩, mkI .i64 c, mkI .i64 0]]) (
      False))))) := by kernel_rfl
def obs1 (u d tok : ByteArray) (c dl M L : Int) : List Ob := [.box [.mp 1, mkI .i64 1, mkI .i64 M, mkI .i64 L], .map (.int .i64) [(Key.i .i64 1, .rf 2 0)], .box [mkI .i64 1, mkS u, mkS d, mkS tok, mkI .i64 c, mkI .i64 dl], .gh [.rf 0 0]]
theorem rGv (u d tok t : ByteArray) (c dl M L : Int) (q : AV → List Ob → Prop) :
  (aUnS KL GS 4 Tryd.b9 (kRetF KL Tryd.f9.results.toList q) ⟨[.rf 0 0, mkI .i64 1, mkS t] ++ List.replicate (Tryd.f9.ntmps - 3) .jk, obs1 u d tok c dl M L⟩) = (
  bcase (!(decide (tok = ⟨#[]⟩))) (
   q (mkI .i64 11) [Ob.box [AV.mp 1, mkI .i64 1, mkI .i64 M, mkI .i64 L], Ob.map (KK.int IntKind.i64) [(Key.i IntKind.i64 (1 : Int), AV.rf 2 0)], Ob.box [mkI .i64 1, mkS u, mkS d, mkS tok, mkI .i64 c, mkI .i64 dl], Ob.gh [AV.rf 0 0], Ob.gone]) (
   bcase (c == (-(1 : Int))) (
    q (mkI .i64 11) [Ob.box [AV.mp 1, mkI .i64 1, mkI .i64 M, mkI .i64 L], Ob.map (KK.int IntKind.i64) [(Key.i IntKind.i64 (1 : Int), AV.rf 2 0)], Ob.box [mkI .i64 1, mkS u, mkS d, mkS tok, mkI .i64 c, mkI .i64 dl], Ob.gh [AV.rf 0 0], Ob.gone, Ob.gone]) (
    (1 ≤ LIM) →
    (((0 : Int) ≤ (0 : Int)) ∧ ((0 : Int) < (1 : Int))) ∧
    (1 = 1) ∧
    ((1 : Nat) ≤ 1) ∧
    ((D.v (.int IntKind.i64 (1 : Int))) = (D.v (.int IntKind.i64 (intD (D.v (.int IntKind.i64 (1 : Int))))))) ∧
    bcase (decide (tok = t)) (
     bcase (!(decide (t = ⟨#[]⟩))) (
      (1 ≤ LIM) ∧
      (((0 : Int) ≤ (0 : Int)) ∧ ((0 : Int) < (1 : Int))) ∧
      ((Int.toNat (0 : Int)) < 1) ∧
      q (mkI .i64 8) [Ob.box [AV.mp 1, mkI .i64 1, mkI .i64 M, mkI .i64 L], Ob.map (KK.int IntKind.i64) [(Key.i IntKind.i64 (1 : Int), AV.rf 2 0)], Ob.box [mkI .i64 1, mkS u, mkS d, mkS tok, mkI .i64 c, mkI .i64 dl], Ob.gh [AV.rf 0 0], Ob.gone, Ob.gone, Ob.gone, Ob.box [mkS t], Ob.gone, Ob.gone, Ob.gone, Ob.box [AV.mp 1], Ob.gone, Ob.pow [AV.rf 2 0], Ob.pow [AV.rf 2 0]]) (
      bcase (decide (t = ⟨#[]⟩)) (
       q (mkI .i64 1) [Ob.box [AV.mp 1, mkI .i64 1, mkI .i64 M, mkI .i64 L], Ob.map (KK.int IntKind.i64) [(Key.i IntKind.i64 (1 : Int), AV.rf 2 0)], Ob.box [mkI .i64 1, mkS u, mkS d, mkS tok, mkI .i64 c, mkI .i64 dl], Ob.gh [AV.rf 0 0], Ob.gone, Ob.gone, Ob.gone, Ob.box [mkS t], Ob.gone, Ob.gone, Ob.gone, Ob.box [AV.mp 1], Ob.gone]) (
       q (mkI .i64 0) [Ob.box [AV.mp 1, mkI .i64 1, mkI .i64 M, mkI .i64 L], Ob.map (KK.int IntKind.i64) [(Key.i IntKind.i64 (1 : Int), AV.rf 2 0)], Ob.box [mkI .i64 1, mkS u, mkS d, mkS t, mkI .i64 c, mkI .i64 dl], Ob.gh [AV.rf 0 0], Ob.gone, Ob.gone, Ob.gone, Ob.box [mkS t], Ob.gone, Ob.gone, Ob.gone, Ob.box [AV.mp 1], Ob.gone]))) (
     bcase (decide (t = ⟨#[]⟩)) (
      q (mkI .i64 1) [Ob.box [AV.mp 1, mkI .i64 1, mkI .i64 M, mkI .i64 L], Ob.map (KK.int IntKind.i64) [(Key.i IntKind.i64 (1 : Int), AV.rf 2 0)], Ob.box [mkI .i64 1, mkS u, mkS d, mkS tok, mkI .i64 c, mkI .i64 dl], Ob.gh [AV.rf 0 0], Ob.gone, Ob.gone, Ob.gone, Ob.box [mkS t], Ob.gone, Ob.gone, Ob.gone, Ob.box [AV.mp 1], Ob.gone]) (
      q (mkI .i64 0) [Ob.box [AV.mp 1, mkI .i64 1, mkI .i64 M, mkI .i64 L], Ob.map (KK.int IntKind.i64) [(Key.i IntKind.i64 (1 : Int), AV.rf 2 0)], Ob.box [mkI .i64 1, mkS u, mkS d, mkS t, mkI .i64 c, mkI .i64 dl], Ob.gh [AV.rf 0 0], Ob.gone, Ob.gone, Ob.gone, Ob.box [mkS t], Ob.gone, Ob.gone, Ob.gone, Ob.box [AV.mp 1], Ob.gone]))))) := by kernel_rfl
theorem rLo (u d tok : ByteArray) (c dl M L now : Int) (q : AV → List Ob → Prop) :
  (aUnS KL GS 4 Tryd.b10 (kRetF KL Tryd.f10.results.toList q) ⟨[.rf 0 0, mkI .i64 1, mkI .i64 now] ++ List.replicate (Tryd.f10.ntmps - 3) .jk, obs1 u d tok c dl M L⟩) = (
  bcase (c == (-(1 : Int))) (
   q (AV.tp [mkB false, mkI .i64 11]) [Ob.box [AV.mp 1, mkI .i64 1, mkI .i64 M, mkI .i64 L], Ob.map (KK.int IntKind.i64) [(Key.i IntKind.i64 (1 : Int), AV.rf 2 0)], Ob.box [mkI .i64 1, mkS u, mkS d, mkS tok, mkI .i64 c, mkI .i64 dl], Ob.gh [AV.rf 0 0], Ob.gone, Ob.gone]) (
   bcase (decide (now < (0 : Int))) (
    q (AV.tp [mkB false, mkI .i64 1]) [Ob.box [AV.mp 1, mkI .i64 1, mkI .i64 M, mkI .i64 L], Ob.map (KK.int IntKind.i64) [(Key.i IntKind.i64 (1 : Int), AV.rf 2 0)], Ob.box [mkI .i64 1, mkS u, mkS d, mkS tok, mkI .i64 c, mkI .i64 dl], Ob.gh [AV.rf 0 0], Ob.gone, Ob.gone]) (
    bcase (decide (now > (1099511627776 : Int))) (
     q (AV.tp [mkB false, mkI .i64 1]) [Ob.box [AV.mp 1, mkI .i64 1, mkI .i64 M, mkI .i64 L], Ob.map (KK.int IntKind.i64) [(Key.i IntKind.i64 (1 : Int), AV.rf 2 0)], Ob.box [mkI .i64 1, mkS u, mkS d, mkS tok, mkI .i64 c, mkI .i64 dl], Ob.gh [AV.rf 0 0], Ob.gone, Ob.gone]) (
     bcase (decide (tok = ⟨#[]⟩)) (
      q (AV.tp [mkB false, mkI .i64 0]) [Ob.box [AV.mp 1, mkI .i64 1, mkI .i64 M, mkI .i64 L], Ob.map (KK.int IntKind.i64) [], Ob.box [mkI .i64 1, mkS u, mkS d, mkS tok, mkI .i64 c, mkI .i64 dl], Ob.gh [AV.rf 0 0], Ob.gone, Ob.gone]) (
      q (AV.tp [mkB true, mkI .i64 0]) [Ob.box [AV.mp 1, mkI .i64 1, mkI .i64 M, mkI .i64 L], Ob.map (KK.int IntKind.i64) [(Key.i IntKind.i64 (1 : Int), AV.rf 2 0)], Ob.box [mkI .i64 1, mkS u, mkS d, mkS tok, mkI .i64 (-(1 : Int)), mkI .i64 (IntKind.wrap .i64 (now + L))], Ob.gh [AV.rf 0 0], Ob.gone, Ob.gone]))))) := by kernel_rfl
theorem rGt (u d tok : ByteArray) (c dl M L : Int) (q : AV → List Ob → Prop) :
  (aUnS KL GS 4 Tryd.b11 (kRetF KL Tryd.f11.results.toList q) ⟨[.rf 0 0, mkI .i64 1] ++ List.replicate (Tryd.f11.ntmps - 2) .jk, obs1 u d tok c dl M L⟩) = (
  q (AV.tp [AV.ag [mkI .i64 1, mkS u, mkS d, mkS tok, mkI .i64 c, mkI .i64 dl], mkB true]) [Ob.box [AV.mp 1, mkI .i64 1, mkI .i64 M, mkI .i64 L], Ob.map (KK.int IntKind.i64) [(Key.i IntKind.i64 (1 : Int), AV.rf 2 0)], Ob.box [mkI .i64 1, mkS u, mkS d, mkS tok, mkI .i64 c, mkI .i64 dl], Ob.gh [AV.rf 0 0], Ob.box [mkI .i64 1, mkS u, mkS d, mkS tok, mkI .i64 c, mkI .i64 dl], Ob.gone]) := by kernel_rfl
theorem rRs (u d tok t : ByteArray) (c dl M L cn now : Int) (q : AV → List Ob → Prop) :
  (aUnS KL GS 4 Tryd.b13 (kRetF KL Tryd.f13.results.toList q) ⟨[.rf 0 0, mkS t, mkI .i64 cn, mkI .i64 now] ++ List.replicate (Tryd.f13.ntmps - 4) .jk, obs1 u d tok c dl M L⟩) = (
  bcase (decide (cn < (0 : Int))) (
   q (AV.tp [mkI .i64 0, mkI .i64 0, mkI .i64 1]) [Ob.box [AV.mp 1, mkI .i64 1, mkI .i64 M, mkI .i64 L], Ob.map (KK.int IntKind.i64) [(Key.i IntKind.i64 (1 : Int), AV.rf 2 0)], Ob.box [mkI .i64 1, mkS u, mkS d, mkS tok, mkI .i64 c, mkI .i64 dl], Ob.gh [AV.rf 0 0]]) (
   bcase (decide (now < (0 : Int))) (
    q (AV.tp [mkI .i64 0, mkI .i64 0, mkI .i64 1]) [Ob.box [AV.mp 1, mkI .i64 1, mkI .i64 M, mkI .i64 L], Ob.map (KK.int IntKind.i64) [(Key.i IntKind.i64 (1 : Int), AV.rf 2 0)], Ob.box [mkI .i64 1, mkS u, mkS d, mkS tok, mkI .i64 c, mkI .i64 dl], Ob.gh [AV.rf 0 0]]) (
    bcase (decide (now > (1099511627776 : Int))) (
     q (AV.tp [mkI .i64 0, mkI .i64 0, mkI .i64 1]) [Ob.box [AV.mp 1, mkI .i64 1, mkI .i64 M, mkI .i64 L], Ob.map (KK.int IntKind.i64) [(Key.i IntKind.i64 (1 : Int), AV.rf 2 0)], Ob.box [mkI .i64 1, mkS u, mkS d, mkS tok, mkI .i64 c, mkI .i64 dl], Ob.gh [AV.rf 0 0]]) (
     (1 ≤ LIM) →
     (((0 : Int) ≤ (0 : Int)) ∧ ((0 : Int) < (1 : Int))) ∧
     (1 = 1) ∧
     ((1 : Nat) ≤ 1) ∧
     ((D.v (.int IntKind.i64 (1 : Int))) = (D.v (.int IntKind.i64 (intD (D.v (.int IntKind.i64 (1 : Int))))))) ∧
     bcase (decide (tok = t)) (
      bcase (!(decide (t = ⟨#[]⟩))) (
       (1 ≤ LIM) ∧
       (((0 : Int) ≤ (0 : Int)) ∧ ((0 : Int) < (1 : Int))) ∧
       ((Int.toNat (0 : Int)) < 1) ∧
       bcase (c == (-(1 : Int))) (
        bcase (decide (dl ≤ now)) (
         q (AV.tp [mkI .i64 0, mkI .i64 0, mkI .i64 7]) [Ob.box [AV.mp 1, mkI .i64 1, mkI .i64 M, mkI .i64 L], Ob.map (KK.int IntKind.i64) [(Key.i IntKind.i64 (1 : Int), AV.rf 2 0)], Ob.box [mkI .i64 1, mkS u, mkS d, mkS tok, mkI .i64 c, mkI .i64 dl], Ob.gh [AV.rf 0 0], Ob.gone, Ob.box [mkS t], Ob.gone, Ob.gone, Ob.gone, Ob.box [AV.mp 1], Ob.gone, Ob.pow [AV.rf 2 0], Ob.pow [AV.rf 2 0], Ob.gone, Ob.gone]) (
         (1 ≤ LIM) →
         (((0 : Int) ≤ (0 : Int)) ∧ ((0 : Int) < (1 : Int))) ∧
         (1 = 1) ∧
         ((1 : Nat) ≤ 1) ∧
         ((D.v (.int IntKind.i64 (1 : Int))) = (D.v (.int IntKind.i64 (intD (D.v (.int IntKind.i64 (1 : Int))))))) ∧
         bcase (c == cn) (
          bcase (!(c == (-(1 : Int)))) (
           (1 ≤ LIM) ∧
           (((0 : Int) ≤ (0 : Int)) ∧ ((0 : Int) < (1 : Int))) ∧
           ((Int.toNat (0 : Int)) < 1) ∧
           q (AV.tp [mkI .i64 0, mkI .i64 0, mkI .i64 8]) [Ob.box [AV.mp 1, mkI .i64 1, mkI .i64 M, mkI .i64 L], Ob.map (KK.int IntKind.i64) [(Key.i IntKind.i64 (1 : Int), AV.rf 2 0)], Ob.box [mkI .i64 1, mkS u, mkS d, mkS tok, mkI .i64 c, mkI .i64 dl], Ob.gh [AV.rf 0 0], Ob.gone, Ob.box [mkS t], Ob.gone, Ob.gone, Ob.gone, Ob.box [AV.mp 1], Ob.gone, Ob.pow [AV.rf 2 0], Ob.pow [AV.rf 2 0], Ob.gone, Ob.gone, Ob.gone, Ob.box [mkI .i64 cn], Ob.gone, Ob.gone, Ob.gone, Ob.box [AV.mp 1], Ob.gone, Ob.gone, Ob.pow [AV.rf 2 0], Ob.pow [AV.rf 2 0]]) (
           q (AV.tp [mkI .i64 1, mkI .i64 c, mkI .i64 0]) [Ob.box [AV.mp 1, mkI .i64 1, mkI .i64 M, mkI .i64 L], Ob.map (KK.int IntKind.i64) [(Key.i IntKind.i64 (1 : Int), AV.rf 2 0)], Ob.box [mkI .i64 1, mkS u, mkS d, mkS tok, mkI .i64 cn, mkI .i64 0], Ob.gh [AV.rf 0 0], Ob.gone, Ob.box [mkS t], Ob.gone, Ob.gone, Ob.gone, Ob.box [AV.mp 1], Ob.gone, Ob.pow [AV.rf 2 0], Ob.pow [AV.rf 2 0], Ob.gone, Ob.gone, Ob.gone, Ob.box [mkI .i64 cn], Ob.gone, Ob.gone, Ob.gone, Ob.box [AV.mp 1], Ob.gone, Ob.gone])) (
          q (AV.tp [mkI .i64 1, mkI .i64 c, mkI .i64 0]) [Ob.box [AV.mp 1, mkI .i64 1, mkI .i64 M, mkI .i64 L], Ob.map (KK.int IntKind.i64) [(Key.i IntKind.i64 (1 : Int), AV.rf 2 0)], Ob.box [mkI .i64 1, mkS u, mkS d, mkS tok, mkI .i64 cn, mkI .i64 0], Ob.gh [AV.rf 0 0], Ob.gone, Ob.box [mkS t], Ob.gone, Ob.gone, Ob.gone, Ob.box [AV.mp 1], Ob.gone, Ob.pow [AV.rf 2 0], Ob.pow [AV.rf 2 0], Ob.gone, Ob.gone, Ob.gone, Ob.box [mkI .i64 cn], Ob.gone, Ob.gone, Ob.gone, Ob.box [AV.mp 1], Ob.gone]))) (
        (1 ≤ LIM) →
        (((0 : Int) ≤ (0 : Int)) ∧ ((0 : Int) < (1 : Int))) ∧
        (1 = 1) ∧
        ((1 : Nat) ≤ 1) ∧
        ((D.v (.int IntKind.i64 (1 : Int))) = (D.v (.int IntKind.i64 (intD (D.v (.int IntKind.i64 (1 : Int))))))) ∧
        bcase (c == cn) (
         bcase (!(c == (-(1 : Int)))) (
          (1 ≤ LIM) ∧
          (((0 : Int) ≤ (0 : Int)) ∧ ((0 : Int) < (1 : Int))) ∧
          ((Int.toNat (0 : Int)) < 1) ∧
          q (AV.tp [mkI .i64 0, mkI .i64 0, mkI .i64 8]) [Ob.box [AV.mp 1, mkI .i64 1, mkI .i64 M, mkI .i64 L], Ob.map (KK.int IntKind.i64) [(Key.i IntKind.i64 (1 : Int), AV.rf 2 0)], Ob.box [mkI .i64 1, mkS u, mkS d, mkS tok, mkI .i64 c, mkI .i64 dl], Ob.gh [AV.rf 0 0], Ob.gone, Ob.box [mkS t], Ob.gone, Ob.gone, Ob.gone, Ob.box [AV.mp 1], Ob.gone, Ob.pow [AV.rf 2 0], Ob.pow [AV.rf 2 0], Ob.gone, Ob.gone, Ob.gone, Ob.box [mkI .i64 cn], Ob.gone, Ob.gone, Ob.gone, Ob.box [AV.mp 1], Ob.gone, Ob.gone, Ob.pow [AV.rf 2 0], Ob.pow [AV.rf 2 0]]) (
          q (AV.tp [mkI .i64 1, mkI .i64 c, mkI .i64 0]) [Ob.box [AV.mp 1, mkI .i64 1, mkI .i64 M, mkI .i64 L], Ob.map (KK.int IntKind.i64) [(Key.i IntKind.i64 (1 : Int), AV.rf 2 0)], Ob.box [mkI .i64 1, mkS u, mkS d, mkS tok, mkI .i64 cn, mkI .i64 0], Ob.gh [AV.rf 0 0], Ob.gone, Ob.box [mkS t], Ob.gone, Ob.gone, Ob.gone, Ob.box [AV.mp 1], Ob.gone, Ob.pow [AV.rf 2 0], Ob.pow [AV.rf 2 0], Ob.gone, Ob.gone, Ob.gone, Ob.box [mkI .i64 cn], Ob.gone, Ob.gone, Ob.gone, Ob.box [AV.mp 1], Ob.gone, Ob.gone])) (
         q (AV.tp [mkI .i64 1, mkI .i64 c, mkI .i64 0]) [Ob.box [AV.mp 1, mkI .i64 1, mkI .i64 M, mkI .i64 L], Ob.map (KK.int IntKind.i64) [(Key.i IntKind.i64 (1 : Int), AV.rf 2 0)], Ob.box [mkI .i64 1, mkS u, mkS d, mkS tok, mkI .i64 cn, mkI .i64 0], Ob.gh [AV.rf 0 0], Ob.gone, Ob.box [mkS t], Ob.gone, Ob.gone, Ob.gone, Ob.box [AV.mp 1], Ob.gone, Ob.pow [AV.rf 2 0], Ob.pow [AV.rf 2 0], Ob.gone, Ob.gone, Ob.gone, Ob.box [mkI .i64 cn], Ob.gone, Ob.gone, Ob.gone, Ob.box [AV.mp 1], Ob.gone]))) (
       q (AV.tp [mkI .i64 0, mkI .i64 0, mkI .i64 7]) [Ob.box [AV.mp 1, mkI .i64 1, mkI .i64 M, mkI .i64 L], Ob.map (KK.int IntKind.i64) [(Key.i IntKind.i64 (1 : Int), AV.rf 2 0)], Ob.box [mkI .i64 1, mkS u, mkS d, mkS tok, mkI .i64 c, mkI .i64 dl], Ob.gh [AV.rf 0 0], Ob.gone, Ob.box [mkS t], Ob.gone, Ob.gone, Ob.gone, Ob.box [AV.mp 1], Ob.gone])) (
      q (AV.tp [mkI .i64 0, mkI .i64 0, mkI .i64 7]) [Ob.box [AV.mp 1, mkI .i64 1, mkI .i64 M, mkI .i64 L], Ob.map (KK.int IntKind.i64) [(Key.i IntKind.i64 (1 : Int), AV.rf 2 0)], Ob.box [mkI .i64 1, mkS u, mkS d, mkS tok, mkI .i64 c, mkI .i64 dl], Ob.gh [AV.rf 0 0], Ob.gone, Ob.box [mkS t], Ob.gone, Ob.gone, Ob.gone, Ob.box [AV.mp 1], Ob.gone]))))) := by kernel_rfl
theorem rLa (u d tok : ByteArray) (c dl M L now : Int) (q : AV → List Ob → Prop) :
  (aUnS KL GS 4 Tryd.b14 (kRetF KL Tryd.f14.results.toList q) ⟨[.rf 0 0, mkI .i64 now] ++ List.replicate (Tryd.f14.ntmps - 2) .jk, obs1 u d tok c dl M L⟩) = (
  (1 ≤ LIM) →
  (((0 : Int) ≤ (0 : Int)) ∧ ((0 : Int) < (1 : Int))) ∧
  (1 = 1) ∧
  ((1 : Nat) ≤ 1) ∧
  ((D.v (.int IntKind.i64 (1 : Int))) = (D.v (.int IntKind.i64 (intD (D.v (.int IntKind.i64 (1 : Int))))))) ∧
  bcase (c == (-(1 : Int))) (
   bcase (decide (dl ≤ now)) (
    (1 ≤ LIM) ∧
    (((0 : Int) ≤ (IntKind.wrap .u8 (IntKind.wrap .u64 (1 : Int)))) ∧ ((IntKind.wrap .u8 (IntKind.wrap .u64 (1 : Int))) < ((ByteArray.size (⟨#[0, 1, 2, 2, 3, 3, 3, 3, 4, 4, 4, 4, 4, 4, 4, 4, 5, 5, 5, 5, 5, 5, 5, 5, 5, 5, 5, 5, 5, 5, 5, 5, 6, 6, 6, 6, 6, 6, 6, 6, 6, 6, 6, 6, 6, 6, 6, 6, 6, 6, 6, 6, 6, 6, 6, 6, 6, 6, 6, 6, 6, 6, 6, 6, 7, 7, 7, 7, 7, 7, 7, 7, 7, 7, 7, 7, 7, 7, 7, 7, 7, 7, 7, 7, 7, 7, 7, 7, 7, 7, 7, 7, 7, 7, 7, 7, 7, 7, 7, 7, 7, 7, 7, 7, 7, 7, 7, 7, 7, 7, 7, 7, 7, 7, 7, 7, 7, 7, 7, 7, 7, 7, 7, 7, 7, 7, 7, 7, 8, 8, 8, 8, 8, 8, 8, 8, 8, 8, 8, 8, 8, 8, 8, 8, 8, 8, 8, 8, 8, 8, 8, 8, 8, 8, 8, 8, 8, 8, 8, 8, 8, 8, 8, 8, 8, 8, 8, 8, 8, 8, 8, 8, 8, 8, 8, 8, 8, 8, 8, 8, 8, 8, 8, 8, 8, 8, 8, 8, 8, 8, 8, 8, 8, 8, 8, 8, 8, 8, 8, 8, 8, 8, 8, 8, 8, 8, 8, 8, 8, 8, 8, 8, 8, 8, 8, 8, 8, 8, 8, 8, 8, 8, 8, 8, 8, 8, 8, 8, 8, 8, 8, 8, 8, 8, 8, 8, 8, 8, 8, 8, 8, 8, 8, 8, 8, 8, 8, 8, 8, 8, 8, 8, 8, 8, 8, 8]⟩ : ByteArray)) : Int))) ∧
    (((0 : Int) ≤ (0 : Int)) ∧ ((0 : Int) < (1 : Int))) ∧
    ((Int.toNat (0 : Int)) < 1) ∧
    (∀ (c_1 : List D), (c_1 ∈ [[D.v (.int IntKind.i64 (1 : Int)), D.v (.string u), D.v (.string d), D.v (.string tok), D.v (.int IntKind.i64 c), D.v (.int IntKind.i64 dl)]]) → (List.length c_1) = 6) ∧
    (1 ≤ LIM) ∧
    q (AV.vw 19 1) [Ob.box [AV.mp 1, mkI .i64 1, mkI .i64 M, mkI .i64 L], Ob.map (KK.int IntKind.i64) [], Ob.box [mkI .i64 1, mkS u, mkS d, mkS tok, mkI .i64 c, mkI .i64 dl], Ob.gh [AV.rf 0 0], Ob.box [mkI .i64 now], Ob.gone, Ob.gone, Ob.box [AV.mp 1], Ob.gone, Ob.gone, Ob.gone, Ob.pow [AV.rf 2 0], Ob.pow [AV.rf 2 0], Ob.gone, Ob.gone, Ob.gone, Ob.gone, Ob.gone, Ob.row 6 [[D.v (.int IntKind.i64 (1 : Int)), D.v (.string u), D.v (.string d), D.v (.string tok), D.v (.int IntKind.i64 c), D.v (.int IntKind.i64 dl)]], Ob.row 6 [[D.v (.int IntKind.i64 (1 : Int)), D.v (.string u), D.v (.string d), D.v (.string tok), D.v (.int IntKind.i64 c), D.v (.int IntKind.i64 dl)]]]) (
    (((0 : Int) ≤ (IntKind.wrap .u8 (IntKind.wrap .u64 (0 : Int)))) ∧ ((IntKind.wrap .u8 (IntKind.wrap .u64 (0 : Int))) < ((ByteArray.size (⟨#[0, 1, 2, 2, 3, 3, 3, 3, 4, 4, 4, 4, 4, 4, 4, 4, 5, 5, 5, 5, 5, 5, 5, 5, 5, 5, 5, 5, 5, 5, 5, 5, 6, 6, 6, 6, 6, 6, 6, 6, 6, 6, 6, 6, 6, 6, 6, 6, 6, 6, 6, 6, 6, 6, 6, 6, 6, 6, 6, 6, 6, 6, 6, 6, 7, 7, 7, 7, 7, 7, 7, 7, 7, 7, 7, 7, 7, 7, 7, 7, 7, 7, 7, 7, 7, 7, 7, 7, 7, 7, 7, 7, 7, 7, 7, 7, 7, 7, 7, 7, 7, 7, 7, 7, 7, 7, 7, 7, 7, 7, 7, 7, 7, 7, 7, 7, 7, 7, 7, 7, 7, 7, 7, 7, 7, 7, 7, 7, 8, 8, 8, 8, 8, 8, 8, 8, 8, 8, 8, 8, 8, 8, 8, 8, 8, 8, 8, 8, 8, 8, 8, 8, 8, 8, 8, 8, 8, 8, 8, 8, 8, 8, 8, 8, 8, 8, 8, 8, 8, 8, 8, 8, 8, 8, 8, 8, 8, 8, 8, 8, 8, 8, 8, 8, 8, 8, 8, 8, 8, 8, 8, 8, 8, 8, 8, 8, 8, 8, 8, 8, 8, 8, 8, 8, 8, 8, 8, 8, 8, 8, 8, 8, 8, 8, 8, 8, 8, 8, 8, 8, 8, 8, 8, 8, 8, 8, 8, 8, 8, 8, 8, 8, 8, 8, 8, 8, 8, 8, 8, 8, 8, 8, 8, 8, 8, 8, 8, 8, 8, 8, 8, 8, 8, 8, 8, 8]⟩ : ByteArray)) : Int))) ∧
    q AV.nl [Ob.box [AV.mp 1, mkI .i64 1, mkI .i64 M, mkI .i64 L], Ob.map (KK.int IntKind.i64) [(Key.i IntKind.i64 (1 : Int), AV.rf 2 0)], Ob.box [mkI .i64 1, mkS u, mkS d, mkS tok, mkI .i64 c, mkI .i64 dl], Ob.gh [AV.rf 0 0], Ob.box [mkI .i64 now], Ob.gone, Ob.gone, Ob.box [AV.mp 1], Ob.gone, Ob.gone, Ob.gone, Ob.gone, Ob.gone, Ob.gone, Ob.gone, Ob.gone])) (
   (((0 : Int) ≤ (IntKind.wrap .u8 (IntKind.wrap .u64 (0 : Int)))) ∧ ((IntKind.wrap .u8 (IntKind.wrap .u64 (0 : Int))) < ((ByteArray.size (⟨#[0, 1, 2, 2, 3, 3, 3, 3, 4, 4, 4, 4, 4, 4, 4, 4, 5, 5, 5, 5, 5, 5, 5, 5, 5, 5, 5, 5, 5, 5, 5, 5, 6, 6, 6, 6, 6, 6, 6, 6, 6, 6, 6, 6, 6, 6, 6, 6, 6, 6, 6, 6, 6, 6, 6, 6, 6, 6, 6, 6, 6, 6, 6, 6, 7, 7, 7, 7, 7, 7, 7, 7, 7, 7, 7, 7, 7, 7, 7, 7, 7, 7, 7, 7, 7, 7, 7, 7, 7, 7, 7, 7, 7, 7, 7, 7, 7, 7, 7, 7, 7, 7, 7, 7, 7, 7, 7, 7, 7, 7, 7, 7, 7, 7, 7, 7, 7, 7, 7, 7, 7, 7, 7, 7, 7, 7, 7, 7, 8, 8, 8, 8, 8, 8, 8, 8, 8, 8, 8, 8, 8, 8, 8, 8, 8, 8, 8, 8, 8, 8, 8, 8, 8, 8, 8, 8, 8, 8, 8, 8, 8, 8, 8, 8, 8, 8, 8, 8, 8, 8, 8, 8, 8, 8, 8, 8, 8, 8, 8, 8, 8, 8, 8, 8, 8, 8, 8, 8, 8, 8, 8, 8, 8, 8, 8, 8, 8, 8, 8, 8, 8, 8, 8, 8, 8, 8, 8, 8, 8, 8, 8, 8, 8, 8, 8, 8, 8, 8, 8, 8, 8, 8, 8, 8, 8, 8, 8, 8, 8, 8, 8, 8, 8, 8, 8, 8, 8, 8, 8, 8, 8, 8, 8, 8, 8, 8, 8, 8, 8, 8, 8, 8, 8, 8, 8, 8]⟩ : ByteArray)) : Int))) ∧
   q AV.nl [Ob.box [AV.mp 1, mkI .i64 1, mkI .i64 M, mkI .i64 L], Ob.map (KK.int IntKind.i64) [(Key.i IntKind.i64 (1 : Int), AV.rf 2 0)], Ob.box [mkI .i64 1, mkS u, mkS d, mkS tok, mkI .i64 c, mkI .i64 dl], Ob.gh [AV.rf 0 0], Ob.box [mkI .i64 now], Ob.gone, Ob.gone, Ob.box [AV.mp 1], Ob.gone, Ob.gone, Ob.gone, Ob.gone, Ob.gone, Ob.gone, Ob.gone, Ob.gone])) := by kernel_rfl
theorem rLa0 (M L now : Int) (q : AV → List Ob → Prop) :
  (aUnS KL GS 4 Tryd.b14 (kRetF KL Tryd.f14.results.toList q) ⟨[.rf 0 0, mkI .i64 now] ++ List.replicate (Tryd.f14.ntmps - 2) .jk, [.box [.mp 1, mkI .i64 1, mkI .i64 M, mkI .i64 L], .map (.int .i64) [], .gh [.rf 0 0]]⟩) = (
  (0 ≤ LIM) →
  (((0 : Int) ≤ (IntKind.wrap .u8 (IntKind.wrap .u64 (0 : Int)))) ∧ ((IntKind.wrap .u8 (IntKind.wrap .u64 (0 : Int))) < ((ByteArray.size (⟨#[0, 1, 2, 2, 3, 3, 3, 3, 4, 4, 4, 4, 4, 4, 4, 4, 5, 5, 5, 5, 5, 5, 5, 5, 5, 5, 5, 5, 5, 5, 5, 5, 6, 6, 6, 6, 6, 6, 6, 6, 6, 6, 6, 6, 6, 6, 6, 6, 6, 6, 6, 6, 6, 6, 6, 6, 6, 6, 6, 6, 6, 6, 6, 6, 7, 7, 7, 7, 7, 7, 7, 7, 7, 7, 7, 7, 7, 7, 7, 7, 7, 7, 7, 7, 7, 7, 7, 7, 7, 7, 7, 7, 7, 7, 7, 7, 7, 7, 7, 7, 7, 7, 7, 7, 7, 7, 7, 7, 7, 7, 7, 7, 7, 7, 7, 7, 7, 7, 7, 7, 7, 7, 7, 7, 7, 7, 7, 7, 8, 8, 8, 8, 8, 8, 8, 8, 8, 8, 8, 8, 8, 8, 8, 8, 8, 8, 8, 8, 8, 8, 8, 8, 8, 8, 8, 8, 8, 8, 8, 8, 8, 8, 8, 8, 8, 8, 8, 8, 8, 8, 8, 8, 8, 8, 8, 8, 8, 8, 8, 8, 8, 8, 8, 8, 8, 8, 8, 8, 8, 8, 8, 8, 8, 8, 8, 8, 8, 8, 8, 8, 8, 8, 8, 8, 8, 8, 8, 8, 8, 8, 8, 8, 8, 8, 8, 8, 8, 8, 8, 8, 8, 8, 8, 8, 8, 8, 8, 8, 8, 8, 8, 8, 8, 8, 8, 8, 8, 8, 8, 8, 8, 8, 8, 8, 8, 8, 8, 8, 8, 8, 8, 8, 8, 8, 8, 8]⟩ : ByteArray)) : Int))) ∧
  q AV.nl [Ob.box [AV.mp 1, mkI .i64 1, mkI .i64 M, mkI .i64 L], Ob.map (KK.int IntKind.i64) [], Ob.gh [AV.rf 0 0], Ob.box [mkI .i64 now], Ob.gone, Ob.gone, Ob.box [AV.mp 1], Ob.gone, Ob.gone, Ob.gone, Ob.gone, Ob.gone]) := by kernel_rfl
theorem rLn (M L : Int) (q : AV → List Ob → Prop) :
  (aUnS KL GS 4 Tryd.b15 (kRetF KL Tryd.f15.results.toList q) ⟨[.rf 0 0] ++ List.replicate (Tryd.f15.ntmps - 1) .jk, [.box [.mp 1, mkI .i64 1, mkI .i64 M, mkI .i64 L], .map (.int .i64) [], .gh [.rf 0 0]]⟩) = (
  q (mkI .i64 0) [Ob.box [AV.mp 1, mkI .i64 1, mkI .i64 M, mkI .i64 L], Ob.map (KK.int IntKind.i64) [], Ob.gh [AV.rf 0 0]]) := by kernel_rfl
theorem gS : GSound Tryd.prog GS := inlS_sound mixed KL_ok gB tabI_ok 8
abbrev REnt := List AV → List Ob → (AV → List Ob → Prop) → Prop
def ENw : List AV → (AV → List Ob → Prop) → Prop := fun al q => ∃ a b, al = [mkI .i64 a, mkI .i64 b] ∧ ∀ M L, M = lim16 a → L = lim1000 b → q (.rf 1 0) [.map (.int .i64) [], .box [.mp 0, mkI .i64 0, mkI .i64 M, mkI .i64 L]]
theorem cNw : NSound Tryd.prog 7 ENw := new_fnN id ghost_id mixed KL_ok gsound_nil Tryd.func7 rfl rfl Tryd.call7 fun al q ⟨a, b, h, hq⟩ => by
  subst h
  exact cast (rNw a b q).symm ⟨rfl, rfl, rfl, rfl, hq _ _ rfl rfl⟩
def EStA : REnt := fun al o q => ∃ u d c M L, al = [.rf 0 0, mkS u, mkS d, mkI .i64 c] ∧ o = [.box [.mp 1, mkI .i64 0, mkI .i64 M, mkI .i64 L], .map (.int .i64) [], .gh [.rf 0 0]] ∧ (userB u = true ∧ userB d = true ∧ 0 ≤ c ∧ 0 < M) ∧ q (.tp [mkI .i64 1, mkI .i64 0, mkI .i64 0]) [.box [.mp 1, mkI .i64 1, mkI .i64 M, mkI .i64 L], .map (.int .i64) [(Key.i .i64 1, .rf 3 0)], .gh [.rf 0 0], .box [mkI .i64 1, mkS u, mkS d, mkS ⟨#[]⟩, mkI .i64 c, mkI .i64 0]]
theorem w01 : IntKind.wrap .i64 (0 + 1) = 1 := by decide
theorem cStA : RSound Tryd.prog 8 EStA := by
  refine ref_gen trimW trimW_ok (unS_bsound 4 mixed KL_ok gS Tryd.b8) KL_ok Tryd.func8 rfl rfl Tryd.call8 fun al o q ⟨u, d, c, M, L, h1, h2, ⟨hu, hd, hc, hM⟩, hq⟩ => ?_
  subst h1 h2
  refine cast (rSt0 u d c M L (trimW q)).symm ⟨trivial, bcaseF (by rw [hu]; rfl) ⟨trivial, bcaseF (by rw [hd]; rfl) (bcaseF (decide_eq_false (by omega)) fun _ _ => bcaseT (decide_eq_true hM) ?_)⟩⟩
  rw [w01]
  exact ⟨_, _, weak_packG [some 0, some 1, some 2, some 14] rfl, hq⟩
def EGvA : REnt := fun al o q => ∃ u d t c dl M L, al = [.rf 0 0, mkI .i64 1, mkS t] ∧ o = obs1 u d ⟨#[]⟩ c dl M L ∧ (t ≠ ⟨#[]⟩ ∧ c ≠ -1) ∧ q (mkI .i64 0) (obs1 u d t c dl M L)
theorem cGvA : RSound Tryd.prog 9 EGvA := by
  refine ref_gen trimW trimW_ok (unS_bsound 4 mixed KL_ok gS Tryd.b9) KL_ok Tryd.func9 rfl rfl Tryd.call9 fun al o q ⟨u, d, t, c, dl, M, L, h1, h2, ⟨ht, hc⟩, hq⟩ => ?_
  subst h1 h2
  refine cast (rGv u d ⟨#[]⟩ t c dl M L (trimW q)).symm (bcaseF (by simp) (bcaseF (by simpa using hc) fun _ => ⟨⟨by omega, by omega⟩, rfl, Nat.le_refl 1, rfl, bcaseF (decide_eq_false fun e => ht e.symm) ?_⟩))
  refine bcaseF (decide_eq_false ht) ?_
  exact ⟨_, _, weak_packG [some 0, some 1, some 2, some 3] rfl, hq⟩
def ELoA : REnt := fun al o q => ∃ u d tok c dl M L now, al = [.rf 0 0, mkI .i64 1, mkI .i64 now] ∧ o = obs1 u d tok c dl M L ∧ (tok ≠ ⟨#[]⟩ ∧ c ≠ -1 ∧ 0 ≤ now ∧ now ≤ 1099511627776) ∧ q (.tp [mkB true, mkI .i64 0]) (obs1 u d tok (-1) (IntKind.wrap .i64 (now + L)) M L)
theorem cLoA : RSound Tryd.prog 10 ELoA := by
  refine ref_gen trimW trimW_ok (unS_bsound 4 mixed KL_ok gS Tryd.b10) KL_ok Tryd.func10 rfl rfl Tryd.call10 fun al o q ⟨u, d, tok, c, dl, M, L, now, h1, h2, ⟨ht, hc, h3, h4⟩, hq⟩ => ?_
  subst h1 h2
  refine cast (rLo u d tok c dl M L now (trimW q)).symm (bcaseF (by simpa using hc) (bcaseF (decide_eq_false (by omega)) (bcaseF (decide_eq_false (by omega)) (bcaseF (decide_eq_false ht) ?_))))
  exact ⟨_, _, weak_packG [some 0, some 1, some 2, some 3] rfl, hq⟩
def EGtA : REnt := fun al o q => ∃ u d tok c dl M L, al = [.rf 0 0, mkI .i64 1] ∧ o = obs1 u d tok c dl M L ∧ q (.tp [.ag [mkI .i64 1, mkS u, mkS d, mkS tok, mkI .i64 c, mkI .i64 dl], mkB true]) (obs1 u d tok c dl M L)
theorem cGtA : RSound Tryd.prog 11 EGtA := by
  refine ref_gen trimW trimW_ok (unS_bsound 4 mixed KL_ok gS Tryd.b11) KL_ok Tryd.func11 rfl rfl Tryd.call11 fun al o q ⟨u, d, tok, c, dl, M, L, h1, h2, hq⟩ => ?_
  subst h1 h2
  exact cast (rGt u d tok c dl M L (trimW q)).symm ⟨_, _, weak_packG [some 0, some 1, some 2, some 3] rfl, hq⟩
def rsOk (c dl now cn a b e c' dl' : Int) : Prop := (c = -1 ∧ dl ≤ now → a = 0 ∧ b = 0 ∧ e = 7 ∧ c' = c ∧ dl' = dl) ∧ (¬ (c = -1 ∧ dl ≤ now) → a = 1 ∧ b = c ∧ e = 0 ∧ c' = cn ∧ dl' = 0)
def ERsA : REnt := fun al o q => ∃ u d tok c dl M L cn now, al = [.rf 0 0, mkS tok, mkI .i64 cn, mkI .i64 now] ∧ o = obs1 u d tok c dl M L ∧ (tok ≠ ⟨#[]⟩ ∧ 0 ≤ cn ∧ 0 ≤ now ∧ now ≤ 1099511627776 ∧ c ≠ cn) ∧ ∀ a b e c' dl', rsOk c dl now cn a b e c' dl' → q (.tp [mkI .i64 a, mkI .i64 b, mkI .i64 e]) (obs1 u d tok c' dl' M L)
theorem cRsA : RSound Tryd.prog 13 ERsA := by
  refine ref_gen trimW trimW_ok (unS_bsound 4 mixed KL_ok gS Tryd.b13) KL_ok Tryd.func13 rfl rfl Tryd.call13 fun al o q ⟨u, d, tok, c, dl, M, L, cn, now, h1, h2, ⟨ht, h3, h4, h5, hc⟩, hq⟩ => ?_
  subst h1 h2
  refine cast (rRs u d tok tok c dl M L cn now (trimW q)).symm (bcaseF (decide_eq_false (by omega)) (bcaseF (decide_eq_false (by omega)) (bcaseF (decide_eq_false (by omega)) fun _ => ⟨⟨by omega, by omega⟩, rfl, Nat.le_refl 1, rfl, bcaseT (decide_eq_true rfl) (bcaseT (by rw [decide_eq_false ht]; rfl) ⟨Nat.le_of_ble_eq_true rfl, ⟨by omega, by omega⟩, by decide, bcase_mk (fun g => bcase_dec (fun g2 => ?_) (fun g2 _ => ⟨⟨by omega, by omega⟩, rfl, Nat.le_refl 1, rfl, bcaseF (by simpa using hc) ?_⟩)) (fun g _ => ⟨⟨by omega, by omega⟩, rfl, Nat.le_refl 1, rfl, bcaseF (by simpa using hc) ?_⟩)⟩)⟩)))
  · have g : c = -1 := by simpa using g
    exact ⟨_, _, weak_packG [some 0, some 1, some 2, some 3] rfl, hq _ _ _ _ _ ⟨fun _ => ⟨rfl, rfl, rfl, rfl, rfl⟩, fun h => absurd ⟨g, g2⟩ h⟩⟩
  · exact ⟨_, _, weak_packG [some 0, some 1, some 2, some 3] rfl, hq _ _ _ _ _ ⟨fun h => absurd h.2 g2, fun _ => ⟨rfl, rfl, rfl, rfl, rfl⟩⟩⟩
  · have g : ¬ c = -1 := by simpa using g
    exact ⟨_, _, weak_packG [some 0, some 1, some 2, some 3] rfl, hq _ _ _ _ _ ⟨fun h => absurd h.1 g, fun _ => ⟨rfl, rfl, rfl, rfl, rfl⟩⟩⟩
def obs0 (M L : Int) : List Ob := [.box [.mp 1, mkI .i64 1, mkI .i64 M, mkI .i64 L], .map (.int .i64) [], .gh [.rf 0 0]]
def laK : List Ob → Nat
  | [_, .map _ [], _] => 1
  | [_, .map _ [_], _, _] => 2
  | _ => 0
def ELaA : REnt := fun al o q => match laK o with
  | 1 => ∃ M L now, al = [.rf 0 0, mkI .i64 now] ∧ o = obs0 M L ∧ q .nl (obs0 M L)
  | 2 => ∃ u d tok c dl M L now, al = [.rf 0 0, mkI .i64 now] ∧ o = obs1 u d tok c dl M L ∧ (c = -1 ∧ dl ≤ now → q (.vw 4 1) [.box [.mp 1, mkI .i64 1, mkI .i64 M, mkI .i64 L], .map (.int .i64) [], .gone, .gh [.rf 0 0], .row 6 [[.v (.int .i64 1), .v (.string u), .v (.string d), .v (.string tok), .v (.int .i64 c), .v (.int .i64 dl)]]]) ∧ (¬ (c = -1 ∧ dl ≤ now) → q .nl (obs1 u d tok c dl M L))
  | _ => False
theorem cLaA : RSound Tryd.prog 14 ELaA := by
  refine ref_gen trimW trimW_ok (unS_bsound 4 mixed KL_ok gS Tryd.b14) KL_ok Tryd.func14 rfl rfl Tryd.call14 fun al o q h => ?_
  unfold ELaA at h
  split at h
  · obtain ⟨M, L, now, rfl, rfl, hq⟩ := h
    exact cast (rLa0 M L now (trimW q)).symm fun _ => ⟨by decide, _, _, weak_packG [some 0, some 1, some 2] rfl, hq⟩
  · obtain ⟨u, d, tok, c, dl, M, L, now, rfl, rfl, hq1, hq2⟩ := h
    refine cast (rLa u d tok c dl M L now (trimW q)).symm fun _ => ⟨⟨by omega, by omega⟩, rfl, Nat.le_refl 1, rfl, bcase_mk (fun g => bcase_dec (fun g2 => ?_) (fun g2 => ?_)) (fun g => ?_)⟩
    · have g : c = -1 := by simpa using g
      refine ⟨Nat.le_of_ble_eq_true rfl, by decide, ⟨by omega, by omega⟩, by decide, by simp, Nat.le_of_ble_eq_true rfl, _, _, weak_packG [some 0, some 1, none, some 3, some 19] rfl, hq1 ⟨g, g2⟩⟩
    · exact ⟨by decide, _, _, weak_packG [some 0, some 1, some 2, some 3] rfl, hq2 fun h => g2 h.2⟩
    · have g : ¬ c = -1 := by simpa using g
      exact ⟨by decide, _, _, weak_packG [some 0, some 1, some 2, some 3] rfl, hq2 fun h => g h.1⟩
  · exact h.elim
def ELnA : REnt := fun al o q => ∃ M L, al = [.rf 0 0] ∧ o = obs0 M L ∧ q (mkI .i64 0) (obs0 M L)
theorem cLnA : RSound Tryd.prog 15 ELnA := by
  refine ref_gen trimW trimW_ok (unS_bsound 4 mixed KL_ok gS Tryd.b15) KL_ok Tryd.func15 rfl rfl Tryd.call15 fun al o q ⟨M, L, h1, h2, hq⟩ => ?_
  subst h1 h2
  exact cast (rLn M L (trimW q)).symm ⟨_, _, weak_packG [some 0, some 1, some 2] rfl, hq⟩
end Go.Proofs.YtepkbbkfcnejmaaDoor
