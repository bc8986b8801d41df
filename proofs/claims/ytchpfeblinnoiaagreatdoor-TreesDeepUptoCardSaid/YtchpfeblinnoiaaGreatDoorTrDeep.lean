import Derived.Test.YtchpfeblinnoiaaGreatDoorTrRd2
import Derived.Test.YtchpfeblinnoiaaGreatDoorFrame3
set_option linter.unusedSimpArgs false
set_option linter.unusedVariables false
namespace Go.Proofs.YtchpfeblinnoiaaGreatDoor
open Go Go.AM Go.RowKit
set_option maxRecDepth 10000
attribute [local irreducible] aUnr aUnS aCode
noncomputable abbrev GDp : List (FuncId × En) := [(8, .det FLv), (15, .pure ERd)]
theorem gDp : GSound Tryz.prog GDp := gsound_det cLv (gsound_pure cRd gsound_nil)
theorem rDp (n : Int) (q : AV → Prop) :
  (aUnS KT GDp 10 Tryz.b5 (kRet KT Tryz.f5.results.toList q) ⟨[mkI .i64 n] ++ List.replicate (Tryz.f5.ntmps - 1) .jk, []⟩) = (
  True ∧
  (((9 : Int) = (0 : Int)) → False) ∧
  bcase (decide ((0 : Int) < (IntKind.wrap .i64 (Int.tmod (IntKind.wrap .u64 n) (9 : Int))))) (
   (((ByteArray.size (⟨#[60, 115, 62]⟩ : ByteArray)) + (ByteArray.size (⟨#[60, 97, 62]⟩ : ByteArray))) ≤ LIM) ∧
   (((ByteArray.size (⟨#[]⟩ : ByteArray)) + (ByteArray.size (⟨#[60, 47, 97, 62]⟩ : ByteArray))) ≤ LIM) ∧
   bcase (decide ((IntKind.wrap .i64 ((0 : Int) + (1 : Int))) < (IntKind.wrap .i64 (Int.tmod (IntKind.wrap .u64 n) (9 : Int))))) (
    (((ByteArray.size ((⟨#[60, 115, 62]⟩ : ByteArray) ++ (⟨#[60, 97, 62]⟩ : ByteArray))) + (ByteArray.size (⟨#[60, 97, 62]⟩ : ByteArray))) ≤ LIM) ∧
    (((ByteArray.size ((⟨#[]⟩ : ByteArray) ++ (⟨#[60, 47, 97, 62]⟩ : ByteArray))) + (ByteArray.size (⟨#[60, 47, 97, 62]⟩ : ByteArray))) ≤ LIM) ∧
    bcase (decide ((IntKind.wrap .i64 ((IntKind.wrap .i64 ((0 : Int) + (1 : Int))) + (1 : Int))) < (IntKind.wrap .i64 (Int.tmod (IntKind.wrap .u64 n) (9 : Int))))) (
     (((ByteArray.size (((⟨#[60, 115, 62]⟩ : ByteArray) ++ (⟨#[60, 97, 62]⟩ : ByteArray)) ++ (⟨#[60, 97, 62]⟩ : ByteArray))) + (ByteArray.size (⟨#[60, 97, 62]⟩ : ByteArray))) ≤ LIM) ∧
     (((ByteArray.size (((⟨#[]⟩ : ByteArray) ++ (⟨#[60, 47, 97, 62]⟩ : ByteArray)) ++ (⟨#[60, 47, 97, 62]⟩ : ByteArray))) + (ByteArray.size (⟨#[60, 47, 97, 62]⟩ : ByteArray))) ≤ LIM) ∧
     bcase (decide ((IntKind.wrap .i64 ((IntKind.wrap .i64 ((IntKind.wrap .i64 ((0 : Int) + (1 : Int))) + (1 : Int))) + (1 : Int))) < (IntKind.wrap .i64 (Int.tmod (IntKind.wrap .u64 n) (9 : Int))))) (
      (((ByteArray.size ((((⟨#[60, 115, 62]⟩ : ByteArray) ++ (⟨#[60, 97, 62]⟩ : ByteArray)) ++ (⟨#[60, 97, 62]⟩ : ByteArray)) ++ (⟨#[60, 97, 62]⟩ : ByteArray))) + (ByteArray.size (⟨#[60, 97, 62]⟩ : ByteArray))) ≤ LIM) ∧
      (((ByteArray.size ((((⟨#[]⟩ : ByteArray) ++ (⟨#[60, 47, 97, 62]⟩ : ByteArray)) ++ (⟨#[60, 47, 97, 62]⟩ : ByteArray)) ++ (⟨#[60, 47, 97, 62]⟩ : ByteArray))) + (ByteArray.size (⟨#[60, 47, 97, 62]⟩ : ByteArray))) ≤ LIM) ∧
      bcase (decide ((IntKind.wrap .i64 ((IntKind.wrap .i64 ((IntKind.wrap .i64 ((IntKind.wrap .i64 ((0 : Int) + (1 : Int))) + (1 : Int))) + (1 : Int))) + (1 : Int))) < (IntKind.wrap .i64 (Int.tmod (IntKind.wrap .u64 n) (9 : Int))))) (
       (((ByteArray.size (((((⟨#[60, 115, 62]⟩ : ByteArray) ++ (⟨#[60, 97, 62]⟩ : ByteArray)) ++ (⟨#[60, 97, 62]⟩ : ByteArray)) ++ (⟨#[60, 97, 62]⟩ : ByteArray)) ++ (⟨#[60, 97, 62]⟩ : ByteArray))) + (ByteArray.size (⟨#[60, 97, 62]⟩ : ByteArray))) ≤ LIM) ∧
       (((ByteArray.size (((((⟨#[]⟩ : ByteArray) ++ (⟨#[60, 47, 97, 62]⟩ : ByteArray)) ++ (⟨#[60, 47, 97, 62]⟩ : ByteArray)) ++ (⟨#[60, 47, 97, 62]⟩ : ByteArray)) ++ (⟨#[60, 47, 97, 62]⟩ : ByteArray))) + (ByteArray.size (⟨#[60, 47, 97, 62]⟩ : ByteArray))) ≤ LIM) ∧
       bcase (decide ((IntKind.wrap .i64 ((IntKind.wrap .i64 ((IntKind.wrap .i64 ((IntKind.wrap .i64 ((IntKind.wrap .i64 ((0 : Int) + (1 : Int))) + (1 : Int))) + (1 : Int))) + (1 : Int))) + (1 : Int))) < (IntKind.wrap .i64 (Int.tmod (IntKind.wrap .u64 n) (9 : Int))))) (
        (((ByteArray.size ((((((⟨#[60, 115, 62]⟩ : ByteArray) ++ (⟨#[60, 97, 62]⟩ : ByteArray)) ++ (⟨#[60, 97, 62]⟩ : ByteArray)) ++ (⟨#[60, 97, 62]⟩ : ByteArray)) ++ (⟨#[60, 97, 62]⟩ : ByteArray)) ++ (⟨#[60, 97, 62]⟩ : ByteArray))) + (ByteArray.size (⟨#[60, 97, 62]⟩ : ByteArray))) ≤ LIM) ∧
        (((ByteArray.size ((((((⟨#[]⟩ : ByteArray) ++ (⟨#[60, 47, 97, 62]⟩ : ByteArray)) ++ (⟨#[60, 47, 97, 62]⟩ : ByteArray)) ++ (⟨#[60, 47, 97, 62]⟩ : ByteArray)) ++ (⟨#[60, 47, 97, 62]⟩ : ByteArray)) ++ (⟨#[60, 47, 97, 62]⟩ : ByteArray))) + (ByteArray.size (⟨#[60, 47, 97, 62]⟩ : ByteArray))) ≤ LIM) ∧
        bcase (decide ((IntKind.wrap .i64 ((IntKind.wrap .i64 ((IntKind.wrap .i64 ((IntKind.wrap .i64 ((IntKind.wrap .i64 ((IntKind.wrap .i64 ((0 : Int) + (1 : Int))) + (1 : Int))) + (1 : Int))) + (1 : Int))) + (1 : Int))) + (1 : Int))) < (IntKind.wrap .i64 (Int.tmod (IntKind.wrap .u64 n) (9 : Int))))) (
         (((ByteArray.size (((((((⟨#[60, 115, 62]⟩ : ByteArray) ++ (⟨#[60, 97, 62]⟩ : ByteArray)) ++ (⟨#[60, 97, 62]⟩ : ByteArray)) ++ (⟨#[60, 97, 62]⟩ : ByteArray)) ++ (⟨#[60, 97, 62]⟩ : ByteArray)) ++ (⟨#[60, 97, 62]⟩ : ByteArray)) ++ (⟨#[60, 97, 62]⟩ : ByteArray))) + (ByteArray.size (⟨#[60, 97, 62]⟩ : ByteArray))) ≤ LIM) ∧
         (((ByteArray.size (((((((⟨#[]⟩ : ByteArray) ++ (⟨#[60, 47, 97, 62]⟩ : ByteArray)) ++ (⟨#[60, 47, 97, 62]⟩ : ByteArray)) ++ (⟨#[60, 47, 97, 62]⟩ : ByteArray)) ++ (⟨#[60, 47, 97, 62]⟩ : ByteArray)) ++ (⟨#[60, 47, 97, 62]⟩ : ByteArray)) ++ (⟨#[60, 47, 97, 62]⟩ : ByteArray))) + (ByteArray.size (⟨#[60, 47, 97, 62]⟩ : ByteArray))) ≤ LIM) ∧
         bcase (decide ((IntKind.wrap .i64 ((IntKind.wrap .i64 ((IntKind.wrap .i64 ((IntKind.wrap .i64 ((IntKind.wrap .i64 ((IntKind.wrap .i64 ((IntKind.wrap .i64 ((0 : Int) + (1 : Int))) + (1 : Int))) + (1 : Int))) + (1 : Int))) + (1 : Int))) + (1 : Int))) + (1 : Int))) < (IntKind.wrap .i64 (Int.tmod (IntKind.wrap .u64 n) (9 : Int))))) (
          (((ByteArray.size ((((((((⟨#[60, 115, 62]⟩ : ByteArray) ++ (⟨#[60, 97, 62]⟩ : ByteArray)) ++ (⟨#[60, 97, 62]⟩ : ByteArray)) ++ (⟨#[60, 97, 62]⟩ : ByteArray)) ++ (⟨#[60, 97, 62]⟩ : ByteArray)) ++ (⟨#[60, 97, 62]⟩ : ByteArray)) ++ (⟨#[60, 97, 62]⟩ : ByteArray)) ++ (⟨#[60, 97, 62]⟩ : ByteArray))) + (ByteArray.size (⟨#[60, 97, 62]⟩ : ByteArray))) ≤ LIM) ∧
          (((ByteArray.size ((((((((⟨#[]⟩ : ByteArray) ++ (⟨#[60, 47, 97, 62]⟩ : ByteArray)) ++ (⟨#[60, 47, 97, 62]⟩ : ByteArray)) ++ (⟨#[60, 47, 97, 62]⟩ : ByteArray)) ++ (⟨#[60, 47, 97, 62]⟩ : ByteArray)) ++ (⟨#[60, 47, 97, 62]⟩ : ByteArray)) ++ (⟨#[60, 47, 97, 62]⟩ : ByteArray)) ++ (⟨#[60, 47, 97, 62]⟩ : ByteArray))) + (ByteArray.size (⟨#[60, 47, 97, 62]⟩ : ByteArray))) ≤ LIM) ∧
          bcase (decide ((IntKind.wrap .i64 ((IntKind.wrap .i64 ((IntKind.wrap .i64 ((IntKind.wrap .i64 ((IntKind.wrap .i64 ((IntKind.wrap .i64 ((IntKind.wrap .i64 ((IntKind.wrap .i64 ((0 : Int) + (1 : Int))) + (1 : Int))) + (1 : Int))) + (1 : Int))) + (1 : Int))) + (1 : Int))) + (1 : Int))) + (1 : Int))) < (IntKind.wrap .i64 (Int.tmod (IntKind.wrap .u64 n) (9 : Int))))) (
           (((ByteArray.size (((((((((⟨#[60, 115, 62]⟩ : ByteArray) ++ (⟨#[60, 97, 62]⟩ : ByteArray)) ++ (⟨#[60, 97, 62]⟩ : ByteArray)) ++ (⟨#[60, 97, 62]⟩ : ByteArray)) ++ (⟨#[60, 97, 62]⟩ : ByteArray)) ++ (⟨#[60, 97, 62]⟩ : ByteArray)) ++ (⟨#[60, 97, 62]⟩ : ByteArray)) ++ (⟨#[60, 97, 62]⟩ : ByteArray)) ++ (⟨#[60, 97, 62]⟩ : ByteArray))) + (ByteArray.size (⟨#[60, 97, 62]⟩ : ByteArray))) ≤ LIM) ∧
           (((ByteArray.size (((((((((⟨#[]⟩ : ByteArray) ++ (⟨#[60, 47, 97, 62]⟩ : ByteArray)) ++ (⟨#[60, 47, 97, 62]⟩ : ByteArray)) ++ (⟨#[60, 47, 97, 62]⟩ : ByteArray)) ++ (⟨#[60, 47, 97, 62]⟩ : ByteArray)) ++ (⟨#[60, 47, 97, 62]⟩ : ByteArray)) ++ (⟨#[60, 47, 97, 62]⟩ : ByteArray)) ++ (⟨#[60, 47, 97, 62]⟩ : ByteArray)) ++ (⟨#[60, 47, 97, 62]⟩ : ByteArray))) + (ByteArray.size (⟨#[60, 47, 97, 62]⟩ : ByteArray))) ≤ LIM) ∧
           bcase (decide ((IntKind.wrap .i64 ((IntKind.wrap .i64 ((IntKind.wrap .i64 ((IntKind.wrap .i64 ((IntKind.wrap .i64 ((IntKind.wrap .i64 ((IntKind.wrap .i64 ((IntKind.wrap .i64 ((IntKind.wrap .i64 ((0 : Int) + (1 : Int))) + (1 : Int))) + (1 : Int))) + (1 : Int))) + (1 : Int))) + (1 : Int))) + (1 : Int))) + (1 : Int))) + (1 : Int))) < (IntKind.wrap .i64 (Int.tmod (IntKind.wrap .u64 n) (9 : Int))))) (
            (((ByteArray.size ((((((((((⟨#[60, 115, 62]⟩ : ByteArray) ++ (⟨#[60, 97, 62]⟩ : ByteArray)) ++ (⟨#[60, 97, 62]⟩ : ByteArray)) ++ (⟨#[60, 97, 62]⟩ : ByteArray)) ++ (⟨#[60, 97, 62]⟩ : ByteArray)) ++ (⟨#[60, 97, 62]⟩ : ByteArray)) ++ (⟨#[60, 97, 62]⟩ : ByteArray)) ++ (⟨#[60, 97, 62]⟩ : ByteArray)) ++ (⟨#[60, 97, 62]⟩ : ByteArray)) ++ (⟨#[60, 97, 62]⟩ : ByteArray))) + (ByteArray.size (⟨#[60, 97, 62]⟩ : ByteArray))) ≤ LIM) ∧
            (((ByteArray.size ((((((((((⟨#[]⟩ : ByteArray) ++ (⟨#[60, 47, 97, 62]⟩ : ByteArray)) ++ (⟨#[60, 47, 97, 62]⟩ : ByteArray)) ++ (⟨#[60, 47, 97, 62]⟩ : ByteArray)) ++ (⟨#[60, 47, 97, 62]⟩ : ByteArray)) ++ (⟨#[60, 47, 97, 62]⟩ : ByteArray)) ++ (⟨#[60, 47, 97, 62]⟩ : ByteArray)) ++ (⟨#[60, 47, 97, 62]⟩ : ByteArray)) ++ (⟨#[60, 47, 97, 62]⟩ : ByteArray)) ++ (⟨#[60, 47, 97, 62]⟩ : ByteArray))) + (ByteArray.size (⟨#[60, 47, 97, 62]⟩ : ByteArray))) ≤ LIM) ∧
            False) (
            (((ByteArray.size ((((((((((⟨#[60, 115, 62]⟩ : ByteArray) ++ (⟨#[60, 97, 62]⟩ : ByteArray)) ++ (⟨#[60, 97, 62]⟩ : ByteArray)) ++ (⟨#[60, 97, 62]⟩ : ByteArray)) ++ (⟨#[60, 97, 62]⟩ : ByteArray)) ++ (⟨#[60, 97, 62]⟩ : ByteArray)) ++ (⟨#[60, 97, 62]⟩ : ByteArray)) ++ (⟨#[60, 97, 62]⟩ : ByteArray)) ++ (⟨#[60, 97, 62]⟩ : ByteArray)) ++ (⟨#[60, 97, 62]⟩ : ByteArray))) + (ByteArray.size ((((((((((⟨#[]⟩ : ByteArray) ++ (⟨#[60, 47, 97, 62]⟩ : ByteArray)) ++ (⟨#[60, 47, 97, 62]⟩ : ByteArray)) ++ (⟨#[60, 47, 97, 62]⟩ : ByteArray)) ++ (⟨#[60, 47, 97, 62]⟩ : ByteArray)) ++ (⟨#[60, 47, 97, 62]⟩ : ByteArray)) ++ (⟨#[60, 47, 97, 62]⟩ : ByteArray)) ++ (⟨#[60, 47, 97, 62]⟩ : ByteArray)) ++ (⟨#[60, 47, 97, 62]⟩ : ByteArray)) ++ (⟨#[60, 47, 97, 62]⟩ : ByteArray)))) ≤ LIM) ∧
            False)) (
           (((ByteArray.size (((((((((⟨#[60, 115, 62]⟩ : ByteArray) ++ (⟨#[60, 97, 62]⟩ : ByteArray)) ++ (⟨#[60, 97, 62]⟩ : ByteArray)) ++ (⟨#[60, 97, 62]⟩ : ByteArray)) ++ (⟨#[60, 97, 62]⟩ : ByteArray)) ++ (⟨#[60, 97, 62]⟩ : ByteArray)) ++ (⟨#[60, 97, 62]⟩ : ByteArray)) ++ (⟨#[60, 97, 62]⟩ : ByteArray)) ++ (⟨#[60, 97, 62]⟩ : ByteArray))) + (ByteArray.size (((((((((⟨#[]⟩ : ByteArray) ++ (⟨#[60, 47, 97, 62]⟩ : ByteArray)) ++ (⟨#[60, 47, 97, 62]⟩ : ByteArray)) ++ (⟨#[60, 47, 97, 62]⟩ : ByteArray)) ++ (⟨#[60, 47, 97, 62]⟩ : ByteArray)) ++ (⟨#[60, 47, 97, 62]⟩ : ByteArray)) ++ (⟨#[60, 47, 97, 62]⟩ : ByteArray)) ++ (⟨#[60, 47, 97, 62]⟩ : ByteArray)) ++ (⟨#[60, 47, 97, 62]⟩ : ByteArray)))) ≤ LIM) ∧ (
            ∀ (rows : List (List D)),
            ((List.length rows) = (1 : Nat)) →
            bcase (decide ((IntKind.wrap .i64 (Int.tmod (IntKind.wrap .u64 n) (9 : Int))) > (4 : Int))) (
             ((List.length rows) ≤ LIM) →
             bcase (((List.length rows) : Int) == (1 : Int)) (
              q (mkB ((0 : Int) == (0 : Int)))) (
              q (mkB false))) (
             bcase (decide ((IntKind.wrap .i64 (Int.tmod (IntKind.wrap .u64 n) (9 : Int))) > (0 : Int))) (
              q (mkB false)) (
              q (mkB false)))))) (
          (((ByteArray.size ((((((((⟨#[60, 115, 62]⟩ : ByteArray) ++ (⟨#[60, 97, 62]⟩ : ByteArray)) ++ (⟨#[60, 97, 62]⟩ : ByteArray)) ++ (⟨#[60, 97, 62]⟩ : ByteArray)) ++ (⟨#[60, 97, 62]⟩ : ByteArray)) ++ (⟨#[60, 97, 62]⟩ : ByteArray)) ++ (⟨#[60, 97, 62]⟩ : ByteArray)) ++ (⟨#[60, 97, 62]⟩ : ByteArray))) + (ByteArray.size ((((((((⟨#[]⟩ : ByteArray) ++ (⟨#[60, 47, 97, 62]⟩ : ByteArray)) ++ (⟨#[60, 47, 97, 62]⟩ : ByteArray)) ++ (⟨#[60, 47, 97, 62]⟩ : ByteArray)) ++ (⟨#[60, 47, 97, 62]⟩ : ByteArray)) ++ (⟨#[60, 47, 97, 62]⟩ : ByteArray)) ++ (⟨#[60, 47, 97, 62]⟩ : ByteArray)) ++ (⟨#[60, 47, 97, 62]⟩ : ByteArray)))) ≤ LIM) ∧ (
           ∀ (rows : List (List D)),
           ((List.length rows) = (1 : Nat)) →
           bcase (decide ((IntKind.wrap .i64 (Int.tmod (IntKind.wrap .u64 n) (9 : Int))) > (4 : Int))) (
            ((List.length rows) ≤ LIM) →
            bcase (((List.length rows) : Int) == (1 : Int)) (
             q (mkB ((0 : Int) == (0 : Int)))) (
             q (mkB false))) (
            bcase (decide ((IntKind.wrap .i64 (Int.tmod (IntKind.wrap .u64 n) (9 : Int))) > (0 : Int))) (
             q (mkB false)) (
             q (mkB false)))))) (
         (((ByteArray.size (((((((⟨#[60, 115, 62]⟩ : ByteArray) ++ (⟨#[60, 97, 62]⟩ : ByteArray)) ++ (⟨#[60, 97, 62]⟩ : ByteArray)) ++ (⟨#[60, 97, 62]⟩ : ByteArray)) ++ (⟨#[60, 97, 62]⟩ : ByteArray)) ++ (⟨#[60, 97, 62]⟩ : ByteArray)) ++ (⟨#[60, 97, 62]⟩ : ByteArray))) + (ByteArray.size (((((((⟨#[]⟩ : ByteArray) ++ (⟨#[60, 47, 97, 62]⟩ : ByteArray)) ++ (⟨#[60, 47, 97, 62]⟩ : ByteArray)) ++ (⟨#[60, 47, 97, 62]⟩ : ByteArray)) ++ (⟨#[60, 47, 97, 62]⟩ : ByteArray)) ++ (⟨#[60, 47, 97, 62]⟩ : ByteArray)) ++ (⟨#[60, 47, 97, 62]⟩ : ByteArray)))) ≤ LIM) ∧ (
          ∀ (rows : List (List D)),
          ((List.length rows) = (1 : Nat)) →
          bcase (decide ((IntKind.wrap .i64 (Int.tmod (IntKind.wrap .u64 n) (9 : Int))) > (4 : Int))) (
           ((List.length rows) ≤ LIM) →
           bcase (((List.length rows) : Int) == (1 : Int)) (
            q (mkB ((0 : Int) == (0 : Int)))) (
            q (mkB false))) (
           bcase (decide ((IntKind.wrap .i64 (Int.tmod (IntKind.wrap .u64 n) (9 : Int))) > (0 : Int))) (
            q (mkB false)) (
            q (mkB false)))))) (
        (((ByteArray.size ((((((⟨#[60, 115, 62]⟩ : ByteArray) ++ (⟨#[60, 97, 62]⟩ : ByteArray)) ++ (⟨#[60, 97, 62]⟩ : ByteArray)) ++ (⟨#[60, 97, 62]⟩ : ByteArray)) ++ (⟨#[60, 97, 62]⟩ : ByteArray)) ++ (⟨#[60, 97, 62]⟩ : ByteArray))) + (ByteArray.size ((((((⟨#[]⟩ : ByteArray) ++ (⟨#[60, 47, 97, 62]⟩ : ByteArray)) ++ (⟨#[60, 47, 97, 62]⟩ : ByteArray)) ++ (⟨#[60, 47, 97, 62]⟩ : ByteArray)) ++ (⟨#[60, 47, 97, 62]⟩ : ByteArray)) ++ (⟨#[60, 47, 97, 62]⟩ : ByteArray)))) ≤ LIM) ∧ (
         ∀ (rows : List (List D)),
         ((List.length rows) = (1 : Nat)) →
         bcase (decide ((IntKind.wrap .i64 (Int.tmod (IntKind.wrap .u64 n) (9 : Int))) > (4 : Int))) (
          ((List.length rows) ≤ LIM) →
          bcase (((List.length rows) : Int) == (1 : Int)) (
           q (mkB ((0 : Int) == (0 : Int)))) (
           q (mkB false))) (
          bcase (decide ((IntKind.wrap .i64 (Int.tmod (IntKind.wrap .u64 n) (9 : Int))) > (0 : Int))) (
           q (mkB false)) (
           q (mkB false)))))) (
       (((ByteArray.size (((((⟨#[60, 115, 62]⟩ : ByteArray) ++ (⟨#[60, 97, 62]⟩ : ByteArray)) ++ (⟨#[60, 97, 62]⟩ : ByteArray)) ++ (⟨#[60, 97, 62]⟩ : ByteArray)) ++ (⟨#[60, 97, 62]⟩ : ByteArray))) + (ByteArray.size (((((⟨#[]⟩ : ByteArray) ++ (⟨#[60, 47, 97, 62]⟩ : ByteArray)) ++ (⟨#[60, 47, 97, 62]⟩ : ByteArray)) ++ (⟨#[60, 47, 97, 62]⟩ : ByteArray)) ++ (⟨#[60, 47, 97, 62]⟩ : ByteArray)))) ≤ LIM) ∧ (
        ∀ (rows : List (List D)),
        ((List.length rows) = (2 : Nat)) →
        bcase (decide ((IntKind.wrap .i64 (Int.tmod (IntKind.wrap .u64 n) (9 : Int))) > (4 : Int))) (
         q (mkB false)) (
         bcase (decide ((IntKind.wrap .i64 (Int.tmod (IntKind.wrap .u64 n) (9 : Int))) > (0 : Int))) (
          ((List.length rows) ≤ LIM) →
          bcase (((List.length rows) : Int) == (2 : Int)) (
           q (mkB ((1 : Int) == (1 : Int)))) (
           q (mkB false))) (
          ((List.length rows) ≤ LIM) →
          bcase (((List.length rows) : Int) == (1 : Int)) (
           q (mkB ((1 : Int) == (1 : Int)))) (
           q (mkB false))))))) (
      (((ByteArray.size ((((⟨#[60, 115, 62]⟩ : ByteArray) ++ (⟨#[60, 97, 62]⟩ : ByteArray)) ++ (⟨#[60, 97, 62]⟩ : ByteArray)) ++ (⟨#[60, 97, 62]⟩ : ByteArray))) + (ByteArray.size ((((⟨#[]⟩ : ByteArray) ++ (⟨#[60, 47, 97, 62]⟩ : ByteArray)) ++ (⟨#[60, 47, 97, 62]⟩ : ByteArray)) ++ (⟨#[60, 47, 97, 62]⟩ : ByteArray)))) ≤ LIM) ∧ (
       ∀ (rows : List (List D)),
       ((List.length rows) = (2 : Nat)) →
       bcase (decide ((IntKind.wrap .i64 (Int.tmod (IntKind.wrap .u64 n) (9 : Int))) > (4 : Int))) (
        q (mkB false)) (
        bcase (decide ((IntKind.wrap .i64 (Int.tmod (IntKind.wrap .u64 n) (9 : Int))) > (0 : Int))) (
         ((List.length rows) ≤ LIM) →
         bcase (((List.length rows) : Int) == (2 : Int)) (
          q (mkB ((1 : Int) == (1 : Int)))) (
          q (mkB false))) (
         ((List.length rows) ≤ LIM) →
         bcase (((List.length rows) : Int) == (1 : Int)) (
          q (mkB ((1 : Int) == (1 : Int)))) (
          q (mkB false))))))) (
     (((ByteArray.size (((⟨#[60, 115, 62]⟩ : ByteArray) ++ (⟨#[60, 97, 62]⟩ : ByteArray)) ++ (⟨#[60, 97, 62]⟩ : ByteArray))) + (ByteArray.size (((⟨#[]⟩ : ByteArray) ++ (⟨#[60, 47, 97, 62]⟩ : ByteArray)) ++ (⟨#[60, 47, 97, 62]⟩ : ByteArray)))) ≤ LIM) ∧ (
      ∀ (rows : List (List D)),
      ((List.length rows) = (2 : Nat)) →
      bcase (decide ((IntKind.wrap .i64 (Int.tmod (IntKind.wrap .u64 n) (9 : Int))) > (4 : Int))) (
       q (mkB false)) (
       bcase (decide ((IntKind.wrap .i64 (Int.tmod (IntKind.wrap .u64 n) (9 : Int))) > (0 : Int))) (
        ((List.length rows) ≤ LIM) →
        bcase (((List.length rows) : Int) == (2 : Int)) (
         q (mkB ((1 : Int) == (1 : Int)))) (
         q (mkB false))) (
        ((List.length rows) ≤ LIM) →
        bcase (((List.length rows) : Int) == (1 : Int)) (
         q (mkB ((1 : Int) == (1 : Int)))) (
         q (mkB false))))))) (
    (((ByteArray.size ((⟨#[60, 115, 62]⟩ : ByteArray) ++ (⟨#[60, 97, 62]⟩ : ByteArray))) + (ByteArray.size ((⟨#[]⟩ : ByteArray) ++ (⟨#[60, 47, 97, 62]⟩ : ByteArray)))) ≤ LIM) ∧ (
     ∀ (rows : List (List D)),
     ((List.length rows) = (2 : Nat)) →
     bcase (decide ((IntKind.wrap .i64 (Int.tmod (IntKind.wrap .u64 n) (9 : Int))) > (4 : Int))) (
      q (mkB false)) (
      bcase (decide ((IntKind.wrap .i64 (Int.tmod (IntKind.wrap .u64 n) (9 : Int))) > (0 : Int))) (
       ((List.length rows) ≤ LIM) →
       bcase (((List.length rows) : Int) == (2 : Int)) (
        q (mkB ((1 : Int) == (1 : Int)))) (
        q (mkB false))) (
       ((List.length rows) ≤ LIM) →
       bcase (((List.length rows) : Int) == (1 : Int)) (
        q (mkB ((1 : Int) == (1 : Int)))) (
        q (mkB false))))))) (
   (((ByteArray.size (⟨#[60, 115, 62]⟩ : ByteArray)) + (ByteArray.size (⟨#[]⟩ : ByteArray))) ≤ LIM) ∧ (
    ∀ (rows : List (List D)),
    ((List.length rows) = (1 : Nat)) →
    bcase (decide ((IntKind.wrap .i64 (Int.tmod (IntKind.wrap .u64 n) (9 : Int))) > (4 : Int))) (
     q (mkB false)) (
     bcase (decide ((IntKind.wrap .i64 (Int.tmod (IntKind.wrap .u64 n) (9 : Int))) > (0 : Int))) (
      ((List.length rows) ≤ LIM) →
      bcase (((List.length rows) : Int) == (2 : Int)) (
       q (mkB ((1 : Int) == (1 : Int)))) (
       q (mkB false))) (
      ((List.length rows) ≤ LIM) →
      bcase (((List.length rows) : Int) == (1 : Int)) (
       q (mkB ((1 : Int) == (1 : Int)))) (
       q (mkB false))))))) := by kernel_rfl
theorem mod9 (n : Int) : 0 ≤ IntKind.wrap .i64 (Int.tmod (IntKind.wrap .u64 n) 9) ∧ IntKind.wrap .i64 (Int.tmod (IntKind.wrap .u64 n) 9) ≤ 8 := by
  have h1 : 0 ≤ IntKind.wrap .u64 n := by rw [IntKind.wrap_u64]; omega
  have h2 : 0 ≤ Int.tmod (IntKind.wrap .u64 n) 9 ∧ Int.tmod (IntKind.wrap .u64 n) 9 < 9 := by
    rw [Int.tmod_eq_emod_of_nonneg h1]
    omega
  rw [IntWalk.i64_in _ (by omega)]
  omega
def FDp : List AV → Option (Prop × AV) := fun al => match al with
  | [.d (.v (.int .i64 n))] => some (True, mkB true)
  | _ => none
set_option maxHeartbeats 4000000 in
theorem cDp : PSound Tryz.prog 5 (detE FDp) := by
  refine det_gen (unS_bsound 10 mixed KT_ok gDp Tryz.b5) KT_ok Tryz.func5 rfl rfl Tryz.call5 fun al p r q hF hp hq => ?_
  unfold FDp at hF; split at hF <;> cases hF
  rename_i n
  refine cast (rDp n q).symm ?_
  have hm := mod9 n
  generalize IntKind.wrap .i64 (Int.tmod (IntKind.wrap .u64 n) 9) = m at hm ⊢
  have hh : m = 0 ∨ m = 1 ∨ m = 2 ∨ m = 3 ∨ m = 4 ∨ m = 5 ∨ m = 6 ∨ m = 7 ∨ m = 8 := by omega
  rcases hh with rfl | rfl | rfl | rfl | rfl | rfl | rfl | rfl | rfl <;>
    repeat' (first | exact trivial | exact hq | refine And.intro ?_ ?_ | refine bcaseT (by decide) ?_ | refine bcaseF (by decide) ?_ | (intro rows hr; simp only [hr]) | (intro h; exact absurd h (by decide)) | decide | (unfold LIM; decide) | intro _)
theorem tyargs1 {P : Program} {t : TypeId} : ∀ {as' : List AV}, TyArgs P [t] as' → ∃ a, as' = [a] ∧ TyArg P t a
  | [], h => h.elim
  | [a], h => ⟨a, rfl, h.1⟩
  | _ :: _ :: _, h => h.2.elim
theorem hDp : ∀ as', TyArgs Tryz.prog Tryz.f5.params.toList as' → ∃ p, FDp as' = some (p, mkB true) ∧ p := by
  intro as' h
  rw [Tryz.params5] at h
  obtain ⟨a, rfl, ha⟩ := tyargs1 h
  obtain ⟨n, rfl, -⟩ := arg_int Tryz.underlying3 ha
  exact ⟨_, rfl, trivial⟩
end Go.Proofs.YtchpfeblinnoiaaGreatDoor
