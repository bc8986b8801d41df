import Derived.Test.YtchpfeblinnoiaaGreatDoorTagsPre
set_option linter.unusedSimpArgs false
set_option linter.unusedVariables false
namespace Go.Proofs.YtchpfeblinnoiaaGreatDoor
open Go Go.AM Go.RowKit
noncomputable def r46_k0 (q : AV → Prop) : Kont := kBlk (0 : Nat) (kSeq (aCode Tryz.K [] (cAt [1, 1] Tryz.b56) (kRet Tryz.K (Array.toList (Func.results Tryz.f56)) q)) (kRet Tryz.K (Array.toList (Func.results Tryz.f56)) q))
theorem r46 (s : ByteArray) (q : AV → Prop) :
  (aCode Tryz.K [] Tryz.b56 (kRet Tryz.K Tryz.f56.results.toList q) ⟨[mkS s] ++ List.replicate (Tryz.f56.ntmps - 1) .jk, []⟩) = (
  ((List.length (bytesD s)) ≤ LIM) →
  ALoop (aCode Tryz.K [] (cAt [1, 0, 1, 0, 0] Tryz.b56)) (r46_k0 q) ⟨[mkS s, AV.jk, mkB false, AV.jk, AV.jk, AV.jk, AV.jk, mkS s, AV.d (.sl (bytesD s)), mkI .i64 ((List.length (bytesD s)) : Int), mkI .i64 0, AV.jk, AV.jk, AV.jk, AV.jk, AV.jk, AV.jk, AV.jk, AV.jk, AV.jk, AV.jk, AV.jk, AV.jk, AV.jk, AV.jk, AV.jk, AV.jk, AV.jk, AV.jk, AV.jk, AV.jk, AV.jk, AV.jk, AV.jk, AV.jk, AV.jk, AV.jk, AV.jk, AV.jk, AV.jk, AV.jk, AV.jk, AV.jk, AV.jk, AV.jk, AV.jk, AV.jk, AV.jk, AV.jk, AV.jk, AV.jk, AV.jk, AV.jk], []⟩) := by kernel_rfl
def st46 (s : ByteArray) (i : Int) : S := ⟨[mkS s, .jk, mkB false, .jk, .jk, .jk, .jk, mkS s, .d (.sl (bytesD s)), mkI .i64 ((bytesD s).length : Int), mkI .i64 i] ++ jks 42, []⟩
def m46 : List Bool := maskOf (st46 ⟨#[]⟩ 0)
theorem r46_b {ι : Type} (st : ι → S) (inv : ι → Prop) (μ : ι → Nat) (k : ι) (s : ByteArray) (i : Int) (q : AV → Prop) :
  (aCode Tryz.K [] (cAt [1, 0, 1, 0, 0] Tryz.b56) (kFamM [] m46 st inv μ k (r46_k0 q)) (st46 s i)) = (
  bcase (decide (i < ((List.length (bytesD s)) : Int))) (
   (((0 : Int) ≤ i) ∧ (i < ((List.length (bytesD s)) : Int))) ∧
   ((List.length (List.getD (bytesD s) (Int.toNat i) [])) = 1) ∧
   ((1 : Nat) ≤ (List.length (List.getD (bytesD s) (Int.toNat i) []))) ∧
   ((List.getD (List.getD (bytesD s) (Int.toNat i) []) 0 d0) = (D.v (.int IntKind.u8 (intD (List.getD (List.getD (bytesD s) (Int.toNat i) []) 0 d0))))) ∧
   bcase (decide ((97 : Int) ≤ (intD (List.getD (List.getD (bytesD s) (Int.toNat i) []) 0 d0)))) (
    bcase (decide ((48 : Int) ≤ (intD (List.getD (List.getD (bytesD s) (Int.toNat i) []) 0 d0)))) (
     bcase (decide ((intD (List.getD (List.getD (bytesD s) (Int.toNat i) []) 0 d0)) ≤ (57 : Int))) (
      bcase (!(decide ((intD (List.getD (List.getD (bytesD s) (Int.toNat i) []) 0 d0)) ≤ (122 : Int)))) (
       bcase (i == (0 : Int)) (
        q (mkB false)) (
        FamNext st inv μ k ⟨[mkS s, AV.jk, mkB false, AV.jk, AV.jk, AV.jk, AV.jk, mkS s, AV.d (.sl (bytesD s)), mkI .i64 ((List.length (bytesD s)) : Int), mkI .i64 (IntKind.wrap .i64 (i + (1 : Int))), AV.jk, AV.jk, AV.jk, AV.jk, AV.jk, AV.jk, AV.jk, AV.jk, AV.jk, AV.jk, AV.jk, AV.jk, AV.jk, AV.jk, AV.jk, AV.jk, AV.jk, AV.jk, AV.jk, AV.jk, AV.jk, AV.jk, AV.jk, AV.jk, AV.jk, AV.jk, AV.jk, AV.jk, AV.jk, AV.jk, AV.jk, AV.jk, AV.jk, AV.jk, AV.jk, AV.jk, AV.jk, AV.jk, AV.jk, AV.jk, AV.jk, AV.jk], []⟩)) (
       FamNext st inv μ k ⟨[mkS s, AV.jk, mkB false, AV.jk, AV.jk, AV.jk, AV.jk, mkS s, AV.d (.sl (bytesD s)), mkI .i64 ((List.length (bytesD s)) : Int), mkI .i64 (IntKind.wrap .i64 (i + (1 : Int))), AV.jk, AV.jk, AV.jk, AV.jk, AV.jk, AV.jk, AV.jk, AV.jk, AV.jk, AV.jk, AV.jk, AV.jk, AV.jk, AV.jk, AV.jk, AV.jk, AV.jk, AV.jk, AV.jk, AV.jk, AV.jk, AV.jk, AV.jk, AV.jk, AV.jk, AV.jk, AV.jk, AV.jk, AV.jk, AV.jk, AV.jk, AV.jk, AV.jk, AV.jk, AV.jk, AV.jk, AV.jk, AV.jk, AV.jk, AV.jk, AV.jk, AV.jk], []⟩)) (
      bcase ((intD (List.getD (List.getD (bytesD s) (Int.toNat i) []) 0 d0)) == (45 : Int)) (
       bcase (!(decide ((intD (List.getD (List.getD (bytesD s) (Int.toNat i) []) 0 d0)) ≤ (122 : Int)))) (
        bcase (i == (0 : Int)) (
         q (mkB false)) (
         FamNext st inv μ k ⟨[mkS s, AV.jk, mkB false, AV.jk, AV.jk, AV.jk, AV.jk, mkS s, AV.d (.sl (bytesD s)), mkI .i64 ((List.length (bytesD s)) : Int), mkI .i64 (IntKind.wrap .i64 (i + (1 : Int))), AV.jk, AV.jk, AV.jk, AV.jk, AV.jk, AV.jk, AV.jk, AV.jk, AV.jk, AV.jk, AV.jk, AV.jk, AV.jk, AV.jk, AV.jk, AV.jk, AV.jk, AV.jk, AV.jk, AV.jk, AV.jk, AV.jk, AV.jk, AV.jk, AV.jk, AV.jk, AV.jk, AV.jk, AV.jk, AV.jk, AV.jk, AV.jk, AV.jk, AV.jk, AV.jk, AV.jk, AV.jk, AV.jk, AV.jk, AV.jk, AV.jk, AV.jk], []⟩)) (
        FamNext st inv μ k ⟨[mkS s, AV.jk, mkB false, AV.jk, AV.jk, AV.jk, AV.jk, mkS s, AV.d (.sl (bytesD s)), mkI .i64 ((List.length (bytesD s)) : Int), mkI .i64 (IntKind.wrap .i64 (i + (1 : Int))), AV.jk, AV.jk, AV.jk, AV.jk, AV.jk, AV.jk, AV.jk, AV.jk, AV.jk, AV.jk, AV.jk, AV.jk, AV.jk, AV.jk, AV.jk, AV.jk, AV.jk, AV.jk, AV.jk, AV.jk, AV.jk, AV.jk, AV.jk, AV.jk, AV.jk, AV.jk, AV.jk, AV.jk, AV.jk, AV.jk, AV.jk, AV.jk, AV.jk, AV.jk, AV.jk, AV.jk, AV.jk, AV.jk, AV.jk, AV.jk, AV.jk, AV.jk], []⟩)) (
       bcase (!(decide ((intD (List.getD (List.getD (bytesD s) (Int.toNat i) []) 0 d0)) ≤ (122 : Int)))) (
        bcase (i == (0 : Int)) (
         q (mkB false)) (
         bcase (!((intD (List.getD (List.getD (bytesD s) (Int.toNat i) []) 0 d0)) == (58 : Int))) (
          q (mkB false)) (
          FamNext st inv μ k ⟨[mkS s, AV.jk, mkB false, AV.jk, AV.jk, AV.jk, AV.jk, mkS s, AV.d (.sl (bytesD s)), mkI .i64 ((List.length (bytesD s)) : Int), mkI .i64 (IntKind.wrap .i64 (i + (1 : Int))), AV.jk, AV.jk, AV.jk, AV.jk, AV.jk, AV.jk, AV.jk, AV.jk, AV.jk, AV.jk, AV.jk, AV.jk, AV.jk, AV.jk, AV.jk, AV.jk, AV.jk, AV.jk, AV.jk, AV.jk, AV.jk, AV.jk, AV.jk, AV.jk, AV.jk, AV.jk, AV.jk, AV.jk, AV.jk, AV.jk, AV.jk, AV.jk, AV.jk, AV.jk, AV.jk, AV.jk, AV.jk, AV.jk, AV.jk, AV.jk, AV.jk, AV.jk], []⟩))) (
        FamNext st inv μ k ⟨[mkS s, AV.jk, mkB false, AV.jk, AV.jk, AV.jk, AV.jk, mkS s, AV.d (.sl (bytesD s)), mkI .i64 ((List.length (bytesD s)) : Int), mkI .i64 (IntKind.wrap .i64 (i + (1 : Int))), AV.jk, AV.jk, AV.jk, AV.jk, AV.jk, AV.jk, AV.jk, AV.jk, AV.jk, AV.jk, AV.jk, AV.jk, AV.jk, AV.jk, AV.jk, AV.jk, AV.jk, AV.jk, AV.jk, AV.jk, AV.jk, AV.jk, AV.jk, AV.jk, AV.jk, AV.jk, AV.jk, AV.jk, AV.jk, AV.jk, AV.jk, AV.jk, AV.jk, AV.jk, AV.jk, AV.jk, AV.jk, AV.jk, AV.jk, AV.jk, AV.jk, AV.jk], []⟩)))) (
     bcase ((intD (List.getD (List.getD (bytesD s) (Int.toNat i) []) 0 d0)) == (45 : Int)) (
      bcase (!(decide ((intD (List.getD (List.getD (bytesD s) (Int.toNat i) []) 0 d0)) ≤ (122 : Int)))) (
       bcase (i == (0 : Int)) (
        q (mkB false)) (
        FamNext st inv μ k ⟨[mkS s, AV.jk, mkB false, AV.jk, AV.jk, AV.jk, AV.jk, mkS s, AV.d (.sl (bytesD s)), mkI .i64 ((List.length (bytesD s)) : Int), mkI .i64 (IntKind.wrap .i64 (i + (1 : Int))), AV.jk, AV.jk, AV.jk, AV.jk, AV.jk, AV.jk, AV.jk, AV.jk, AV.jk, AV.jk, AV.jk, AV.jk, AV.jk, AV.jk, AV.jk, AV.jk, AV.jk, AV.jk, AV.jk, AV.jk, AV.jk, AV.jk, AV.jk, AV.jk, AV.jk, AV.jk, AV.jk, AV.jk, AV.jk, AV.jk, AV.jk, AV.jk, AV.jk, AV.jk, AV.jk, AV.jk, AV.jk, AV.jk, AV.jk, AV.jk, AV.jk, AV.jk], []⟩)) (
       FamNext st inv μ k ⟨[mkS s, AV.jk, mkB false, AV.jk, AV.jk, AV.jk, AV.jk, mkS s, AV.d (.sl (bytesD s)), mkI .i64 ((List.length (bytesD s)) : Int), mkI .i64 (IntKind.wrap .i64 (i + (1 : Int))), AV.jk, AV.jk, AV.jk, AV.jk, AV.jk, AV.jk, AV.jk, AV.jk, AV.jk, AV.jk, AV.jk, AV.jk, AV.jk, AV.jk, AV.jk, AV.jk, AV.jk, AV.jk, AV.jk, AV.jk, AV.jk, AV.jk, AV.jk, AV.jk, AV.jk, AV.jk, AV.jk, AV.jk, AV.jk, AV.jk, AV.jk, AV.jk, AV.jk, AV.jk, AV.jk, AV.jk, AV.jk, AV.jk, AV.jk, AV.jk, AV.jk, AV.jk], []⟩)) (
      bcase (!(decide ((intD (List.getD (List.getD (bytesD s) (Int.toNat i) []) 0 d0)) ≤ (122 : Int)))) (
       bcase (i == (0 : Int)) (
        q (mkB false)) (
        bcase (!((intD (List.getD (List.getD (bytesD s) (Int.toNat i) []) 0 d0)) == (58 : Int))) (
         q (mkB false)) (
         FamNext st inv μ k ⟨[mkS s, AV.jk, mkB false, AV.jk, AV.jk, AV.jk, AV.jk, mkS s, AV.d (.sl (bytesD s)), mkI .i64 ((List.length (bytesD s)) : Int), mkI .i64 (IntKind.wrap .i64 (i + (1 : Int))), AV.jk, AV.jk, AV.jk, AV.jk, AV.jk, AV.jk, AV.jk, AV.jk, AV.jk, AV.jk, AV.jk, AV.jk, AV.jk, AV.jk, AV.jk, AV.jk, AV.jk, AV.jk, AV.jk, AV.jk, AV.jk, AV.jk, AV.jk, AV.jk, AV.jk, AV.jk, AV.jk, AV.jk, AV.jk, AV.jk, AV.jk, AV.jk, AV.jk, AV.jk, AV.jk, AV.jk, AV.jk, AV.jk, AV.jk, AV.jk, AV.jk, AV.jk], []⟩))) (
       FamNext st inv μ k ⟨[mkS s, AV.jk, mkB false, AV.jk, AV.jk, AV.jk, AV.jk, mkS s, AV.d (.sl (bytesD s)), mkI .i64 ((List.length (bytesD s)) : Int), mkI .i64 (IntKind.wrap .i64 (i + (1 : Int))), AV.jk, AV.jk, AV.jk, AV.jk, AV.jk, AV.jk, AV.jk, AV.jk, AV.jk, AV.jk, AV.jk, AV.jk, AV.jk, AV.jk, AV.jk, AV.jk, AV.jk, AV.jk, AV.jk, AV.jk, AV.jk, AV.jk, AV.jk, AV.jk, AV.jk, AV.jk, AV.jk, AV.jk, AV.jk, AV.jk, AV.jk, AV.jk, AV.jk, AV.jk, AV.jk, AV.jk, AV.jk, AV.jk, AV.jk, AV.jk, AV.jk, AV.jk], []⟩)))) (
    bcase (decide ((48 : Int) ≤ (intD (List.getD (List.getD (bytesD s) (Int.toNat i) []) 0 d0)))) (
     bcase (decide ((intD (List.getD (List.getD (bytesD s) (Int.toNat i) []) 0 d0)) ≤ (57 : Int))) (
      bcase (i == (0 : Int)) (
       q (mkB false)) (
       FamNext st inv μ k ⟨[mkS s, AV.jk, mkB false, AV.jk, AV.jk, AV.jk, AV.jk, mkS s, AV.d (.sl (bytesD s)), mkI .i64 ((List.length (bytesD s)) : Int), mkI .i64 (IntKind.wrap .i64 (i + (1 : Int))), AV.jk, AV.jk, AV.jk, AV.jk, AV.jk, AV.jk, AV.jk, AV.jk, AV.jk, AV.jk, AV.jk, AV.jk, AV.jk, AV.jk, AV.jk, AV.jk, AV.jk, AV.jk, AV.jk, AV.jk, AV.jk, AV.jk, AV.jk, AV.jk, AV.jk, AV.jk, AV.jk, AV.jk, AV.jk, AV.jk, AV.jk, AV.jk, AV.jk, AV.jk, AV.jk, AV.jk, AV.jk, AV.jk, AV.jk, AV.jk, AV.jk, AV.jk], []⟩)) (
      bcase ((intD (List.getD (List.getD (bytesD s) (Int.toNat i) []) 0 d0)) == (45 : Int)) (
       bcase (i == (0 : Int)) (
        q (mkB false)) (
        FamNext st inv μ k ⟨[mkS s, AV.jk, mkB false, AV.jk, AV.jk, AV.jk, AV.jk, mkS s, AV.d (.sl (bytesD s)), mkI .i64 ((List.length (bytesD s)) : Int), mkI .i64 (IntKind.wrap .i64 (i + (1 : Int))), AV.jk, AV.jk, AV.jk, AV.jk, AV.jk, AV.jk, AV.jk, AV.jk, AV.jk, AV.jk, AV.jk, AV.jk, AV.jk, AV.jk, AV.jk, AV.jk, AV.jk, AV.jk, AV.jk, AV.jk, AV.jk, AV.jk, AV.jk, AV.jk, AV.jk, AV.jk, AV.jk, AV.jk, AV.jk, AV.jk, AV.jk, AV.jk, AV.jk, AV.jk, AV.jk, AV.jk, AV.jk, AV.jk, AV.jk, AV.jk, AV.jk, AV.jk], []⟩)) (
       bcase (i == (0 : Int)) (
        q (mkB false)) (
        bcase (!((intD (List.getD (List.getD (bytesD s) (Int.toNat i) []) 0 d0)) == (58 : Int))) (
         q (mkB false)) (
         FamNext st inv μ k ⟨[mkS s, AV.jk, mkB false, AV.jk, AV.jk, AV.jk, AV.jk, mkS s, AV.d (.sl (bytesD s)), mkI .i64 ((List.length (bytesD s)) : Int), mkI .i64 (IntKind.wrap .i64 (i + (1 : Int))), AV.jk, AV.jk, AV.jk, AV.jk, AV.jk, AV.jk, AV.jk, AV.jk, AV.jk, AV.jk, AV.jk, AV.jk, AV.jk, AV.jk, AV.jk, AV.jk, AV.jk, AV.jk, AV.jk, AV.jk, AV.jk, AV.jk, AV.jk, AV.jk, AV.jk, AV.jk, AV.jk, AV.jk, AV.jk, AV.jk, AV.jk, AV.jk, AV.jk, AV.jk, AV.jk, AV.jk, AV.jk, AV.jk, AV.jk, AV.jk, AV.jk, AV.jk], []⟩))))) (
     bcase ((intD (List.getD (List.getD (bytesD s) (Int.toNat i) []) 0 d0)) == (45 : Int)) (
      bcase (i == (0 : Int)) (
       q (mkB false)) (
       FamNext st inv μ k ⟨[mkS s, AV.jk, mkB false, AV.jk, AV.jk, AV.jk, AV.jk, mkS s, AV.d (.sl (bytesD s)), mkI .i64 ((List.length (bytesD s)) : Int), mkI .i64 (IntKind.wrap .i64 (i + (1 : Int))), AV.jk, AV.jk, AV.jk, AV.jk, AV.jk, AV.jk, AV.jk, AV.jk, AV.jk, AV.jk, AV.jk, AV.jk, AV.jk, AV.jk, AV.jk, AV.jk, AV.jk, AV.jk, AV.jk, AV.jk, AV.jk, AV.jk, AV.jk, AV.jk, AV.jk, AV.jk, AV.jk, AV.jk, AV.jk, AV.jk, AV.jk, AV.jk, AV.jk, AV.jk, AV.jk, AV.jk, AV.jk, AV.jk, AV.jk, AV.jk, AV.jk, AV.jk], []⟩)) (
      bcase (i == (0 : Int)) (
       q (mkB false)) (
       bcase (!((intD (List.getD (List.getD (bytesD s) (Int.toNat i) []) 0 d0)) == (58 : Int))) (
        q (mkB false)) (
        FamNext st inv μ k ⟨[mkS s, AV.jk, mkB false, AV.jk, AV.jk, AV.jk, AV.jk, mkS s, AV.d (.sl (bytesD s)), mkI .i64 ((List.length (bytesD s)) : Int), mkI .i64 (IntKind.wrap .i64 (i + (1 : Int))), AV.jk, AV.jk, AV.jk, AV.jk, AV.jk, AV.jk, AV.jk, AV.jk, AV.jk, AV.jk, AV.jk, AV.jk, AV.jk, AV.jk, AV.jk, AV.jk, AV.jk, AV.jk, AV.jk, AV.jk, AV.jk, AV.jk, AV.jk, AV.jk, AV.jk, AV.jk, AV.jk, AV.jk, AV.jk, AV.jk, AV.jk, AV.jk, AV.jk, AV.jk, AV.jk, AV.jk, AV.jk, AV.jk, AV.jk, AV.jk, AV.jk, AV.jk], []⟩)))))) (
   bcase (!(decide (s = ⟨#[]⟩))) (
    ((ByteArray.size s) ≤ LIM) →
    q (mkB (decide (((ByteArray.size s) : Int) ≤ (16 : Int))))) (
    q (mkB false)))) := by kernel_rfl
def chOK (j : Nat) (c : Int) : Prop := (97 ≤ c ∧ c ≤ 122) ∨ (j ≠ 0 ∧ ((48 ≤ c ∧ c ≤ 57) ∨ c = 45 ∨ c = 58))
instance (j : Nat) (c : Int) : Decidable (chOK j c) := by unfold chOK; infer_instance
def byteAt (s : ByteArray) (j : Nat) : Int := ((s.data.toList.getD j 0).toNat : Int)
def nameB (s : ByteArray) : Bool := decide (∀ j, j < s.size → chOK j (byteAt s j)) && (!decide (s = ⟨#[]⟩) && decide ((s.size : Int) ≤ 16))
theorem bytesD_get (s : ByteArray) (j : Nat) (h : j < s.size) : (bytesD s).getD j [] = [.v (.int .u8 (byteAt s j))] := by
  have e : j < s.data.toList.length := by rw [Array.length_toList]; exact h
  simp only [bytesD, byteAt, List.getD_eq_getElem?_getD, List.getElem?_map, List.getElem?_eq_getElem e, Option.map_some, Option.getD_some]
def F46 : List AV → Option (Prop × AV) := fun al => match al with
  | [.d (.v (.string s))] => some (s.size ≤ LIM, mkB (nameB s))
  | _ => none
theorem c46 : PSound Tryz.prog 56 (detE F46) := by
  refine det_fn (c := Tryz.b56) mixed Tryz.K_ok gsound_nil Tryz.func56 rfl rfl Tryz.call56 fun al p r q hF hp hq => ?_
  unfold F46 at hF; split at hF <;> cases hF
  rename_i s
  have hlim : s.size ≤ 2147483648 := hp
  refine cast (r46 _ q).symm fun _ => ?_
  refine ALoop.introM [] m46 (fun i : Nat => st46 s i) (fun i => i ≤ s.size ∧ ∀ j, j < i → chOK j (byteAt s j)) (fun i => s.size - i) ⟨[], 0, by simp [S.le, sealAll, leL, jks, st46], by simp⟩ fun i ⟨hi, hI⟩ => ?_
  refine cast (r46_b _ _ _ _ s i q).symm ?_
  rw [bytesD_len]
  refine bcase_dec (fun h => ?_) (fun h => ?_)
  · have hlt : i < s.size := by omega
    rw [show ((i : Int)).toNat = i from by simp, bytesD_get s i hlt]
    have good : chOK i (byteAt s i) → FamNext (fun i : Nat => st46 s i) (fun i => i ≤ s.size ∧ ∀ j, j < i → chOK j (byteAt s j)) (fun i => s.size - i) i ⟨[mkS s, AV.jk, mkB false, .jk, .jk, .jk, .jk, mkS s, AV.d (D.sl (bytesD s)), mkI IntKind.i64 ((s.size : Nat) : Int), mkI IntKind.i64 (IntKind.wrap IntKind.i64 (i + 1))] ++ jks 42, []⟩ := fun hc => by
      refine .mk [] (i + 1) ?_ ⟨by omega, fun j hj => ?_⟩ (by omega)
      · rw [wrap_succ hlt hlim]
        simp [S.le, sealAll, leL, jks, st46, bytesD_len]
      · rcases Nat.lt_or_ge j i with h | h
        · exact hI j h
        · have : j = i := by omega
          subst this; exact hc
    have bad : ¬ chOK i (byteAt s i) → q (mkB false) := fun hc => by
      have : nameB s = false := by
        unfold nameB
        rw [decide_eq_false (fun h => hc (h i hlt))]; rfl
      rw [this] at hq; exact hq
    refine ⟨⟨by omega, h⟩, rfl, Nat.le_refl _, rfl, ?_⟩
    have ec : intD (List.getD [D.v (.int .u8 (byteAt s i))] 0 d0) = byteAt s i := rfl
    simp only [ec]
    clear ec
    generalize byteAt s i = c at good bad
    clear hI
    have hi0 : ((i : Int) == 0) = decide (i = 0) := by rw [Bool.eq_iff_iff]; simp
    rw [hi0]
    unfold chOK at good bad
    repeat' (refine bcase_mk (fun h => ?_) (fun h => ?_))
    all_goals simp only [Bool.not_eq_true', Bool.not_eq_false', decide_eq_true_eq, decide_eq_false_iff_not, beq_iff_eq, beq_eq_false_iff_ne] at *
    all_goals first
      | exact good (by omega)
      | exact bad (by omega)
  · have hge : i = s.size := by omega
    have hall : ∀ j, j < s.size → chOK j (byteAt s j) := fun j hj => hI j (by omega)
    unfold nameB at hq
    rw [decide_eq_true hall, Bool.true_and] at hq
    refine bcase_mk (fun h1 _ => ?_) (fun h1 => ?_)
    · rw [h1, Bool.true_and] at hq; exact hq
    · rw [h1, Bool.false_and] at hq; exact hq
noncomputable abbrev G20 : List (FuncId × En) := [(80, .det F29)]
theorem r20 (s : ByteArray) (q : AV → Prop) :
  (aCode Tryz.K G20 Tryz.b62 (kRet Tryz.K Tryz.f62.results.toList q) ⟨[mkS s] ++ List.replicate (Tryz.f62.ntmps - 1) .jk, []⟩) = (
  bcase (decide (s = ⟨#[]⟩)) (
   q (AV.tp [AV.d (.sl []), mkI .i64 0])) (
   True ∧
   bcase ((Prod.snd (unesc s)) != (0 : Int)) (
    q (AV.tp [AV.d (.sl []), mkI .i64 (Prod.snd (unesc s))])) (
    q (AV.tp [AV.d (.sl [[D.v (.int IntKind.i64 (3 : Int)), D.v (.string ⟨#[]⟩), D.sl [], D.v (.string (Prod.fst (unesc s)))]]), mkI .i64 0])))) := by kernel_rfl
structure Tok where
  kind : Int
  name : ByteArray
  attrs : List (ByteArray × ByteArray)
  text : ByteArray
  deriving DecidableEq
def attrD (a : ByteArray × ByteArray) : List D := [.v (.string a.1), .v (.string a.2)]
def tokD (t : Tok) : List D := [.v (.int .i64 t.kind), .v (.string t.name), .sl (t.attrs.map attrD), .v (.string t.text)]
def toksD (l : List Tok) : List (List D) := l.map tokD
def textT (s : ByteArray) : List Tok × Int := if s = ⟨#[]⟩ then ([], 0) else if (unesc s).2 = 0 then ([⟨3, ⟨#[]⟩, [], (unesc s).1⟩], 0) else ([], (unesc s).2)
def F20 : List AV → Option (Prop × AV) := fun al => match al with
  | [.d (.v (.string s))] => some (True, .tp [.d (.sl (toksD (textT s).1)), mkI .i64 (textT s).2])
  | _ => none
theorem c20 : PSound Tryz.prog 62 (detE F20) := by
  refine det_fn (c := Tryz.b62) mixed Tryz.K_ok (gsound_det c29 gsound_nil) Tryz.func62 rfl rfl Tryz.call62 fun al p r q hF hp hq => ?_
  unfold F20 at hF; split at hF <;> cases hF
  rename_i s
  refine cast (r20 _ q).symm ?_
  unfold textT at hq
  refine bcase_dec (fun h => ?_) (fun h => ⟨trivial, bcase_mk (fun h1 => ?_) (fun h1 => ?_)⟩)
  · rw [if_pos h] at hq; exact hq
  · have h1 : ¬ (unesc s).2 = 0 := by simpa using h1
    rw [if_neg h, if_neg h1] at hq; exact hq
  · have h1 : (unesc s).2 = 0 := by simpa using h1
    rw [if_neg h, if_pos h1] at hq; exact hq
noncomputable abbrev G67 : List (FuncId × En) := [(80, .det F29), (93, .det F53)]
theorem r67 (s : ByteArray) (q : AV → Prop) :
  (aCode Tryz.K G67 Tryz.b115 (kRet Tryz.K Tryz.f115.results.toList q) ⟨[mkS s] ++ List.replicate (Tryz.f115.ntmps - 1) .jk, []⟩) = (
  bcase (decide (s = ⟨#[]⟩)) (
   q (AV.tp [mkS ⟨#[]⟩, mkS ⟨#[]⟩, mkB false])) (
   (((0 : Int) ≤ (0 : Int)) ∧ ((0 : Int) < ((ByteArray.size s) : Int))) ∧
   bcase (((UInt8.toNat (List.getD (Array.toList (ByteArray.data s)) (Int.toNat (0 : Int)) (0 : UInt8))) : Int) != (34 : Int)) (
    (((0 : Int) ≤ (0 : Int)) ∧ ((0 : Int) < ((ByteArray.size s) : Int))) ∧
    bcase (((UInt8.toNat (List.getD (Array.toList (ByteArray.data s)) (Int.toNat (0 : Int)) (0 : UInt8))) : Int) != (39 : Int)) (
     q (AV.tp [mkS ⟨#[]⟩, mkS ⟨#[]⟩, mkB false])) (
     (((0 : Int) ≤ (1 : Int)) ∧ ((1 : Int) ≤ ((ByteArray.size s) : Int))) ∧
     (((0 : Int) ≤ (1 : Int)) ∧ ((1 : Int) ≤ ((ByteArray.size s) : Int))) ∧
     (((ByteArray.extract s (0 : Nat) (Int.toNat (1 : Int))) = (sep1 (sepC (ByteArray.extract s (0 : Nat) (Int.toNat (1 : Int)))))) ∧ ((ByteArray.size (ByteArray.extract s (Int.toNat (1 : Int)) (ByteArray.size s))) ≤ LIM)) ∧
     ((Nat.le (ByteArray.size (cutU (sepC (ByteArray.extract s (0 : Nat) (Int.toNat (1 : Int)))) (ByteArray.extract s (Int.toNat (1 : Int)) (ByteArray.size s)))) LIM) ∧ ((Nat.le (ByteArray.size (cutD (sepC (ByteArray.extract s (0 : Nat) (Int.toNat (1 : Int)))) (ByteArray.extract s (Int.toNat (1 : Int)) (ByteArray.size s)))) LIM) ∧ (True ∧ True))) ∧
     bcase (!(cutB (sepC (ByteArray.extract s (0 : Nat) (Int.toNat (1 : Int)))) (ByteArray.extract s (Int.toNat (1 : Int)) (ByteArray.size s)))) (
      q (AV.tp [mkS ⟨#[]⟩, mkS ⟨#[]⟩, mkB false])) (
      True ∧
      q (AV.tp [mkS (Prod.fst (unesc (cutU (sepC (ByteArray.extract s (0 : Nat) (Int.toNat (1 : Int)))) (ByteArray.extract s (Int.toNat (1 : Int)) (ByteArray.size s))))), mkS (cutD (sepC (ByteArray.extract s (0 : Nat) (Int.toNat (1 : Int)))) (ByteArray.extract s (Int.toNat (1 : Int)) (ByteArray.size s))), mkB ((Prod.snd (unesc (cutU (sepC (ByteArray.extract s (0 : Nat) (Int.toNat (1 : Int)))) (ByteArray.extract s (Int.toNat (1 : Int)) (ByteArray.size s))))) == (0 : Int))])))) (
    (((0 : Int) ≤ (1 : Int)) ∧ ((1 : Int) ≤ ((ByteArray.size s) : Int))) ∧
    (((0 : Int) ≤ (1 : Int)) ∧ ((1 : Int) ≤ ((ByteArray.size s) : Int))) ∧
    (((ByteArray.extract s (0 : Nat) (Int.toNat (1 : Int))) = (sep1 (sepC (ByteArray.extract s (0 : Nat) (Int.toNat (1 : Int)))))) ∧ ((ByteArray.size (ByteArray.extract s (Int.toNat (1 : Int)) (ByteArray.size s))) ≤ LIM)) ∧
    ((Nat.le (ByteArray.size (cutU (sepC (ByteArray.extract s (0 : Nat) (Int.toNat (1 : Int)))) (ByteArray.extract s (Int.toNat (1 : Int)) (ByteArray.size s)))) LIM) ∧ ((Nat.le (ByteArray.size (cutD (sepC (ByteArray.extract s (0 : Nat) (Int.toNat (1 : Int)))) (ByteArray.extract s (Int.toNat (1 : Int)) (ByteArray.size s)))) LIM) ∧ (True ∧ True))) ∧
    bcase (!(cutB (sepC (ByteArray.extract s (0 : Nat) (Int.toNat (1 : Int)))) (ByteArray.extract s (Int.toNat (1 : Int)) (ByteArray.size s)))) (
     q (AV.tp [mkS ⟨#[]⟩, mkS ⟨#[]⟩, mkB false])) (
     True ∧
     q (AV.tp [mkS (Prod.fst (unesc (cutU (sepC (ByteArray.extract s (0 : Nat) (Int.toNat (1 : Int)))) (ByteArray.extract s (Int.toNat (1 : Int)) (ByteArray.size s))))), mkS (cutD (sepC (ByteArray.extract s (0 : Nat) (Int.toNat (1 : Int)))) (ByteArray.extract s (Int.toNat (1 : Int)) (ByteArray.size s))), mkB ((Prod.snd (unesc (cutU (sepC (ByteArray.extract s (0 : Nat) (Int.toNat (1 : Int)))) (ByteArray.extract s (Int.toNat (1 : Int)) (ByteArray.size s))))) == (0 : Int))]))))) := by kernel_rfl
theorem one_of_size {b : ByteArray} (h : b.size = 1) : b = sep1 (sepC b) := by
  obtain ⟨⟨l⟩⟩ := b
  match l, h with
  | [x], _ => rfl
def valueC (s : ByteArray) : UInt8 := sepC (s.extract 0 1)
def valueT (s : ByteArray) : ByteArray × ByteArray × Bool :=
  if s = ⟨#[]⟩ then (⟨#[]⟩, ⟨#[]⟩, false) else if byteAt s 0 = 34 ∨ byteAt s 0 = 39 then
    (if cutB (valueC s) (s.extract 1 s.size) = true then ((unesc (cutU (valueC s) (s.extract 1 s.size))).1, cutD (valueC s) (s.extract 1 s.size), (unesc (cutU (valueC s) (s.extract 1 s.size))).2 == 0) else (⟨#[]⟩, ⟨#[]⟩, false))
  else (⟨#[]⟩, ⟨#[]⟩, false)
def F67 : List AV → Option (Prop × AV) := fun al => match al with
  | [.d (.v (.string s))] => some (s.size ≤ LIM, .tp [mkS (valueT s).1, mkS (valueT s).2.1, mkB (valueT s).2.2])
  | _ => none
theorem size_pos {s : ByteArray} (h : ¬ s = ⟨#[]⟩) : 0 < s.size := by
  rcases Nat.eq_zero_or_pos s.size with h0 | h0
  · exact absurd (bytes_nil h0) h
  · exact h0
theorem c67 : PSound Tryz.prog 115 (detE F67) := by
  refine det_fn (c := Tryz.b115) mixed Tryz.K_ok (gsound_det c29 (gsound_det c38 gsound_nil)) Tryz.func115 rfl rfl Tryz.call115 fun al p r q hF hp hq => ?_
  unfold F67 at hF; split at hF <;> cases hF
  rename_i s
  refine cast (r67 _ q).symm ?_
  unfold valueT at hq
  refine bcase_dec (fun h => ?_) (fun h => ?_)
  · rw [if_pos h] at hq; exact hq
  · rw [if_neg h] at hq
    have hs := size_pos h
    have e1 : s.extract 0 1 = sep1 (sepC (s.extract 0 1)) := one_of_size (by rw [ByteArray.size_extract]; omega)
    have e2 : (s.extract 1 s.size).size ≤ LIM := by rw [ByteArray.size_extract]; omega
    have z : ((0 : Int) ≤ 0 ∧ (0 : Int) < (s.size : Int)) := ⟨by omega, by omega⟩
    have y : ((0 : Int) ≤ 1 ∧ (1 : Int) ≤ (s.size : Int)) := ⟨by omega, by omega⟩
    have k1 := Nat.le_trans (cutU_le (valueC s) (s.extract 1 s.size)) e2
    have k2 := Nat.le_trans (cutD_le (valueC s) (s.extract 1 s.size)) e2
    refine ⟨z, bcase_mk (fun h1 => ⟨z, bcase_mk (fun h2 => ?_) (fun h2 => ?_)⟩) (fun h1 => ?_)⟩
    · have h1 : ¬ byteAt s 0 = 34 := by simpa [byteAt] using h1
      have h2 : ¬ byteAt s 0 = 39 := by simpa [byteAt] using h2
      rw [if_neg (by omega)] at hq; exact hq
    · have h2 : byteAt s 0 = 39 := by simpa [byteAt] using h2
      rw [if_pos (.inr h2)] at hq
      refine ⟨y, y, ⟨e1, e2⟩, ⟨k1, k2, trivial, trivial⟩, bcase_mk (fun h3 => ?_) (fun h3 => ⟨trivial, ?_⟩)⟩
      · have h3 : cutB (valueC s) (s.extract 1 s.size) = false := by simpa [valueC] using h3
        rw [h3, if_neg (by simp)] at hq; exact hq
      · have h3 : cutB (valueC s) (s.extract 1 s.size) = true := by simpa [valueC] using h3
        rw [if_pos h3] at hq; exact hq
    · have h1 : byteAt s 0 = 34 := by simpa [byteAt] using h1
      rw [if_pos (.inl h1)] at hq
      refine ⟨y, y, ⟨e1, e2⟩, ⟨k1, k2, trivial, trivial⟩, bcase_mk (fun h3 => ?_) (fun h3 => ⟨trivial, ?_⟩)⟩
      · have h3 : cutB (valueC s) (s.extract 1 s.size) = false := by simpa [valueC] using h3
        rw [h3, if_neg (by simp)] at hq; exact hq
      · have h3 : cutB (valueC s) (s.extract 1 s.size) = true := by simpa [valueC] using h3
        rw [if_pos h3] at hq; exact hq
end Go.Proofs.YtchpfeblinnoiaaGreatDoor
