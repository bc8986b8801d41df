import Derived.Test.YtfdecpfcphghlaaDoorTagsRef3
set_option linter.unusedSimpArgs false
set_option linter.unusedVariables false
namespace Go.Proofs.YtfdecpfcphghlaaDoor
open Go Go.AM Go.RowKit
attribute [local irreducible] aCode bcase

-- the document's Tag
noncomputable abbrev G19 : List (FuncId × En) := [(25, .det F25), (27, .det F27), (26, .det F26), (23, .det F23), (28, .det F28)]
noncomputable def r19_k0 (q : AV → Prop) : Kont := kBlk (0 : Nat) (kRet Tryd.K (Array.toList (Func.results Tryd.f19)) q)
theorem r19 (s : ByteArray) (q : AV → Prop) :
  (aCode Tryd.K G19 Tryd.b19 (kRet Tryd.K Tryd.f19.results.toList q) ⟨[mkS s] ++ List.replicate (Tryd.f19.ntmps - 1) .jk, []⟩) = (
  True ∧
  bcase ((if (YtfdecpfcphghlaaDoor.rightB s) = true then (0 : Int) else (2 : Int)) != (0 : Int)) (
   q (AV.tp [AV.d (D.sl []), mkI IntKind.i64 (2 : Int)])) (
   ((ByteArray.size s) ≤ LIM) →
   bcase (decide (((ByteArray.size s) : Int) > (0 : Int))) (
    (((0 : Int) ≤ (0 : Int)) ∧ ((0 : Int) < ((ByteArray.size s) : Int))) ∧
    bcase (((UInt8.toNat (List.getD (Array.toList (ByteArray.data s)) (Int.toNat (0 : Int)) (0 : UInt8))) : Int) == (47 : Int)) (
     (((0 : Int) ≤ (1 : Int)) ∧ ((1 : Int) ≤ ((ByteArray.size s) : Int))) ∧
     True ∧
     (((0 : Int) ≤ (1 : Int)) ∧ (((1 : Int) ≤ (IntKind.wrap IntKind.i64 ((1 : Int) + ((YtfdecpfcphghlaaDoor.runN (ByteArray.extract s (Int.toNat (1 : Int)) (ByteArray.size s))) : Int)))) ∧ ((IntKind.wrap IntKind.i64 ((1 : Int) + ((YtfdecpfcphghlaaDoor.runN (ByteArray.extract s (Int.toNat (1 : Int)) (ByteArray.size s))) : Int))) ≤ ((ByteArray.size s) : Int)))) ∧
     True ∧
     bcase (!(YtfdecpfcphghlaaDoor.nameB (ByteArray.extract s (Int.toNat (1 : Int)) (Int.toNat (IntKind.wrap IntKind.i64 ((1 : Int) + ((YtfdecpfcphghlaaDoor.runN (ByteArray.extract s (Int.toNat (1 : Int)) (ByteArray.size s))) : Int))))))) (
      q (AV.tp [AV.d (D.sl []), mkI IntKind.i64 (3 : Int)])) (
      (((0 : Int) ≤ (IntKind.wrap IntKind.i64 ((1 : Int) + ((YtfdecpfcphghlaaDoor.runN (ByteArray.extract s (Int.toNat (1 : Int)) (ByteArray.size s))) : Int)))) ∧ ((IntKind.wrap IntKind.i64 ((1 : Int) + ((YtfdecpfcphghlaaDoor.runN (ByteArray.extract s (Int.toNat (1 : Int)) (ByteArray.size s))) : Int))) ≤ ((ByteArray.size s) : Int))) ∧
      True ∧ (
       ((ByteArray.size s) ≤ LIM) →
       bcase (((YtfdecpfcphghlaaDoor.runB (ByteArray.extract s (Int.toNat (IntKind.wrap IntKind.i64 ((1 : Int) + ((YtfdecpfcphghlaaDoor.runN (ByteArray.extract s (Int.toNat (1 : Int)) (ByteArray.size s))) : Int)))) (ByteArray.size s))) : Int) != (IntKind.wrap IntKind.i64 ((IntKind.wrap IntKind.i64 (((ByteArray.size s) : Int) - (1 : Int))) - ((YtfdecpfcphghlaaDoor.runN (ByteArray.extract s (Int.toNat (1 : Int)) (ByteArray.size s))) : Int)))) (
        q (AV.tp [AV.d (D.sl []), mkI IntKind.i64 (3 : Int)])) (
        (((0 : Int) ≤ (1 : Int)) ∧ (((1 : Int) ≤ (IntKind.wrap IntKind.i64 ((1 : Int) + ((YtfdecpfcphghlaaDoor.runN (ByteArray.extract s (Int.toNat (1 : Int)) (ByteArray.size s))) : Int)))) ∧ ((IntKind.wrap IntKind.i64 ((1 : Int) + ((YtfdecpfcphghlaaDoor.runN (ByteArray.extract s (Int.toNat (1 : Int)) (ByteArray.size s))) : Int))) ≤ ((ByteArray.size s) : Int)))) ∧
        q (AV.tp [AV.d (D.sl [[D.v (Value.int IntKind.i64 (2 : Int)), D.v (Value.string (ByteArray.extract s (Int.toNat (1 : Int)) (Int.toNat (IntKind.wrap IntKind.i64 ((1 : Int) + ((YtfdecpfcphghlaaDoor.runN (ByteArray.extract s (Int.toNat (1 : Int)) (ByteArray.size s))) : Int)))))), D.sl [], D.v (Value.string (⟨#[]⟩ : ByteArray))]]), mkI IntKind.i64 (0 : Int)]))))) (
     True ∧
     (((0 : Int) ≤ ((YtfdecpfcphghlaaDoor.runN s) : Int)) ∧ (((YtfdecpfcphghlaaDoor.runN s) : Int) ≤ ((ByteArray.size s) : Int))) ∧
     True ∧
     bcase (!(YtfdecpfcphghlaaDoor.nameB (ByteArray.extract s (0 : Nat) (Int.toNat ((YtfdecpfcphghlaaDoor.runN s) : Int))))) (
      q (AV.tp [AV.d (D.sl []), mkI IntKind.i64 (3 : Int)])) (
      (((0 : Int) ≤ ((YtfdecpfcphghlaaDoor.runN s) : Int)) ∧ (((YtfdecpfcphghlaaDoor.runN s) : Int) ≤ ((ByteArray.size s) : Int))) ∧
      (((0 : Int) ≤ ((YtfdecpfcphghlaaDoor.runN s) : Int)) ∧ (((YtfdecpfcphghlaaDoor.runN s) : Int) ≤ ((ByteArray.size s) : Int))) ∧
      ALoop (aCode Tryd.K YtfdecpfcphghlaaDoor.G19 (cAt [1, 1, 1, 1, 1, 1, 1, 0, 0] Tryd.b19)) (YtfdecpfcphghlaaDoor.r19_k0 q) ⟨[mkS (ByteArray.extract s (Int.toNat ((YtfdecpfcphghlaaDoor.runN s) : Int)) (ByteArray.size s)), AV.jk, AV.nl, mkI IntKind.i64 (0 : Int), AV.jk, mkI IntKind.i64 ((YtfdecpfcphghlaaDoor.runN s) : Int), AV.rf 0 (0 : Nat), AV.jk, AV.jk, AV.jk, AV.jk, AV.jk, mkS s, mkI IntKind.i64 (if (YtfdecpfcphghlaaDoor.rightB s) = true then (0 : Int) else (2 : Int)), mkB false, mkS s, mkI IntKind.i64 ((ByteArray.size s) : Int), mkB (decide (((ByteArray.size s) : Int) > (0 : Int))), mkB true, mkS s, mkI IntKind.u8 ((UInt8.toNat (List.getD (Array.toList (ByteArray.data s)) (Int.toNat (0 : Int)) (0 : UInt8))) : Int), mkB (((UInt8.toNat (List.getD (Array.toList (ByteArray.data s)) (Int.toNat (0 : Int)) (0 : UInt8))) : Int) == (47 : Int)), mkB false, AV.jk, AV.jk, AV.jk, AV.jk, AV.jk, AV.jk, AV.jk, AV.jk, AV.jk, AV.jk, AV.jk, AV.jk, AV.jk, AV.jk, AV.jk, AV.jk, AV.jk, AV.jk, AV.jk, AV.jk, AV.jk, AV.jk, AV.jk, AV.jk, AV.jk, AV.jk, AV.jk, AV.jk, mkS s, mkI IntKind.i64 ((YtfdecpfcphghlaaDoor.runN s) : Int), mkS s, mkI IntKind.i64 ((YtfdecpfcphghlaaDoor.runN s) : Int), mkS (ByteArray.extract s (0 : Nat) (Int.toNat ((YtfdecpfcphghlaaDoor.runN s) : Int))), mkB (YtfdecpfcphghlaaDoor.nameB (ByteArray.extract s (0 : Nat) (Int.toNat ((YtfdecpfcphghlaaDoor.runN s) : Int)))), mkB false, mkS s, mkI IntKind.i64 ((YtfdecpfcphghlaaDoor.runN s) : Int), mkS (ByteArray.extract s (0 : Nat) (Int.toNat ((YtfdecpfcphghlaaDoor.runN s) : Int))), AV.ag [mkI IntKind.i64 (1 : Int), mkS (ByteArray.extract s (0 : Nat) (Int.toNat ((YtfdecpfcphghlaaDoor.runN s) : Int))), AV.nl, mkS (⟨#[]⟩ : ByteArray)], mkS s, mkI IntKind.i64 ((YtfdecpfcphghlaaDoor.runN s) : Int), mkS (ByteArray.extract s (Int.toNat ((YtfdecpfcphghlaaDoor.runN s) : Int)) (ByteArray.size s)), AV.jk, AV.jk, AV.jk, AV.jk, AV.jk, AV.jk, AV.jk, AV.jk, AV.jk, AV.jk, AV.jk, AV.jk, AV.jk, AV.jk, AV.jk, AV.jk, AV.jk, AV.jk, AV.jk, AV.jk, AV.jk, AV.jk, AV.jk, AV.jk, AV.jk, AV.jk, AV.jk, AV.jk, AV.jk, AV.jk, AV.jk, AV.jk, AV.jk, AV.jk, AV.jk, AV.jk, AV.jk, AV.jk, AV.jk, AV.jk, AV.jk, AV.jk, AV.jk, AV.jk, AV.jk, AV.jk, AV.jk, AV.jk, AV.jk, AV.jk, AV.jk, AV.jk, AV.jk, AV.jk, AV.jk, AV.jk, AV.jk, AV.jk], [Ob.box [mkI IntKind.i64 (1 : Int), mkS (ByteArray.extract s (0 : Nat) (Int.toNat ((YtfdecpfcphghlaaDoor.runN s) : Int))), AV.nl, mkS (⟨#[]⟩ : ByteArray)]]⟩))) (
    True ∧
    (((0 : Int) ≤ ((YtfdecpfcphghlaaDoor.runN s) : Int)) ∧ (((YtfdecpfcphghlaaDoor.runN s) : Int) ≤ ((ByteArray.size s) : Int))) ∧
    True ∧
    bcase (!(YtfdecpfcphghlaaDoor.nameB (ByteArray.extract s (0 : Nat) (Int.toNat ((YtfdecpfcphghlaaDoor.runN s) : Int))))) (
     q (AV.tp [AV.d (D.sl []), mkI IntKind.i64 (3 : Int)])) (
     (((0 : Int) ≤ ((YtfdecpfcphghlaaDoor.runN s) : Int)) ∧ (((YtfdecpfcphghlaaDoor.runN s) : Int) ≤ ((ByteArray.size s) : Int))) ∧
     (((0 : Int) ≤ ((YtfdecpfcphghlaaDoor.runN s) : Int)) ∧ (((YtfdecpfcphghlaaDoor.runN s) : Int) ≤ ((ByteArray.size s) : Int))) ∧
     ALoop (aCode Tryd.K YtfdecpfcphghlaaDoor.G19 (cAt [1, 1, 1, 1, 1, 1, 1, 0, 0] Tryd.b19)) (YtfdecpfcphghlaaDoor.r19_k0 q) ⟨[mkS (ByteArray.extract s (Int.toNat ((YtfdecpfcphghlaaDoor.runN s) : Int)) (ByteArray.size s)), AV.jk, AV.nl, mkI IntKind.i64 (0 : Int), AV.jk, mkI IntKind.i64 ((YtfdecpfcphghlaaDoor.runN s) : Int), AV.rf 0 (0 : Nat), AV.jk, AV.jk, AV.jk, AV.jk, AV.jk, mkS s, mkI IntKind.i64 (if (YtfdecpfcphghlaaDoor.rightB s) = true then (0 : Int) else (2 : Int)), mkB false, mkS s, mkI IntKind.i64 ((ByteArray.size s) : Int), mkB (decide (((ByteArray.size s) : Int) > (0 : Int))), mkB false, AV.tp [], AV.tp [], AV.tp [], mkB false, AV.jk, AV.jk, AV.jk, AV.jk, AV.jk, AV.jk, AV.jk, AV.jk, AV.jk, AV.jk, AV.jk, AV.jk, AV.jk, AV.jk, AV.jk, AV.jk, AV.jk, AV.jk, AV.jk, AV.jk, AV.jk, AV.jk, AV.jk, AV.jk, AV.jk, AV.jk, AV.jk, AV.jk, mkS s, mkI IntKind.i64 ((YtfdecpfcphghlaaDoor.runN s) : Int), mkS s, mkI IntKind.i64 ((YtfdecpfcphghlaaDoor.runN s) : Int), mkS (ByteArray.extract s (0 : Nat) (Int.toNat ((YtfdecpfcphghlaaDoor.runN s) : Int))), mkB (YtfdecpfcphghlaaDoor.nameB (ByteArray.extract s (0 : Nat) (Int.toNat ((YtfdecpfcphghlaaDoor.runN s) : Int)))), mkB false, mkS s, mkI IntKind.i64 ((YtfdecpfcphghlaaDoor.runN s) : Int), mkS (ByteArray.extract s (0 : Nat) (Int.toNat ((YtfdecpfcphghlaaDoor.runN s) : Int))), AV.ag [mkI IntKind.i64 (1 : Int), mkS (ByteArray.extract s (0 : Nat) (Int.toNat ((YtfdecpfcphghlaaDoor.runN s) : Int))), AV.nl, mkS (⟨#[]⟩ : ByteArray)], mkS s, mkI IntKind.i64 ((YtfdecpfcphghlaaDoor.runN s) : Int), mkS (ByteArray.extract s (Int.toNat ((YtfdecpfcphghlaaDoor.runN s) : Int)) (ByteArray.size s)), AV.jk, AV.jk, AV.jk, AV.jk, AV.jk, AV.jk, AV.jk, AV.jk, AV.jk, AV.jk, AV.jk, AV.jk, AV.jk, AV.jk, AV.jk, AV.jk, AV.jk, AV.jk, AV.jk, AV.jk, AV.jk, AV.jk, AV.jk, AV.jk, AV.jk, AV.jk, AV.jk, AV.jk, AV.jk, AV.jk, AV.jk, AV.jk, AV.jk, AV.jk, AV.jk, AV.jk, AV.jk, AV.jk, AV.jk, AV.jk, AV.jk, AV.jk, AV.jk, AV.jk, AV.jk, AV.jk, AV.jk, AV.jk, AV.jk, AV.jk, AV.jk, AV.jk, AV.jk, AV.jk, AV.jk, AV.jk, AV.jk, AV.jk], [Ob.box [mkI IntKind.i64 (1 : Int), mkS (ByteArray.extract s (0 : Nat) (Int.toNat ((YtfdecpfcphghlaaDoor.runN s) : Int))), AV.nl, mkS (⟨#[]⟩ : ByteArray)]]⟩)))) := by kernel_rfl

def st19 (s name : ByteArray) (es : List (List D)) : S := ⟨[mkS s, .jk, .jk, .jk, .jk, .jk, .rf 0 0] ++ jks 116, [.box [mkI .i64 1, mkS name, .vw 1 es.length, mkS ⟨#[]⟩], .row 2 es]⟩
def m19 : List Bool := maskOf (st19 ⟨#[]⟩ ⟨#[]⟩ [])
noncomputable def r19_b_k0 {ι : Type} (st : ι → S) (inv : ι → Prop) (μ : ι → Nat) (k : ι) (q : AV → Prop) : Kont := kBlk (2 : Nat) (kSeq (aCode Tryd.K YtfdecpfcphghlaaDoor.G19 (cAt [1, 1, 1, 1, 1, 1, 1, 0, 0, 0, 1, 1, 1, 1, 1, 1, 1] Tryd.b19) (kBlk (1 : Nat) (kFamM [] YtfdecpfcphghlaaDoor.m19 st inv μ k (YtfdecpfcphghlaaDoor.r19_k0 q)))) (kBlk (1 : Nat) (kFamM [] YtfdecpfcphghlaaDoor.m19 st inv μ k (YtfdecpfcphghlaaDoor.r19_k0 q))))
theorem r19_b {ι : Type} (st : ι → S) (inv : ι → Prop) (μ : ι → Nat) (k : ι) (s name : ByteArray) (es : List (List D)) (q : AV → Prop) :
  (aCode Tryd.K G19 (cAt [1, 1, 1, 1, 1, 1, 1, 0, 0] Tryd.b19) (kFamM [] m19 st inv μ k (r19_k0 q)) (st19 s name es)) = (
  True ∧
  (((0 : Int) ≤ ((YtfdecpfcphghlaaDoor.runB s) : Int)) ∧ (((YtfdecpfcphghlaaDoor.runB s) : Int) ≤ ((ByteArray.size s) : Int))) ∧
  bcase (decide ((ByteArray.extract s (Int.toNat ((YtfdecpfcphghlaaDoor.runB s) : Int)) (ByteArray.size s)) = (⟨#[]⟩ : ByteArray))) (
   q (AV.tp [AV.d (D.sl [[D.v (Value.int IntKind.i64 (1 : Int)), D.v (Value.string name), D.sl (List.take (List.length es) es), D.v (Value.string (⟨#[]⟩ : ByteArray))]]), mkI IntKind.i64 (0 : Int)])) (
   bcase (decide ((ByteArray.extract s (Int.toNat ((YtfdecpfcphghlaaDoor.runB s) : Int)) (ByteArray.size s)) = YtfdecpfcphghlaaDoor.sSlash)) (
    q (AV.tp [AV.d (D.sl [[D.v (Value.int IntKind.i64 (1 : Int)), D.v (Value.string name), D.sl (List.take (List.length es) es), D.v (Value.string (⟨#[]⟩ : ByteArray))], [D.v (Value.int IntKind.i64 (2 : Int)), D.v (Value.string name), D.sl [], D.v (Value.string (⟨#[]⟩ : ByteArray))]]), mkI IntKind.i64 (0 : Int)])) (
    True ∧
    bcase (((YtfdecpfcphghlaaDoor.runB s) : Int) == (0 : Int)) (
     q (AV.tp [AV.d (D.sl []), mkI IntKind.i64 (3 : Int)])) (
     bcase ((YtfdecpfcphghlaaDoor.attrN (ByteArray.extract s (Int.toNat ((YtfdecpfcphghlaaDoor.runB s) : Int)) (ByteArray.size s))) == (0 : Int)) (
      q (AV.tp [AV.d (D.sl []), mkI IntKind.i64 (3 : Int)])) (
      bcase (decide (((List.length es) : Int) ≥ (6 : Int))) (
       q (AV.tp [AV.d (D.sl []), mkI IntKind.i64 (3 : Int)])) (
       ALoop (aCode Tryd.K YtfdecpfcphghlaaDoor.G19 (cAt [1, 1, 1, 1, 1, 1, 1, 0, 0, 0, 1, 1, 1, 1, 1, 1, 0, 1, 0, 0] Tryd.b19)) (YtfdecpfcphghlaaDoor.r19_b_k0 st inv μ k q) ⟨[mkS s, AV.jk, AV.jk, AV.jk, AV.jk, AV.jk, AV.rf (0 : Nat) (0 : Nat), mkI IntKind.i64 ((YtfdecpfcphghlaaDoor.runB s) : Int), mkS (ByteArray.extract s (Int.toNat ((YtfdecpfcphghlaaDoor.runB s) : Int)) (ByteArray.size s)), AV.rf 2 (0 : Nat), mkI IntKind.i64 (YtfdecpfcphghlaaDoor.attrN (ByteArray.extract s (Int.toNat ((YtfdecpfcphghlaaDoor.runB s) : Int)) (ByteArray.size s))), mkI IntKind.i64 (0 : Int), AV.jk, AV.jk, AV.jk, AV.jk, AV.jk, AV.jk, AV.jk, AV.jk, AV.jk, AV.jk, AV.jk, AV.jk, AV.jk, AV.jk, AV.jk, AV.jk, AV.jk, AV.jk, AV.jk, AV.jk, AV.jk, AV.jk, AV.jk, AV.jk, AV.jk, AV.jk, AV.jk, AV.jk, AV.jk, AV.jk, AV.jk, AV.jk, AV.jk, AV.jk, AV.jk, AV.jk, AV.jk, AV.jk, AV.jk, AV.jk, AV.jk, AV.jk, AV.jk, AV.jk, AV.jk, AV.jk, AV.jk, AV.jk, AV.jk, AV.jk, AV.jk, AV.jk, AV.jk, mkS s, mkI IntKind.i64 ((YtfdecpfcphghlaaDoor.runB s) : Int), mkS s, mkI IntKind.i64 ((YtfdecpfcphghlaaDoor.runB s) : Int), mkS (ByteArray.extract s (Int.toNat ((YtfdecpfcphghlaaDoor.runB s) : Int)) (ByteArray.size s)), mkS (ByteArray.extract s (Int.toNat ((YtfdecpfcphghlaaDoor.runB s) : Int)) (ByteArray.size s)), mkB false, AV.jk, AV.jk, mkS (ByteArray.extract s (Int.toNat ((YtfdecpfcphghlaaDoor.runB s) : Int)) (ByteArray.size s)), mkB false, AV.jk, AV.jk, AV.jk, AV.jk, AV.jk, AV.tp [AV.ag [mkS (Prod.fst (YtfdecpfcphghlaaDoor.attrA (ByteArray.extract s (Int.toNat ((YtfdecpfcphghlaaDoor.runB s) : Int)) (ByteArray.size s)))), mkS (Prod.snd (YtfdecpfcphghlaaDoor.attrA (ByteArray.extract s (Int.toNat ((YtfdecpfcphghlaaDoor.runB s) : Int)) (ByteArray.size s))))], mkI IntKind.i64 (YtfdecpfcphghlaaDoor.attrN (ByteArray.extract s (Int.toNat ((YtfdecpfcphghlaaDoor.runB s) : Int)) (ByteArray.size s)))], mkS (ByteArray.extract s (Int.toNat ((YtfdecpfcphghlaaDoor.runB s) : Int)) (ByteArray.size s)), AV.tp [AV.ag [mkS (Prod.fst (YtfdecpfcphghlaaDoor.attrA (ByteArray.extract s (Int.toNat ((YtfdecpfcphghlaaDoor.runB s) : Int)) (ByteArray.size s)))), mkS (Prod.snd (YtfdecpfcphghlaaDoor.attrA (ByteArray.extract s (Int.toNat ((YtfdecpfcphghlaaDoor.runB s) : Int)) (ByteArray.size s))))], mkI IntKind.i64 (YtfdecpfcphghlaaDoor.attrN (ByteArray.extract s (Int.toNat ((YtfdecpfcphghlaaDoor.runB s) : Int)) (ByteArray.size s)))], AV.ag [mkS (Prod.fst (YtfdecpfcphghlaaDoor.attrA (ByteArray.extract s (Int.toNat ((YtfdecpfcphghlaaDoor.runB s) : Int)) (ByteArray.size s)))), mkS (Prod.snd (YtfdecpfcphghlaaDoor.attrA (ByteArray.extract s (Int.toNat ((YtfdecpfcphghlaaDoor.runB s) : Int)) (ByteArray.size s))))], mkI IntKind.i64 (YtfdecpfcphghlaaDoor.attrN (ByteArray.extract s (Int.toNat ((YtfdecpfcphghlaaDoor.runB s) : Int)) (ByteArray.size s))), mkI IntKind.i64 ((YtfdecpfcphghlaaDoor.runB s) : Int), mkB (((YtfdecpfcphghlaaDoor.runB s) : Int) == (0 : Int)), mkB false, mkI IntKind.i64 (YtfdecpfcphghlaaDoor.attrN (ByteArray.extract s (Int.toNat ((YtfdecpfcphghlaaDoor.runB s) : Int)) (ByteArray.size s))), mkB ((YtfdecpfcphghlaaDoor.attrN (ByteArray.extract s (Int.toNat ((YtfdecpfcphghlaaDoor.runB s) : Int)) (ByteArray.size s))) == (0 : Int)), mkB ((YtfdecpfcphghlaaDoor.attrN (ByteArray.extract s (Int.toNat ((YtfdecpfcphghlaaDoor.runB s) : Int)) (ByteArray.size s))) == (0 : Int)), mkB false, AV.rf (0 : Nat) ((0 : Nat) + (2 : Nat)), AV.vw (1 : Nat) (List.length es), mkI IntKind.i64 ((List.length es) : Int), mkB (decide (((List.length es) : Int) ≥ (6 : Int))), mkB false, AV.jk, AV.jk, AV.jk, AV.jk, AV.jk, AV.jk, AV.jk, AV.jk, AV.jk, AV.jk, AV.jk, AV.jk, AV.jk, AV.jk, AV.jk, AV.jk, AV.jk, AV.jk, AV.jk, AV.jk, AV.jk, AV.jk, AV.jk, AV.jk, AV.jk], [Ob.box [mkI IntKind.i64 (1 : Int), mkS name, AV.vw (1 : Nat) (List.length es), mkS (⟨#[]⟩ : ByteArray)], Ob.row (2 : Nat) es, Ob.box [mkS (Prod.fst (YtfdecpfcphghlaaDoor.attrA (ByteArray.extract s (Int.toNat ((YtfdecpfcphghlaaDoor.runB s) : Int)) (ByteArray.size s)))), mkS (Prod.snd (YtfdecpfcphghlaaDoor.attrA (ByteArray.extract s (Int.toNat ((YtfdecpfcphghlaaDoor.runB s) : Int)) (ByteArray.size s))))]]⟩)))))) := by kernel_rfl

def st19c (rest name a1 a2 : ByteArray) (m i : Int) (es : List (List D)) : S := ⟨[.jk, .jk, .jk, .jk, .jk, .jk, .rf 0 0, .jk, mkS rest, .rf 2 0, mkI .i64 m, mkI .i64 i] ++ jks 111, [.box [mkI .i64 1, mkS name, .vw 1 es.length, mkS ⟨#[]⟩], .row 2 es, .box [mkS a1, mkS a2]]⟩
def m19c : List Bool := maskOf (st19c ⟨#[]⟩ ⟨#[]⟩ ⟨#[]⟩ ⟨#[]⟩ 0 0 [])
theorem r19_c {ι : Type} (st : ι → S) (inv : ι → Prop) (μ : ι → Nat) (k : ι) {ι2 : Type} (st2 : ι2 → S) (inv2 : ι2 → Prop) (μ2 : ι2 → Nat) (k2 : ι2) (rest name a1 a2 : ByteArray) (m i : Int) (es : List (List D)) (q : AV → Prop) :
  (aCode Tryd.K G19 (cAt [1, 1, 1, 1, 1, 1, 1, 0, 0, 0, 1, 1, 1, 1, 1, 1, 0, 1, 0, 0] Tryd.b19) (kFamM [] m19c st2 inv2 μ2 k2 (r19_b_k0 st inv μ k q)) (st19c rest name a1 a2 m i es)) = (
  bcase (decide (i < ((List.length es) : Int))) (
   (((0 : Int) ≤ i) ∧ (i < ((List.length es) : Int))) ∧
   ((Int.toNat i) < (List.length es)) ∧
   (((0 : Nat) + (0 : Nat)) ≤ (List.length (List.getD es (Int.toNat i) []))) ∧
   ((1 : Nat) ≤ (List.length (List.drop ((0 : Nat) + (0 : Nat)) (List.getD es (Int.toNat i) [])))) ∧
   ((List.getD (List.drop ((0 : Nat) + (0 : Nat)) (List.getD es (Int.toNat i) [])) (0 : Nat) d0) = (D.v (Value.string (strD (List.getD (List.drop ((0 : Nat) + (0 : Nat)) (List.getD es (Int.toNat i) [])) (0 : Nat) d0))))) ∧
   bcase (decide ((strD (List.getD (List.drop ((0 : Nat) + (0 : Nat)) (List.getD es (Int.toNat i) [])) (0 : Nat) d0)) = a1)) (
    q (AV.tp [AV.d (D.sl []), mkI IntKind.i64 (3 : Int)])) (
    FamNext st2 inv2 μ2 k2 ⟨[AV.jk, AV.jk, AV.jk, AV.jk, AV.jk, AV.jk, AV.rf (0 : Nat) (0 : Nat), AV.jk, mkS rest, AV.rf (2 : Nat) (0 : Nat), mkI IntKind.i64 m, mkI IntKind.i64 (IntKind.wrap IntKind.i64 (i + (1 : Int))), AV.jk, AV.jk, AV.jk, AV.jk, AV.jk, AV.jk, AV.jk, AV.jk, AV.jk, AV.jk, AV.jk, AV.jk, AV.jk, AV.jk, AV.jk, AV.jk, AV.jk, AV.jk, AV.jk, AV.jk, AV.jk, AV.jk, AV.jk, AV.jk, AV.jk, AV.jk, AV.jk, AV.jk, AV.jk, AV.jk, AV.jk, AV.jk, AV.jk, AV.jk, AV.jk, AV.jk, AV.jk, AV.jk, AV.jk, AV.jk, AV.jk, AV.jk, AV.jk, AV.jk, AV.jk, AV.jk, AV.jk, AV.jk, AV.jk, AV.jk, AV.jk, AV.jk, AV.jk, AV.jk, AV.jk, AV.jk, AV.jk, AV.jk, AV.jk, AV.jk, AV.jk, AV.jk, AV.jk, AV.jk, AV.jk, AV.jk, AV.jk, AV.jk, AV.jk, AV.jk, AV.jk, AV.jk, AV.jk, AV.jk, AV.jk, AV.jk, AV.jk, AV.jk, AV.jk, AV.jk, AV.jk, AV.jk, AV.jk, AV.jk, AV.jk, AV.jk, AV.jk, AV.jk, AV.jk, AV.jk, AV.jk, AV.jk, AV.jk, AV.jk, AV.jk, AV.jk, AV.jk, AV.jk, AV.jk, AV.jk, AV.jk, AV.jk, AV.jk, AV.jk, AV.jk, AV.jk, AV.jk, AV.jk, AV.jk, AV.jk, AV.jk], [Ob.box [mkI IntKind.i64 (1 : Int), mkS name, AV.vw (1 : Nat) (List.length es), mkS (⟨#[]⟩ : ByteArray)], Ob.row (2 : Nat) es, Ob.box [mkS a1, mkS a2]]⟩)) (
   (∀ (c : List D), (c ∈ [[D.v (Value.string a1), D.v (Value.string a2)]]) → (List.length c) = 2) ∧
   ((List.length es) = (List.length es)) ∧
   (((List.length es) + 1) ≤ LIM) ∧
   (((0 : Int) ≤ m) ∧ (m ≤ ((ByteArray.size rest) : Int))) ∧
   FamNext st inv μ k ⟨[mkS (ByteArray.extract rest (Int.toNat m) (ByteArray.size rest)), AV.jk, AV.jk, AV.jk, AV.jk, AV.jk, AV.rf (0 : Nat) (0 : Nat), AV.jk, AV.jk, AV.jk, AV.jk, AV.jk, AV.jk, AV.jk, AV.jk, AV.jk, AV.jk, AV.jk, AV.jk, AV.jk, AV.jk, AV.jk, AV.jk, AV.jk, AV.jk, AV.jk, AV.jk, AV.jk, AV.jk, AV.jk, AV.jk, AV.jk, AV.jk, AV.jk, AV.jk, AV.jk, AV.jk, AV.jk, AV.jk, AV.jk, AV.jk, AV.jk, AV.jk, AV.jk, AV.jk, AV.jk, AV.jk, AV.jk, AV.jk, AV.jk, AV.jk, AV.jk, AV.jk, AV.jk, AV.jk, AV.jk, AV.jk, AV.jk, AV.jk, AV.jk, AV.jk, AV.jk, AV.jk, AV.jk, AV.jk, AV.jk, AV.jk, AV.jk, AV.jk, AV.jk, AV.jk, AV.jk, AV.jk, AV.jk, AV.jk, AV.jk, AV.jk, AV.jk, AV.jk, AV.jk, AV.jk, AV.jk, AV.jk, AV.jk, AV.jk, AV.jk, AV.jk, AV.jk, AV.jk, AV.jk, AV.jk, AV.jk, AV.jk, AV.jk, AV.jk, AV.jk, AV.jk, AV.jk, AV.jk, AV.jk, AV.jk, AV.jk, AV.jk, AV.jk, AV.jk, AV.jk, AV.jk, AV.jk, AV.jk, AV.jk, AV.jk, AV.jk, AV.jk, AV.jk, AV.jk, AV.jk, AV.jk, AV.jk, AV.jk, AV.jk, AV.jk, AV.jk, AV.jk], [Ob.box [mkI IntKind.i64 (1 : Int), mkS name, AV.vw (1 : Nat) ((List.length es) + 1), mkS (⟨#[]⟩ : ByteArray)], Ob.row (2 : Nat) (es ++ [[D.v (Value.string a1), D.v (Value.string a2)]]), Ob.box [mkS a1, mkS a2], Ob.row 2 [[D.v (Value.string a1), D.v (Value.string a2)]]]⟩)) := by kernel_rfl

theorem beginR_step (name : ByteArray) (f : Nat) (s : ByteArray) (l : List (ByteArray × ByteArray)) : beginR name (f + 1) s l =
    if s.extract (runB s) s.size = ⟨#[]⟩ then ([⟨1, name, l, ⟨#[]⟩⟩], 0)
    else if s.extract (runB s) s.size = sSlash then ([⟨1, name, l, ⟨#[]⟩⟩, ⟨2, name, [], ⟨#[]⟩⟩], 0)
    else if runB s = 0 ∨ (attrT (s.extract (runB s) s.size)).2.2 = false ∨ 6 ≤ l.length ∨ anyA l (attrT (s.extract (runB s) s.size)).1.1 = true then ([], 3)
    else beginR name f (attrT (s.extract (runB s) s.size)).2.1 (l ++ [(attrT (s.extract (runB s) s.size)).1]) := rfl
theorem attrN_zero (s : ByteArray) : attrN s = 0 ↔ (attrT s).2.2 = false := by
  unfold attrN
  split
  · rename_i h
    rw [attrT_yes h]
    constructor
    · intro h; omega
    · intro h; cases h
  · rename_i h
    exact ⟨fun _ => attrT_no h, fun _ => rfl⟩
theorem attrN_pos {s : ByteArray} (h : ¬ attrN s = 0) : 0 ≤ attrN s ∧ attrN s ≤ (s.size : Int) ∧ attrA s = (attrT s).1 ∧ (attrT s).2.1 = s.extract (attrN s).toNat s.size := by
  have hc : attrC s := Classical.byContradiction fun hc => h (if_neg hc)
  have e1 : attrN s = ((attrE s + 1 : Nat) : Int) := if_pos hc
  have e2 : attrA s = (attrT s).1 := if_pos hc
  have e3 := hc.2.2.2.2.1
  refine ⟨by omega, by omega, e2, ?_⟩
  rw [e1, attrT_yes hc]
  rfl

noncomputable def F19 : List AV → Option (Prop × AV) := fun al => match al with
  | [.d (.v (.string s))] => some (True, .tp [.d (.sl (toksD (tagR s).1)), mkI .i64 (tagR s).2])
  | _ => none
theorem c19 : PSound Tryd.prog 19 (detE F19) := by
  refine det_fn (c := Tryd.b19) mixed Tryd.K_ok (gsound_det c25 (gsound_det c27 (gsound_det c26 (gsound_det c23 (gsound_det c28 gsound_nil))))) Tryd.func19 rfl rfl Tryd.call19 fun al p r q hF hp hq => ?_
  unfold F19 at hF; split at hF <;> cases hF
  rename_i s
  obtain ⟨R, hR⟩ : ∃ R, tagR s = R := ⟨_, rfl⟩
  rw [hR] at hq
  unfold tagR at hR
  have hle := runN_le s
  refine cast (r19 s q).symm ⟨trivial, bcase_mk (fun h => ?_) (fun h hlim => ?_)⟩
  · have h : ¬ rightB s = true := fun e => by rw [e] at h; simp at h
    rw [if_neg h] at hR; subst hR; exact hq
  have h : rightB s = true := by
    cases e : rightB s with
    | true => rfl
    | false => rw [e] at h; simp at h
  rw [if_pos h] at hR
  clear h
  have lp : ∀ (s0 : S), ¬ (0 < s.size ∧ byteAt s 0 = 47) → nameB (s.extract 0 (runN s)) = true → (s0.openB 0 2 2).le (st19 (s.extract (runN s) s.size) (s.extract 0 (runN s)) []) → ALoop (aCode Tryd.K G19 (cAt [1, 1, 1, 1, 1, 1, 1, 0, 0] Tryd.b19)) (r19_k0 q) s0 := by
    intro s0 h1 h2 hs0
    rw [if_neg h1, if_pos h2] at hR
    clear h1 h2
    generalize s.extract 0 (runN s) = name at hR hs0
    generalize s.extract (runN s) s.size = t0 at hR hs0
    refine .openB 0 2 2 (by omega) ?_
    refine ALoop.introM [] m19 (fun x : Nat × ByteArray × List (ByteArray × ByteArray) => st19 x.2.1 name (x.2.2.map attrD)) (fun x => x.1 + x.2.2.length = 8 ∧ x.2.2.length ≤ 6 ∧ beginR name x.1 x.2.1 x.2.2 = R) (fun x => x.1)
      ⟨[], (8, t0, []), hs0, rfl, by simp, hR⟩ fun x ⟨hx1, hx2, hx4⟩ => ?_
    obtain ⟨f, s', l⟩ := x
    simp only at hx1 hx2 hx4
    obtain ⟨f, rfl⟩ : ∃ g, f = g + 1 := ⟨f - 1, by omega⟩
    have hlen : (l.map attrD).length = l.length := by simp
    have htk : List.take l.length (l.map attrD) = l.map attrD := List.take_of_length_le (by simp)
    have hb := runB_le s'
    rw [beginR_step] at hx4
    refine cast (r19_b _ _ _ _ s' name (l.map attrD) q).symm ?_
    rw [hlen, htk]
    obtain ⟨rest, hrest⟩ : ∃ rest, s'.extract (runB s') s'.size = rest := ⟨_, rfl⟩
    have hrest' : s'.extract (Int.toNat (runB s' : Int)) s'.size = rest := hrest
    rw [hrest] at hx4
    simp only [hrest']
    clear hrest hrest'
    refine ⟨trivial, ⟨by omega, by omega⟩, bcase_dec (fun h => ?_) (fun h => bcase_dec (fun h2 => ?_) (fun h2 => ⟨trivial, bcase_mk (fun h3 => ?_) (fun h3 => bcase_mk (fun h4 => ?_) (fun h4 => bcase_dec (fun h5 => ?_) (fun h5 => ?_)))⟩))⟩
    · rw [if_pos h] at hx4; subst hx4; exact hq
    · rw [if_neg h, if_pos h2] at hx4; subst hx4; exact hq
    · have h3 : runB s' = 0 := by have := beq_iff_eq.1 h3; omega
      rw [if_neg h, if_neg h2, if_pos (.inl h3)] at hx4; subst hx4; exact hq
    · have h4 := (attrN_zero rest).1 (beq_iff_eq.1 h4)
      rw [if_neg h, if_neg h2, if_pos (.inr (.inl h4))] at hx4; subst hx4; exact hq
    · rw [if_neg h, if_neg h2, if_pos (.inr (.inr (.inl (by omega))))] at hx4; subst hx4; exact hq
    · have h3 : ¬ runB s' = 0 := by have := beq_eq_false_iff_ne.1 h3; omega
      have h4 := beq_eq_false_iff_ne.1 h4
      have h4' : ¬ (attrT rest).2.2 = false := fun e => h4 ((attrN_zero rest).2 e)
      obtain ⟨p1, p2, p3, p4⟩ := attrN_pos h4
      rw [if_neg h, if_neg h2, p4] at hx4
      rw [p3]
      have hany : anyA l (attrT rest).1.1 = true → R = ([], 3) := fun e => by rw [if_pos (.inr (.inr (.inr e)))] at hx4; exact hx4.symm
      have hgo : anyA l (attrT rest).1.1 = false → beginR name f (rest.extract (attrN rest).toNat rest.size) (l ++ [(attrT rest).1]) = R := fun e => by
        have n1 : ¬ (runB s' = 0 ∨ (attrT rest).2.2 = false ∨ 6 ≤ l.length ∨ anyA l (attrT rest).1.1 = true) := by
          rintro (h | h | h | h)
          · exact h3 h
          · exact h4' h
          · omega
          · rw [e] at h; cases h
        rw [if_neg n1] at hx4; exact hx4
      clear hx4 h h2 h3 h4 h4' p3 p4
      generalize (attrT rest).1 = a at hany hgo ⊢
      generalize attrN rest = m at p1 p2 hgo ⊢
      obtain ⟨a1, a2⟩ := a
      refine ALoop.introM [] m19c (fun i : Nat => st19c rest name a1 a2 m i (l.map attrD)) (fun i => i ≤ l.length ∧ anyA (l.take i) a1 = false) (fun i => l.length - i) ⟨[], 0, by simp [S.le, sealAll, leL, leO, jks, st19c], Nat.zero_le _, by simp [anyA]⟩ fun i ⟨hi, hI⟩ => ?_
      refine cast (r19_c _ _ _ _ _ _ _ _ rest name a1 a2 m i (l.map attrD) q).symm ?_
      rw [hlen]
      refine bcase_dec (fun h => ?_) (fun h => ?_)
      · have hlt : i < l.length := by omega
        simp only [Int.toNat_natCast, attrD_get l i hlt]
        have hsn : anyA (l.take (i + 1)) a1 = decide ((l[i]'hlt).1 = a1) := by
          rw [List.take_add_one, List.getElem?_eq_getElem hlt]
          simp only [anyA, List.any_append] at hI ⊢
          rw [hI]; simp
        refine ⟨⟨by omega, by omega⟩, hlt, Nat.zero_le _, by show 1 ≤ 2; decide, rfl, bcase_dec (fun h5 => ?_) (fun h5 => ?_)⟩
        · have : anyA l a1 = true := by
            simp only [anyA, List.any_eq_true, decide_eq_true_eq]
            exact ⟨_, List.getElem_mem hlt, h5⟩
          have := hany this
          subst this; exact hq
        · have h5 : ¬ (l[i]'hlt).1 = a1 := h5
          refine .mk [] (i + 1) ?_ ⟨hlt, by rw [hsn]; simpa using h5⟩ (show l.length - (i + 1) < l.length - i by omega)
          rw [wrap_succ hlt (by unfold LIM; omega)]
          simp [S.le, sealAll, leL, leO, jks, st19c, S.fits, fitsL, AV.fits, Ob.fits]
      · have hge : i = l.length := by omega
        rw [hge, List.take_length] at hI
        refine ⟨by simp, rfl, Nat.le_trans (Nat.succ_le_succ hx2) (by decide), ⟨p1, p2⟩, ?_⟩
        refine .mk [] (f, rest.extract m.toNat rest.size, l ++ [(a1, a2)]) ?_ ⟨by simp; omega, by simp; omega, hgo hI⟩ (Nat.lt_succ_self f)
        simp [S.le, sealAll, leL, leO, jks, st19, S.fits, fitsL, AV.fits, Ob.fits, attrD]
  have er3 : ¬ (0 < s.size ∧ byteAt s 0 = 47) → ¬ nameB (s.extract 0 (runN s)) = true → q (.tp [.d (.sl []), mkI .i64 3]) := fun h1 h2 => by
    rw [if_neg h1, if_neg h2] at hR; subst hR; exact hq
  simp only [Int.toNat_natCast]
  refine bcase_dec (fun h1 => ⟨⟨by omega, by omega⟩, bcase_mk (fun h2 => ?_) (fun h2 => ?_)⟩) (fun h1 => ?_)
  · have h1 : 0 < s.size := by omega
    have h2 : byteAt s 0 = 47 := beq_iff_eq.1 h2
    rw [if_pos ⟨h1, h2⟩] at hR
    have t1 : Int.toNat 1 = 1 := rfl
    simp only [t1]
    have hz : (s.extract 1 s.size).size = s.size - 1 := by rw [ByteArray.size_extract]; omega
    have hle1 := runN_le (s.extract 1 s.size)
    have hN : IntKind.i64.wrap (1 + (runN (s.extract 1 s.size) : Int)) = ((1 + runN (s.extract 1 s.size) : Nat) : Int) := by unfold LIM at hlim; rw [IntWalk.i64_in _ (by omega)]; omega
    have e1 : s.extract 1 (1 + runN (s.extract 1 s.size)) = (s.extract 1 s.size).extract 0 (runN (s.extract 1 s.size)) := by
      refine ba_ext ?_
      rw [ext_list, ext0_list, ext_end, List.take_drop]
    have e2 : s.extract (1 + runN (s.extract 1 s.size)) s.size = (s.extract 1 s.size).extract (runN (s.extract 1 s.size)) (s.extract 1 s.size).size := by
      refine ba_ext ?_
      rw [ext_end, ext_end, ext_end, List.drop_drop]
    simp only [hN, Int.toNat_natCast, e1, e2]
    have w1 : IntKind.i64.wrap ((s.size : Int) - 1) = ((s.size - 1 : Nat) : Int) := by unfold LIM at hlim; rw [IntWalk.i64_in _ (by omega)]; omega
    have w2 : IntKind.i64.wrap (((s.size - 1 : Nat) : Int) - (runN (s.extract 1 s.size) : Int)) = ((s.size - 1 - runN (s.extract 1 s.size) : Nat) : Int) := by unfold LIM at hlim; rw [IntWalk.i64_in _ (by omega)]; omega
    simp only [w1, w2]
    generalize s.extract 1 s.size = t at *
    refine ⟨⟨by omega, by omega⟩, trivial, ⟨by omega, by omega, by omega⟩, trivial, bcase_mk (fun h3 => ?_) (fun h3 => ⟨⟨by omega, by omega⟩, trivial, fun _ => bcase_mk (fun h4 => ?_) (fun h4 => ⟨⟨by omega, by omega, by omega⟩, ?_⟩)⟩)⟩
    · have n1 : ¬ endC t := fun hc => by rw [hc.1] at h3; cases h3
      rw [if_neg n1] at hR; subst hR; exact hq
    · have n1 : ¬ endC t := fun hc => by rw [hc.2, hz] at h4; simp at h4
      rw [if_neg n1] at hR; subst hR; exact hq
    · have h3 : nameB (t.extract 0 (runN t)) = true := by simpa using h3
      have h4 : runB (t.extract (runN t) t.size) = t.size - runN t := by have : ((runB (t.extract (runN t) t.size) : Nat) : Int) = ((s.size - 1 - runN t : Nat) : Int) := (by simpa using h4); omega
      rw [if_pos ⟨h3, h4⟩] at hR; subst hR; exact hq
  · have n1 : ¬ (0 < s.size ∧ byteAt s 0 = 47) := fun hc => beq_eq_false_iff_ne.1 h2 hc.2
    refine ⟨trivial, ⟨by omega, by omega⟩, trivial, bcase_mk (fun h3 => ?_) (fun h3 => ⟨⟨by omega, by omega⟩, ⟨by omega, by omega⟩, ?_⟩)⟩
    · exact er3 n1 (by simpa using h3)
    · exact lp _ n1 (by simpa using h3) (by simp [S.openB, openNil, S.le, leL, leO, jks, st19])
  · have n1 : ¬ (0 < s.size ∧ byteAt s 0 = 47) := fun hc => by have := hc.1; omega
    refine ⟨trivial, ⟨by omega, by omega⟩, trivial, bcase_mk (fun h3 => ?_) (fun h3 => ⟨⟨by omega, by omega⟩, ⟨by omega, by omega⟩, ?_⟩)⟩
    · exact er3 n1 (by simpa using h3)
    · exact lp _ n1 (by simpa using h3) (by simp [S.openB, openNil, S.le, leL, leO, jks, st19])

end Go.Proofs.YtfdecpfcphghlaaDoor
