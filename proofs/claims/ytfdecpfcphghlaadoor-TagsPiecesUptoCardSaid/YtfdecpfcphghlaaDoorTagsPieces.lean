import Derived.Test.YtfdecpfcphghlaaDoorTagsLong
set_option linter.unusedSimpArgs false
set_option linter.unusedVariables false
set_option maxHeartbeats 400000
namespace Go.Proofs.YtfdecpfcphghlaaDoor
open Go Go.AM Go.RowKit
attribute [local irreducible] aCode bcase

-- TagsPieces
noncomputable def r4_k0 (q : AV → Prop) : Kont := kBlk (0 : Nat) (kSeq (aCode Tryd.K YtfdecpfcphghlaaDoor.GJ (cAt [1, 1, 1, 1, 1, 1, 1, 1, 1] Tryd.b4) (kRet Tryd.K (Array.toList (Func.results Tryd.f4)) q)) (kRet Tryd.K (Array.toList (Func.results Tryd.f4)) q))
theorem r4 (s : ByteArray) (cs : List (List D)) (q : AV → Prop) :
  (aCode Tryd.K GJ Tryd.b4 (kRet Tryd.K Tryd.f4.results.toList q) ⟨[mkS s, .d (.sl cs)] ++ List.replicate (Tryd.f4.ntmps - 2) .jk, []⟩) = (
  True ∧
  True ∧
  (([] : List AV) = []) ∧
  (([] : List AV) = []) ∧ (
   ∃ (b : ByteArray),
   ∃ (w : Bool),
   ∃ (e : Int),
   ([Ob.box [AV.vw ((0 : Nat) + (1 : Nat)) (0 : Nat), mkB false, mkI IntKind.i64 (0 : Int)], Ob.row (1 : Nat) [], Ob.gh [AV.rf (0 : Nat) (0 : Nat)]] = [Ob.box [AV.vw (1 : Nat) (List.length (bytesD b)), mkB w, mkI IntKind.i64 e], Ob.row (1 : Nat) (bytesD b), Ob.gh [AV.rf (0 : Nat) (0 : Nat)]]) ∧
   ((ByteArray.size b) ≤ (512 : Nat)) ∧
   ((ByteArray.size (YtfdecpfcphghlaaDoor.earlyB s)) ≤ (1000000000 : Nat)) ∧
   ((Option.some (Ob.gh [AV.rf (0 : Nat) (0 : Nat)])) = (Option.some (Ob.gh [AV.rf (0 : Nat) (0 : Nat)]))) ∧
   ALoop (aCode Tryd.K YtfdecpfcphghlaaDoor.GJ (cAt [1, 1, 1, 1, 1, 1, 1, 1, 0, 1, 0, 0] Tryd.b4)) (YtfdecpfcphghlaaDoor.r4_k0 q) ⟨[mkS (YtfdecpfcphghlaaDoor.earlyB s), AV.d (D.sl cs), AV.jk, AV.jk, mkB false, AV.rf (0 + (0 : Nat)) (0 : Nat), AV.rf (2 + (0 : Nat)) (0 : Nat), AV.d (D.sl (YtfdecpfcphghlaaDoor.toksD (Prod.fst (YtfdecpfcphghlaaDoor.feedL (Array.toList (ByteArray.data (YtfdecpfcphghlaaDoor.earlyB s))) b w e)))), mkI IntKind.i64 (Prod.snd (Prod.snd (Prod.snd (YtfdecpfcphghlaaDoor.feedL (Array.toList (ByteArray.data (YtfdecpfcphghlaaDoor.earlyB s))) b w e)))), AV.nl, mkI IntKind.i64 (0 : Int), mkS (YtfdecpfcphghlaaDoor.earlyB s), mkI IntKind.i64 (0 : Int), AV.jk, AV.jk, AV.jk, AV.jk, AV.jk, mkB true, mkB false, mkS s, mkS (YtfdecpfcphghlaaDoor.earlyB s), AV.rf (0 + (0 : Nat)) (0 : Nat), AV.rf (2 + (0 : Nat)) (0 : Nat), AV.tp [AV.d (D.sl (YtfdecpfcphghlaaDoor.toksD (Prod.fst (YtfdecpfcphghlaaDoor.feedL (Array.toList (ByteArray.data (YtfdecpfcphghlaaDoor.earlyB s))) b w e)))), mkI IntKind.i64 (Prod.snd (Prod.snd (Prod.snd (YtfdecpfcphghlaaDoor.feedL (Array.toList (ByteArray.data (YtfdecpfcphghlaaDoor.earlyB s))) b w e))))], AV.rf (0 + (0 : Nat)) (0 : Nat), mkS (YtfdecpfcphghlaaDoor.earlyB s), AV.tp [AV.d (D.sl (YtfdecpfcphghlaaDoor.toksD (Prod.fst (YtfdecpfcphghlaaDoor.feedL (Array.toList (ByteArray.data (YtfdecpfcphghlaaDoor.earlyB s))) b w e)))), mkI IntKind.i64 (Prod.snd (Prod.snd (Prod.snd (YtfdecpfcphghlaaDoor.feedL (Array.toList (ByteArray.data (YtfdecpfcphghlaaDoor.earlyB s))) b w e))))], AV.d (D.sl (YtfdecpfcphghlaaDoor.toksD (Prod.fst (YtfdecpfcphghlaaDoor.feedL (Array.toList (ByteArray.data (YtfdecpfcphghlaaDoor.earlyB s))) b w e)))), mkI IntKind.i64 (Prod.snd (Prod.snd (Prod.snd (YtfdecpfcphghlaaDoor.feedL (Array.toList (ByteArray.data (YtfdecpfcphghlaaDoor.earlyB s))) b w e)))), mkS (YtfdecpfcphghlaaDoor.earlyB s), AV.jk, AV.jk, AV.jk, AV.jk, AV.jk, AV.jk, AV.jk, AV.jk, AV.jk, AV.jk, AV.jk, AV.jk, AV.jk, AV.jk, AV.jk, AV.jk, AV.jk, AV.jk, AV.jk, AV.jk, AV.jk, AV.jk, AV.jk, AV.jk, AV.jk, AV.jk, AV.jk, AV.jk, AV.jk, AV.jk, AV.jk, AV.jk, AV.jk, AV.jk, AV.jk, AV.jk, AV.jk, AV.jk, AV.jk, AV.jk, AV.jk, AV.jk, AV.jk, AV.jk, AV.jk, AV.jk, AV.jk, AV.jk, AV.jk, AV.jk, AV.jk, AV.jk, AV.jk, AV.jk, AV.jk, AV.jk, AV.jk, AV.jk, AV.jk, AV.jk, AV.jk, AV.jk, AV.jk, AV.jk, AV.jk, AV.jk, AV.jk, AV.jk, AV.jk, AV.jk, AV.jk, AV.jk, AV.jk, AV.jk], [Ob.box [AV.vw (if (1 : Nat) < 2 then 1 else 5 + ((1 : Nat) - 2)) (List.length (bytesD (Prod.fst (Prod.snd (YtfdecpfcphghlaaDoor.feedL (Array.toList (ByteArray.data (YtfdecpfcphghlaaDoor.earlyB s))) b w e))))), mkB (Prod.fst (Prod.snd (Prod.snd (YtfdecpfcphghlaaDoor.feedL (Array.toList (ByteArray.data (YtfdecpfcphghlaaDoor.earlyB s))) b w e)))), mkI IntKind.i64 (Prod.snd (Prod.snd (Prod.snd (YtfdecpfcphghlaaDoor.feedL (Array.toList (ByteArray.data (YtfdecpfcphghlaaDoor.earlyB s))) b w e))))], Ob.row (1 : Nat) (bytesD (Prod.fst (Prod.snd (YtfdecpfcphghlaaDoor.feedL (Array.toList (ByteArray.data (YtfdecpfcphghlaaDoor.earlyB s))) b w e)))), Ob.box [AV.vw (2 + (1 : Nat)) (0 : Nat), mkB false, mkI IntKind.i64 (0 : Int)], Ob.row (1 : Nat) [], Ob.gone, Ob.gone]⟩)) := by kernel_rfl

def st4 (cs A : List (List D)) (b1 : List (List D)) (w1 : Bool) (e1 : Int) (b2 ts : List (List D)) (w2 : Bool) (e2 : Int) (rest : ByteArray) (i : Int) : S := ⟨[.jk, .d (.sl cs), .jk, .jk, .jk, .rf 0 0, .rf 2 0, .d (.sl A), mkI .i64 e1, .vw 6 ts.length, mkI .i64 e2, mkS rest, mkI .i64 i] ++ jks 92,
  [.box [.vw 1 b1.length, mkB w1, mkI .i64 e1], .row 1 b1, .box [.vw 3 b2.length, mkB w2, mkI .i64 e2], .row 1 b2, .gone, .gone, .row 4 ts]⟩
def m4 : List Bool := maskOf (st4 [] [] [] false 0 [] [] false 0 ⟨#[]⟩ 0)
theorem r4_b {ι : Type} (st : ι → S) (inv : ι → Prop) (μ : ι → Nat) (k : ι) (cs A : List (List D)) (b1 : List (List D)) (w1 : Bool) (e1 : Int) (b2 ts : List (List D)) (w2 : Bool) (e2 : Int) (rest : ByteArray) (i : Int) (q : AV → Prop) :
  (aCode Tryd.K GJ (cAt [1, 1, 1, 1, 1, 1, 1, 1, 0, 1, 0, 0] Tryd.b4) (kFamM [] m4 st inv μ k (r4_k0 q)) (st4 cs A b1 w1 e1 b2 ts w2 e2 rest i)) = (
  ((List.length cs) ≤ LIM) →
  bcase (decide (i < ((List.length cs) : Int))) (
   bcase (decide (i < (200 : Int))) (
    (((0 : Int) ≤ i) ∧ (i < ((List.length cs) : Int))) ∧
    ((List.length (List.getD cs (Int.toNat i) [])) = 1) ∧
    ((1 : Nat) ≤ (List.length (List.getD cs (Int.toNat i) []))) ∧
    ((List.getD (List.getD cs (Int.toNat i) []) (0 : Nat) d0) = (D.v (Value.int IntKind.i64 (intD (List.getD (List.getD cs (Int.toNat i) []) (0 : Nat) d0))))) ∧ (
     ((ByteArray.size rest) ≤ LIM) →
     (((IntKind.wrap IntKind.u64 (IntKind.wrap IntKind.i64 (((ByteArray.size rest) : Int) + (1 : Int)))) = (0 : Int)) → False) ∧
     (((0 : Int) ≤ (IntKind.wrap IntKind.i64 (Int.tmod (IntKind.wrap IntKind.u64 (intD (List.getD (List.getD cs (Int.toNat i) []) (0 : Nat) d0))) (IntKind.wrap IntKind.u64 (IntKind.wrap IntKind.i64 (((ByteArray.size rest) : Int) + (1 : Int))))))) ∧ ((IntKind.wrap IntKind.i64 (Int.tmod (IntKind.wrap IntKind.u64 (intD (List.getD (List.getD cs (Int.toNat i) []) (0 : Nat) d0))) (IntKind.wrap IntKind.u64 (IntKind.wrap IntKind.i64 (((ByteArray.size rest) : Int) + (1 : Int)))))) ≤ ((ByteArray.size rest) : Int))) ∧ (
      ∃ (b : ByteArray),
      ∃ (w : Bool),
      ∃ (e : Int),
      ([Ob.box [AV.vw ((0 : Nat) + (1 : Nat)) (List.length b2), mkB w2, mkI IntKind.i64 e2], Ob.row (1 : Nat) b2, Ob.gh [AV.rf (0 : Nat) (0 : Nat)]] = [Ob.box [AV.vw (1 : Nat) (List.length (bytesD b)), mkB w, mkI IntKind.i64 e], Ob.row (1 : Nat) (bytesD b), Ob.gh [AV.rf (0 : Nat) (0 : Nat)]]) ∧
      ((ByteArray.size b) ≤ (512 : Nat)) ∧
      ((ByteArray.size (ByteArray.extract rest (0 : Nat) (Int.toNat (IntKind.wrap IntKind.i64 (Int.tmod (IntKind.wrap IntKind.u64 (intD (List.getD (List.getD cs (Int.toNat i) []) (0 : Nat) d0))) (IntKind.wrap IntKind.u64 (IntKind.wrap IntKind.i64 (((ByteArray.size rest) : Int) + (1 : Int))))))))) ≤ (1000000000 : Nat)) ∧
      ((Option.some (Ob.gh [AV.rf (0 : Nat) (0 : Nat)])) = (Option.some (Ob.gh [AV.rf (0 : Nat) (0 : Nat)]))) ∧
      (∀ (c : List D), (c ∈ (YtfdecpfcphghlaaDoor.toksD (Prod.fst (YtfdecpfcphghlaaDoor.feedL (Array.toList (ByteArray.data (ByteArray.extract rest (0 : Nat) (Int.toNat (IntKind.wrap IntKind.i64 (Int.tmod (IntKind.wrap IntKind.u64 (intD (List.getD (List.getD cs (Int.toNat i) []) (0 : Nat) d0))) (IntKind.wrap IntKind.u64 (IntKind.wrap IntKind.i64 (((ByteArray.size rest) : Int) + (1 : Int)))))))))) b w e)))) → (List.length c) = 4) ∧
      ((List.length ts) = (List.length ts)) ∧
      (((List.length ts) + (List.length (YtfdecpfcphghlaaDoor.toksD (Prod.fst (YtfdecpfcphghlaaDoor.feedL (Array.toList (ByteArray.data (ByteArray.extract rest (0 : Nat) (Int.toNat (IntKind.wrap IntKind.i64 (Int.tmod (IntKind.wrap IntKind.u64 (intD (List.getD (List.getD cs (Int.toNat i) []) (0 : Nat) d0))) (IntKind.wrap IntKind.u64 (IntKind.wrap IntKind.i64 (((ByteArray.size rest) : Int) + (1 : Int)))))))))) b w e))))) ≤ LIM) ∧
      (((0 : Int) ≤ (IntKind.wrap IntKind.i64 (Int.tmod (IntKind.wrap IntKind.u64 (intD (List.getD (List.getD cs (Int.toNat i) []) (0 : Nat) d0))) (IntKind.wrap IntKind.u64 (IntKind.wrap IntKind.i64 (((ByteArray.size rest) : Int) + (1 : Int))))))) ∧ ((IntKind.wrap IntKind.i64 (Int.tmod (IntKind.wrap IntKind.u64 (intD (List.getD (List.getD cs (Int.toNat i) []) (0 : Nat) d0))) (IntKind.wrap IntKind.u64 (IntKind.wrap IntKind.i64 (((ByteArray.size rest) : Int) + (1 : Int)))))) ≤ ((ByteArray.size rest) : Int))) ∧
      FamNext st inv μ k ⟨[AV.jk, AV.d (D.sl cs), AV.jk, AV.jk, AV.jk, AV.rf (0 : Nat) (0 : Nat), AV.rf (2 : Nat) (0 : Nat), AV.d (D.sl A), mkI IntKind.i64 e1, AV.vw (6 : Nat) ((List.length ts) + (List.length (YtfdecpfcphghlaaDoor.toksD (Prod.fst (YtfdecpfcphghlaaDoor.feedL (Array.toList (ByteArray.data (ByteArray.extract rest (0 : Nat) (Int.toNat (IntKind.wrap IntKind.i64 (Int.tmod (IntKind.wrap IntKind.u64 (intD (List.getD (List.getD cs (Int.toNat i) []) (0 : Nat) d0))) (IntKind.wrap IntKind.u64 (IntKind.wrap IntKind.i64 (((ByteArray.size rest) : Int) + (1 : Int)))))))))) b w e))))), mkI IntKind.i64 (Prod.snd (Prod.snd (Prod.snd (YtfdecpfcphghlaaDoor.feedL (Array.toList (ByteArray.data (ByteArray.extract rest (0 : Nat) (Int.toNat (IntKind.wrap IntKind.i64 (Int.tmod (IntKind.wrap IntKind.u64 (intD (List.getD (List.getD cs (Int.toNat i) []) (0 : Nat) d0))) (IntKind.wrap IntKind.u64 (IntKind.wrap IntKind.i64 (((ByteArray.size rest) : Int) + (1 : Int)))))))))) b w e)))), mkS (ByteArray.extract rest (Int.toNat (IntKind.wrap IntKind.i64 (Int.tmod (IntKind.wrap IntKind.u64 (intD (List.getD (List.getD cs (Int.toNat i) []) (0 : Nat) d0))) (IntKind.wrap IntKind.u64 (IntKind.wrap IntKind.i64 (((ByteArray.size rest) : Int) + (1 : Int))))))) (ByteArray.size rest)), mkI IntKind.i64 (IntKind.wrap IntKind.i64 (i + (1 : Int))), AV.jk, AV.jk, AV.jk, AV.jk, AV.jk, AV.jk, AV.jk, AV.jk, AV.jk, AV.jk, AV.jk, AV.jk, AV.jk, AV.jk, AV.jk, AV.jk, AV.jk, AV.jk, AV.jk, AV.jk, AV.jk, AV.jk, AV.jk, AV.jk, AV.jk, AV.jk, AV.jk, AV.jk, AV.jk, AV.jk, AV.jk, AV.jk, AV.jk, AV.jk, AV.jk, AV.jk, AV.jk, AV.jk, AV.jk, AV.jk, AV.jk, AV.jk, AV.jk, AV.jk, AV.jk, AV.jk, AV.jk, AV.jk, AV.jk, AV.jk, AV.jk, AV.jk, AV.jk, AV.jk, AV.jk, AV.jk, AV.jk, AV.jk, AV.jk, AV.jk, AV.jk, AV.jk, AV.jk, AV.jk, AV.jk, AV.jk, AV.jk, AV.jk, AV.jk, AV.jk, AV.jk, AV.jk, AV.jk, AV.jk, AV.jk, AV.jk, AV.jk, AV.jk, AV.jk, AV.jk, AV.jk, AV.jk, AV.jk, AV.jk, AV.jk, AV.jk, AV.jk, AV.jk, AV.jk, AV.jk, AV.jk, AV.jk], [Ob.box [AV.vw (1 : Nat) (List.length b1), mkB w1, mkI IntKind.i64 e1], Ob.row (1 : Nat) b1, Ob.box [AV.vw (if (1 : Nat) < 2 then 3 else 8 + ((1 : Nat) - 2)) (List.length (bytesD (Prod.fst (Prod.snd (YtfdecpfcphghlaaDoor.feedL (Array.toList (ByteArray.data (ByteArray.extract rest (0 : Nat) (Int.toNat (IntKind.wrap IntKind.i64 (Int.tmod (IntKind.wrap IntKind.u64 (intD (List.getD (List.getD cs (Int.toNat i) []) (0 : Nat) d0))) (IntKind.wrap IntKind.u64 (IntKind.wrap IntKind.i64 (((ByteArray.size rest) : Int) + (1 : Int)))))))))) b w e))))), mkB (Prod.fst (Prod.snd (Prod.snd (YtfdecpfcphghlaaDoor.feedL (Array.toList (ByteArray.data (ByteArray.extract rest (0 : Nat) (Int.toNat (IntKind.wrap IntKind.i64 (Int.tmod (IntKind.wrap IntKind.u64 (intD (List.getD (List.getD cs (Int.toNat i) []) (0 : Nat) d0))) (IntKind.wrap IntKind.u64 (IntKind.wrap IntKind.i64 (((ByteArray.size rest) : Int) + (1 : Int)))))))))) b w e)))), mkI IntKind.i64 (Prod.snd (Prod.snd (Prod.snd (YtfdecpfcphghlaaDoor.feedL (Array.toList (ByteArray.data (ByteArray.extract rest (0 : Nat) (Int.toNat (IntKind.wrap IntKind.i64 (Int.tmod (IntKind.wrap IntKind.u64 (intD (List.getD (List.getD cs (Int.toNat i) []) (0 : Nat) d0))) (IntKind.wrap IntKind.u64 (IntKind.wrap IntKind.i64 (((ByteArray.size rest) : Int) + (1 : Int)))))))))) b w e))))], Ob.row (1 : Nat) (bytesD (Prod.fst (Prod.snd (YtfdecpfcphghlaaDoor.feedL (Array.toList (ByteArray.data (ByteArray.extract rest (0 : Nat) (Int.toNat (IntKind.wrap IntKind.i64 (Int.tmod (IntKind.wrap IntKind.u64 (intD (List.getD (List.getD cs (Int.toNat i) []) (0 : Nat) d0))) (IntKind.wrap IntKind.u64 (IntKind.wrap IntKind.i64 (((ByteArray.size rest) : Int) + (1 : Int)))))))))) b w e)))), Ob.gone, Ob.gone, Ob.row (4 : Nat) (ts ++ (YtfdecpfcphghlaaDoor.toksD (Prod.fst (YtfdecpfcphghlaaDoor.feedL (Array.toList (ByteArray.data (ByteArray.extract rest (0 : Nat) (Int.toNat (IntKind.wrap IntKind.i64 (Int.tmod (IntKind.wrap IntKind.u64 (intD (List.getD (List.getD cs (Int.toNat i) []) (0 : Nat) d0))) (IntKind.wrap IntKind.u64 (IntKind.wrap IntKind.i64 (((ByteArray.size rest) : Int) + (1 : Int)))))))))) b w e)))), Ob.gone, Ob.gone]⟩))) (
    ∃ (b : ByteArray),
    ∃ (w : Bool),
    ∃ (e : Int),
    ([Ob.box [AV.vw ((0 : Nat) + (1 : Nat)) (List.length b2), mkB w2, mkI IntKind.i64 e2], Ob.row (1 : Nat) b2, Ob.gh [AV.rf (0 : Nat) (0 : Nat)]] = [Ob.box [AV.vw (1 : Nat) (List.length (bytesD b)), mkB w, mkI IntKind.i64 e], Ob.row (1 : Nat) (bytesD b), Ob.gh [AV.rf (0 : Nat) (0 : Nat)]]) ∧
    ((ByteArray.size b) ≤ (512 : Nat)) ∧
    ((ByteArray.size rest) ≤ (1000000000 : Nat)) ∧
    ((Option.some (Ob.gh [AV.rf (0 : Nat) (0 : Nat)])) = (Option.some (Ob.gh [AV.rf (0 : Nat) (0 : Nat)]))) ∧
    (∀ (c : List D), (c ∈ (YtfdecpfcphghlaaDoor.toksD (Prod.fst (YtfdecpfcphghlaaDoor.feedL (Array.toList (ByteArray.data rest)) b w e)))) → (List.length c) = 4) ∧
    ((List.length ts) = (List.length ts)) ∧
    (((List.length ts) + (List.length (YtfdecpfcphghlaaDoor.toksD (Prod.fst (YtfdecpfcphghlaaDoor.feedL (Array.toList (ByteArray.data rest)) b w e))))) ≤ LIM) ∧
    bcase (e2 != (0 : Int)) (
     bcase (e2 != (Prod.snd (Prod.snd (Prod.snd (YtfdecpfcphghlaaDoor.feedL (Array.toList (ByteArray.data rest)) b w e))))) (
      q (mkB false)) (
      ((List.length (YtfdecpfcphghlaaDoor.toksD (Prod.fst (YtfdecpfcphghlaaDoor.feedL (Array.toList (ByteArray.data rest)) b w e)))) ≤ LIM) →
      bcase (decide (((List.length (YtfdecpfcphghlaaDoor.toksD (Prod.fst (YtfdecpfcphghlaaDoor.feedL (Array.toList (ByteArray.data rest)) b w e)))) : Int) > (0 : Int))) (
       q (mkB false)) (
       (A = (YtfdecpfcphghlaaDoor.toksD (YtfdecpfcphghlaaDoor.unToks A))) ∧
       ((List.take ((List.length ts) + (List.length (YtfdecpfcphghlaaDoor.toksD (Prod.fst (YtfdecpfcphghlaaDoor.feedL (Array.toList (ByteArray.data rest)) b w e))))) (ts ++ (YtfdecpfcphghlaaDoor.toksD (Prod.fst (YtfdecpfcphghlaaDoor.feedL (Array.toList (ByteArray.data rest)) b w e))))) = (YtfdecpfcphghlaaDoor.toksD (YtfdecpfcphghlaaDoor.unToks (List.take ((List.length ts) + (List.length (YtfdecpfcphghlaaDoor.toksD (Prod.fst (YtfdecpfcphghlaaDoor.feedL (Array.toList (ByteArray.data rest)) b w e))))) (ts ++ (YtfdecpfcphghlaaDoor.toksD (Prod.fst (YtfdecpfcphghlaaDoor.feedL (Array.toList (ByteArray.data rest)) b w e)))))))) ∧
       (((List.take (List.length A) A) = (YtfdecpfcphghlaaDoor.toksD (YtfdecpfcphghlaaDoor.unToks (List.take (List.length A) A)))) ∧ ((List.take (List.length (List.take ((List.length ts) + (List.length (YtfdecpfcphghlaaDoor.toksD (Prod.fst (YtfdecpfcphghlaaDoor.feedL (Array.toList (ByteArray.data rest)) b w e))))) (ts ++ (YtfdecpfcphghlaaDoor.toksD (Prod.fst (YtfdecpfcphghlaaDoor.feedL (Array.toList (ByteArray.data rest)) b w e)))))) (List.take ((List.length ts) + (List.length (YtfdecpfcphghlaaDoor.toksD (Prod.fst (YtfdecpfcphghlaaDoor.feedL (Array.toList (ByteArray.data rest)) b w e))))) (ts ++ (YtfdecpfcphghlaaDoor.toksD (Prod.fst (YtfdecpfcphghlaaDoor.feedL (Array.toList (ByteArray.data rest)) b w e)))))) = (YtfdecpfcphghlaaDoor.toksD (YtfdecpfcphghlaaDoor.unToks (List.take (List.length (List.take ((List.length ts) + (List.length (YtfdecpfcphghlaaDoor.toksD (Prod.fst (YtfdecpfcphghlaaDoor.feedL (Array.toList (ByteArray.data rest)) b w e))))) (ts ++ (YtfdecpfcphghlaaDoor.toksD (Prod.fst (YtfdecpfcphghlaaDoor.feedL (Array.toList (ByteArray.data rest)) b w e)))))) (List.take ((List.length ts) + (List.length (YtfdecpfcphghlaaDoor.toksD (Prod.fst (YtfdecpfcphghlaaDoor.feedL (Array.toList (ByteArray.data rest)) b w e))))) (ts ++ (YtfdecpfcphghlaaDoor.toksD (Prod.fst (YtfdecpfcphghlaaDoor.feedL (Array.toList (ByteArray.data rest)) b w e)))))))))) ∧
       bcase (decide ((YtfdecpfcphghlaaDoor.unToks (List.take (List.length A) A)) = (YtfdecpfcphghlaaDoor.unToks (List.take (List.length (List.take ((List.length ts) + (List.length (YtfdecpfcphghlaaDoor.toksD (Prod.fst (YtfdecpfcphghlaaDoor.feedL (Array.toList (ByteArray.data rest)) b w e))))) (ts ++ (YtfdecpfcphghlaaDoor.toksD (Prod.fst (YtfdecpfcphghlaaDoor.feedL (Array.toList (ByteArray.data rest)) b w e)))))) (List.take ((List.length ts) + (List.length (YtfdecpfcphghlaaDoor.toksD (Prod.fst (YtfdecpfcphghlaaDoor.feedL (Array.toList (ByteArray.data rest)) b w e))))) (ts ++ (YtfdecpfcphghlaaDoor.toksD (Prod.fst (YtfdecpfcphghlaaDoor.feedL (Array.toList (ByteArray.data rest)) b w e))))))))) (
        bcase (e1 == (Prod.snd (Prod.snd (Prod.snd (YtfdecpfcphghlaaDoor.feedL (Array.toList (ByteArray.data rest)) b w e))))) (
         ∃ (b_1 : ByteArray),
         ∃ (w_1 : Bool),
         ∃ (e_1 : Int),
         ([Ob.box [AV.vw ((0 : Nat) + (1 : Nat)) (List.length b1), mkB w1, mkI IntKind.i64 e1], Ob.row (1 : Nat) b1, Ob.gh [AV.rf (0 : Nat) (0 : Nat)]] = [Ob.box [AV.vw (1 : Nat) (List.length (bytesD b_1)), mkB w_1, mkI IntKind.i64 e_1], Ob.row (1 : Nat) (bytesD b_1), Ob.gh [AV.rf (0 : Nat) (0 : Nat)]]) ∧
         ((Option.some (Ob.gh [AV.rf (0 : Nat) (0 : Nat)])) = (Option.some (Ob.gh [AV.rf (0 : Nat) (0 : Nat)]))) ∧ (
          ∃ (b_2 : ByteArray),
          ∃ (w_2 : Bool),
          ∃ (e_2 : Int),
          ([Ob.box [AV.vw ((0 : Nat) + (1 : Nat)) (List.length (bytesD (Prod.fst (Prod.snd (YtfdecpfcphghlaaDoor.feedL (Array.toList (ByteArray.data rest)) b w e))))), mkB (Prod.fst (Prod.snd (Prod.snd (YtfdecpfcphghlaaDoor.feedL (Array.toList (ByteArray.data rest)) b w e)))), mkI IntKind.i64 (Prod.snd (Prod.snd (Prod.snd (YtfdecpfcphghlaaDoor.feedL (Array.toList (ByteArray.data rest)) b w e))))], Ob.row (1 : Nat) (bytesD (Prod.fst (Prod.snd (YtfdecpfcphghlaaDoor.feedL (Array.toList (ByteArray.data rest)) b w e)))), Ob.gh [AV.rf (0 : Nat) (0 : Nat)]] = [Ob.box [AV.vw (1 : Nat) (List.length (bytesD b_2)), mkB w_2, mkI IntKind.i64 e_2], Ob.row (1 : Nat) (bytesD b_2), Ob.gh [AV.rf (0 : Nat) (0 : Nat)]]) ∧
          ((Option.some (Ob.gh [AV.rf (0 : Nat) (0 : Nat)])) = (Option.some (Ob.gh [AV.rf (0 : Nat) (0 : Nat)]))) ∧
          q (mkB ((YtfdecpfcphghlaaDoor.heldI b_1 e_1) == (YtfdecpfcphghlaaDoor.heldI b_2 e_2))))) (
         q (mkB false))) (
        q (mkB false))))) (
     (A = (YtfdecpfcphghlaaDoor.toksD (YtfdecpfcphghlaaDoor.unToks A))) ∧
     ((List.take ((List.length ts) + (List.length (YtfdecpfcphghlaaDoor.toksD (Prod.fst (YtfdecpfcphghlaaDoor.feedL (Array.toList (ByteArray.data rest)) b w e))))) (ts ++ (YtfdecpfcphghlaaDoor.toksD (Prod.fst (YtfdecpfcphghlaaDoor.feedL (Array.toList (ByteArray.data rest)) b w e))))) = (YtfdecpfcphghlaaDoor.toksD (YtfdecpfcphghlaaDoor.unToks (List.take ((List.length ts) + (List.length (YtfdecpfcphghlaaDoor.toksD (Prod.fst (YtfdecpfcphghlaaDoor.feedL (Array.toList (ByteArray.data rest)) b w e))))) (ts ++ (YtfdecpfcphghlaaDoor.toksD (Prod.fst (YtfdecpfcphghlaaDoor.feedL (Array.toList (ByteArray.data rest)) b w e)))))))) ∧
     (((List.take (List.length A) A) = (YtfdecpfcphghlaaDoor.toksD (YtfdecpfcphghlaaDoor.unToks (List.take (List.length A) A)))) ∧ ((List.take (List.length (List.take ((List.length ts) + (List.length (YtfdecpfcphghlaaDoor.toksD (Prod.fst (YtfdecpfcphghlaaDoor.feedL (Array.toList (ByteArray.data rest)) b w e))))) (ts ++ (YtfdecpfcphghlaaDoor.toksD (Prod.fst (YtfdecpfcphghlaaDoor.feedL (Array.toList (ByteArray.data rest)) b w e)))))) (List.take ((List.length ts) + (List.length (YtfdecpfcphghlaaDoor.toksD (Prod.fst (YtfdecpfcphghlaaDoor.feedL (Array.toList (ByteArray.data rest)) b w e))))) (ts ++ (YtfdecpfcphghlaaDoor.toksD (Prod.fst (YtfdecpfcphghlaaDoor.feedL (Array.toList (ByteArray.data rest)) b w e)))))) = (YtfdecpfcphghlaaDoor.toksD (YtfdecpfcphghlaaDoor.unToks (List.take (List.length (List.take ((List.length ts) + (List.length (YtfdecpfcphghlaaDoor.toksD (Prod.fst (YtfdecpfcphghlaaDoor.feedL (Array.toList (ByteArray.data rest)) b w e))))) (ts ++ (YtfdecpfcphghlaaDoor.toksD (Prod.fst (YtfdecpfcphghlaaDoor.feedL (Array.toList (ByteArray.data rest)) b w e)))))) (List.take ((List.length ts) + (List.length (YtfdecpfcphghlaaDoor.toksD (Prod.fst (YtfdecpfcphghlaaDoor.feedL (Array.toList (ByteArray.data rest)) b w e))))) (ts ++ (YtfdecpfcphghlaaDoor.toksD (Prod.fst (YtfdecpfcphghlaaDoor.feedL (Array.toList (ByteArray.data rest)) b w e)))))))))) ∧
     bcase (decide ((YtfdecpfcphghlaaDoor.unToks (List.take (List.length A) A)) = (YtfdecpfcphghlaaDoor.unToks (List.take (List.length (List.take ((List.length ts) + (List.length (YtfdecpfcphghlaaDoor.toksD (Prod.fst (YtfdecpfcphghlaaDoor.feedL (Array.toList (ByteArray.data rest)) b w e))))) (ts ++ (YtfdecpfcphghlaaDoor.toksD (Prod.fst (YtfdecpfcphghlaaDoor.feedL (Array.toList (ByteArray.data rest)) b w e)))))) (List.take ((List.length ts) + (List.length (YtfdecpfcphghlaaDoor.toksD (Prod.fst (YtfdecpfcphghlaaDoor.feedL (Array.toList (ByteArray.data rest)) b w e))))) (ts ++ (YtfdecpfcphghlaaDoor.toksD (Prod.fst (YtfdecpfcphghlaaDoor.feedL (Array.toList (ByteArray.data rest)) b w e))))))))) (
      bcase (e1 == (Prod.snd (Prod.snd (Prod.snd (YtfdecpfcphghlaaDoor.feedL (Array.toList (ByteArray.data rest)) b w e))))) (
       ∃ (b_1 : ByteArray),
       ∃ (w_1 : Bool),
       ∃ (e_1 : Int),
       ([Ob.box [AV.vw ((0 : Nat) + (1 : Nat)) (List.length b1), mkB w1, mkI IntKind.i64 e1], Ob.row (1 : Nat) b1, Ob.gh [AV.rf (0 : Nat) (0 : Nat)]] = [Ob.box [AV.vw (1 : Nat) (List.length (bytesD b_1)), mkB w_1, mkI IntKind.i64 e_1], Ob.row (1 : Nat) (bytesD b_1), Ob.gh [AV.rf (0 : Nat) (0 : Nat)]]) ∧
       ((Option.some (Ob.gh [AV.rf (0 : Nat) (0 : Nat)])) = (Option.some (Ob.gh [AV.rf (0 : Nat) (0 : Nat)]))) ∧ (
        ∃ (b_2 : ByteArray),
        ∃ (w_2 : Bool),
        ∃ (e_2 : Int),
        ([Ob.box [AV.vw ((0 : Nat) + (1 : Nat)) (List.length (bytesD (Prod.fst (Prod.snd (YtfdecpfcphghlaaDoor.feedL (Array.toList (ByteArray.data rest)) b w e))))), mkB (Prod.fst (Prod.snd (Prod.snd (YtfdecpfcphghlaaDoor.feedL (Array.toList (ByteArray.data rest)) b w e)))), mkI IntKind.i64 (Prod.snd (Prod.snd (Prod.snd (YtfdecpfcphghlaaDoor.feedL (Array.toList (ByteArray.data rest)) b w e))))], Ob.row (1 : Nat) (bytesD (Prod.fst (Prod.snd (YtfdecpfcphghlaaDoor.feedL (Array.toList (ByteArray.data rest)) b w e)))), Ob.gh [AV.rf (0 : Nat) (0 : Nat)]] = [Ob.box [AV.vw (1 : Nat) (List.length (bytesD b_2)), mkB w_2, mkI IntKind.i64 e_2], Ob.row (1 : Nat) (bytesD b_2), Ob.gh [AV.rf (0 : Nat) (0 : Nat)]]) ∧
        ((Option.some (Ob.gh [AV.rf (0 : Nat) (0 : Nat)])) = (Option.some (Ob.gh [AV.rf (0 : Nat) (0 : Nat)]))) ∧
        q (mkB ((YtfdecpfcphghlaaDoor.heldI b_1 e_1) == (YtfdecpfcphghlaaDoor.heldI b_2 e_2))))) (
       q (mkB false))) (
      q (mkB false))))) (
   ∃ (b : ByteArray),
   ∃ (w : Bool),
   ∃ (e : Int),
   ([Ob.box [AV.vw ((0 : Nat) + (1 : Nat)) (List.length b2), mkB w2, mkI IntKind.i64 e2], Ob.row (1 : Nat) b2, Ob.gh [AV.rf (0 : Nat) (0 : Nat)]] = [Ob.box [AV.vw (1 : Nat) (List.length (bytesD b)), mkB w, mkI IntKind.i64 e], Ob.row (1 : Nat) (bytesD b), Ob.gh [AV.rf (0 : Nat) (0 : Nat)]]) ∧
   ((ByteArray.size b) ≤ (512 : Nat)) ∧
   ((ByteArray.size rest) ≤ (1000000000 : Nat)) ∧
   ((Option.some (Ob.gh [AV.rf (0 : Nat) (0 : Nat)])) = (Option.some (Ob.gh [AV.rf (0 : Nat) (0 : Nat)]))) ∧
   (∀ (c : List D), (c ∈ (YtfdecpfcphghlaaDoor.toksD (Prod.fst (YtfdecpfcphghlaaDoor.feedL (Array.toList (ByteArray.data rest)) b w e)))) → (List.length c) = 4) ∧
   ((List.length ts) = (List.length ts)) ∧
   (((List.length ts) + (List.length (YtfdecpfcphghlaaDoor.toksD (Prod.fst (YtfdecpfcphghlaaDoor.feedL (Array.toList (ByteArray.data rest)) b w e))))) ≤ LIM) ∧
   bcase (e2 != (0 : Int)) (
    bcase (e2 != (Prod.snd (Prod.snd (Prod.snd (YtfdecpfcphghlaaDoor.feedL (Array.toList (ByteArray.data rest)) b w e))))) (
     q (mkB false)) (
     ((List.length (YtfdecpfcphghlaaDoor.toksD (Prod.fst (YtfdecpfcphghlaaDoor.feedL (Array.toList (ByteArray.data rest)) b w e)))) ≤ LIM) →
     bcase (decide (((List.length (YtfdecpfcphghlaaDoor.toksD (Prod.fst (YtfdecpfcphghlaaDoor.feedL (Array.toList (ByteArray.data rest)) b w e)))) : Int) > (0 : Int))) (
      q (mkB false)) (
      (A = (YtfdecpfcphghlaaDoor.toksD (YtfdecpfcphghlaaDoor.unToks A))) ∧
      ((List.take ((List.length ts) + (List.length (YtfdecpfcphghlaaDoor.toksD (Prod.fst (YtfdecpfcphghlaaDoor.feedL (Array.toList (ByteArray.data rest)) b w e))))) (ts ++ (YtfdecpfcphghlaaDoor.toksD (Prod.fst (YtfdecpfcphghlaaDoor.feedL (Array.toList (ByteArray.data rest)) b w e))))) = (YtfdecpfcphghlaaDoor.toksD (YtfdecpfcphghlaaDoor.unToks (List.take ((List.length ts) + (List.length (YtfdecpfcphghlaaDoor.toksD (Prod.fst (YtfdecpfcphghlaaDoor.feedL (Array.toList (ByteArray.data rest)) b w e))))) (ts ++ (YtfdecpfcphghlaaDoor.toksD (Prod.fst (YtfdecpfcphghlaaDoor.feedL (Array.toList (ByteArray.data rest)) b w e)))))))) ∧
      (((List.take (List.length A) A) = (YtfdecpfcphghlaaDoor.toksD (YtfdecpfcphghlaaDoor.unToks (List.take (List.length A) A)))) ∧ ((List.take (List.length (List.take ((List.length ts) + (List.length (YtfdecpfcphghlaaDoor.toksD (Prod.fst (YtfdecpfcphghlaaDoor.feedL (Array.toList (ByteArray.data rest)) b w e))))) (ts ++ (YtfdecpfcphghlaaDoor.toksD (Prod.fst (YtfdecpfcphghlaaDoor.feedL (Array.toList (ByteArray.data rest)) b w e)))))) (List.take ((List.length ts) + (List.length (YtfdecpfcphghlaaDoor.toksD (Prod.fst (YtfdecpfcphghlaaDoor.feedL (Array.toList (ByteArray.data rest)) b w e))))) (ts ++ (YtfdecpfcphghlaaDoor.toksD (Prod.fst (YtfdecpfcphghlaaDoor.feedL (Array.toList (ByteArray.data rest)) b w e)))))) = (YtfdecpfcphghlaaDoor.toksD (YtfdecpfcphghlaaDoor.unToks (List.take (List.length (List.take ((List.length ts) + (List.length (YtfdecpfcphghlaaDoor.toksD (Prod.fst (YtfdecpfcphghlaaDoor.feedL (Array.toList (ByteArray.data rest)) b w e))))) (ts ++ (YtfdecpfcphghlaaDoor.toksD (Prod.fst (YtfdecpfcphghlaaDoor.feedL (Array.toList (ByteArray.data rest)) b w e)))))) (List.take ((List.length ts) + (List.length (YtfdecpfcphghlaaDoor.toksD (Prod.fst (YtfdecpfcphghlaaDoor.feedL (Array.toList (ByteArray.data rest)) b w e))))) (ts ++ (YtfdecpfcphghlaaDoor.toksD (Prod.fst (YtfdecpfcphghlaaDoor.feedL (Array.toList (ByteArray.data rest)) b w e)))))))))) ∧
      bcase (decide ((YtfdecpfcphghlaaDoor.unToks (List.take (List.length A) A)) = (YtfdecpfcphghlaaDoor.unToks (List.take (List.length (List.take ((List.length ts) + (List.length (YtfdecpfcphghlaaDoor.toksD (Prod.fst (YtfdecpfcphghlaaDoor.feedL (Array.toList (ByteArray.data rest)) b w e))))) (ts ++ (YtfdecpfcphghlaaDoor.toksD (Prod.fst (YtfdecpfcphghlaaDoor.feedL (Array.toList (ByteArray.data rest)) b w e)))))) (List.take ((List.length ts) + (List.length (YtfdecpfcphghlaaDoor.toksD (Prod.fst (YtfdecpfcphghlaaDoor.feedL (Array.toList (ByteArray.data rest)) b w e))))) (ts ++ (YtfdecpfcphghlaaDoor.toksD (Prod.fst (YtfdecpfcphghlaaDoor.feedL (Array.toList (ByteArray.data rest)) b w e))))))))) (
       bcase (e1 == (Prod.snd (Prod.snd (Prod.snd (YtfdecpfcphghlaaDoor.feedL (Array.toList (ByteArray.data rest)) b w e))))) (
        ∃ (b_1 : ByteArray),
        ∃ (w_1 : Bool),
        ∃ (e_1 : Int),
        ([Ob.box [AV.vw ((0 : Nat) + (1 : Nat)) (List.length b1), mkB w1, mkI IntKind.i64 e1], Ob.row (1 : Nat) b1, Ob.gh [AV.rf (0 : Nat) (0 : Nat)]] = [Ob.box [AV.vw (1 : Nat) (List.length (bytesD b_1)), mkB w_1, mkI IntKind.i64 e_1], Ob.row (1 : Nat) (bytesD b_1), Ob.gh [AV.rf (0 : Nat) (0 : Nat)]]) ∧
        ((Option.some (Ob.gh [AV.rf (0 : Nat) (0 : Nat)])) = (Option.some (Ob.gh [AV.rf (0 : Nat) (0 : Nat)]))) ∧ (
         ∃ (b_2 : ByteArray),
         ∃ (w_2 : Bool),
         ∃ (e_2 : Int),
         ([Ob.box [AV.vw ((0 : Nat) + (1 : Nat)) (List.length (bytesD (Prod.fst (Prod.snd (YtfdecpfcphghlaaDoor.feedL (Array.toList (ByteArray.data rest)) b w e))))), mkB (Prod.fst (Prod.snd (Prod.snd (YtfdecpfcphghlaaDoor.feedL (Array.toList (ByteArray.data rest)) b w e)))), mkI IntKind.i64 (Prod.snd (Prod.snd (Prod.snd (YtfdecpfcphghlaaDoor.feedL (Array.toList (ByteArray.data rest)) b w e))))], Ob.row (1 : Nat) (bytesD (Prod.fst (Prod.snd (YtfdecpfcphghlaaDoor.feedL (Array.toList (ByteArray.data rest)) b w e)))), Ob.gh [AV.rf (0 : Nat) (0 : Nat)]] = [Ob.box [AV.vw (1 : Nat) (List.length (bytesD b_2)), mkB w_2, mkI IntKind.i64 e_2], Ob.row (1 : Nat) (bytesD b_2), Ob.gh [AV.rf (0 : Nat) (0 : Nat)]]) ∧
         ((Option.some (Ob.gh [AV.rf (0 : Nat) (0 : Nat)])) = (Option.some (Ob.gh [AV.rf (0 : Nat) (0 : Nat)]))) ∧
         q (mkB ((YtfdecpfcphghlaaDoor.heldI b_1 e_1) == (YtfdecpfcphghlaaDoor.heldI b_2 e_2))))) (
        q (mkB false))) (
       q (mkB false))))) (
    (A = (YtfdecpfcphghlaaDoor.toksD (YtfdecpfcphghlaaDoor.unToks A))) ∧
    ((List.take ((List.length ts) + (List.length (YtfdecpfcphghlaaDoor.toksD (Prod.fst (YtfdecpfcphghlaaDoor.feedL (Array.toList (ByteArray.data rest)) b w e))))) (ts ++ (YtfdecpfcphghlaaDoor.toksD (Prod.fst (YtfdecpfcphghlaaDoor.feedL (Array.toList (ByteArray.data rest)) b w e))))) = (YtfdecpfcphghlaaDoor.toksD (YtfdecpfcphghlaaDoor.unToks (List.take ((List.length ts) + (List.length (YtfdecpfcphghlaaDoor.toksD (Prod.fst (YtfdecpfcphghlaaDoor.feedL (Array.toList (ByteArray.data rest)) b w e))))) (ts ++ (YtfdecpfcphghlaaDoor.toksD (Prod.fst (YtfdecpfcphghlaaDoor.feedL (Array.toList (ByteArray.data rest)) b w e)))))))) ∧
    (((List.take (List.length A) A) = (YtfdecpfcphghlaaDoor.toksD (YtfdecpfcphghlaaDoor.unToks (List.take (List.length A) A)))) ∧ ((List.take (List.length (List.take ((List.length ts) + (List.length (YtfdecpfcphghlaaDoor.toksD (Prod.fst (YtfdecpfcphghlaaDoor.feedL (Array.toList (ByteArray.data rest)) b w e))))) (ts ++ (YtfdecpfcphghlaaDoor.toksD (Prod.fst (YtfdecpfcphghlaaDoor.feedL (Array.toList (ByteArray.data rest)) b w e)))))) (List.take ((List.length ts) + (List.length (YtfdecpfcphghlaaDoor.toksD (Prod.fst (YtfdecpfcphghlaaDoor.feedL (Array.toList (ByteArray.data rest)) b w e))))) (ts ++ (YtfdecpfcphghlaaDoor.toksD (Prod.fst (YtfdecpfcphghlaaDoor.feedL (Array.toList (ByteArray.data rest)) b w e)))))) = (YtfdecpfcphghlaaDoor.toksD (YtfdecpfcphghlaaDoor.unToks (List.take (List.length (List.take ((List.length ts) + (List.length (YtfdecpfcphghlaaDoor.toksD (Prod.fst (YtfdecpfcphghlaaDoor.feedL (Array.toList (ByteArray.data rest)) b w e))))) (ts ++ (YtfdecpfcphghlaaDoor.toksD (Prod.fst (YtfdecpfcphghlaaDoor.feedL (Array.toList (ByteArray.data rest)) b w e)))))) (List.take ((List.length ts) + (List.length (YtfdecpfcphghlaaDoor.toksD (Prod.fst (YtfdecpfcphghlaaDoor.feedL (Array.toList (ByteArray.data rest)) b w e))))) (ts ++ (YtfdecpfcphghlaaDoor.toksD (Prod.fst (YtfdecpfcphghlaaDoor.feedL (Array.toList (ByteArray.data rest)) b w e)))))))))) ∧
    bcase (decide ((YtfdecpfcphghlaaDoor.unToks (List.take (List.length A) A)) = (YtfdecpfcphghlaaDoor.unToks (List.take (List.length (List.take ((List.length ts) + (List.length (YtfdecpfcphghlaaDoor.toksD (Prod.fst (YtfdecpfcphghlaaDoor.feedL (Array.toList (ByteArray.data rest)) b w e))))) (ts ++ (YtfdecpfcphghlaaDoor.toksD (Prod.fst (YtfdecpfcphghlaaDoor.feedL (Array.toList (ByteArray.data rest)) b w e)))))) (List.take ((List.length ts) + (List.length (YtfdecpfcphghlaaDoor.toksD (Prod.fst (YtfdecpfcphghlaaDoor.feedL (Array.toList (ByteArray.data rest)) b w e))))) (ts ++ (YtfdecpfcphghlaaDoor.toksD (Prod.fst (YtfdecpfcphghlaaDoor.feedL (Array.toList (ByteArray.data rest)) b w e))))))))) (
     bcase (e1 == (Prod.snd (Prod.snd (Prod.snd (YtfdecpfcphghlaaDoor.feedL (Array.toList (ByteArray.data rest)) b w e))))) (
      ∃ (b_1 : ByteArray),
      ∃ (w_1 : Bool),
      ∃ (e_1 : Int),
      ([Ob.box [AV.vw ((0 : Nat) + (1 : Nat)) (List.length b1), mkB w1, mkI IntKind.i64 e1], Ob.row (1 : Nat) b1, Ob.gh [AV.rf (0 : Nat) (0 : Nat)]] = [Ob.box [AV.vw (1 : Nat) (List.length (bytesD b_1)), mkB w_1, mkI IntKind.i64 e_1], Ob.row (1 : Nat) (bytesD b_1), Ob.gh [AV.rf (0 : Nat) (0 : Nat)]]) ∧
      ((Option.some (Ob.gh [AV.rf (0 : Nat) (0 : Nat)])) = (Option.some (Ob.gh [AV.rf (0 : Nat) (0 : Nat)]))) ∧ (
       ∃ (b_2 : ByteArray),
       ∃ (w_2 : Bool),
       ∃ (e_2 : Int),
       ([Ob.box [AV.vw ((0 : Nat) + (1 : Nat)) (List.length (bytesD (Prod.fst (Prod.snd (YtfdecpfcphghlaaDoor.feedL (Array.toList (ByteArray.data rest)) b w e))))), mkB (Prod.fst (Prod.snd (Prod.snd (YtfdecpfcphghlaaDoor.feedL (Array.toList (ByteArray.data rest)) b w e)))), mkI IntKind.i64 (Prod.snd (Prod.snd (Prod.snd (YtfdecpfcphghlaaDoor.feedL (Array.toList (ByteArray.data rest)) b w e))))], Ob.row (1 : Nat) (bytesD (Prod.fst (Prod.snd (YtfdecpfcphghlaaDoor.feedL (Array.toList (ByteArray.data rest)) b w e)))), Ob.gh [AV.rf (0 : Nat) (0 : Nat)]] = [Ob.box [AV.vw (1 : Nat) (List.length (bytesD b_2)), mkB w_2, mkI IntKind.i64 e_2], Ob.row (1 : Nat) (bytesD b_2), Ob.gh [AV.rf (0 : Nat) (0 : Nat)]]) ∧
       ((Option.some (Ob.gh [AV.rf (0 : Nat) (0 : Nat)])) = (Option.some (Ob.gh [AV.rf (0 : Nat) (0 : Nat)]))) ∧
       q (mkB ((YtfdecpfcphghlaaDoor.heldI b_1 e_1) == (YtfdecpfcphghlaaDoor.heldI b_2 e_2))))) (
      q (mkB false))) (
     q (mkB false))))) := by kernel_rfl

def F4 : List AV → Option (Prop × AV) := fun al => match al with
  | [.d (.v (.string s)), .d (.sl cs)] => some (cs.length ≤ LIM ∧ ∀ c ∈ cs, ∃ i : Int, c = [.v (.int .i64 i)], mkB true)
  | _ => none
set_option maxRecDepth 8000 in
theorem c4 : PSound Tryd.prog 4 (detE F4) := by
  refine det_fn (c := Tryd.b4) mixed Tryd.K_ok gJ Tryd.func4 rfl rfl Tryd.call4 fun al p r q hF hp hq => ?_
  unfold F4 at hF; split at hF <;> cases hF
  rename_i s cs
  obtain ⟨hcl, hcs⟩ := hp
  have eA := early_ok s
  have sA := earlyB_size s
  have lA : (earlyB s).data.toList.length = (earlyB s).size := Array.length_toList
  have nA := feedL_len (earlyB s).data.toList ⟨#[]⟩ false 0
  rw [lA] at nA
  obtain ⟨X, hX⟩ : ∃ X, feedL (earlyB s).data.toList ⟨#[]⟩ false 0 = X := ⟨_, rfl⟩
  rw [hX] at nA
  refine cast (r4 s cs q).symm ⟨trivial, trivial, rfl, rfl, ⟨#[]⟩, false, 0, rfl, by decide, eA, rfl, ?_⟩
  refine .openT 9 4 (by omega) ?_
  refine ALoop.introM [] m4 (fun x : Nat × ByteArray × List Tok × ByteArray × Bool × Int => st4 cs (toksD X.1) (bytesD X.2.1) X.2.2.1 X.2.2.2 (bytesD x.2.2.2.1) (toksD x.2.2.1) x.2.2.2.2.1 x.2.2.2.2.2 x.2.1 x.1)
    (fun x => x.2.1.size ≤ 3000 ∧ x.2.2.2.1.size ≤ 512 ∧ (x.2.2.1 ++ (feedL x.2.1.data.toList x.2.2.2.1 x.2.2.2.2.1 x.2.2.2.2.2).1, (feedL x.2.1.data.toList x.2.2.2.1 x.2.2.2.2.1 x.2.2.2.2.2).2) = X) (fun x => 200 - x.1)
    ⟨[], (0, earlyB s, [], ⟨#[]⟩, false, 0), by simp [hX, S.openT, S.le, sealAll, leL, leO, jks, st4, S.fits, fitsL, AV.fits, Ob.fits, toksD, bytesD], sA, Nat.zero_le 512, hX⟩ fun x ⟨hx1, hx2, hx3⟩ => ?_
  obtain ⟨i, rest, ts, b, w, e⟩ := x
  simp only at hx1 hx2 hx3
  have hb : bytesD b = bytesD b := rfl
  refine cast (r4_b _ _ _ _ cs (toksD X.1) (bytesD X.2.1) X.2.2.1 X.2.2.2 (bytesD b) (toksD ts) w e rest i q).symm fun _ => ?_
  refine bcase_dec (fun h1 => bcase_dec (fun h2 => ?loop) (fun h2 => ?fin1)) (fun h1 => ?fin2)
  case loop =>
    have hlt : i < cs.length := by omega
    obtain ⟨z, hz⟩ := hcs (cs.getD i []) (by rw [List.getD_eq_getElem?_getD, List.getElem?_eq_getElem hlt]; exact List.getElem_mem hlt)
    have ec : intD (List.getD [D.v (.int .i64 z)] 0 d0) = z := rfl
    have e1 : IntKind.u64.wrap (IntKind.i64.wrap ((rest.size : Int) + 1)) = ((rest.size + 1 : Nat) : Int) := by
      rw [IntWalk.i64_in _ (by omega), IntWalk.u64_in _ (by omega)]; omega
    obtain ⟨k, hk, ek⟩ := umod z (rest.size + 1) (by omega) (by unfold LIM; omega)
    simp only [Int.toNat_natCast, hz, ec, e1, ek]
    have hk : k ≤ rest.size := by omega
    have hsp := split_bytes rest k hk
    have hs1 : (rest.extract 0 k).size ≤ 3000 := by rw [ByteArray.size_extract]; omega
    have hs2 : (rest.extract k rest.size).size ≤ 3000 := by rw [ByteArray.size_extract]; omega
    rw [hsp, feedL_append] at hx3
    have hsz := feedL_size (rest.extract 0 k).data.toList b w e hx2
    obtain ⟨F, hF⟩ : ∃ F, feedL (rest.extract 0 k).data.toList b w e = F := ⟨_, rfl⟩
    rw [hF] at hx3 hsz
    have hlen : ts.length + F.1.length ≤ 6000 := by
      have : X.1.length = ts.length + (F.1.length + (feedL (rest.extract k rest.size).data.toList F.2.1 F.2.2.1 F.2.2.2).1.length) := by rw [← hx3]; simp
      omega
    refine ⟨⟨by omega, h1⟩, by first | exact True.intro | rfl, Nat.le_refl _, by first | exact True.intro | rfl, fun _ => ⟨fun h => by omega, ⟨by omega, by omega⟩, b, w, e, by first | exact True.intro | rfl, hx2, by omega, by first | exact True.intro | rfl, toksD_sz _, by first | exact True.intro | rfl, ?_, ⟨by omega, by omega⟩, ?_⟩⟩
    · rw [hF, toksD_len, toksD_len]; unfold LIM; omega
    · rw [hF]
      refine .mk [] (i + 1, rest.extract k rest.size, ts ++ F.1, F.2.1, F.2.2.1, F.2.2.2) ?_ ⟨hs2, hsz, by rw [← hx3]; simp⟩ (show 200 - (i + 1) < 200 - i by omega)
      have hw := wrap_succ hlt hcl
      simp [S.le, sealAll, leL, leO, jks, st4, S.fits, fitsL, AV.fits, Ob.fits, toksD_len, bytesD_len, hw, toksD_app]
  all_goals
    obtain ⟨R, hR⟩ : ∃ R, feedL rest.data.toList b w e = R := ⟨_, rfl⟩
    rw [hR] at hx3
    subst hx3
    have hlen : ts.length + R.1.length ≤ 6000 := by
      have : (ts ++ R.1).length ≤ 2 * (earlyB s).size := nA
      rw [List.length_append] at this; omega
    refine ⟨b, w, e, by first | exact True.intro | rfl, hx2, by omega, by first | exact True.intro | rfl, toksD_sz _, by first | exact True.intro | rfl, by rw [hR, toksD_len, toksD_len]; unfold LIM; omega, ?_⟩
    rw [hR]
    refine bcase_mk (fun he => ?_) (fun he => ?_)
    · have he : e ≠ 0 := by simpa using he
      rw [feedL_err _ _ _ _ he] at hR
      subst hR
      refine bcaseF (by simp) (fun _ => bcaseF (decide_eq_false (by simp [toksD])) ?_)
      simp only [unToks_toksD, List.take_length, tk_app, toksD_app, tk_toks, decide_true]
      refine ⟨trivial, trivial, ⟨trivial, trivial⟩, bcaseT rfl (bcaseT (by simp) ⟨b, w, e, by first | exact True.intro | rfl, by first | exact True.intro | rfl, b, w, e, by first | exact True.intro | rfl, by first | exact True.intro | rfl, ?_⟩)⟩
      rw [beq_self_eq_true]; exact hq
    · simp only [unToks_toksD, List.take_length, tk_app, toksD_app, tk_toks, decide_true]
      refine ⟨trivial, trivial, ⟨trivial, trivial⟩, bcaseT rfl (bcaseT (by simp) ⟨R.2.1, R.2.2.1, R.2.2.2, by first | exact True.intro | rfl, by first | exact True.intro | rfl, R.2.1, R.2.2.1, R.2.2.2, by first | exact True.intro | rfl, by first | exact True.intro | rfl, ?_⟩)⟩
      rw [beq_self_eq_true]; exact hq
theorem h4 : ∀ as', TyArgs Tryd.prog Tryd.f4.params.toList as' → ∃ p, F4 as' = some (p, mkB true) ∧ p := by
  intro as' h
  rw [Tryd.params4] at h
  obtain ⟨a, b, rfl, ha, hb⟩ := tyargs2 h
  obtain ⟨x, rfl, _⟩ := arg_str Tryd.underlying9 ha
  obtain ⟨es, rfl, hl, hs⟩ := arg_ints Tryd.underlying37 Tryd.underlying3 hb
  exact ⟨_, rfl, Nat.le_trans hl (by unfold LIM; omega), hs⟩

end Go.Proofs.YtfdecpfcphghlaaDoor
