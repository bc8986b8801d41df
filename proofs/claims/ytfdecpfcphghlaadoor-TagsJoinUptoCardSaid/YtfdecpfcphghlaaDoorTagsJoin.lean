import Derived.Test.YtfdecpfcphghlaaDoorTagsPlain
set_option linter.unusedSimpArgs false
set_option linter.unusedVariables false
namespace Go.Proofs.YtfdecpfcphghlaaDoor
open Go Go.AM Go.RowKit
attribute [local irreducible] aCode bcase

-- TagsJoin
theorem r7 (a b : ByteArray) (q : AV → Prop) :
  (aCode Tryd.K GJ Tryd.b7 (kRet Tryd.K Tryd.f7.results.toList q) ⟨[mkS a, mkS b] ++ List.replicate (Tryd.f7.ntmps - 2) .jk, []⟩) = (
  True ∧
  True ∧
  True ∧
  (([] : List AV) = []) ∧
  (([] : List AV) = []) ∧
  (([] : List AV) = []) ∧ (
   ∃ (b_1 : ByteArray),
   ∃ (w : Bool),
   ∃ (e : Int),
   ([Ob.box [AV.vw ((0 : Nat) + (1 : Nat)) (0 : Nat), mkB false, mkI IntKind.i64 (0 : Int)], Ob.row (1 : Nat) [], Ob.gh [AV.rf (0 : Nat) (0 : Nat)]] = [Ob.box [AV.vw (1 : Nat) (List.length (bytesD b_1)), mkB w, mkI IntKind.i64 e], Ob.row (1 : Nat) (bytesD b_1), Ob.gh [AV.rf (0 : Nat) (0 : Nat)]]) ∧
   ((ByteArray.size b_1) ≤ (512 : Nat)) ∧
   ((ByteArray.size (YtfdecpfcphghlaaDoor.earlyB a)) ≤ (1000000000 : Nat)) ∧
   ((Option.some (Ob.gh [AV.rf (0 : Nat) (0 : Nat)])) = (Option.some (Ob.gh [AV.rf (0 : Nat) (0 : Nat)]))) ∧
   bcase ((Prod.snd (Prod.snd (Prod.snd (YtfdecpfcphghlaaDoor.feedL (Array.toList (ByteArray.data (YtfdecpfcphghlaaDoor.earlyB a))) b_1 w e)))) != (0 : Int)) (
    q (mkB true)) (
    ∃ (b_2 : ByteArray),
    ∃ (w_1 : Bool),
    ∃ (e_1 : Int),
    ([Ob.box [AV.vw ((0 : Nat) + (1 : Nat)) (List.length (bytesD (Prod.fst (Prod.snd (YtfdecpfcphghlaaDoor.feedL (Array.toList (ByteArray.data (YtfdecpfcphghlaaDoor.earlyB a))) b_1 w e))))), mkB (Prod.fst (Prod.snd (Prod.snd (YtfdecpfcphghlaaDoor.feedL (Array.toList (ByteArray.data (YtfdecpfcphghlaaDoor.earlyB a))) b_1 w e)))), mkI IntKind.i64 (Prod.snd (Prod.snd (Prod.snd (YtfdecpfcphghlaaDoor.feedL (Array.toList (ByteArray.data (YtfdecpfcphghlaaDoor.earlyB a))) b_1 w e))))], Ob.row (1 : Nat) (bytesD (Prod.fst (Prod.snd (YtfdecpfcphghlaaDoor.feedL (Array.toList (ByteArray.data (YtfdecpfcphghlaaDoor.earlyB a))) b_1 w e)))), Ob.gh [AV.rf (0 : Nat) (0 : Nat)]] = [Ob.box [AV.vw (1 : Nat) (List.length (bytesD b_2)), mkB w_1, mkI IntKind.i64 e_1], Ob.row (1 : Nat) (bytesD b_2), Ob.gh [AV.rf (0 : Nat) (0 : Nat)]]) ∧
    ((Option.some (Ob.gh [AV.rf (0 : Nat) (0 : Nat)])) = (Option.some (Ob.gh [AV.rf (0 : Nat) (0 : Nat)]))) ∧
    bcase (decide ((YtfdecpfcphghlaaDoor.heldI b_2 e_1) > (0 : Int))) (
     q (mkB true)) (
     ((ByteArray.size (YtfdecpfcphghlaaDoor.earlyB a)) ≤ LIM) →
     bcase (decide (((ByteArray.size (YtfdecpfcphghlaaDoor.earlyB a)) : Int) > (0 : Int))) (
      ((ByteArray.size (YtfdecpfcphghlaaDoor.earlyB a)) ≤ LIM) →
      (((0 : Int) ≤ (IntKind.wrap IntKind.i64 (((ByteArray.size (YtfdecpfcphghlaaDoor.earlyB a)) : Int) - (1 : Int)))) ∧ ((IntKind.wrap IntKind.i64 (((ByteArray.size (YtfdecpfcphghlaaDoor.earlyB a)) : Int) - (1 : Int))) < ((ByteArray.size (YtfdecpfcphghlaaDoor.earlyB a)) : Int))) ∧
      bcase (((UInt8.toNat (List.getD (Array.toList (ByteArray.data (YtfdecpfcphghlaaDoor.earlyB a))) (Int.toNat (IntKind.wrap IntKind.i64 (((ByteArray.size (YtfdecpfcphghlaaDoor.earlyB a)) : Int) - (1 : Int)))) (0 : UInt8))) : Int) != (62 : Int)) (
       q (mkB true)) (
       ∃ (b_3 : ByteArray),
       ∃ (w_2 : Bool),
       ∃ (e_2 : Int),
       ([Ob.box [AV.vw ((0 : Nat) + (1 : Nat)) (0 : Nat), mkB false, mkI IntKind.i64 (0 : Int)], Ob.row (1 : Nat) [], Ob.gh [AV.rf (0 : Nat) (0 : Nat)]] = [Ob.box [AV.vw (1 : Nat) (List.length (bytesD b_3)), mkB w_2, mkI IntKind.i64 e_2], Ob.row (1 : Nat) (bytesD b_3), Ob.gh [AV.rf (0 : Nat) (0 : Nat)]]) ∧
       ((ByteArray.size b_3) ≤ (512 : Nat)) ∧
       ((ByteArray.size (YtfdecpfcphghlaaDoor.earlyB b)) ≤ (1000000000 : Nat)) ∧
       ((Option.some (Ob.gh [AV.rf (0 : Nat) (0 : Nat)])) = (Option.some (Ob.gh [AV.rf (0 : Nat) (0 : Nat)]))) ∧
       (((ByteArray.size (YtfdecpfcphghlaaDoor.earlyB a)) + (ByteArray.size (YtfdecpfcphghlaaDoor.earlyB b))) ≤ LIM) ∧ (
        ∃ (b_4 : ByteArray),
        ∃ (w_3 : Bool),
        ∃ (e_3 : Int),
        ([Ob.box [AV.vw ((0 : Nat) + (1 : Nat)) (0 : Nat), mkB false, mkI IntKind.i64 (0 : Int)], Ob.row (1 : Nat) [], Ob.gh [AV.rf (0 : Nat) (0 : Nat)]] = [Ob.box [AV.vw (1 : Nat) (List.length (bytesD b_4)), mkB w_3, mkI IntKind.i64 e_3], Ob.row (1 : Nat) (bytesD b_4), Ob.gh [AV.rf (0 : Nat) (0 : Nat)]]) ∧
        ((ByteArray.size b_4) ≤ (512 : Nat)) ∧
        ((ByteArray.size ((YtfdecpfcphghlaaDoor.earlyB a) ++ (YtfdecpfcphghlaaDoor.earlyB b))) ≤ (1000000000 : Nat)) ∧
        ((Option.some (Ob.gh [AV.rf (0 : Nat) (0 : Nat)])) = (Option.some (Ob.gh [AV.rf (0 : Nat) (0 : Nat)]))) ∧
        bcase ((Prod.snd (Prod.snd (Prod.snd (YtfdecpfcphghlaaDoor.feedL (Array.toList (ByteArray.data (YtfdecpfcphghlaaDoor.earlyB b))) b_3 w_2 e_2)))) == (Prod.snd (Prod.snd (Prod.snd (YtfdecpfcphghlaaDoor.feedL (Array.toList (ByteArray.data ((YtfdecpfcphghlaaDoor.earlyB a) ++ (YtfdecpfcphghlaaDoor.earlyB b)))) b_4 w_3 e_3))))) (
         ∃ (b_5 : ByteArray),
         ∃ (w_4 : Bool),
         ∃ (e_4 : Int),
         ([Ob.box [AV.vw ((0 : Nat) + (1 : Nat)) (List.length (bytesD (Prod.fst (Prod.snd (YtfdecpfcphghlaaDoor.feedL (Array.toList (ByteArray.data ((YtfdecpfcphghlaaDoor.earlyB a) ++ (YtfdecpfcphghlaaDoor.earlyB b)))) b_4 w_3 e_3))))), mkB (Prod.fst (Prod.snd (Prod.snd (YtfdecpfcphghlaaDoor.feedL (Array.toList (ByteArray.data ((YtfdecpfcphghlaaDoor.earlyB a) ++ (YtfdecpfcphghlaaDoor.earlyB b)))) b_4 w_3 e_3)))), mkI IntKind.i64 (Prod.snd (Prod.snd (Prod.snd (YtfdecpfcphghlaaDoor.feedL (Array.toList (ByteArray.data ((YtfdecpfcphghlaaDoor.earlyB a) ++ (YtfdecpfcphghlaaDoor.earlyB b)))) b_4 w_3 e_3))))], Ob.row (1 : Nat) (bytesD (Prod.fst (Prod.snd (YtfdecpfcphghlaaDoor.feedL (Array.toList (ByteArray.data ((YtfdecpfcphghlaaDoor.earlyB a) ++ (YtfdecpfcphghlaaDoor.earlyB b)))) b_4 w_3 e_3)))), Ob.gh [AV.rf (0 : Nat) (0 : Nat)]] = [Ob.box [AV.vw (1 : Nat) (List.length (bytesD b_5)), mkB w_4, mkI IntKind.i64 e_4], Ob.row (1 : Nat) (bytesD b_5), Ob.gh [AV.rf (0 : Nat) (0 : Nat)]]) ∧
         ((Option.some (Ob.gh [AV.rf (0 : Nat) (0 : Nat)])) = (Option.some (Ob.gh [AV.rf (0 : Nat) (0 : Nat)]))) ∧ (
          ∃ (b_6 : ByteArray),
          ∃ (w_5 : Bool),
          ∃ (e_5 : Int),
          ([Ob.box [AV.vw ((0 : Nat) + (1 : Nat)) (List.length (bytesD (Prod.fst (Prod.snd (YtfdecpfcphghlaaDoor.feedL (Array.toList (ByteArray.data (YtfdecpfcphghlaaDoor.earlyB b))) b_3 w_2 e_2))))), mkB (Prod.fst (Prod.snd (Prod.snd (YtfdecpfcphghlaaDoor.feedL (Array.toList (ByteArray.data (YtfdecpfcphghlaaDoor.earlyB b))) b_3 w_2 e_2)))), mkI IntKind.i64 (Prod.snd (Prod.snd (Prod.snd (YtfdecpfcphghlaaDoor.feedL (Array.toList (ByteArray.data (YtfdecpfcphghlaaDoor.earlyB b))) b_3 w_2 e_2))))], Ob.row (1 : Nat) (bytesD (Prod.fst (Prod.snd (YtfdecpfcphghlaaDoor.feedL (Array.toList (ByteArray.data (YtfdecpfcphghlaaDoor.earlyB b))) b_3 w_2 e_2)))), Ob.gh [AV.rf (0 : Nat) (0 : Nat)]] = [Ob.box [AV.vw (1 : Nat) (List.length (bytesD b_6)), mkB w_5, mkI IntKind.i64 e_5], Ob.row (1 : Nat) (bytesD b_6), Ob.gh [AV.rf (0 : Nat) (0 : Nat)]]) ∧
          ((Option.some (Ob.gh [AV.rf (0 : Nat) (0 : Nat)])) = (Option.some (Ob.gh [AV.rf (0 : Nat) (0 : Nat)]))) ∧
          bcase ((YtfdecpfcphghlaaDoor.heldI b_5 e_4) == (YtfdecpfcphghlaaDoor.heldI b_6 e_5)) (
           ((YtfdecpfcphghlaaDoor.toksD (Prod.fst (YtfdecpfcphghlaaDoor.feedL (Array.toList (ByteArray.data ((YtfdecpfcphghlaaDoor.earlyB a) ++ (YtfdecpfcphghlaaDoor.earlyB b)))) b_4 w_3 e_3))) = (YtfdecpfcphghlaaDoor.toksD (YtfdecpfcphghlaaDoor.unToks (YtfdecpfcphghlaaDoor.toksD (Prod.fst (YtfdecpfcphghlaaDoor.feedL (Array.toList (ByteArray.data ((YtfdecpfcphghlaaDoor.earlyB a) ++ (YtfdecpfcphghlaaDoor.earlyB b)))) b_4 w_3 e_3)))))) ∧
           ((YtfdecpfcphghlaaDoor.toksD (Prod.fst (YtfdecpfcphghlaaDoor.feedL (Array.toList (ByteArray.data (YtfdecpfcphghlaaDoor.earlyB a))) b_1 w e))) = (YtfdecpfcphghlaaDoor.toksD (YtfdecpfcphghlaaDoor.unToks (YtfdecpfcphghlaaDoor.toksD (Prod.fst (YtfdecpfcphghlaaDoor.feedL (Array.toList (ByteArray.data (YtfdecpfcphghlaaDoor.earlyB a))) b_1 w e)))))) ∧
           ((YtfdecpfcphghlaaDoor.toksD (Prod.fst (YtfdecpfcphghlaaDoor.feedL (Array.toList (ByteArray.data (YtfdecpfcphghlaaDoor.earlyB b))) b_3 w_2 e_2))) = (YtfdecpfcphghlaaDoor.toksD (YtfdecpfcphghlaaDoor.unToks (YtfdecpfcphghlaaDoor.toksD (Prod.fst (YtfdecpfcphghlaaDoor.feedL (Array.toList (ByteArray.data (YtfdecpfcphghlaaDoor.earlyB b))) b_3 w_2 e_2)))))) ∧
           (∀ (c : List D), (c ∈ (List.take (List.length (YtfdecpfcphghlaaDoor.toksD (Prod.fst (YtfdecpfcphghlaaDoor.feedL (Array.toList (ByteArray.data (YtfdecpfcphghlaaDoor.earlyB b))) b_3 w_2 e_2)))) (YtfdecpfcphghlaaDoor.toksD (Prod.fst (YtfdecpfcphghlaaDoor.feedL (Array.toList (ByteArray.data (YtfdecpfcphghlaaDoor.earlyB b))) b_3 w_2 e_2))))) → (List.length c) = 4) ∧
           ((List.length (YtfdecpfcphghlaaDoor.toksD (Prod.fst (YtfdecpfcphghlaaDoor.feedL (Array.toList (ByteArray.data (YtfdecpfcphghlaaDoor.earlyB a))) b_1 w e)))) = (List.length (YtfdecpfcphghlaaDoor.toksD (Prod.fst (YtfdecpfcphghlaaDoor.feedL (Array.toList (ByteArray.data (YtfdecpfcphghlaaDoor.earlyB a))) b_1 w e))))) ∧
           (((List.length (YtfdecpfcphghlaaDoor.toksD (Prod.fst (YtfdecpfcphghlaaDoor.feedL (Array.toList (ByteArray.data (YtfdecpfcphghlaaDoor.earlyB a))) b_1 w e)))) + (List.length (List.take (List.length (YtfdecpfcphghlaaDoor.toksD (Prod.fst (YtfdecpfcphghlaaDoor.feedL (Array.toList (ByteArray.data (YtfdecpfcphghlaaDoor.earlyB b))) b_3 w_2 e_2)))) (YtfdecpfcphghlaaDoor.toksD (Prod.fst (YtfdecpfcphghlaaDoor.feedL (Array.toList (ByteArray.data (YtfdecpfcphghlaaDoor.earlyB b))) b_3 w_2 e_2)))))) ≤ LIM) ∧
           (((List.take (List.length (YtfdecpfcphghlaaDoor.toksD (Prod.fst (YtfdecpfcphghlaaDoor.feedL (Array.toList (ByteArray.data ((YtfdecpfcphghlaaDoor.earlyB a) ++ (YtfdecpfcphghlaaDoor.earlyB b)))) b_4 w_3 e_3)))) (YtfdecpfcphghlaaDoor.toksD (Prod.fst (YtfdecpfcphghlaaDoor.feedL (Array.toList (ByteArray.data ((YtfdecpfcphghlaaDoor.earlyB a) ++ (YtfdecpfcphghlaaDoor.earlyB b)))) b_4 w_3 e_3)))) = (YtfdecpfcphghlaaDoor.toksD (YtfdecpfcphghlaaDoor.unToks (List.take (List.length (YtfdecpfcphghlaaDoor.toksD (Prod.fst (YtfdecpfcphghlaaDoor.feedL (Array.toList (ByteArray.data ((YtfdecpfcphghlaaDoor.earlyB a) ++ (YtfdecpfcphghlaaDoor.earlyB b)))) b_4 w_3 e_3)))) (YtfdecpfcphghlaaDoor.toksD (Prod.fst (YtfdecpfcphghlaaDoor.feedL (Array.toList (ByteArray.data ((YtfdecpfcphghlaaDoor.earlyB a) ++ (YtfdecpfcphghlaaDoor.earlyB b)))) b_4 w_3 e_3))))))) ∧ ((List.take ((List.length (YtfdecpfcphghlaaDoor.toksD (Prod.fst (YtfdecpfcphghlaaDoor.feedL (Array.toList (ByteArray.data (YtfdecpfcphghlaaDoor.earlyB a))) b_1 w e)))) + (List.length (List.take (List.length (YtfdecpfcphghlaaDoor.toksD (Prod.fst (YtfdecpfcphghlaaDoor.feedL (Array.toList (ByteArray.data (YtfdecpfcphghlaaDoor.earlyB b))) b_3 w_2 e_2)))) (YtfdecpfcphghlaaDoor.toksD (Prod.fst (YtfdecpfcphghlaaDoor.feedL (Array.toList (ByteArray.data (YtfdecpfcphghlaaDoor.earlyB b))) b_3 w_2 e_2)))))) ((YtfdecpfcphghlaaDoor.toksD (Prod.fst (YtfdecpfcphghlaaDoor.feedL (Array.toList (ByteArray.data (YtfdecpfcphghlaaDoor.earlyB a))) b_1 w e))) ++ (List.take (List.length (YtfdecpfcphghlaaDoor.toksD (Prod.fst (YtfdecpfcphghlaaDoor.feedL (Array.toList (ByteArray.data (YtfdecpfcphghlaaDoor.earlyB b))) b_3 w_2 e_2)))) (YtfdecpfcphghlaaDoor.toksD (Prod.fst (YtfdecpfcphghlaaDoor.feedL (Array.toList (ByteArray.data (YtfdecpfcphghlaaDoor.earlyB b))) b_3 w_2 e_2)))))) = (YtfdecpfcphghlaaDoor.toksD (YtfdecpfcphghlaaDoor.unToks (List.take ((List.length (YtfdecpfcphghlaaDoor.toksD (Prod.fst (YtfdecpfcphghlaaDoor.feedL (Array.toList (ByteArray.data (YtfdecpfcphghlaaDoor.earlyB a))) b_1 w e)))) + (List.length (List.take (List.length (YtfdecpfcphghlaaDoor.toksD (Prod.fst (YtfdecpfcphghlaaDoor.feedL (Array.toList (ByteArray.data (YtfdecpfcphghlaaDoor.earlyB b))) b_3 w_2 e_2)))) (YtfdecpfcphghlaaDoor.toksD (Prod.fst (YtfdecpfcphghlaaDoor.feedL (Array.toList (ByteArray.data (YtfdecpfcphghlaaDoor.earlyB b))) b_3 w_2 e_2)))))) ((YtfdecpfcphghlaaDoor.toksD (Prod.fst (YtfdecpfcphghlaaDoor.feedL (Array.toList (ByteArray.data (YtfdecpfcphghlaaDoor.earlyB a))) b_1 w e))) ++ (List.take (List.length (YtfdecpfcphghlaaDoor.toksD (Prod.fst (YtfdecpfcphghlaaDoor.feedL (Array.toList (ByteArray.data (YtfdecpfcphghlaaDoor.earlyB b))) b_3 w_2 e_2)))) (YtfdecpfcphghlaaDoor.toksD (Prod.fst (YtfdecpfcphghlaaDoor.feedL (Array.toList (ByteArray.data (YtfdecpfcphghlaaDoor.earlyB b))) b_3 w_2 e_2)))))))))) ∧
           q (mkB (decide ((YtfdecpfcphghlaaDoor.unToks (List.take (List.length (YtfdecpfcphghlaaDoor.toksD (Prod.fst (YtfdecpfcphghlaaDoor.feedL (Array.toList (ByteArray.data ((YtfdecpfcphghlaaDoor.earlyB a) ++ (YtfdecpfcphghlaaDoor.earlyB b)))) b_4 w_3 e_3)))) (YtfdecpfcphghlaaDoor.toksD (Prod.fst (YtfdecpfcphghlaaDoor.feedL (Array.toList (ByteArray.data ((YtfdecpfcphghlaaDoor.earlyB a) ++ (YtfdecpfcphghlaaDoor.earlyB b)))) b_4 w_3 e_3))))) = (YtfdecpfcphghlaaDoor.unToks (List.take ((List.length (YtfdecpfcphghlaaDoor.toksD (Prod.fst (YtfdecpfcphghlaaDoor.feedL (Array.toList (ByteArray.data (YtfdecpfcphghlaaDoor.earlyB a))) b_1 w e)))) + (List.length (List.take (List.length (YtfdecpfcphghlaaDoor.toksD (Prod.fst (YtfdecpfcphghlaaDoor.feedL (Array.toList (ByteArray.data (YtfdecpfcphghlaaDoor.earlyB b))) b_3 w_2 e_2)))) (YtfdecpfcphghlaaDoor.toksD (Prod.fst (YtfdecpfcphghlaaDoor.feedL (Array.toList (ByteArray.data (YtfdecpfcphghlaaDoor.earlyB b))) b_3 w_2 e_2)))))) ((YtfdecpfcphghlaaDoor.toksD (Prod.fst (YtfdecpfcphghlaaDoor.feedL (Array.toList (ByteArray.data (YtfdecpfcphghlaaDoor.earlyB a))) b_1 w e))) ++ (List.take (List.length (YtfdecpfcphghlaaDoor.toksD (Prod.fst (YtfdecpfcphghlaaDoor.feedL (Array.toList (ByteArray.data (YtfdecpfcphghlaaDoor.earlyB b))) b_3 w_2 e_2)))) (YtfdecpfcphghlaaDoor.toksD (Prod.fst (YtfdecpfcphghlaaDoor.feedL (Array.toList (ByteArray.data (YtfdecpfcphghlaaDoor.earlyB b))) b_3 w_2 e_2))))))))))) (
           q (mkB false)))) (
         q (mkB false))))) (
      ∃ (b_3 : ByteArray),
      ∃ (w_2 : Bool),
      ∃ (e_2 : Int),
      ([Ob.box [AV.vw ((0 : Nat) + (1 : Nat)) (0 : Nat), mkB false, mkI IntKind.i64 (0 : Int)], Ob.row (1 : Nat) [], Ob.gh [AV.rf (0 : Nat) (0 : Nat)]] = [Ob.box [AV.vw (1 : Nat) (List.length (bytesD b_3)), mkB w_2, mkI IntKind.i64 e_2], Ob.row (1 : Nat) (bytesD b_3), Ob.gh [AV.rf (0 : Nat) (0 : Nat)]]) ∧
      ((ByteArray.size b_3) ≤ (512 : Nat)) ∧
      ((ByteArray.size (YtfdecpfcphghlaaDoor.earlyB b)) ≤ (1000000000 : Nat)) ∧
      ((Option.some (Ob.gh [AV.rf (0 : Nat) (0 : Nat)])) = (Option.some (Ob.gh [AV.rf (0 : Nat) (0 : Nat)]))) ∧
      (((ByteArray.size (YtfdecpfcphghlaaDoor.earlyB a)) + (ByteArray.size (YtfdecpfcphghlaaDoor.earlyB b))) ≤ LIM) ∧ (
       ∃ (b_4 : ByteArray),
       ∃ (w_3 : Bool),
       ∃ (e_3 : Int),
       ([Ob.box [AV.vw ((0 : Nat) + (1 : Nat)) (0 : Nat), mkB false, mkI IntKind.i64 (0 : Int)], Ob.row (1 : Nat) [], Ob.gh [AV.rf (0 : Nat) (0 : Nat)]] = [Ob.box [AV.vw (1 : Nat) (List.length (bytesD b_4)), mkB w_3, mkI IntKind.i64 e_3], Ob.row (1 : Nat) (bytesD b_4), Ob.gh [AV.rf (0 : Nat) (0 : Nat)]]) ∧
       ((ByteArray.size b_4) ≤ (512 : Nat)) ∧
       ((ByteArray.size ((YtfdecpfcphghlaaDoor.earlyB a) ++ (YtfdecpfcphghlaaDoor.earlyB b))) ≤ (1000000000 : Nat)) ∧
       ((Option.some (Ob.gh [AV.rf (0 : Nat) (0 : Nat)])) = (Option.some (Ob.gh [AV.rf (0 : Nat) (0 : Nat)]))) ∧
       bcase ((Prod.snd (Prod.snd (Prod.snd (YtfdecpfcphghlaaDoor.feedL (Array.toList (ByteArray.data (YtfdecpfcphghlaaDoor.earlyB b))) b_3 w_2 e_2)))) == (Prod.snd (Prod.snd (Prod.snd (YtfdecpfcphghlaaDoor.feedL (Array.toList (ByteArray.data ((YtfdecpfcphghlaaDoor.earlyB a) ++ (YtfdecpfcphghlaaDoor.earlyB b)))) b_4 w_3 e_3))))) (
        ∃ (b_5 : ByteArray),
        ∃ (w_4 : Bool),
        ∃ (e_4 : Int),
        ([Ob.box [AV.vw ((0 : Nat) + (1 : Nat)) (List.length (bytesD (Prod.fst (Prod.snd (YtfdecpfcphghlaaDoor.feedL (Array.toList (ByteArray.data ((YtfdecpfcphghlaaDoor.earlyB a) ++ (YtfdecpfcphghlaaDoor.earlyB b)))) b_4 w_3 e_3))))), mkB (Prod.fst (Prod.snd (Prod.snd (YtfdecpfcphghlaaDoor.feedL (Array.toList (ByteArray.data ((YtfdecpfcphghlaaDoor.earlyB a) ++ (YtfdecpfcphghlaaDoor.earlyB b)))) b_4 w_3 e_3)))), mkI IntKind.i64 (Prod.snd (Prod.snd (Prod.snd (YtfdecpfcphghlaaDoor.feedL (Array.toList (ByteArray.data ((YtfdecpfcphghlaaDoor.earlyB a) ++ (YtfdecpfcphghlaaDoor.earlyB b)))) b_4 w_3 e_3))))], Ob.row (1 : Nat) (bytesD (Prod.fst (Prod.snd (YtfdecpfcphghlaaDoor.feedL (Array.toList (ByteArray.data ((YtfdecpfcphghlaaDoor.earlyB a) ++ (YtfdecpfcphghlaaDoor.earlyB b)))) b_4 w_3 e_3)))), Ob.gh [AV.rf (0 : Nat) (0 : Nat)]] = [Ob.box [AV.vw (1 : Nat) (List.length (bytesD b_5)), mkB w_4, mkI IntKind.i64 e_4], Ob.row (1 : Nat) (bytesD b_5), Ob.gh [AV.rf (0 : Nat) (0 : Nat)]]) ∧
        ((Option.some (Ob.gh [AV.rf (0 : Nat) (0 : Nat)])) = (Option.some (Ob.gh [AV.rf (0 : Nat) (0 : Nat)]))) ∧ (
         ∃ (b_6 : ByteArray),
         ∃ (w_5 : Bool),
         ∃ (e_5 : Int),
         ([Ob.box [AV.vw ((0 : Nat) + (1 : Nat)) (List.length (bytesD (Prod.fst (Prod.snd (YtfdecpfcphghlaaDoor.feedL (Array.toList (ByteArray.data (YtfdecpfcphghlaaDoor.earlyB b))) b_3 w_2 e_2))))), mkB (Prod.fst (Prod.snd (Prod.snd (YtfdecpfcphghlaaDoor.feedL (Array.toList (ByteArray.data (YtfdecpfcphghlaaDoor.earlyB b))) b_3 w_2 e_2)))), mkI IntKind.i64 (Prod.snd (Prod.snd (Prod.snd (YtfdecpfcphghlaaDoor.feedL (Array.toList (ByteArray.data (YtfdecpfcphghlaaDoor.earlyB b))) b_3 w_2 e_2))))], Ob.row (1 : Nat) (bytesD (Prod.fst (Prod.snd (YtfdecpfcphghlaaDoor.feedL (Array.toList (ByteArray.data (YtfdecpfcphghlaaDoor.earlyB b))) b_3 w_2 e_2)))), Ob.gh [AV.rf (0 : Nat) (0 : Nat)]] = [Ob.box [AV.vw (1 : Nat) (List.length (bytesD b_6)), mkB w_5, mkI IntKind.i64 e_5], Ob.row (1 : Nat) (bytesD b_6), Ob.gh [AV.rf (0 : Nat) (0 : Nat)]]) ∧
         ((Option.some (Ob.gh [AV.rf (0 : Nat) (0 : Nat)])) = (Option.some (Ob.gh [AV.rf (0 : Nat) (0 : Nat)]))) ∧
         bcase ((YtfdecpfcphghlaaDoor.heldI b_5 e_4) == (YtfdecpfcphghlaaDoor.heldI b_6 e_5)) (
          ((YtfdecpfcphghlaaDoor.toksD (Prod.fst (YtfdecpfcphghlaaDoor.feedL (Array.toList (ByteArray.data ((YtfdecpfcphghlaaDoor.earlyB a) ++ (YtfdecpfcphghlaaDoor.earlyB b)))) b_4 w_3 e_3))) = (YtfdecpfcphghlaaDoor.toksD (YtfdecpfcphghlaaDoor.unToks (YtfdecpfcphghlaaDoor.toksD (Prod.fst (YtfdecpfcphghlaaDoor.feedL (Array.toList (ByteArray.data ((YtfdecpfcphghlaaDoor.earlyB a) ++ (YtfdecpfcphghlaaDoor.earlyB b)))) b_4 w_3 e_3)))))) ∧
          ((YtfdecpfcphghlaaDoor.toksD (Prod.fst (YtfdecpfcphghlaaDoor.feedL (Array.toList (ByteArray.data (YtfdecpfcphghlaaDoor.earlyB a))) b_1 w e))) = (YtfdecpfcphghlaaDoor.toksD (YtfdecpfcphghlaaDoor.unToks (YtfdecpfcphghlaaDoor.toksD (Prod.fst (YtfdecpfcphghlaaDoor.feedL (Array.toList (ByteArray.data (YtfdecpfcphghlaaDoor.earlyB a))) b_1 w e)))))) ∧
          ((YtfdecpfcphghlaaDoor.toksD (Prod.fst (YtfdecpfcphghlaaDoor.feedL (Array.toList (ByteArray.data (YtfdecpfcphghlaaDoor.earlyB b))) b_3 w_2 e_2))) = (YtfdecpfcphghlaaDoor.toksD (YtfdecpfcphghlaaDoor.unToks (YtfdecpfcphghlaaDoor.toksD (Prod.fst (YtfdecpfcphghlaaDoor.feedL (Array.toList (ByteArray.data (YtfdecpfcphghlaaDoor.earlyB b))) b_3 w_2 e_2)))))) ∧
          (∀ (c : List D), (c ∈ (List.take (List.length (YtfdecpfcphghlaaDoor.toksD (Prod.fst (YtfdecpfcphghlaaDoor.feedL (Array.toList (ByteArray.data (YtfdecpfcphghlaaDoor.earlyB b))) b_3 w_2 e_2)))) (YtfdecpfcphghlaaDoor.toksD (Prod.fst (YtfdecpfcphghlaaDoor.feedL (Array.toList (ByteArray.data (YtfdecpfcphghlaaDoor.earlyB b))) b_3 w_2 e_2))))) → (List.length c) = 4) ∧
          ((List.length (YtfdecpfcphghlaaDoor.toksD (Prod.fst (YtfdecpfcphghlaaDoor.feedL (Array.toList (ByteArray.data (YtfdecpfcphghlaaDoor.earlyB a))) b_1 w e)))) = (List.length (YtfdecpfcphghlaaDoor.toksD (Prod.fst (YtfdecpfcphghlaaDoor.feedL (Array.toList (ByteArray.data (YtfdecpfcphghlaaDoor.earlyB a))) b_1 w e))))) ∧
          (((List.length (YtfdecpfcphghlaaDoor.toksD (Prod.fst (YtfdecpfcphghlaaDoor.feedL (Array.toList (ByteArray.data (YtfdecpfcphghlaaDoor.earlyB a))) b_1 w e)))) + (List.length (List.take (List.length (YtfdecpfcphghlaaDoor.toksD (Prod.fst (YtfdecpfcphghlaaDoor.feedL (Array.toList (ByteArray.data (YtfdecpfcphghlaaDoor.earlyB b))) b_3 w_2 e_2)))) (YtfdecpfcphghlaaDoor.toksD (Prod.fst (YtfdecpfcphghlaaDoor.feedL (Array.toList (ByteArray.data (YtfdecpfcphghlaaDoor.earlyB b))) b_3 w_2 e_2)))))) ≤ LIM) ∧
          (((List.take (List.length (YtfdecpfcphghlaaDoor.toksD (Prod.fst (YtfdecpfcphghlaaDoor.feedL (Array.toList (ByteArray.data ((YtfdecpfcphghlaaDoor.earlyB a) ++ (YtfdecpfcphghlaaDoor.earlyB b)))) b_4 w_3 e_3)))) (YtfdecpfcphghlaaDoor.toksD (Prod.fst (YtfdecpfcphghlaaDoor.feedL (Array.toList (ByteArray.data ((YtfdecpfcphghlaaDoor.earlyB a) ++ (YtfdecpfcphghlaaDoor.earlyB b)))) b_4 w_3 e_3)))) = (YtfdecpfcphghlaaDoor.toksD (YtfdecpfcphghlaaDoor.unToks (List.take (List.length (YtfdecpfcphghlaaDoor.toksD (Prod.fst (YtfdecpfcphghlaaDoor.feedL (Array.toList (ByteArray.data ((YtfdecpfcphghlaaDoor.earlyB a) ++ (YtfdecpfcphghlaaDoor.earlyB b)))) b_4 w_3 e_3)))) (YtfdecpfcphghlaaDoor.toksD (Prod.fst (YtfdecpfcphghlaaDoor.feedL (Array.toList (ByteArray.data ((YtfdecpfcphghlaaDoor.earlyB a) ++ (YtfdecpfcphghlaaDoor.earlyB b)))) b_4 w_3 e_3))))))) ∧ ((List.take ((List.length (YtfdecpfcphghlaaDoor.toksD (Prod.fst (YtfdecpfcphghlaaDoor.feedL (Array.toList (ByteArray.data (YtfdecpfcphghlaaDoor.earlyB a))) b_1 w e)))) + (List.length (List.take (List.length (YtfdecpfcphghlaaDoor.toksD (Prod.fst (YtfdecpfcphghlaaDoor.feedL (Array.toList (ByteArray.data (YtfdecpfcphghlaaDoor.earlyB b))) b_3 w_2 e_2)))) (YtfdecpfcphghlaaDoor.toksD (Prod.fst (YtfdecpfcphghlaaDoor.feedL (Array.toList (ByteArray.data (YtfdecpfcphghlaaDoor.earlyB b))) b_3 w_2 e_2)))))) ((YtfdecpfcphghlaaDoor.toksD (Prod.fst (YtfdecpfcphghlaaDoor.feedL (Array.toList (ByteArray.data (YtfdecpfcphghlaaDoor.earlyB a))) b_1 w e))) ++ (List.take (List.length (YtfdecpfcphghlaaDoor.toksD (Prod.fst (YtfdecpfcphghlaaDoor.feedL (Array.toList (ByteArray.data (YtfdecpfcphghlaaDoor.earlyB b))) b_3 w_2 e_2)))) (YtfdecpfcphghlaaDoor.toksD (Prod.fst (YtfdecpfcphghlaaDoor.feedL (Array.toList (ByteArray.data (YtfdecpfcphghlaaDoor.earlyB b))) b_3 w_2 e_2)))))) = (YtfdecpfcphghlaaDoor.toksD (YtfdecpfcphghlaaDoor.unToks (List.take ((List.length (YtfdecpfcphghlaaDoor.toksD (Prod.fst (YtfdecpfcphghlaaDoor.feedL (Array.toList (ByteArray.data (YtfdecpfcphghlaaDoor.earlyB a))) b_1 w e)))) + (List.length (List.take (List.length (YtfdecpfcphghlaaDoor.toksD (Prod.fst (YtfdecpfcphghlaaDoor.feedL (Array.toList (ByteArray.data (YtfdecpfcphghlaaDoor.earlyB b))) b_3 w_2 e_2)))) (YtfdecpfcphghlaaDoor.toksD (Prod.fst (YtfdecpfcphghlaaDoor.feedL (Array.toList (ByteArray.data (YtfdecpfcphghlaaDoor.earlyB b))) b_3 w_2 e_2)))))) ((YtfdecpfcphghlaaDoor.toksD (Prod.fst (YtfdecpfcphghlaaDoor.feedL (Array.toList (ByteArray.data (YtfdecpfcphghlaaDoor.earlyB a))) b_1 w e))) ++ (List.take (List.length (YtfdecpfcphghlaaDoor.toksD (Prod.fst (YtfdecpfcphghlaaDoor.feedL (Array.toList (ByteArray.data (YtfdecpfcphghlaaDoor.earlyB b))) b_3 w_2 e_2)))) (YtfdecpfcphghlaaDoor.toksD (Prod.fst (YtfdecpfcphghlaaDoor.feedL (Array.toList (ByteArray.data (YtfdecpfcphghlaaDoor.earlyB b))) b_3 w_2 e_2)))))))))) ∧
          q (mkB (decide ((YtfdecpfcphghlaaDoor.unToks (List.take (List.length (YtfdecpfcphghlaaDoor.toksD (Prod.fst (YtfdecpfcphghlaaDoor.feedL (Array.toList (ByteArray.data ((YtfdecpfcphghlaaDoor.earlyB a) ++ (YtfdecpfcphghlaaDoor.earlyB b)))) b_4 w_3 e_3)))) (YtfdecpfcphghlaaDoor.toksD (Prod.fst (YtfdecpfcphghlaaDoor.feedL (Array.toList (ByteArray.data ((YtfdecpfcphghlaaDoor.earlyB a) ++ (YtfdecpfcphghlaaDoor.earlyB b)))) b_4 w_3 e_3))))) = (YtfdecpfcphghlaaDoor.unToks (List.take ((List.length (YtfdecpfcphghlaaDoor.toksD (Prod.fst (YtfdecpfcphghlaaDoor.feedL (Array.toList (ByteArray.data (YtfdecpfcphghlaaDoor.earlyB a))) b_1 w e)))) + (List.length (List.take (List.length (YtfdecpfcphghlaaDoor.toksD (Prod.fst (YtfdecpfcphghlaaDoor.feedL (Array.toList (ByteArray.data (YtfdecpfcphghlaaDoor.earlyB b))) b_3 w_2 e_2)))) (YtfdecpfcphghlaaDoor.toksD (Prod.fst (YtfdecpfcphghlaaDoor.feedL (Array.toList (ByteArray.data (YtfdecpfcphghlaaDoor.earlyB b))) b_3 w_2 e_2)))))) ((YtfdecpfcphghlaaDoor.toksD (Prod.fst (YtfdecpfcphghlaaDoor.feedL (Array.toList (ByteArray.data (YtfdecpfcphghlaaDoor.earlyB a))) b_1 w e))) ++ (List.take (List.length (YtfdecpfcphghlaaDoor.toksD (Prod.fst (YtfdecpfcphghlaaDoor.feedL (Array.toList (ByteArray.data (YtfdecpfcphghlaaDoor.earlyB b))) b_3 w_2 e_2)))) (YtfdecpfcphghlaaDoor.toksD (Prod.fst (YtfdecpfcphghlaaDoor.feedL (Array.toList (ByteArray.data (YtfdecpfcphghlaaDoor.earlyB b))) b_3 w_2 e_2))))))))))) (
          q (mkB false)))) (
        q (mkB false)))))))) := by kernel_rfl

def F7 : List AV → Option (Prop × AV) := fun al => match al with
  | [.d (.v (.string a)), .d (.v (.string b))] => some (True, mkB true)
  | _ => none
set_option maxRecDepth 8000 in
theorem c7 : PSound Tryd.prog 7 (detE F7) := by
  refine det_fn (c := Tryd.b7) mixed Tryd.K_ok gJ Tryd.func7 rfl rfl Tryd.call7 fun al p r q hF hp hq => ?_
  unfold F7 at hF; split at hF <;> cases hF
  rename_i a b
  refine cast (r7 a b q).symm ?_
  have eA := early_ok a
  have eB := early_ok b
  have sA := earlyB_size a
  have sB := earlyB_size b
  generalize earlyB a = A at *
  generalize earlyB b = B at *
  refine ⟨trivial, trivial, trivial, rfl, rfl, rfl, ⟨#[]⟩, false, 0, rfl, by decide, eA, rfl, ?_⟩
  have jn := feed_join A B
  have zs := feedL_size A.data.toList ⟨#[]⟩ false 0 (by decide)
  have nA := feedL_len A.data.toList ⟨#[]⟩ false 0
  have nB := feedL_len B.data.toList ⟨#[]⟩ false 0
  have lA : A.data.toList.length = A.size := Array.length_toList
  have lB : B.data.toList.length = B.size := Array.length_toList
  have hAB : (A ++ B).size ≤ 1000000000 := by rw [ByteArray.size_append]; omega
  have hL : A.size + B.size ≤ LIM := by unfold LIM; omega
  rw [lA] at nA
  rw [lB] at nB
  generalize feedL A.data.toList ⟨#[]⟩ false 0 = X at *
  obtain ⟨Y, hY⟩ : ∃ Y, feedL B.data.toList ⟨#[]⟩ false 0 = Y := ⟨_, rfl⟩
  rw [hY] at jn nB
  refine bcase_mk (fun _ => hq) (fun h0 => ?_)
  have h0 : X.2.2.2 = 0 := by simpa using h0
  refine ⟨X.2.1, X.2.2.1, X.2.2.2, rfl, rfl, ?_⟩
  have hI : heldI X.2.1 X.2.2.2 = X.2.1.size := by rw [heldI, if_pos h0]
  rw [hI]
  refine bcase_mk (fun _ => hq) (fun hs => ?_)
  have hs : X.2.1.size = 0 := by have := of_decide_eq_false hs; omega
  refine fun hlim => bcase_mk (fun hz => ?_) (fun hz => ?_)
  · have hz : 0 < A.size := by have := of_decide_eq_true hz; omega
    have hw : IntKind.i64.wrap ((A.size : Int) - 1) = ((A.size - 1 : Nat) : Int) := by
      rw [IntWalk.i64_in _ (by unfold LIM at hlim; omega)]; omega
    rw [hw]
    refine fun _ => ⟨⟨by omega, by omega⟩, bcase_mk (fun _ => hq) (fun hg => ?_)⟩
    have hg : A.data.toList.getD (A.size - 1) 0 = 62 := by
      have hg : ((A.data.toList.getD (((A.size - 1 : Nat) : Int).toNat) 0).toNat : Int) = 62 := by simpa using hg
      rw [Int.toNat_natCast] at hg
      exact UInt8.toNat_inj.1 (by show _ = 62; omega)
    have jn := jn h0 hs (.inr hg)
    refine ⟨⟨#[]⟩, false, 0, rfl, by decide, eB, rfl, hL, ⟨#[]⟩, false, 0, rfl, by decide, hAB, rfl, ?_⟩
    rw [hY, jn]
    refine bcaseT (by simp) ⟨Y.2.1, Y.2.2.1, Y.2.2.2, rfl, rfl, Y.2.1, Y.2.2.1, Y.2.2.2, rfl, rfl, bcaseT (by simp) ?_⟩
    simp only [unToks_toksD, List.take_length, tk_app, toksD_app, tk_toks, unToks_toksD, decide_true]
    exact ⟨trivial, trivial, trivial, toksD_sz _, trivial, by rw [toksD_len, toksD_len]; unfold LIM; omega, ⟨trivial, trivial⟩, hq⟩
  · have hz : A.size = 0 := by have := of_decide_eq_false hz; omega
    have jn := jn h0 hs (.inl hz)
    refine ⟨⟨#[]⟩, false, 0, rfl, by decide, eB, rfl, hL, ⟨#[]⟩, false, 0, rfl, by decide, hAB, rfl, ?_⟩
    rw [hY, jn]
    refine bcaseT (by simp) ⟨Y.2.1, Y.2.2.1, Y.2.2.2, rfl, rfl, Y.2.1, Y.2.2.1, Y.2.2.2, rfl, rfl, bcaseT (by simp) ?_⟩
    simp only [unToks_toksD, List.take_length, tk_app, toksD_app, tk_toks, unToks_toksD, decide_true]
    exact ⟨trivial, trivial, trivial, toksD_sz _, trivial, by rw [toksD_len, toksD_len]; unfold LIM; omega, ⟨trivial, trivial⟩, hq⟩
set_option maxRecDepth 8000 in
theorem h7 : ∀ as', TyArgs Tryd.prog Tryd.f7.params.toList as' → ∃ p, F7 as' = some (p, mkB true) ∧ p := by
  intro as' h
  rw [Tryd.params7] at h
  match as', h with
  | [a, b], ⟨ha, hb, _⟩ =>
    obtain ⟨x, rfl, _⟩ := arg_str Tryd.underlying9 ha
    obtain ⟨y, rfl, _⟩ := arg_str Tryd.underlying9 hb
    exact ⟨_, rfl, trivial⟩

end Go.Proofs.YtfdecpfcphghlaaDoor
