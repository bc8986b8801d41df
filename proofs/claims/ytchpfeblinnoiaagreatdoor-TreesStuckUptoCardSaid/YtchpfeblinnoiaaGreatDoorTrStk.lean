import Derived.Test.YtchpfeblinnoiaaGreatDoorTrTok
import Derived.Test.YtchpfeblinnoiaaGreatDoorTrLives
set_option linter.unusedSimpArgs false
set_option linter.unusedVariables false
namespace Go.Proofs.YtchpfeblinnoiaaGreatDoor
open Go Go.AM Go.RowKit
set_option maxRecDepth 10000
attribute [local irreducible] aUnr aUnS aCode
theorem rFew (l : List (List D)) (q : AV → Prop) :
  (aCode Tryz.K [] Tryz.b9 (kRet Tryz.K Tryz.f9.results.toList q) ⟨[.d (.sl l)] ++ List.replicate (Tryz.f9.ntmps - 1) .jk, []⟩) = (
  ((List.length l) ≤ LIM) →
  (IntKind.i64 = IntKind.i64) ∧
  (((0 : Int) ≤ (if (100 : Int) < ((List.length l) : Int) then (100 : Int) else ((List.length l) : Int))) ∧ ((if (100 : Int) < ((List.length l) : Int) then (100 : Int) else ((List.length l) : Int)) ≤ ((List.length l) : Int))) ∧
  q (AV.d (.sl (List.take (Int.toNat (if (100 : Int) < ((List.length l) : Int) then (100 : Int) else ((List.length l) : Int))) l)))) := by kernel_rfl
theorem rNw (q : AV → List Ob → Prop) :
  (aCode Tryz.K [] Tryz.b10 (kRetF Tryz.K Tryz.f10.results.toList q) ⟨[] ++ List.replicate (Tryz.f10.ntmps) .jk, []⟩) = (
  q (AV.rf 0 0) [Ob.box [AV.nl, mkI .i64 0, mkB false, mkI .i64 0]]) := by kernel_rfl
def FFew : List AV → Option (Prop × AV) := fun al => match al with
  | [.d (.sl l)] => some (True, .d (.sl (l.take 100)))
  | _ => none
def ENw : List AV → (AV → List Ob → Prop) → Prop := fun al q => al = [] ∧ q (.rf 0 0) [.box [.nl, mkI .i64 0, mkB false, mkI .i64 0]]
noncomputable abbrev GSt : List (FuncId × En) := [(8, .det FLv), (9, .det FFew), (10, .full (newE ENw)), (11, .ref (frameE ETk2)), (14, .ref (frameE EDp))]
noncomputable def rSt_k0 (q : AV → Prop) : Kont := kBlk (0 : Nat) (kSeq (aCode Tryz.K GSt (cAt [1, 1, 1, 1, 1, 1, 1] Tryz.b4) (kRet Tryz.K (Array.toList (Func.results Tryz.f4)) q)) (kRet Tryz.K (Array.toList (Func.results Tryz.f4)) q))
theorem rSt (L : List (List D)) (q : AV → Prop) :
  (aCode Tryz.K GSt Tryz.b4 (kRet Tryz.K Tryz.f4.results.toList q) ⟨[.d (.sl L)] ++ List.replicate (Tryz.f4.ntmps - 1) .jk, []⟩) = (
  True ∧
  True ∧
  (([] : List AV) = []) ∧
  ALoop (aCode Tryz.K GSt (cAt [1, 1, 1, 1, 1, 1, 0, 1, 0, 0] Tryz.b4)) (rSt_k0 q) ⟨[AV.d (.sl (List.take (100 : Nat) L)), AV.jk, mkB false, AV.rf (0 + 0) 0, AV.d (D.v (.pointer Option.none)), mkI .i64 0, mkI .i64 0, AV.jk, AV.jk, AV.jk, AV.jk, AV.jk, AV.jk, AV.jk, mkB true, mkB false, AV.d (.sl L), AV.d (.sl (List.take (100 : Nat) L)), AV.rf (0 + 0) 0] ++ (jks 80), [Ob.box [AV.nl, mkI .i64 0, mkB false, mkI .i64 0]]⟩) := by kernel_rfl
def stSt (L : List (List D)) (i first : Int) (s : St) : S := ⟨[.d (.sl L), .jk, .jk, .rf 0 0, .d (.v (.pointer none)), mkI .i64 first, mkI .i64 i] ++ jks 92, [.bun (repOf (bldL s))]⟩
def mSt : List Bool := maskOf (stSt [] 0 0 ⟨[], 0, false, 0⟩)
theorem rSt_b {ι : Type} (st : ι → S) (inv : ι → Prop) (μ : ι → Nat) (k : ι) (L : List (List D)) (i first : Int) (s : St) (q : AV → Prop) :
  (aCode Tryz.K GSt (cAt [1, 1, 1, 1, 1, 1, 0, 1, 0, 0] Tryz.b4) (kFamM [] mSt st inv μ k (rSt_k0 q)) (stSt L i first s)) = (
  ((List.length L) ≤ LIM) →
  bcase (decide (i < ((List.length L) : Int))) (
   (((0 : Int) ≤ i) ∧ (i < ((List.length L) : Int))) ∧
   ((List.length (List.getD L (Int.toNat i) [])) = 4) ∧
   ((1 : Nat) ≤ (List.length (List.drop 0 (List.getD L (Int.toNat i) [])))) ∧
   ((List.getD (List.drop 0 (List.getD L (Int.toNat i) [])) 0 d0) = (D.v (.int IntKind.i64 (intD (List.getD (List.drop 0 (List.getD L (Int.toNat i) [])) 0 d0))))) ∧
   (((0 : Int) ≤ i) ∧ (i < ((List.length L) : Int))) ∧
   ((List.length (List.getD L (Int.toNat i) [])) = 4) ∧
   ((1 : Nat) ≤ (List.length (List.drop 1 (List.getD L (Int.toNat i) [])))) ∧
   ((List.getD (List.drop 1 (List.getD L (Int.toNat i) [])) 0 d0) = (D.v (.string (strD (List.getD (List.drop 1 (List.getD L (Int.toNat i) [])) 0 d0))))) ∧
   (((0 : Int) ≤ i) ∧ (i < ((List.length L) : Int))) ∧
   ((List.length (List.getD L (Int.toNat i) [])) = 4) ∧
   ((1 : Nat) ≤ (List.length (List.drop 2 (List.getD L (Int.toNat i) [])))) ∧
   ((List.getD (List.drop 2 (List.getD L (Int.toNat i) [])) 0 d0) = (D.sl (slD (List.getD (List.drop 2 (List.getD L (Int.toNat i) [])) 0 d0)))) ∧
   (((0 : Int) ≤ i) ∧ (i < ((List.length L) : Int))) ∧
   ((List.length (List.getD L (Int.toNat i) [])) = 4) ∧
   ((1 : Nat) ≤ (List.length (List.drop 3 (List.getD L (Int.toNat i) [])))) ∧
   ((List.getD (List.drop 3 (List.getD L (Int.toNat i) [])) 0 d0) = (D.v (.string (strD (List.getD (List.drop 3 (List.getD L (Int.toNat i) [])) 0 d0))))) ∧
   (∃ (s_1 : St), ∃ (t : TokA), ((AV.ag [mkI .i64 (intD (List.getD (List.drop 0 (List.getD L (Int.toNat i) [])) 0 d0)), mkS (strD (List.getD (List.drop 1 (List.getD L (Int.toNat i) [])) 0 d0)), AV.d (.sl (slD (List.getD (List.drop 2 (List.getD L (Int.toNat i) [])) 0 d0))), mkS (strD (List.getD (List.drop 3 (List.getD L (Int.toNat i) [])) 0 d0))]) = (AV.ag [mkI .i64 (TokA.kind t), mkS (TokA.name t), AV.d (.sl (TokA.attrs t)), mkS (TokA.text t)])) ∧ (([Ob.bun (repOf (List.cons (Ob.box [AV.vw 1 (List.length (St.op s)), mkI .i64 (St.cnt s), mkB (St.ov s), mkI .i64 (St.err s)]) (List.cons (Ob.pow (refsE (2 : Nat) (St.op s))) (bldE (2 : Nat) (St.op s))))), Ob.gh [AV.rf 0 0]] = [Ob.bun (repOf (List.cons (Ob.box [AV.vw 1 (List.length (St.op s_1)), mkI .i64 (St.cnt s_1), mkB (St.ov s_1), mkI .i64 (St.err s_1)]) (List.cons (Ob.pow (refsE (2 : Nat) (St.op s_1))) (bldE (2 : Nat) (St.op s_1))))), Ob.gh [AV.rf 0 0]]) ∧ ((OkT s_1 t) ∧ (∀ (s' : St), ∀ (ev : Ev), ∀ (ok : Bool), ∀ (e : Int), ∀ (k_1 : Int), ∀ (n : ByteArray), ∀ (a : List (List D)), ∀ (tx : ByteArray), ∀ (ks : List (List D)), (Took s_1 t s' ev ok e k_1 n a tx ks) → ((Option.some (Ob.gh [AV.rf 0 0])) = (Option.some (Ob.gh [AV.rf 0 0]))) ∧ (∃ (t_1 : TokA), ((AV.ag [mkI .i64 (intD (List.getD (List.drop 0 (List.getD L (Int.toNat i) [])) 0 d0)), mkS (strD (List.getD (List.drop 1 (List.getD L (Int.toNat i) [])) 0 d0)), AV.d (.sl (slD (List.getD (List.drop 2 (List.getD L (Int.toNat i) [])) 0 d0))), mkS (strD (List.getD (List.drop 3 (List.getD L (Int.toNat i) [])) 0 d0))]) = (AV.ag [mkI .i64 (TokA.kind t_1), mkS (TokA.name t_1), AV.d (.sl (TokA.attrs t_1)), mkS (TokA.text t_1)])) ∧ (([Ob.gh []] = [Ob.gh []]) ∧ (((Option.some (Ob.gh [])) = (Option.some (Ob.gh []))) ∧ (bcase (e != (0 : Int)) (bcase ok (q (mkB false)) (bcase (first != (0 : Int)) (bcase (e != first) (q (mkB false)) (FamNext st inv μ k ⟨[AV.d (.sl L), AV.jk, AV.jk, AV.rf 0 0, AV.d (D.v (.pointer Option.none)), mkI .i64 e, mkI .i64 (IntKind.wrap .i64 (i + (1 : Int)))] ++ (jks 92), [Ob.bun (repOf (List.cons (Ob.box [AV.vw 1 (List.length (St.op s')), mkI .i64 (St.cnt s'), mkB (St.ov s'), mkI .i64 (St.err s')]) (List.cons (Ob.pow (refsE (2 : Nat) (St.op s'))) (bldE (2 : Nat) (St.op s'))))), Ob.box [mkI .i64 (intD (List.getD (List.drop 0 (List.getD L (Int.toNat i) [])) 0 d0)), mkS (strD (List.getD (List.drop 1 (List.getD L (Int.toNat i) [])) 0 d0)), AV.d (.sl (slD (List.getD (List.drop 2 (List.getD L (Int.toNat i) [])) 0 d0))), mkS (strD (List.getD (List.drop 3 (List.getD L (Int.toNat i) [])) 0 d0))], Ob.gone, Ob.gone, Ob.box [mkI .i64 k_1, mkS n, AV.d (.sl a), mkS tx, AV.d (.sl ks)], Ob.gone, Ob.gone, Ob.box [mkI .i64 0, mkS ⟨#[]⟩, AV.d (.sl []), mkS ⟨#[]⟩, AV.d (.sl [])]]⟩)) (FamNext st inv μ k ⟨[AV.d (.sl L), AV.jk, AV.jk, AV.rf 0 0, AV.d (D.v (.pointer Option.none)), mkI .i64 e, mkI .i64 (IntKind.wrap .i64 (i + (1 : Int)))] ++ (jks 92), [Ob.bun (repOf (List.cons (Ob.box [AV.vw 1 (List.length (St.op s')), mkI .i64 (St.cnt s'), mkB (St.ov s'), mkI .i64 (St.err s')]) (List.cons (Ob.pow (refsE (2 : Nat) (St.op s'))) (bldE (2 : Nat) (St.op s'))))), Ob.box [mkI .i64 (intD (List.getD (List.drop 0 (List.getD L (Int.toNat i) [])) 0 d0)), mkS (strD (List.getD (List.drop 1 (List.getD L (Int.toNat i) [])) 0 d0)), AV.d (.sl (slD (List.getD (List.drop 2 (List.getD L (Int.toNat i) [])) 0 d0))), mkS (strD (List.getD (List.drop 3 (List.getD L (Int.toNat i) [])) 0 d0))], Ob.gone, Ob.gone, Ob.box [mkI .i64 k_1, mkS n, AV.d (.sl a), mkS tx, AV.d (.sl ks)], Ob.gone, Ob.gone, Ob.box [mkI .i64 0, mkS ⟨#[]⟩, AV.d (.sl []), mkS ⟨#[]⟩, AV.d (.sl [])]]⟩))) (bcase (first != (0 : Int)) (bcase (e != first) (q (mkB false)) (FamNext st inv μ k ⟨[AV.d (.sl L), AV.jk, AV.jk, AV.rf 0 0, AV.d (D.v (.pointer Option.none)), mkI .i64 e, mkI .i64 (IntKind.wrap .i64 (i + (1 : Int)))] ++ (jks 92), [Ob.bun (repOf (List.cons (Ob.box [AV.vw 1 (List.length (St.op s')), mkI .i64 (St.cnt s'), mkB (St.ov s'), mkI .i64 (St.err s')]) (List.cons (Ob.pow (refsE (2 : Nat) (St.op s'))) (bldE (2 : Nat) (St.op s'))))), Ob.box [mkI .i64 (intD (List.getD (List.drop 0 (List.getD L (Int.toNat i) [])) 0 d0)), mkS (strD (List.getD (List.drop 1 (List.getD L (Int.toNat i) [])) 0 d0)), AV.d (.sl (slD (List.getD (List.drop 2 (List.getD L (Int.toNat i) [])) 0 d0))), mkS (strD (List.getD (List.drop 3 (List.getD L (Int.toNat i) [])) 0 d0))], Ob.gone, Ob.gone, Ob.box [mkI .i64 k_1, mkS n, AV.d (.sl a), mkS tx, AV.d (.sl ks)], Ob.gone, Ob.gone, Ob.box [mkI .i64 0, mkS ⟨#[]⟩, AV.d (.sl []), mkS ⟨#[]⟩, AV.d (.sl [])]]⟩)) (FamNext st inv μ k ⟨[AV.d (.sl L), AV.jk, AV.jk, AV.rf 0 0, AV.d (D.v (.pointer Option.none)), mkI .i64 e, mkI .i64 (IntKind.wrap .i64 (i + (1 : Int)))] ++ (jks 92), [Ob.bun (repOf (List.cons (Ob.box [AV.vw 1 (List.length (St.op s')), mkI .i64 (St.cnt s'), mkB (St.ov s'), mkI .i64 (St.err s')]) (List.cons (Ob.pow (refsE (2 : Nat) (St.op s'))) (bldE (2 : Nat) (St.op s'))))), Ob.box [mkI .i64 (intD (List.getD (List.drop 0 (List.getD L (Int.toNat i) [])) 0 d0)), mkS (strD (List.getD (List.drop 1 (List.getD L (Int.toNat i) [])) 0 d0)), AV.d (.sl (slD (List.getD (List.drop 2 (List.getD L (Int.toNat i) [])) 0 d0))), mkS (strD (List.getD (List.drop 3 (List.getD L (Int.toNat i) [])) 0 d0))], Ob.gone, Ob.gone, Ob.box [mkI .i64 k_1, mkS n, AV.d (.sl a), mkS tx, AV.d (.sl ks)], Ob.gone, Ob.gone, Ob.box [mkI .i64 0, mkS ⟨#[]⟩, AV.d (.sl []), mkS ⟨#[]⟩, AV.d (.sl [])]]⟩)))))))))) ∧ (
    ∃ (s_1 : St),
    ∃ (t : TokA),
    ((AV.ag [mkI .i64 (intD (List.getD (List.drop 0 (List.getD L (Int.toNat i) [])) 0 d0)), mkS (strD (List.getD (List.drop 1 (List.getD L (Int.toNat i) [])) 0 d0)), AV.d (.sl (slD (List.getD (List.drop 2 (List.getD L (Int.toNat i) [])) 0 d0))), mkS (strD (List.getD (List.drop 3 (List.getD L (Int.toNat i) [])) 0 d0))]) = (AV.ag [mkI .i64 (TokA.kind t), mkS (TokA.name t), AV.d (.sl (TokA.attrs t)), mkS (TokA.text t)])) ∧
    ([Ob.bun (repOf (List.cons (Ob.box [AV.vw 1 (List.length (St.op s)), mkI .i64 (St.cnt s), mkB (St.ov s), mkI .i64 (St.err s)]) (List.cons (Ob.pow (refsE (2 : Nat) (St.op s))) (bldE (2 : Nat) (St.op s))))), Ob.gh [AV.rf 0 0]] = [Ob.bun (repOf (List.cons (Ob.box [AV.vw 1 (List.length (St.op s_1)), mkI .i64 (St.cnt s_1), mkB (St.ov s_1), mkI .i64 (St.err s_1)]) (List.cons (Ob.pow (refsE (2 : Nat) (St.op s_1))) (bldE (2 : Nat) (St.op s_1))))), Ob.gh [AV.rf 0 0]]) ∧
    (OkT s_1 t) ∧ (
     ∀ (s' : St),
     ∀ (ev : Ev),
     ∀ (ok : Bool),
     ∀ (e : Int),
     ∀ (k_1 : Int),
     ∀ (n : ByteArray),
     ∀ (a : List (List D)),
     ∀ (tx : ByteArray),
     ∀ (ks : List (List D)),
     (Took s_1 t s' ev ok e k_1 n a tx ks) →
     ((Option.some (Ob.gh [AV.rf 0 0])) = (Option.some (Ob.gh [AV.rf 0 0]))) ∧ (
      ∃ (t_1 : TokA),
      ((AV.ag [mkI .i64 (intD (List.getD (List.drop 0 (List.getD L (Int.toNat i) [])) 0 d0)), mkS (strD (List.getD (List.drop 1 (List.getD L (Int.toNat i) [])) 0 d0)), AV.d (.sl (slD (List.getD (List.drop 2 (List.getD L (Int.toNat i) [])) 0 d0))), mkS (strD (List.getD (List.drop 3 (List.getD L (Int.toNat i) [])) 0 d0))]) = (AV.ag [mkI .i64 (TokA.kind t_1), mkS (TokA.name t_1), AV.d (.sl (TokA.attrs t_1)), mkS (TokA.text t_1)])) ∧
      ([Ob.gh []] = [Ob.gh []]) ∧
      ((Option.some (Ob.gh [])) = (Option.some (Ob.gh []))) ∧
      bcase (e != (0 : Int)) (
       bcase ok (
        q (mkB false)) (
        bcase (first != (0 : Int)) (
         bcase (e != first) (
          q (mkB false)) (
          FamNext st inv μ k ⟨[AV.d (.sl L), AV.jk, AV.jk, AV.rf 0 0, AV.d (D.v (.pointer Option.none)), mkI .i64 e, mkI .i64 (IntKind.wrap .i64 (i + (1 : Int)))] ++ (jks 92), [Ob.bun (repOf (List.cons (Ob.box [AV.vw 1 (List.length (St.op s')), mkI .i64 (St.cnt s'), mkB (St.ov s'), mkI .i64 (St.err s')]) (List.cons (Ob.pow (refsE (2 : Nat) (St.op s'))) (bldE (2 : Nat) (St.op s'))))), Ob.box [mkI .i64 (intD (List.getD (List.drop 0 (List.getD L (Int.toNat i) [])) 0 d0)), mkS (strD (List.getD (List.drop 1 (List.getD L (Int.toNat i) [])) 0 d0)), AV.d (.sl (slD (List.getD (List.drop 2 (List.getD L (Int.toNat i) [])) 0 d0))), mkS (strD (List.getD (List.drop 3 (List.getD L (Int.toNat i) [])) 0 d0))], Ob.gone, Ob.gone, Ob.box [mkI .i64 k_1, mkS n, AV.d (.sl a), mkS tx, AV.d (.sl ks)], Ob.gone, Ob.gone, Ob.box [mkI .i64 0, mkS ⟨#[]⟩, AV.d (.sl []), mkS ⟨#[]⟩, AV.d (.sl [])]]⟩)) (
         FamNext st inv μ k ⟨[AV.d (.sl L), AV.jk, AV.jk, AV.rf 0 0, AV.d (D.v (.pointer Option.none)), mkI .i64 e, mkI .i64 (IntKind.wrap .i64 (i + (1 : Int)))] ++ (jks 92), [Ob.bun (repOf (List.cons (Ob.box [AV.vw 1 (List.length (St.op s')), mkI .i64 (St.cnt s'), mkB (St.ov s'), mkI .i64 (St.err s')]) (List.cons (Ob.pow (refsE (2 : Nat) (St.op s'))) (bldE (2 : Nat) (St.op s'))))), Ob.box [mkI .i64 (intD (List.getD (List.drop 0 (List.getD L (Int.toNat i) [])) 0 d0)), mkS (strD (List.getD (List.drop 1 (List.getD L (Int.toNat i) [])) 0 d0)), AV.d (.sl (slD (List.getD (List.drop 2 (List.getD L (Int.toNat i) [])) 0 d0))), mkS (strD (List.getD (List.drop 3 (List.getD L (Int.toNat i) [])) 0 d0))], Ob.gone, Ob.gone, Ob.box [mkI .i64 k_1, mkS n, AV.d (.sl a), mkS tx, AV.d (.sl ks)], Ob.gone, Ob.gone, Ob.box [mkI .i64 0, mkS ⟨#[]⟩, AV.d (.sl []), mkS ⟨#[]⟩, AV.d (.sl [])]]⟩))) (
       bcase (first != (0 : Int)) (
        bcase (e != first) (
         q (mkB false)) (
         FamNext st inv μ k ⟨[AV.d (.sl L), AV.jk, AV.jk, AV.rf 0 0, AV.d (D.v (.pointer Option.none)), mkI .i64 e, mkI .i64 (IntKind.wrap .i64 (i + (1 : Int)))] ++ (jks 92), [Ob.bun (repOf (List.cons (Ob.box [AV.vw 1 (List.length (St.op s')), mkI .i64 (St.cnt s'), mkB (St.ov s'), mkI .i64 (St.err s')]) (List.cons (Ob.pow (refsE (2 : Nat) (St.op s'))) (bldE (2 : Nat) (St.op s'))))), Ob.box [mkI .i64 (intD (List.getD (List.drop 0 (List.getD L (Int.toNat i) [])) 0 d0)), mkS (strD (List.getD (List.drop 1 (List.getD L (Int.toNat i) [])) 0 d0)), AV.d (.sl (slD (List.getD (List.drop 2 (List.getD L (Int.toNat i) [])) 0 d0))), mkS (strD (List.getD (List.drop 3 (List.getD L (Int.toNat i) [])) 0 d0))], Ob.gone, Ob.gone, Ob.box [mkI .i64 k_1, mkS n, AV.d (.sl a), mkS tx, AV.d (.sl ks)], Ob.gone, Ob.gone, Ob.box [mkI .i64 0, mkS ⟨#[]⟩, AV.d (.sl []), mkS ⟨#[]⟩, AV.d (.sl [])]]⟩)) (
        FamNext st inv μ k ⟨[AV.d (.sl L), AV.jk, AV.jk, AV.rf 0 0, AV.d (D.v (.pointer Option.none)), mkI .i64 e, mkI .i64 (IntKind.wrap .i64 (i + (1 : Int)))] ++ (jks 92), [Ob.bun (repOf (List.cons (Ob.box [AV.vw 1 (List.length (St.op s')), mkI .i64 (St.cnt s'), mkB (St.ov s'), mkI .i64 (St.err s')]) (List.cons (Ob.pow (refsE (2 : Nat) (St.op s'))) (bldE (2 : Nat) (St.op s'))))), Ob.box [mkI .i64 (intD (List.getD (List.drop 0 (List.getD L (Int.toNat i) [])) 0 d0)), mkS (strD (List.getD (List.drop 1 (List.getD L (Int.toNat i) [])) 0 d0)), AV.d (.sl (slD (List.getD (List.drop 2 (List.getD L (Int.toNat i) [])) 0 d0))), mkS (strD (List.getD (List.drop 3 (List.getD L (Int.toNat i) [])) 0 d0))], Ob.gone, Ob.gone, Ob.box [mkI .i64 k_1, mkS n, AV.d (.sl a), mkS tx, AV.d (.sl ks)], Ob.gone, Ob.gone, Ob.box [mkI .i64 0, mkS ⟨#[]⟩, AV.d (.sl []), mkS ⟨#[]⟩, AV.d (.sl [])]]⟩)))))) (
   ([Ob.gh []] = [Ob.gh []]) ∧
   ((Option.some (Ob.gh [])) = (Option.some (Ob.gh []))) ∧
   bcase (first == (0 : Int)) (
    ∃ (s_1 : St),
    ([Ob.bun (repOf (List.cons (Ob.box [AV.vw 1 (List.length (St.op s)), mkI .i64 (St.cnt s), mkB (St.ov s), mkI .i64 (St.err s)]) (List.cons (Ob.pow (refsE (2 : Nat) (St.op s))) (bldE (2 : Nat) (St.op s))))), Ob.gh [AV.rf 0 0]] = [Ob.bun (repOf (List.cons (Ob.box [AV.vw 1 (List.length (St.op s_1)), mkI .i64 (St.cnt s_1), mkB (St.ov s_1), mkI .i64 (St.err s_1)]) (List.cons (Ob.pow (refsE (2 : Nat) (St.op s_1))) (bldE (2 : Nat) (St.op s_1))))), Ob.gh [AV.rf 0 0]]) ∧
    ((List.length (St.op s_1)) ≤ (5 : Nat)) ∧
    ((Option.some (Ob.gh [AV.rf 0 0])) = (Option.some (Ob.gh [AV.rf 0 0]))) ∧
    q (mkB (decide ((depM s_1) ≤ (5 : Int))))) (
    ∃ (s_1 : St),
    ([Ob.bun (repOf (List.cons (Ob.box [AV.vw 1 (List.length (St.op s)), mkI .i64 (St.cnt s), mkB (St.ov s), mkI .i64 (St.err s)]) (List.cons (Ob.pow (refsE (2 : Nat) (St.op s))) (bldE (2 : Nat) (St.op s))))), Ob.gh [AV.rf 0 0]] = [Ob.bun (repOf (List.cons (Ob.box [AV.vw 1 (List.length (St.op s_1)), mkI .i64 (St.cnt s_1), mkB (St.ov s_1), mkI .i64 (St.err s_1)]) (List.cons (Ob.pow (refsE (2 : Nat) (St.op s_1))) (bldE (2 : Nat) (St.op s_1))))), Ob.gh [AV.rf 0 0]]) ∧
    ((List.length (St.op s_1)) ≤ (5 : Nat)) ∧
    ((Option.some (Ob.gh [AV.rf 0 0])) = (Option.some (Ob.gh [AV.rf 0 0]))) ∧
    bcase ((depM s_1) == (0 : Int)) (
     ∃ (s_2 : St),
     ([Ob.bun (repOf (List.cons (Ob.box [AV.vw 1 (List.length (St.op s_1)), mkI .i64 (St.cnt s_1), mkB (St.ov s_1), mkI .i64 (St.err s_1)]) (List.cons (Ob.pow (refsE (2 : Nat) (St.op s_1))) (bldE (2 : Nat) (St.op s_1))))), Ob.gh [AV.rf 0 0]] = [Ob.bun (repOf (List.cons (Ob.box [AV.vw 1 (List.length (St.op s_2)), mkI .i64 (St.cnt s_2), mkB (St.ov s_2), mkI .i64 (St.err s_2)]) (List.cons (Ob.pow (refsE (2 : Nat) (St.op s_2))) (bldE (2 : Nat) (St.op s_2))))), Ob.gh [AV.rf 0 0]]) ∧
     ((List.length (St.op s_2)) ≤ (5 : Nat)) ∧
     ((Option.some (Ob.gh [AV.rf 0 0])) = (Option.some (Ob.gh [AV.rf 0 0]))) ∧
     q (mkB (decide ((depM s_2) ≤ (5 : Int))))) (
     q (mkB false))))) := by kernel_rfl
theorem cFew : PSound Tryz.prog 9 (detE FFew) := by
  refine det_fn (c := Tryz.b9) mixed Tryz.K_ok gsound_nil Tryz.func9 rfl rfl Tryz.call9 fun al p r q hF hp hq => ?_
  unfold FFew at hF; split at hF <;> cases hF
  rename_i l
  refine cast (rFew l q).symm fun hl => ⟨rfl, ?_, ?_⟩
  · split <;> omega
  · have e : l.take (Int.toNat (if (100 : Int) < (l.length : Int) then (100 : Int) else (l.length : Int))) = l.take 100 := by
      split
      · rfl
      · rename_i h
        rw [Int.toNat_natCast, List.take_length, List.take_of_length_le (by omega)]
    rw [e]; exact hq
theorem cNw : ESound Tryz.prog 10 (newE ENw) := by
  refine new_fn (c := Tryz.b10) mixed Tryz.K_ok gsound_nil Tryz.func10 rfl rfl Tryz.call10 fun al q ⟨h, hq⟩ => ?_
  subst h
  exact cast (rNw _).symm hq
theorem gSt : GSound Tryz.prog GSt := gsound_det cLv (gsound_det cFew (gsound_full cNw (gsound_ref (RSound.frame cTk2) (gsound_ref (RSound.frame cDep) gsound_nil))))
theorem weak_nw (t : List AV) (e : S.packG [some 0] (S.bundle 0 [1] ⟨t, openPow 0 0 [.box [.nl, mkI .i64 0, mkB false, mkI .i64 0]]⟩) = ⟨t, [.bun (repOf (bldL ⟨[], 0, false, 0⟩))]⟩) : Weak ⟨t, [.box [.nl, mkI .i64 0, mkB false, mkI .i64 0]]⟩ ⟨t, [.bun (repOf (bldL ⟨[], 0, false, 0⟩))]⟩ :=
  (weak_openP ⟨t, _⟩ 0 0).trans ((weak_bun (s := ⟨t, openPow 0 0 [.box [.nl, mkI .i64 0, mkB false, mkI .i64 0]]⟩) (i := 0) (js := [1]) rfl rfl rfl).trans (e ▸ weak_packG [some 0] rfl))
def FSt : List AV → Option (Prop × AV) := fun al => match al with
  | [.d (.sl L)] => some (∃ l : List TokA, L = l.map tokC ∧ ∀ t ∈ l, TkF t, mkB true)
  | _ => none
theorem cSt : PSound Tryz.prog 4 (detE FSt) := by
  refine det_fn (c := Tryz.b4) mixed Tryz.K_ok gSt Tryz.func4 rfl rfl Tryz.call4 fun al p r q hF hp hq => ?_
  unfold FSt at hF; split at hF <;> cases hF
  obtain ⟨l0, rfl, hl0⟩ := hp
  refine cast (rSt _ q).symm ⟨trivial, trivial, rfl, ?_⟩
  obtain ⟨l, hle⟩ : ∃ l, l0.take 100 = l := ⟨_, rfl⟩
  have hlen : l.length ≤ 100 := by rw [← hle]; simp; omega
  have hl : ∀ t ∈ l, TkF t := fun t ht => hl0 t (List.mem_of_mem_take (hle ▸ ht))
  have hL : (l0.map tokC).take 100 = l.map tokC := by rw [← List.map_take, hle]
  rw [hL]
  obtain ⟨L, hLe⟩ : ∃ L, l.map tokC = L := ⟨_, rfl⟩
  have hLl : L.length = l.length := by rw [← hLe]; simp
  rw [hLe]
  refine ALoop.weak _ (weak_nw _ (by kernel_rfl)) ?_
  refine ALoop.introM [] mSt (fun x : Nat × St => stSt L x.1 x.2.err x.2) (fun x => x.1 ≤ l.length ∧ GdL x.2.op (x.1 * 1048576)) (fun x => l.length - x.1) ⟨[], (0, ⟨[], 0, false, 0⟩), by simp [S.le, sealAll, leL, jks, stSt], Nat.zero_le _, .nil _⟩ fun x ⟨hi, hg⟩ => ?_
  obtain ⟨i, s⟩ := x
  simp only at hi hg
  refine cast (rSt_b _ _ _ _ L (i : Int) s.err s q).symm fun hLim => ?_
  rw [hLl]
  refine bcase_dec (fun h => ?_) (fun h => ?_)
  · have hlt : i < l.length := by omega
    obtain ⟨t, ht⟩ : ∃ t, l[i]'hlt = t := ⟨_, rfl⟩
    have htf : TkF t := hl t (ht ▸ List.getElem_mem hlt)
    have hget : L.getD (Int.toNat (i : Int)) [] = tokC t := by
      rw [← hLe, Int.toNat_natCast, List.getD_eq_getElem?_getD, List.getElem?_map, List.getElem?_eq_getElem hlt, ht]; rfl
    rw [hget]
    have hr : (0 : Int) ≤ i ∧ (i : Int) < l.length := by omega
    have hok : OkT s t := okT_of hg htf.len2 htf.tx (by unfold LIM; omega)
    have next : ∀ (s' : St) (ev : Ev) (ok : Bool) (e : Int), takeM s t = (s', ev, ok, e) → GdL s'.op ((i + 1) * 1048576) ∧ e = s'.err ∧ (ok = true → e = 0) ∧ (s.err ≠ 0 → e = s.err) := fun s' ev ok e he => by
      have h1 := gd_take (t := t) hg htf.tx
      have h2 := takeM_e s t
      have h3 := takeM_ok s t
      have h4 := takeM_err s t
      rw [he] at h1 h2 h3 h4
      refine ⟨h1.mono (by omega), h2, h3, fun hn => ?_⟩
      have := h4 hn
      simp only [Prod.mk.injEq] at this
      exact this.2.2.2
    refine ⟨hr, rfl, by simp [tokC], rfl, hr, rfl, by simp [tokC], rfl, hr, rfl, by simp [tokC], rfl, hr, rfl, by simp [tokC], rfl, ?_, ?_⟩
    all_goals
      refine ⟨s, t, rfl, rfl, hok, fun s' ev ok e k n a tx ks hT => ⟨rfl, t, rfl, rfl, rfl, ?_⟩⟩
      obtain ⟨n1, rfl, n3, n4⟩ := next s' ev ok e hT.eq
      have fin : ∀ {st inv μ k s1}, Weak s1 (stSt L ((i + 1 : Nat) : Int) s'.err s') → st = (fun x : Nat × St => stSt L x.1 x.2.err x.2) → inv = (fun x : Nat × St => x.1 ≤ l.length ∧ GdL x.2.op (x.1 * 1048576)) → μ = (fun x : Nat × St => l.length - x.1) → k = (i, s) → FamNext st inv μ k s1 := by
        rintro st inv μ k s1 hw rfl rfl rfl rfl
        exact .mkW (i + 1, s') hw ⟨hlt, n1⟩ (show l.length - (i + 1) < l.length - i by omega)
      rw [wrap_succ hlt (by unfold LIM; omega)]
      have pk : ∀ (s1 s2 : S), packGOK [some 0] s1.o = true → S.packG [some 0] s1 = s2 → Weak s1 s2 := fun s1 s2 h e => e ▸ weak_packG _ h
      refine bcase_mk (fun g => ?_) (fun g => ?_)
      · have hne : s'.err ≠ 0 := by simpa using g
        refine bcaseF (by cases ok; rfl; exact absurd (n3 rfl) hne) ?_
        refine bcase_mk (fun g2 => ?_) (fun g2 => ?_)
        · refine bcaseF (by rw [n4 (by simpa using g2)]; simp) ?_
          exact fin (pk _ _ rfl (by kernel_rfl)) rfl rfl rfl rfl
        · exact fin (pk _ _ rfl (by kernel_rfl)) rfl rfl rfl rfl
      · refine bcase_mk (fun g2 => ?_) (fun g2 => ?_)
        · refine bcaseF (by rw [n4 (by simpa using g2)]; simp) ?_
          exact fin (pk _ _ rfl (by kernel_rfl)) rfl rfl rfl rfl
        · exact fin (pk _ _ rfl (by kernel_rfl)) rfl rfl rfl rfl
  · have hd : depM s ≤ 5 := by
      have := hg.len
      unfold depM
      cases s.err != 0
      · simp only [cond_false]; omega
      · simp
    have hq5 : q (mkB (decide (depM s ≤ 5))) := by rw [decide_eq_true hd]; exact hq
    refine ⟨rfl, rfl, bcase_mk (fun g => ⟨s, rfl, hg.len, rfl, hq5⟩) (fun g => ⟨s, rfl, hg.len, rfl, ?_⟩)⟩
    have hne : (s.err != 0) = true := by simpa using g
    refine bcaseT (by unfold depM; rw [hne]; rfl) ⟨s, rfl, hg.len, rfl, hq5⟩
theorem hSt : ∀ as', TyArgs Tryz.prog Tryz.f4.params.toList as' → ∃ p, FSt as' = some (p, mkB true) ∧ p := by
  intro as' h
  rw [Tryz.params4] at h
  obtain ⟨a, rfl, ha⟩ := tyargs1 h
  obtain ⟨l, rfl, _, hl⟩ := arg_toks ha
  exact ⟨_, rfl, l, rfl, hl⟩
end Go.Proofs.YtchpfeblinnoiaaGreatDoor
