import Derived.Test.YthbejheedpdioaaDoorCrLives
import Derived.Test.YthbejheedpdioaaDoorCrTy
set_option linter.unusedSimpArgs false
set_option linter.unusedVariables false
namespace Go.Proofs.YthbejheedpdioaaDoor
open Go Go.AM Go.RowKit
set_option maxRecDepth 10000
attribute [local irreducible] aUnr aUnS aCode
noncomputable abbrev GCs : List (FuncId × En) := [(8, .det FLv), (9, .new ENw), (10, .ref (frameE EHe)), (12, .ref (frameE EUs)), (13, .ref (frameE EDv)), (15, .ref (frameE ECt)), (11, .ref (frameE EShow))]
theorem gCs : GSound Tryd.prog GCs := gsound_det cLives (gsound_new cNw (gsound_ref (RSound.frame (cHe_of cCnt)) (gsound_ref (RSound.frame cUs) (gsound_ref (RSound.frame cDv) (gsound_ref (RSound.frame cCt) (gsound_ref (RSound.frame cShow) gsound_nil))))))
noncomputable def rCs_k0 (q : AV → Prop) : Kont := kBlk (0 : Nat) (kSeq (aCode KS GCs (cAt [1, 1, 1, 1] Tryd.b4) (kRet KS (Array.toList (Func.results Tryd.f4)) q)) (kRet KS (Array.toList (Func.results Tryd.f4)) q))
theorem rCs (sl : List (List D)) (q : AV → Prop) :
  (aCode KS GCs Tryd.b4 (kRet KS Tryd.f4.results.toList q) ⟨[.d (.sl sl)] ++ List.replicate (Tryd.f4.ntmps - 1) .jk, []⟩) = (
  True ∧
  (([] : List AV) = []) ∧
  ALoop (aCode KS GCs (cAt [1, 1, 1, 0, 1, 0, 0] Tryd.b4)) (rCs_k0 q) ⟨[AV.d (.sl sl), AV.jk, mkB false, AV.rf (0 + 1) 0, mkI .i64 0] ++ (jks 10 ++ ([mkB true, mkB false, AV.rf (0 + 1) 0] ++ (jks 114))), [Ob.bun (famR (FamD.mk KK.str (Shp.map KK.str) [])), Ob.box [AV.mp (0 + 0)]]⟩) := by kernel_rfl
def stC1 (sl : List (List D)) (l : FLs) (i : Int) : S := ⟨[.d (.sl sl), .jk, mkB false, .rf 1 0, mkI .i64 i] ++ jks 127, [fobC l, .box [.mp 0]]⟩
noncomputable def rCs_b_k0 (q : AV → Prop) : Kont := kBlk (2 : Nat) (kSeq (aCode KS GCs (cAt [1, 1, 1, 1, 1, 1, 1] Tryd.b4) (kRet KS (Array.toList (Func.results Tryd.f4)) q)) (kRet KS (Array.toList (Func.results Tryd.f4)) q))
theorem rCs_b {ι : Type} (st : ι → S) (inv : ι → Prop) (μ : ι → Nat) (kk : ι) (sl : List (List D)) (l : FLs) (i : Int) (q : AV → Prop) :
  (aCode KS GCs (cAt [1, 1, 1, 0, 1, 0, 0] Tryd.b4) (kFamM [] (maskOf (stC1 sl l i)) st inv μ kk (rCs_k0 q)) (stC1 sl l i)) = (
  ((List.length sl) ≤ LIM) →
  bcase (decide (i < ((List.length sl) : Int))) (
   bcase (decide (i < (100 : Int))) (
    (((0 : Int) ≤ i) ∧ (i < ((List.length sl) : Int))) ∧
    ((List.length (List.getD sl (Int.toNat i) [])) = 12) ∧
    (12 ≤ (List.length (List.getD sl (Int.toNat i) []))) ∧
    (((List.getD (List.getD sl (Int.toNat i) []) 0 d0) = (D.v (.int IntKind.i64 (intD (List.getD (List.getD sl (Int.toNat i) []) 0 d0))))) ∧ (((List.getD (List.drop 1 (List.getD sl (Int.toNat i) [])) 0 d0) = (D.v (.string (strD (List.getD (List.drop 1 (List.getD sl (Int.toNat i) [])) 0 d0))))) ∧ (((List.getD (List.drop 1 (List.drop 1 (List.getD sl (Int.toNat i) []))) 0 d0) = (D.v (.string (strD (List.getD (List.drop 1 (List.drop 1 (List.getD sl (Int.toNat i) []))) 0 d0))))) ∧ (((List.getD (List.drop 1 (List.drop 1 (List.drop 1 (List.getD sl (Int.toNat i) [])))) 0 d0) = (D.v (.string (strD (List.getD (List.drop 1 (List.drop 1 (List.drop 1 (List.getD sl (Int.toNat i) [])))) 0 d0))))) ∧ (((List.getD (List.drop 1 (List.drop 1 (List.drop 1 (List.drop 1 (List.getD sl (Int.toNat i) []))))) 0 d0) = (D.v (.string (strD (List.getD (List.drop 1 (List.drop 1 (List.drop 1 (List.drop 1 (List.getD sl (Int.toNat i) []))))) 0 d0))))) ∧ (((List.getD (List.drop 1 (List.drop 1 (List.drop 1 (List.drop 1 (List.drop 1 (List.getD sl (Int.toNat i) [])))))) 0 d0) = (D.v (.string (strD (List.getD (List.drop 1 (List.drop 1 (List.drop 1 (List.drop 1 (List.drop 1 (List.getD sl (Int.toNat i) [])))))) 0 d0))))) ∧ (((List.getD (List.drop 1 (List.drop 1 (List.drop 1 (List.drop 1 (List.drop 1 (List.drop 1 (List.getD sl (Int.toNat i) []))))))) 0 d0) = (D.v (.string (strD (List.getD (List.drop 1 (List.drop 1 (List.drop 1 (List.drop 1 (List.drop 1 (List.drop 1 (List.getD sl (Int.toNat i) []))))))) 0 d0))))) ∧ (((List.getD (List.drop 1 (List.drop 1 (List.drop 1 (List.drop 1 (List.drop 1 (List.drop 1 (List.drop 1 (List.getD sl (Int.toNat i) [])))))))) 0 d0) = (D.v (.string (strD (List.getD (List.drop 1 (List.drop 1 (List.drop 1 (List.drop 1 (List.drop 1 (List.drop 1 (List.drop 1 (List.getD sl (Int.toNat i) [])))))))) 0 d0))))) ∧ (((List.getD (List.drop 1 (List.drop 1 (List.drop 1 (List.drop 1 (List.drop 1 (List.drop 1 (List.drop 1 (List.drop 1 (List.getD sl (Int.toNat i) []))))))))) 0 d0) = (D.v (.int IntKind.u32 (intD (List.getD (List.drop 1 (List.drop 1 (List.drop 1 (List.drop 1 (List.drop 1 (List.drop 1 (List.drop 1 (List.drop 1 (List.getD sl (Int.toNat i) []))))))))) 0 d0))))) ∧ (((List.getD (List.drop 1 (List.drop 1 (List.drop 1 (List.drop 1 (List.drop 1 (List.drop 1 (List.drop 1 (List.drop 1 (List.drop 1 (List.getD sl (Int.toNat i) [])))))))))) 0 d0) = (D.v (.int IntKind.i64 (intD (List.getD (List.drop 1 (List.drop 1 (List.drop 1 (List.drop 1 (List.drop 1 (List.drop 1 (List.drop 1 (List.drop 1 (List.drop 1 (List.getD sl (Int.toNat i) [])))))))))) 0 d0))))) ∧ (((List.getD (List.drop 1 (List.drop 1 (List.drop 1 (List.drop 1 (List.drop 1 (List.drop 1 (List.drop 1 (List.drop 1 (List.drop 1 (List.drop 1 (List.getD sl (Int.toNat i) []))))))))))) 0 d0) = (D.v (.bool (boolD (List.getD (List.drop 1 (List.drop 1 (List.drop 1 (List.drop 1 (List.drop 1 (List.drop 1 (List.drop 1 (List.drop 1 (List.drop 1 (List.drop 1 (List.getD sl (Int.toNat i) []))))))))))) 0 d0))))) ∧ (((List.getD (List.drop 1 (List.drop 1 (List.drop 1 (List.drop 1 (List.drop 1 (List.drop 1 (List.drop 1 (List.drop 1 (List.drop 1 (List.drop 1 (List.drop 1 (List.getD sl (Int.toNat i) [])))))))))))) 0 d0) = (D.sl (slD (List.getD (List.drop 1 (List.drop 1 (List.drop 1 (List.drop 1 (List.drop 1 (List.drop 1 (List.drop 1 (List.drop 1 (List.drop 1 (List.drop 1 (List.drop 1 (List.getD sl (Int.toNat i) [])))))))))))) 0 d0)))) ∧ True)))))))))))) ∧ (
     ∃ (l_1 : FLs),
     ∃ (kind : Int),
     ∃ (ty : ByteArray),
     ∃ (id : ByteArray),
     ∃ (fr : ByteArray),
     ∃ (to : ByteArray),
     ∃ (sh : ByteArray),
     ∃ (tok : ByteArray),
     ∃ (rea : ByteArray),
     ∃ (hh : Int),
     ∃ (ver : Int),
     ∃ (rem : Bool),
     ∃ (its : List (List D)),
     ([AV.rf 0 0, AV.ag [mkI .i64 (intD (List.getD (List.getD sl (Int.toNat i) []) 0 d0)), mkS (strD (List.getD (List.drop 1 (List.getD sl (Int.toNat i) [])) 0 d0)), mkS (strD (List.getD (List.drop 1 (List.drop 1 (List.getD sl (Int.toNat i) []))) 0 d0)), mkS (strD (List.getD (List.drop 1 (List.drop 1 (List.drop 1 (List.getD sl (Int.toNat i) [])))) 0 d0)), mkS (strD (List.getD (List.drop 1 (List.drop 1 (List.drop 1 (List.drop 1 (List.getD sl (Int.toNat i) []))))) 0 d0)), mkS (strD (List.getD (List.drop 1 (List.drop 1 (List.drop 1 (List.drop 1 (List.drop 1 (List.getD sl (Int.toNat i) [])))))) 0 d0)), mkS (strD (List.getD (List.drop 1 (List.drop 1 (List.drop 1 (List.drop 1 (List.drop 1 (List.drop 1 (List.getD sl (Int.toNat i) []))))))) 0 d0)), mkS (strD (List.getD (List.drop 1 (List.drop 1 (List.drop 1 (List.drop 1 (List.drop 1 (List.drop 1 (List.drop 1 (List.getD sl (Int.toNat i) [])))))))) 0 d0)), mkI .u32 (intD (List.getD (List.drop 1 (List.drop 1 (List.drop 1 (List.drop 1 (List.drop 1 (List.drop 1 (List.drop 1 (List.drop 1 (List.getD sl (Int.toNat i) []))))))))) 0 d0)), mkI .i64 (intD (List.getD (List.drop 1 (List.drop 1 (List.drop 1 (List.drop 1 (List.drop 1 (List.drop 1 (List.drop 1 (List.drop 1 (List.drop 1 (List.getD sl (Int.toNat i) [])))))))))) 0 d0)), mkB (boolD (List.getD (List.drop 1 (List.drop 1 (List.drop 1 (List.drop 1 (List.drop 1 (List.drop 1 (List.drop 1 (List.drop 1 (List.drop 1 (List.drop 1 (List.getD sl (Int.toNat i) []))))))))))) 0 d0)), AV.d (.sl (slD (List.getD (List.drop 1 (List.drop 1 (List.drop 1 (List.drop 1 (List.drop 1 (List.drop 1 (List.drop 1 (List.drop 1 (List.drop 1 (List.drop 1 (List.drop 1 (List.getD sl (Int.toNat i) [])))))))))))) 0 d0)))]] = [AV.rf 0 0, AV.ag [mkI .i64 kind, mkS ty, mkS id, mkS fr, mkS to, mkS sh, mkS tok, mkS rea, mkI .u32 hh, mkI .i64 ver, mkB rem, AV.d (.sl its)]]) ∧
     ([Ob.box [AV.mp (0 + 1)], Ob.bun (famR (FamD.mk KK.str (Shp.map KK.str) l)), Ob.gh [AV.rf 0 0]] = [Ob.box [AV.mp 1], Ob.bun (famR (FamD.mk KK.str (Shp.map KK.str) l_1)), Ob.gh [AV.rf 0 0]]) ∧
     (CrOk l_1) ∧
     ((cntL l_1) ≤ (1000 : Nat)) ∧
     ((ByteArray.size fr) ≤ SZC) ∧
     ((ByteArray.size sh) ≤ LIM) ∧ (
      ∀ (e : Int),
      ∀ (l' : FLs),
      (HeR l_1 kind ty fr sh e l') →
      ((Option.some (Ob.gh [AV.rf 0 0])) = (Option.some (Ob.gh [AV.rf 0 0]))) ∧
      (((0 : Int) ≤ i) ∧ (i < ((List.length sl) : Int))) ∧
      ((List.length (List.getD sl (Int.toNat i) [])) = 12) ∧
      ((1 : Nat) ≤ (List.length (List.drop 0 (List.getD sl (Int.toNat i) [])))) ∧
      ((List.getD (List.drop 0 (List.getD sl (Int.toNat i) [])) 0 d0) = (D.v (.int IntKind.i64 (intD (List.getD (List.drop 0 (List.getD sl (Int.toNat i) [])) 0 d0))))) ∧
      bcase ((intD (List.getD (List.drop 0 (List.getD sl (Int.toNat i) [])) 0 d0)) != (1 : Int)) (
       FamNext st inv μ kk ⟨[AV.d (.sl sl), AV.jk, mkB false, AV.rf 1 0, mkI .i64 (IntKind.wrap .i64 (i + (1 : Int)))] ++ (jks 127), [Ob.bun (famR (FamD.mk KK.str (Shp.map KK.str) l')), Ob.box [AV.mp (if 1 < 2 then 0 else 3 + (1 - 2))], Ob.gone, Ob.gone]⟩) (
       (((0 : Int) ≤ i) ∧ (i < ((List.length sl) : Int))) ∧
       ((List.length (List.getD sl (Int.toNat i) [])) = 12) ∧
       ((1 : Nat) ≤ (List.length (List.drop 1 (List.getD sl (Int.toNat i) [])))) ∧
       ((List.getD (List.drop 1 (List.getD sl (Int.toNat i) [])) 0 d0) = (D.v (.string (strD (List.getD (List.drop 1 (List.getD sl (Int.toNat i) [])) 0 d0))))) ∧
       bcase (!(decide ((strD (List.getD (List.drop 1 (List.getD sl (Int.toNat i) [])) 0 d0)) = ⟨#[]⟩))) (
        FamNext st inv μ kk ⟨[AV.d (.sl sl), AV.jk, mkB false, AV.rf 1 0, mkI .i64 (IntKind.wrap .i64 (i + (1 : Int)))] ++ (jks 127), [Ob.bun (famR (FamD.mk KK.str (Shp.map KK.str) l')), Ob.box [AV.mp (if 1 < 2 then 0 else 3 + (1 - 2))], Ob.gone, Ob.gone]⟩) (
        (((0 : Int) ≤ i) ∧ (i < ((List.length sl) : Int))) ∧
        ((List.length (List.getD sl (Int.toNat i) [])) = 12) ∧
        ((1 : Nat) ≤ (List.length (List.drop 3 (List.getD sl (Int.toNat i) [])))) ∧
        ((List.getD (List.drop 3 (List.getD sl (Int.toNat i) [])) 0 d0) = (D.v (.string (strD (List.getD (List.drop 3 (List.getD sl (Int.toNat i) [])) 0 d0))))) ∧ (
         ∃ (l_2 : FLs),
         ∃ (x : ByteArray),
         ([AV.rf 0 0, mkS (strD (List.getD (List.drop 3 (List.getD sl (Int.toNat i) [])) 0 d0))] = [AV.rf 0 0, mkS x]) ∧
         ([Ob.box [AV.mp (0 + 1)], Ob.bun (famR (FamD.mk KK.str (Shp.map KK.str) l')), Ob.gh [AV.rf 0 0]] = [Ob.box [AV.mp 1], Ob.bun (famR (FamD.mk KK.str (Shp.map KK.str) l_2)), Ob.gh [AV.rf 0 0]]) ∧
         (CrOk l_2) ∧
         ((ByteArray.size x) ≤ LIM) ∧
         ((Option.some (Ob.gh [AV.rf 0 0])) = (Option.some (Ob.gh [AV.rf 0 0]))) ∧
         bcase (hasK (Key.s (cutD x)) (devs l_2 (cutU x))) (
          (((0 : Int) ≤ i) ∧ (i < ((List.length sl) : Int))) ∧
          ((List.length (List.getD sl (Int.toNat i) [])) = 12) ∧
          ((1 : Nat) ≤ (List.length (List.drop 5 (List.getD sl (Int.toNat i) [])))) ∧
          ((List.getD (List.drop 5 (List.getD sl (Int.toNat i) [])) 0 d0) = (D.v (.string (strD (List.getD (List.drop 5 (List.getD sl (Int.toNat i) [])) 0 d0))))) ∧
          bcase (!(decide ((getS (Key.s (cutD x)) (devs l_2 (cutU x))) = (strD (List.getD (List.drop 5 (List.getD sl (Int.toNat i) [])) 0 d0))))) (
           (((0 : Int) ≤ i) ∧ (i < ((List.length sl) : Int))) ∧
           ((List.length (List.getD sl (Int.toNat i) [])) = 12) ∧
           (12 ≤ (List.length (List.getD sl (Int.toNat i) []))) ∧
           (((List.getD (List.getD sl (Int.toNat i) []) 0 d0) = (D.v (.int IntKind.i64 (intD (List.getD (List.getD sl (Int.toNat i) []) 0 d0))))) ∧ (((List.getD (List.drop 1 (List.getD sl (Int.toNat i) [])) 0 d0) = (D.v (.string (strD (List.getD (List.drop 1 (List.getD sl (Int.toNat i) [])) 0 d0))))) ∧ (((List.getD (List.drop 1 (List.drop 1 (List.getD sl (Int.toNat i) []))) 0 d0) = (D.v (.string (strD (List.getD (List.drop 1 (List.drop 1 (List.getD sl (Int.toNat i) []))) 0 d0))))) ∧ (((List.getD (List.drop 1 (List.drop 1 (List.drop 1 (List.getD sl (Int.toNat i) [])))) 0 d0) = (D.v (.string (strD (List.getD (List.drop 1 (List.drop 1 (List.drop 1 (List.getD sl (Int.toNat i) [])))) 0 d0))))) ∧ (((List.getD (List.drop 1 (List.drop 1 (List.drop 1 (List.drop 1 (List.getD sl (Int.toNat i) []))))) 0 d0) = (D.v (.string (strD (List.getD (List.drop 1 (List.drop 1 (List.drop 1 (List.drop 1 (List.getD sl (Int.toNat i) []))))) 0 d0))))) ∧ (((List.getD (List.drop 1 (List.drop 1 (List.drop 1 (List.drop 1 (List.drop 1 (List.getD sl (Int.toNat i) [])))))) 0 d0) = (D.v (.string (strD (List.getD (List.drop 1 (List.drop 1 (List.drop 1 (List.drop 1 (List.drop 1 (List.getD sl (Int.toNat i) [])))))) 0 d0))))) ∧ (((List.getD (List.drop 1 (List.drop 1 (List.drop 1 (List.drop 1 (List.drop 1 (List.drop 1 (List.getD sl (Int.toNat i) []))))))) 0 d0) = (D.v (.string (strD (List.getD (List.drop 1 (List.drop 1 (List.drop 1 (List.drop 1 (List.drop 1 (List.drop 1 (List.getD sl (Int.toNat i) []))))))) 0 d0))))) ∧ (((List.getD (List.drop 1 (List.drop 1 (List.drop 1 (List.drop 1 (List.drop 1 (List.drop 1 (List.drop 1 (List.getD sl (Int.toNat i) [])))))))) 0 d0) = (D.v (.string (strD (List.getD (List.drop 1 (List.drop 1 (List.drop 1 (List.drop 1 (List.drop 1 (List.drop 1 (List.drop 1 (List.getD sl (Int.toNat i) [])))))))) 0 d0))))) ∧ (((List.getD (List.drop 1 (List.drop 1 (List.drop 1 (List.drop 1 (List.drop 1 (List.drop 1 (List.drop 1 (List.drop 1 (List.getD sl (Int.toNat i) []))))))))) 0 d0) = (D.v (.int IntKind.u32 (intD (List.getD (List.drop 1 (List.drop 1 (List.drop 1 (List.drop 1 (List.drop 1 (List.drop 1 (List.drop 1 (List.drop 1 (List.getD sl (Int.toNat i) []))))))))) 0 d0))))) ∧ (((List.getD (List.drop 1 (List.drop 1 (List.drop 1 (List.drop 1 (List.drop 1 (List.drop 1 (List.drop 1 (List.drop 1 (List.drop 1 (List.getD sl (Int.toNat i) [])))))))))) 0 d0) = (D.v (.int IntKind.i64 (intD (List.getD (List.drop 1 (List.drop 1 (List.drop 1 (List.drop 1 (List.drop 1 (List.drop 1 (List.drop 1 (List.drop 1 (List.drop 1 (List.getD sl (Int.toNat i) [])))))))))) 0 d0))))) ∧ (((List.getD (List.drop 1 (List.drop 1 (List.drop 1 (List.drop 1 (List.drop 1 (List.drop 1 (List.drop 1 (List.drop 1 (List.drop 1 (List.drop 1 (List.getD sl (Int.toNat i) []))))))))))) 0 d0) = (D.v (.bool (boolD (List.getD (List.drop 1 (List.drop 1 (List.drop 1 (List.drop 1 (List.drop 1 (List.drop 1 (List.drop 1 (List.drop 1 (List.drop 1 (List.drop 1 (List.getD sl (Int.toNat i) []))))))))))) 0 d0))))) ∧ (((List.getD (List.drop 1 (List.drop 1 (List.drop 1 (List.drop 1 (List.drop 1 (List.drop 1 (List.drop 1 (List.drop 1 (List.drop 1 (List.drop 1 (List.drop 1 (List.getD sl (Int.toNat i) [])))))))))))) 0 d0) = (D.sl (slD (List.getD (List.drop 1 (List.drop 1 (List.drop 1 (List.drop 1 (List.drop 1 (List.drop 1 (List.drop 1 (List.drop 1 (List.drop 1 (List.drop 1 (List.drop 1 (List.getD sl (Int.toNat i) [])))))))))))) 0 d0)))) ∧ True)))))))))))) ∧ (
            ∃ (l_3 : FLs),
            ∃ (kind_1 : Int),
            ∃ (ty_1 : ByteArray),
            ∃ (id_1 : ByteArray),
            ∃ (fr_1 : ByteArray),
            ∃ (to_1 : ByteArray),
            ∃ (sh_1 : ByteArray),
            ∃ (tok_1 : ByteArray),
            ∃ (rea_1 : ByteArray),
            ∃ (hh_1 : Int),
            ∃ (ver_1 : Int),
            ∃ (rem_1 : Bool),
            ∃ (its_1 : List (List D)),
            ([AV.rf 0 0, AV.ag [mkI .i64 (intD (List.getD (List.getD sl (Int.toNat i) []) 0 d0)), mkS (strD (List.getD (List.drop 1 (List.getD sl (Int.toNat i) [])) 0 d0)), mkS (strD (List.getD (List.drop 1 (List.drop 1 (List.getD sl (Int.toNat i) []))) 0 d0)), mkS (strD (List.getD (List.drop 1 (List.drop 1 (List.drop 1 (List.getD sl (Int.toNat i) [])))) 0 d0)), mkS (strD (List.getD (List.drop 1 (List.drop 1 (List.drop 1 (List.drop 1 (List.getD sl (Int.toNat i) []))))) 0 d0)), mkS (strD (List.getD (List.drop 1 (List.drop 1 (List.drop 1 (List.drop 1 (List.drop 1 (List.getD sl (Int.toNat i) [])))))) 0 d0)), mkS (strD (List.getD (List.drop 1 (List.drop 1 (List.drop 1 (List.drop 1 (List.drop 1 (List.drop 1 (List.getD sl (Int.toNat i) []))))))) 0 d0)), mkS (strD (List.getD (List.drop 1 (List.drop 1 (List.drop 1 (List.drop 1 (List.drop 1 (List.drop 1 (List.drop 1 (List.getD sl (Int.toNat i) [])))))))) 0 d0)), mkI .u32 (intD (List.getD (List.drop 1 (List.drop 1 (List.drop 1 (List.drop 1 (List.drop 1 (List.drop 1 (List.drop 1 (List.drop 1 (List.getD sl (Int.toNat i) []))))))))) 0 d0)), mkI .i64 (intD (List.getD (List.drop 1 (List.drop 1 (List.drop 1 (List.drop 1 (List.drop 1 (List.drop 1 (List.drop 1 (List.drop 1 (List.drop 1 (List.getD sl (Int.toNat i) [])))))))))) 0 d0)), mkB (boolD (List.getD (List.drop 1 (List.drop 1 (List.drop 1 (List.drop 1 (List.drop 1 (List.drop 1 (List.drop 1 (List.drop 1 (List.drop 1 (List.drop 1 (List.getD sl (Int.toNat i) []))))))))))) 0 d0)), AV.d (.sl (slD (List.getD (List.drop 1 (List.drop 1 (List.drop 1 (List.drop 1 (List.drop 1 (List.drop 1 (List.drop 1 (List.drop 1 (List.drop 1 (List.drop 1 (List.drop 1 (List.getD sl (Int.toNat i) [])))))))))))) 0 d0)))]] = [AV.rf 0 0, AV.ag [mkI .i64 kind_1, mkS ty_1, mkS id_1, mkS fr_1, mkS to_1, mkS sh_1, mkS tok_1, mkS rea_1, mkI .u32 hh_1, mkI .i64 ver_1, mkB rem_1, AV.d (.sl its_1)]]) ∧
            ([Ob.box [AV.mp (0 + 1)], Ob.bun (famR (FamD.mk KK.str (Shp.map KK.str) l_2)), Ob.gh [AV.rf 0 0]] = [Ob.box [AV.mp 1], Ob.bun (famR (FamD.mk KK.str (Shp.map KK.str) l_3)), Ob.gh [AV.rf 0 0]]) ∧
            (CrOk l_3) ∧
            ((cntL l_3) ≤ (1000 : Nat)) ∧
            ((ByteArray.size fr_1) ≤ SZC) ∧
            ((ByteArray.size sh_1) ≤ LIM) ∧ (
             ∀ (e_1 : Int),
             ∀ (l'_1 : FLs),
             (HeR l_3 kind_1 ty_1 fr_1 sh_1 e_1 l'_1) →
             ((Option.some (Ob.gh [AV.rf 0 0])) = (Option.some (Ob.gh [AV.rf 0 0]))) ∧
             bcase (e_1 == (0 : Int)) (
              q (mkB false)) (
              FamNext st inv μ kk ⟨[AV.d (.sl sl), AV.jk, mkB false, AV.rf 1 0, mkI .i64 (IntKind.wrap .i64 (i + (1 : Int)))] ++ (jks 127), [Ob.bun (famR (FamD.mk KK.str (Shp.map KK.str) l'_1)), Ob.box [AV.mp (if 1 < 2 then 0 else 7 + (1 - 2))], Ob.gone, Ob.gone, Ob.gone, Ob.gone, Ob.gone, Ob.gone]⟩)))) (
           FamNext st inv μ kk ⟨[AV.d (.sl sl), AV.jk, mkB false, AV.rf 1 0, mkI .i64 (IntKind.wrap .i64 (i + (1 : Int)))] ++ (jks 127), [Ob.bun (famR (FamD.mk KK.str (Shp.map KK.str) l_2)), Ob.box [AV.mp (if 1 < 2 then 0 else 5 + (1 - 2))], Ob.gone, Ob.gone, Ob.gone, Ob.gone]⟩)) (
          FamNext st inv μ kk ⟨[AV.d (.sl sl), AV.jk, mkB false, AV.rf 1 0, mkI .i64 (IntKind.wrap .i64 (i + (1 : Int)))] ++ (jks 127), [Ob.bun (famR (FamD.mk KK.str (Shp.map KK.str) l_2)), Ob.box [AV.mp (if 1 < 2 then 0 else 5 + (1 - 2))], Ob.gone, Ob.gone, Ob.gone, Ob.gone]⟩))))))) (
    ∃ (l_1 : FLs),
    ([AV.rf 0 0] = [AV.rf 0 0]) ∧
    ([Ob.box [AV.mp (0 + 1)], Ob.bun (famR (FamD.mk KK.str (Shp.map KK.str) l)), Ob.gh [AV.rf 0 0]] = [Ob.box [AV.mp 1], Ob.bun (famR (FamD.mk KK.str (Shp.map KK.str) l_1)), Ob.gh [AV.rf 0 0]]) ∧
    (CrOk l_1) ∧
    ((cntL l_1) ≤ (1000 : Nat)) ∧ (
     ∀ (m : MapL),
     (CtM m (shN l_1) (cntL l_1)) →
     ((Option.some (Ob.gh [AV.rf 0 0])) = (Option.some (Ob.gh [AV.rf 0 0]))) ∧
     (∀ (e : Prod Key AV), (e ∈ m) → ∃ (n : Int), ((Prod.snd e) = (mkI .i64 n)) ∧ True) ∧ (
      ∀ (Z : FrZ),
      ALoop (aCode KS GCs (cAt [1, 1, 1, 1, 1, 1, 0, 1, 0, 0] Tryd.b4)) (rCs_b_k0 q) ⟨[AV.d (.sl sl), AV.jk, mkB false, AV.rf 1 0, mkI .i64 i, AV.jk, AV.jk, mkI .i64 0, mkI .i64 0, AV.mp (if 3 < 2 then 0 else 3 + (3 - 2))] ++ (jks 8 ++ ([mkI .i64 i, AV.d (.sl sl), mkI .i64 ((List.length sl) : Int), mkB (decide (i < ((List.length sl) : Int))), mkB true, mkI .i64 i, mkB (decide (i < (100 : Int))), mkB false] ++ (jks 51 ++ ([AV.rf 1 0, AV.mp (if 3 < 2 then 0 else 3 + (3 - 2)), AV.mp (if 3 < 2 then 0 else 3 + (3 - 2)), AV.rf 5 0] ++ (jks 51))))), [Ob.bun (famR (FamD.mk KK.str (Shp.map KK.str) l_1)), Ob.box [AV.mp (if 1 < 2 then 0 else 3 + (1 - 2))], Ob.gone, Ob.gone, Ob.bun (mfzR Z), Ob.bun (itR (ItD.mk Z m (VK.int IntKind.i64) true [] Option.none))]⟩)))) (
   ∃ (l_1 : FLs),
   ([AV.rf 0 0] = [AV.rf 0 0]) ∧
   ([Ob.box [AV.mp (0 + 1)], Ob.bun (famR (FamD.mk KK.str (Shp.map KK.str) l)), Ob.gh [AV.rf 0 0]] = [Ob.box [AV.mp 1], Ob.bun (famR (FamD.mk KK.str (Shp.map KK.str) l_1)), Ob.gh [AV.rf 0 0]]) ∧
   (CrOk l_1) ∧
   ((cntL l_1) ≤ (1000 : Nat)) ∧ (
    ∀ (m : MapL),
    (CtM m (shN l_1) (cntL l_1)) →
    ((Option.some (Ob.gh [AV.rf 0 0])) = (Option.some (Ob.gh [AV.rf 0 0]))) ∧
    (∀ (e : Prod Key AV), (e ∈ m) → ∃ (n : Int), ((Prod.snd e) = (mkI .i64 n)) ∧ True) ∧ (
     ∀ (Z : FrZ),
     ALoop (aCode KS GCs (cAt [1, 1, 1, 1, 1, 1, 0, 1, 0, 0] Tryd.b4)) (rCs_b_k0 q) ⟨[AV.d (.sl sl), AV.jk, mkB false, AV.rf 1 0, mkI .i64 i, AV.jk, AV.jk, mkI .i64 0, mkI .i64 0, AV.mp (if 3 < 2 then 0 else 3 + (3 - 2))] ++ (jks 8 ++ ([mkI .i64 i, AV.d (.sl sl), mkI .i64 ((List.length sl) : Int), mkB (decide (i < ((List.length sl) : Int))), mkB false, AV.tp [], AV.tp [], mkB false] ++ (jks 51 ++ ([AV.rf 1 0, AV.mp (if 3 < 2 then 0 else 3 + (3 - 2)), AV.mp (if 3 < 2 then 0 else 3 + (3 - 2)), AV.rf 5 0] ++ (jks 51))))), [Ob.bun (famR (FamD.mk KK.str (Shp.map KK.str) l_1)), Ob.box [AV.mp (if 1 < 2 then 0 else 3 + (1 - 2))], Ob.gone, Ob.gone, Ob.bun (mfzR Z), Ob.bun (itR (ItD.mk Z m (VK.int IntKind.i64) true [] Option.none))]⟩)))) := by kernel_rfl
def stC2 (l : FLs) (Z : FrZ) (m : MapL) (tot : Int) (vis : List Nat) (cur : Option (AV × AV)) : S := ⟨[.jk, .jk, mkB false, .rf 1 0, .jk, .jk, .jk, mkI .i64 tot, mkI .i64 0] ++ jks 71 ++ [.rf 5 0] ++ jks 51, [fobC l, .box [.mp 0], .gone, .gone, .bun (mfzR Z), .bun (itR ⟨Z, m, .int .i64, true, vis, cur⟩)]⟩
noncomputable def rCs_c_k0 (q : AV → Prop) : Kont := kBlk (4 : Nat) (kSeq (aCode KS GCs (cAt [1, 1, 1, 1, 1, 1, 1, 1, 1] Tryd.b4) (kRet KS (Array.toList (Func.results Tryd.f4)) q)) (kRet KS (Array.toList (Func.results Tryd.f4)) q))
theorem rCs_c {ι : Type} (st : ι → S) (inv : ι → Prop) (μ : ι → Nat) (kk : ι) (l : FLs) (Z : FrZ) (m : MapL) (tot : Int) (vis : List Nat) (cur : Option (AV × AV)) (q : AV → Prop) :
  (aCode KS GCs (cAt [1, 1, 1, 1, 1, 1, 0, 1, 0, 0] Tryd.b4) (kFamM [] (maskOf (stC2 l Z m tot vis cur)) st inv μ kk (rCs_b_k0 q)) (stC2 l Z m tot vis cur)) = (
  (Z = Z) ∧
  (∀ (n : Nat), ∀ (k : Key), ∀ (v : AV), ((GetElem?.getElem? m n) = (Option.some (k, v))) → ((n ∈ vis) → False) → ∃ (n_1 : Int), (v = (mkI .i64 n_1)) ∧ (∃ (d : ByteArray), (k = (Key.s d)) ∧ (((ByteArray.size d) ≤ LIM) ∧ ((Z = Z) ∧ (FamNext st inv μ kk ⟨[AV.jk, AV.jk, mkB false, AV.rf 1 0, AV.jk, AV.jk, AV.jk, mkI .i64 (IntKind.wrap .i64 (tot + n_1)), mkI .i64 0] ++ (jks 71 ++ ([AV.rf 5 0] ++ (jks 51))), [Ob.bun (famR (FamD.mk KK.str (Shp.map KK.str) l)), Ob.box [AV.mp 0], Ob.gone, Ob.gone, Ob.bun (mfzR Z), Ob.bun (itR (ItD.mk Z m (VK.int IntKind.i64) true (List.cons n vis) (Option.some (mkS d, mkI .i64 n_1))))]⟩))))) ∧ (
   (∀ (n : Nat), (n < (List.length m)) → n ∈ vis) →
   ∃ (l_1 : FLs),
   ([AV.rf 0 0] = [AV.rf 0 0]) ∧
   ([Ob.box [AV.mp (0 + 1)], Ob.bun (famR (FamD.mk KK.str (Shp.map KK.str) l)), Ob.gh [AV.rf 0 0]] = [Ob.box [AV.mp 1], Ob.bun (famR (FamD.mk KK.str (Shp.map KK.str) l_1)), Ob.gh [AV.rf 0 0]]) ∧
   (CrOk l_1) ∧
   ((cntL l_1) ≤ (1000 : Nat)) ∧ (
    ∀ (ks : List ByteArray),
    (SortB ks (List.map (fun (x : Prod Key (Prod Nat Rec)) => Prod.fst x) l_1)) →
    ((Option.some (Ob.gh [AV.rf 0 0])) = (Option.some (Ob.gh [AV.rf 0 0]))) ∧
    ALoop (aCode KS GCs (cAt [1, 1, 1, 1, 1, 1, 1, 1, 0, 1, 0, 0] Tryd.b4)) (rCs_c_k0 q) ⟨[AV.jk, AV.jk, mkB false, AV.rf 1 0, AV.jk, AV.jk, AV.jk, mkI .i64 tot, mkI .i64 0, AV.jk, AV.jk, AV.jk, AV.d (.sl (strsD ks)), mkI .i64 0] ++ (jks 66 ++ ([AV.rf 5 0, AV.tp [mkB false], mkB false, AV.jk, AV.jk, AV.jk, AV.jk, AV.jk, AV.rf 1 0, AV.d (.sl (strsD ks))] ++ (jks 42))), [Ob.bun (famR (FamD.mk KK.str (Shp.map KK.str) l_1)), Ob.box [AV.mp (if 1 < 2 then 0 else 7 + (1 - 2))], Ob.gone, Ob.gone, Ob.bun (mfzR Z), Ob.bun (itR (ItD.mk Z m (VK.int IntKind.i64) true vis cur)), Ob.gone, Ob.gone]⟩))) := by kernel_rfl
def stC3 (l : FLs) (tot all : Int) (ks : List (List D)) (i : Int) : S := ⟨[.jk, .jk, mkB false, .rf 1 0, .jk, .jk, .jk, mkI .i64 tot, mkI .i64 all, .jk, .jk, .jk, .d (.sl ks), mkI .i64 i] ++ jks 118, [fobC l, .box [.mp 0]]⟩
theorem rCs_d {ι : Type} (st : ι → S) (inv : ι → Prop) (μ : ι → Nat) (kk : ι) (l : FLs) (tot all : Int) (ks : List (List D)) (i : Int) (q : AV → Prop) :
  (aCode KS GCs (cAt [1, 1, 1, 1, 1, 1, 1, 1, 0, 1, 0, 0] Tryd.b4) (kFamM [] (maskOf (stC3 l tot all ks i)) st inv μ kk (rCs_c_k0 q)) (stC3 l tot all ks i)) = (
  ((List.length ks) ≤ LIM) →
  bcase (decide (i < ((List.length ks) : Int))) (
   (((0 : Int) ≤ i) ∧ (i < ((List.length ks) : Int))) ∧
   ((List.length (List.getD ks (Int.toNat i) [])) = 1) ∧
   ((1 : Nat) ≤ (List.length (List.getD ks (Int.toNat i) []))) ∧
   ((List.getD (List.getD ks (Int.toNat i) []) 0 d0) = (D.v (.string (strD (List.getD (List.getD ks (Int.toNat i) []) 0 d0))))) ∧ (
    ∃ (l_1 : FLs),
    ∃ (u : ByteArray),
    ([AV.rf 0 0, mkS (strD (List.getD (List.getD ks (Int.toNat i) []) 0 d0))] = [AV.rf 0 0, mkS u]) ∧
    ([Ob.box [AV.mp (0 + 1)], Ob.bun (famR (FamD.mk KK.str (Shp.map KK.str) l)), Ob.gh [AV.rf 0 0]] = [Ob.box [AV.mp 1], Ob.bun (famR (FamD.mk KK.str (Shp.map KK.str) l_1)), Ob.gh [AV.rf 0 0]]) ∧
    (CrOk l_1) ∧
    ((cntL l_1) ≤ (1000 : Nat)) ∧ (
     ∀ (ks_1 : List ByteArray),
     (SortB ks_1 (List.map (fun (x : Prod Key AV) => Prod.fst x) (devs l_1 u))) →
     ((Option.some (Ob.gh [AV.rf 0 0])) = (Option.some (Ob.gh [AV.rf 0 0]))) ∧ (
      ((List.length (strsD ks_1)) ≤ LIM) →
      ((List.length (strsD ks_1)) ≤ LIM) →
      bcase (((List.length (strsD ks_1)) : Int) == (0 : Int)) (
       q (mkB false)) (
       bcase (decide (i > (0 : Int))) (
        (((0 : Int) ≤ (IntKind.wrap .i64 (i - (1 : Int)))) ∧ ((IntKind.wrap .i64 (i - (1 : Int))) < ((List.length ks) : Int))) ∧
        ((List.length (List.getD ks (Int.toNat (IntKind.wrap .i64 (i - (1 : Int)))) [])) = 1) ∧
        ((1 : Nat) ≤ (List.length (List.getD ks (Int.toNat (IntKind.wrap .i64 (i - (1 : Int)))) []))) ∧
        ((List.getD (List.getD ks (Int.toNat (IntKind.wrap .i64 (i - (1 : Int)))) []) 0 d0) = (D.v (.string (strD (List.getD (List.getD ks (Int.toNat (IntKind.wrap .i64 (i - (1 : Int)))) []) 0 d0))))) ∧
        (((0 : Int) ≤ i) ∧ (i < ((List.length ks) : Int))) ∧
        ((List.length (List.getD ks (Int.toNat i) [])) = 1) ∧
        ((1 : Nat) ≤ (List.length (List.getD ks (Int.toNat i) []))) ∧
        ((List.getD (List.getD ks (Int.toNat i) []) 0 d0) = (D.v (.string (strD (List.getD (List.getD ks (Int.toNat i) []) 0 d0))))) ∧
        bcase (!(Op.bytesLess (ByteArray.toList (strD (List.getD (List.getD ks (Int.toNat (IntKind.wrap .i64 (i - (1 : Int)))) []) 0 d0))) (ByteArray.toList (strD (List.getD (List.getD ks (Int.toNat i) []) 0 d0))))) (
         q (mkB false)) (
         FamNext st inv μ kk ⟨[AV.jk, AV.jk, mkB false, AV.rf 1 0, AV.jk, AV.jk, AV.jk, mkI .i64 tot, mkI .i64 (IntKind.wrap .i64 (all + ((List.length (strsD ks_1)) : Int))), AV.jk, AV.jk, AV.jk, AV.d (.sl ks), mkI .i64 (IntKind.wrap .i64 (i + (1 : Int)))] ++ (jks 118), [Ob.bun (famR (FamD.mk KK.str (Shp.map KK.str) l_1)), Ob.box [AV.mp (if 1 < 2 then 0 else 3 + (1 - 2))], Ob.gone, Ob.gone]⟩)) (
        FamNext st inv μ kk ⟨[AV.jk, AV.jk, mkB false, AV.rf 1 0, AV.jk, AV.jk, AV.jk, mkI .i64 tot, mkI .i64 (IntKind.wrap .i64 (all + ((List.length (strsD ks_1)) : Int))), AV.jk, AV.jk, AV.jk, AV.d (.sl ks), mkI .i64 (IntKind.wrap .i64 (i + (1 : Int)))] ++ (jks 118), [Ob.bun (famR (FamD.mk KK.str (Shp.map KK.str) l_1)), Ob.box [AV.mp (if 1 < 2 then 0 else 3 + (1 - 2))], Ob.gone, Ob.gone]⟩)))))) (
   bcase (tot == all) (
    q (mkB (decide (all ≤ (64 : Int))))) (
    q (mkB false)))) := by kernel_rfl
theorem he_keep {l l' : FLs} {kind e : Int} {ty fr sh : ByteArray} (h : HeR l kind ty fr sh e l') (hC : CrOk l) (hn : cntL l ≤ 64) : CrOk l' ∧ cntL l' ≤ 64 := by
  cases h with
  | bad h => exact ⟨hC, hn⟩
  | full h1 h2 h3 h4 h5 h6 => exact ⟨hC, hn⟩
  | off h1 h2 h3 h =>
    refine ⟨h.ok, ?_⟩
    have hc := h.cnt
    have : (lvM (cutD fr) (devs l (cutU fr))).length ≤ (devs l (cutU fr)).length := by
      unfold lvM
      split
      · exact Nat.zero_le _
      · exact (del_sublK _).length_le
    omega
  | on h1 h2 h3 h4 h5 h =>
    refine ⟨h.ok, ?_⟩
    have hc := h.cnt
    have hs := (set_has (k := .s (cutD fr)) (v := mkS sh) (devs l (cutU fr))).2
    rcases h5 with h5 | h5
    · rw [h5] at hs; simp at hs; omega
    · split at hs <;> omega
theorem he_twice {l l' l'' : FLs} {e e1 : Int} {fr sh : ByteArray} (h : HeR l 1 ⟨#[]⟩ fr sh e l') (hk : hasK (.s (cutD fr)) (devs l' (cutU fr)) = true) (hg : getS (.s (cutD fr)) (devs l' (cutU fr)) ≠ sh) (h2 : HeR l' 1 ⟨#[]⟩ fr sh e1 l'') : e1 ≠ 0 := by
  cases h with
  | bad hb =>
    cases h2 with
    | bad _ => decide
    | full _ _ _ _ _ _ => decide
    | off _ _ h3 _ => exact absurd h3 (by decide)
    | on _ h4 _ h5 _ _ =>
      rcases hb with hb | hb | ⟨_, hb | hb⟩
      · exact absurd rfl hb
      · rw [h4] at hb; cases hb
      · exact absurd rfl hb
      · exact absurd hb h5
  | full h1 h2 h3 h4 h5 h6 => rw [h5] at hk; cases hk
  | off _ _ h3 _ => exact absurd h3 (by decide)
  | on _ _ _ _ _ hc =>
    refine absurd ?_ hg
    rw [hc.dv, if_pos rfl]
    unfold getS
    rw [find_set, if_pos rfl]
    rfl
theorem less_of {a b : ByteArray} (h : a.data.toList ≤ b.data.toList) (hn : a ≠ b) : Op.bytesLess a.toList b.toList = true := by
  rw [bytesLess_eq, Lib.toList_data, Lib.toList_data]
  refine decide_eq_true (Classical.byContradiction fun hl => hn (bytes_ext (List.le_antisymm h hl)))
theorem sum_rng {α : Type} {g : α → Nat} : ∀ (l : List α) (f : Nat → Nat), (∀ (n : Nat) (h : n < l.length), f n = g l[n]) → ((List.range l.length).map f).sum = (l.map g).sum
  | [], _, _ => rfl
  | e :: l, f, h => by
    rw [List.length_cons, List.range_succ_eq_map, List.map_cons, List.sum_cons, List.map_map, List.map_cons, List.sum_cons, sum_rng l (f ∘ Nat.succ) fun n hn => h (n + 1) (by simpa using hn), h 0 (by simp)]
    rfl
theorem sumV_le {f : Nat → Nat} {k : Nat} {vis : List Nat} (hn : vis.Nodup) (hl : ∀ n ∈ vis, n < k) : sumV f vis ≤ sumV f (List.range k) := by
  have h1 := ((rest_perm hn hl).map f).sum_nat
  rw [List.map_append, List.sum_append] at h1
  unfold sumV
  omega
def valAt (m : MapL) (n : Nat) : Nat := match m[n]? with | some p => (intA p.2).toNat | none => 0
theorem ct_nat : ∀ (m : MapL), (∀ p ∈ m, 0 ≤ intA p.2) → (((m.map fun p => (intA p.2).toNat).sum : Nat) : Int) = (m.map fun p => intA p.2).sum
  | [], _ => rfl
  | p :: m, h => by
    have h1 := ct_nat m fun x hx => h x (by simp [hx])
    have h2 := h p (by simp)
    simp only [List.map_cons, List.sum_cons]
    omega
theorem ct_sum {m : MapL} {f : ByteArray → Nat} {T : Nat} (h : CtM m f T) : sumV (valAt m) (List.range m.length) = T := by
  have h1 := ct_nat m fun p hp => by
    obtain ⟨d, rfl, _, _⟩ := h.val p hp
    simp [mkI, intA]
  rw [h.tot] at h1
  unfold sumV
  rw [sum_rng (g := fun p : Key × AV => (intA p.2).toNat) m (valAt m) fun n hn => by simp [valAt, hn]]
  omega
theorem us_at {l : FLs} (hC : CrOk l) {ks : List ByteArray} (h : SortB ks (l.map (·.1))) {i : Nat} (hi : i < ks.length) : 0 < (devs l ks[i]).length := by
  have h1 : Key.s ks[i] ∈ l.map (·.1) := (sortB_mem h).1 (List.getElem_mem hi)
  rcases devs_cases hC ks[i] with ⟨b, r, _, h2, h3, _⟩ | ⟨_, hno⟩
  · rw [h2]; exact List.length_pos_iff.2 h3
  · obtain ⟨e, he, hk⟩ := List.mem_map.1 h1
    exact absurd hk (hno e he)
theorem us_less {l : FLs} (hC : CrOk l) {ks : List ByteArray} (h : SortB ks (l.map (·.1))) {i : Nat} (hi : i + 1 < ks.length) : Op.bytesLess ks[i].toList ks[i + 1].toList = true := by
  have h1 := h.ord
  have h2 := sortB_nd hC h
  rw [List.pairwise_iff_getElem] at h1
  rw [List.Nodup, List.pairwise_iff_getElem] at h2
  exact less_of (h1 i (i + 1) (by omega) hi (by omega)) (h2 i (i + 1) (by omega) hi (by omega))
theorem cs_loop3 {l : FLs} (hC : CrOk l) (hn : cntL l ≤ 64) {ks : List ByteArray} (hks : SortB ks (l.map (·.1))) {q : AV → Prop} (hq : q (mkB true)) {s : S} (hs : S.le (sealAll [] s) (stC3 l (cntL l : Nat) 0 (strsD ks) 0)) :
    ALoop (aCode KS GCs (cAt [1, 1, 1, 1, 1, 1, 1, 1, 0, 1, 0, 0] Tryd.b4)) (rCs_c_k0 q) s := by
  have hall := sumU_all hC hks
  refine ALoop.introM [] (maskOf (stC3 l (cntL l : Nat) 0 (strsD ks) 0)) (fun i : Nat => stC3 l (cntL l : Nat) (sumU l (ks.take i) : Nat) (strsD ks) (i : Int)) (fun i => i ≤ ks.length) (fun i => ks.length - i)
    ⟨[], 0, by simpa [sumU] using hs, Nat.zero_le _⟩ fun i hi => ?_
  have hi : i ≤ ks.length := hi
  have ht := sumU_take l ks i
  refine cast (rCs_d _ _ _ i l (cntL l : Nat) (sumU l (ks.take i) : Nat) (strsD ks) (i : Int) q).symm fun hlim => bcase_dec (fun hlt => ?_) (fun hge => ?_)
  · have hlim : ks.length ≤ LIM := by rw [strsD_length] at hlim; exact hlim
    unfold LIM at hlim
    have hlt : i < ks.length := by rw [strsD_length] at hlt; omega
    have e0 : (strsD ks).getD ((i : Int).toNat) [] = [.v (.string ks[i])] := by rw [Int.toNat_natCast]; exact strsD_getD ks _ hlt |>.trans (by simp [List.getD_eq_getElem?_getD, hlt])
    rw [e0]
    refine ⟨⟨by omega, by rw [strsD_length]; omega⟩, rfl, by simp, rfl, l, ks[i], rfl, rfl, hC, by omega, fun kd hkd => ⟨rfl, fun _ _ => ?_⟩⟩
    have hl := devs_len l hkd
    have hpos := us_at hC hks hlt
    have hsu := sumU_succ l ks hlt
    have ht2 := sumU_take l ks (i + 1)
    have w1 : IntKind.wrap .i64 ((i : Int) + 1) = ((i + 1 : Nat) : Int) := by rw [IntWalk.i64_in _ (by omega)]; omega
    have w2 : IntKind.wrap .i64 (((sumU l (ks.take i) : Nat) : Int) + ((strsD kd).length : Int)) = ((sumU l (ks.take (i + 1)) : Nat) : Int) := by rw [strsD_length, IntWalk.i64_in _ (by omega)]; omega
    rw [w1, w2]
    refine bcaseF (by rw [strsD_length, hl]; exact beq_eq_false_iff_ne.2 (by omega)) (bcase_dec (fun h0 => ?_) (fun h0 => ?_))
    · obtain ⟨j, rfl⟩ : ∃ j, i = j + 1 := ⟨i - 1, by omega⟩
      have w3 : IntKind.wrap .i64 (((j + 1 : Nat) : Int) - 1) = (j : Int) := by rw [IntWalk.i64_in _ (by omega)]; omega
      have e1 : (strsD ks).getD ((j : Int).toNat) [] = [.v (.string ks[j])] := by rw [Int.toNat_natCast]; exact strsD_getD ks _ (by omega) |>.trans (by simp [List.getD_eq_getElem?_getD, show j < ks.length by omega])
      rw [w3, e1]
      refine ⟨⟨by omega, by rw [strsD_length]; omega⟩, rfl, by simp, rfl, ⟨by omega, by rw [strsD_length]; omega⟩, rfl, by simp, rfl, bcaseF ?_ ?_⟩
      · show (!(Op.bytesLess ks[j].toList ks[j + 1].toList)) = false
        rw [us_less hC hks hlt]; rfl
      · refine .mk [] (j + 1 + 1) ?_ hlt (show ks.length - (j + 1 + 1) < ks.length - (j + 1) by omega)
        generalize (sumU l (ks.take (j + 1 + 1)) : Nat) = z
        generalize strsD ks = kk
        simp [S.le, sealAll, leL, leA, leO, jks, stC3, mkI, mkS, mkB, S.fits, fitsL, AV.fits, Ob.fits, fobC]
    · refine .mk [] (i + 1) ?_ hlt (show ks.length - (i + 1) < ks.length - i by omega)
      generalize (sumU l (ks.take (i + 1)) : Nat) = z
      generalize strsD ks = kk
      simp [S.le, sealAll, leL, leA, leO, jks, stC3, mkI, mkS, mkB, S.fits, fitsL, AV.fits, Ob.fits, fobC]
  · have hi2 : i = ks.length := by rw [strsD_length] at hge; omega
    subst hi2
    rw [List.take_length, hall]
    refine bcaseT (by simp) ?_
    rw [show (decide (((cntL l : Nat) : Int) ≤ 64)) = true from decide_eq_true (by omega)]
    exact hq
theorem cs_loop2 {l : FLs} (hC : CrOk l) (hn : cntL l ≤ 64) {m : MapL} (hm : CtM m (shN l) (cntL l)) {Z : FrZ} {q : AV → Prop} (hq : q (mkB true)) {s : S} (hs : S.le (sealAll [] s) (stC2 l Z m 0 [] none)) :
    ALoop (aCode KS GCs (cAt [1, 1, 1, 1, 1, 1, 0, 1, 0, 0] Tryd.b4)) (rCs_b_k0 q) s := by
  have hall := ct_sum hm
  refine ALoop.introM [] (maskOf (stC2 l Z m 0 [] none)) (fun x : List Nat × Option (AV × AV) => stC2 l Z m (sumV (valAt m) x.1 : Nat) x.1 x.2) (fun x => x.1.Nodup ∧ ∀ n ∈ x.1, n < m.length) (fun x => m.length - x.1.length)
    ⟨[], ([], none), by simpa [sumV] using hs, List.nodup_nil, fun n hn => by cases hn⟩ fun ⟨vis, cur⟩ ⟨hnd, hlt⟩ => ?_
  refine cast (rCs_c _ _ _ (vis, cur) l Z m (sumV (valAt m) vis : Nat) vis cur q).symm ⟨rfl, fun n k v hv hnv => ?_, fun hv => ?_⟩
  · obtain ⟨hn1, he⟩ := List.getElem?_eq_some_iff.1 hv
    obtain ⟨d, hd, hds, _⟩ := hm.val (k, v) (he ▸ List.getElem_mem hn1)
    cases hd
    have hnd2 : (n :: vis).Nodup := List.nodup_cons.2 ⟨fun h => hnv h, hnd⟩
    have hlt2 : ∀ x ∈ n :: vis, x < m.length := fun x hx => by
      rcases List.mem_cons.1 hx with rfl | hx
      · exact hn1
      · exact hlt x hx
    have hlen := vis_len hnd2 hlt2
    rw [List.length_cons] at hlen
    have hs2 := sumV_le (f := valAt m) hnd2 hlt2
    have e1 : sumV (valAt m) (n :: vis) = shN l d + sumV (valAt m) vis := by
      rw [sumV_cons]
      congr 1
      simp [valAt, hv, mkI, intA]
    have w1 : IntKind.wrap .i64 (((sumV (valAt m) vis : Nat) : Int) + ((shN l d : Nat) : Int)) = ((sumV (valAt m) (n :: vis) : Nat) : Int) := by rw [IntWalk.i64_in _ (by omega)]; omega
    refine ⟨(shN l d : Nat), rfl, d, rfl, hds, rfl, ?_⟩
    rw [w1]
    refine .mk [] (n :: vis, some (mkS d, mkI .i64 (shN l d : Nat))) ?_ ⟨hnd2, hlt2⟩ (by show m.length - (vis.length + 1) < m.length - vis.length; omega)
    show S.le _ (stC2 l Z m (sumV (valAt m) (n :: vis) : Nat) (n :: vis) (some (mkS d, mkI .i64 (shN l d : Nat))))
    generalize (sumV (valAt m) (n :: vis) : Nat) = z
    generalize (shN l d : Nat) = y
    simp [S.le, sealAll, leL, leA, leO, jks, stC2, mkI, mkS, mkB, S.fits, fitsL, AV.fits, Ob.fits, fobC]
  · refine ⟨l, rfl, rfl, hC, by omega, fun ks hks => ⟨rfl, cs_loop3 hC hn hks hq ?_⟩⟩
    have : sumV (valAt m) vis = cntL l := by rw [sumV_perm (all_perm hnd hlt hv), hall]
    rw [this]
    generalize strsD ks = kk
    simp [S.le, sealAll, leL, leA, leO, jks, stC3, mkI, mkS, mkB, S.fits, fitsL, AV.fits, Ob.fits, fobC]
theorem stz_cons (sl : List Stz) {i : Nat} (h : i < sl.length) : (stzL sl).getD ((i : Int).toNat) [] = stzD sl[i] := by rw [Int.toNat_natCast]; exact stzL_getD sl h
def FCs : List AV → Option (Prop × AV) := fun al => match al with
  | [.d (.sl es)] => some (∃ l : List Stz, es = stzL l ∧ l.length ≤ 1048576 ∧ ∀ s ∈ l, s.fit, mkB true)
  | _ => none
theorem cCs : PSound Tryd.prog 4 (detE FCs) := by
  refine det_fn (c := Tryd.b4) mixed KS_ok gCs Tryd.func4 rfl rfl Tryd.call4 fun al p r q hF hp hq => ?_
  unfold FCs at hF; split at hF <;> cases hF
  obtain ⟨ss, rfl, hlen, hfit⟩ := hp
  refine cast (rCs (stzL ss) q).symm ⟨trivial, rfl, ?_⟩
  refine ALoop.introM [] (maskOf (stC1 (stzL ss) [] 0)) (fun x : FLs × Nat => stC1 (stzL ss) x.1 (x.2 : Int)) (fun x => CrOk x.1 ∧ cntL x.1 ≤ 64 ∧ x.2 ≤ ss.length) (fun x => ss.length - x.2)
    ⟨[], ([], 0), by generalize stzL ss = sl; simp [S.le, sealAll, leL, leA, leO, jks, stC1, mkI, mkS, mkB, S.fits, fitsL, AV.fits, Ob.fits, fobC], crOk_nil, by decide, Nat.zero_le _⟩ fun ⟨l, i⟩ ⟨hC, hn, hi⟩ => ?_
  simp only at hC hn hi
  have ends : ∀ (s : S) (m : MapL) (Z : FrZ), CtM m (shN l) (cntL l) → S.le (sealAll [] s) (stC2 l Z m 0 [] none) → ALoop (aCode KS GCs (cAt [1, 1, 1, 1, 1, 1, 0, 1, 0, 0] Tryd.b4)) (rCs_b_k0 q) s := fun s m Z hm hs => cs_loop2 hC hn hm hq hs
  have isv : ∀ {m : MapL}, CtM m (shN l) (cntL l) → ∀ e ∈ m, ∃ n : Int, e.2 = mkI .i64 n ∧ True := fun hm e he => by
    obtain ⟨d, rfl, _⟩ := hm.val e he
    exact ⟨_, rfl, trivial⟩
  refine cast (rCs_b _ _ _ (l, i) (stzL ss) l (i : Int) q).symm fun hlim => bcase_dec (fun hlt => bcase_dec (fun h100 => ?_) (fun h100 => ?_)) (fun hge => ?_)
  · have hlt : i < ss.length := by rw [stzL_len] at hlt; omega
    have w1 : IntKind.wrap .i64 ((i : Int) + 1) = ((i + 1 : Nat) : Int) := by rw [IntWalk.i64_in _ (by omega)]; omega
    rw [stz_cons ss hlt, w1]
    have hf := hfit _ (List.getElem_mem hlt)
    generalize ss[i] = s at hf
    have nx : ∀ {l' : FLs} {o : List Ob}, CrOk l' → cntL l' ≤ 64 → o = [fobC l', .box [.mp 0]] ++ o.drop 2 → FamNext (fun x : FLs × Nat => stC1 (stzL ss) x.1 (x.2 : Int)) (fun x => CrOk x.1 ∧ cntL x.1 ≤ 64 ∧ x.2 ≤ ss.length) (fun x => ss.length - x.2) (l, i) ⟨[.d (.sl (stzL ss)), .jk, mkB false, .rf 1 0, mkI .i64 ((i + 1 : Nat) : Int)] ++ jks 127, o⟩ := fun {l' o} h1 h2 ho => by
      refine .mk [] (l', i + 1) ?_ ⟨h1, h2, hlt⟩ (show ss.length - (i + 1) < ss.length - i by omega)
      rw [ho]
      generalize stzL ss = sl
      simp [S.le, sealAll, leL, leA, leO, jks, stC1, mkI, mkS, mkB, S.fits, fitsL, AV.fits, Ob.fits, fobC]
    have hi1 : (0 ≤ (i : Int)) ∧ ((i : Int) < ((stzL ss).length : Int)) := ⟨by omega, by rw [stzL_len]; omega⟩
    refine ⟨hi1, rfl, Nat.le_refl 12, ⟨rfl, rfl, rfl, rfl, rfl, rfl, rfl, rfl, rfl, rfl, rfl, rfl, trivial⟩, l, s.kind, s.ty, s.id, s.fr, s.to, s.sh, s.tok, s.rea, s.hh, s.ver, s.rem, s.its, rfl, rfl, hC, by omega, hf.fr, szc_lim hf.sh, fun e l' hh => ⟨rfl, hi1, rfl, by simp [stzD], rfl, ?_⟩⟩
    obtain ⟨hC', hn'⟩ := he_keep hh hC hn
    refine bcase_mk (fun hk => nx hC' hn' rfl) (fun hk => ⟨hi1, rfl, by simp [stzD], rfl, bcase_mk (fun ht => nx hC' hn' rfl) (fun ht => ⟨hi1, rfl, by simp [stzD], rfl, l', s.fr, rfl, rfl, hC', szc_lim hf.fr, rfl, bcase_mk (fun hthere => ⟨hi1, rfl, by simp [stzD], rfl, bcase_mk (fun hsh => ⟨hi1, rfl, Nat.le_refl 12, ⟨rfl, rfl, rfl, rfl, rfl, rfl, rfl, rfl, rfl, rfl, rfl, rfl, trivial⟩, l', s.kind, s.ty, s.id, s.fr, s.to, s.sh, s.tok, s.rea, s.hh, s.ver, s.rem, s.its, rfl, rfl, hC', by omega, hf.fr, szc_lim hf.sh, fun e1 l2 h2 => ⟨rfl, bcase_mk (fun h0 => ?_) (fun h0 => nx (he_keep h2 hC' hn').1 (he_keep h2 hC' hn').2 rfl)⟩⟩) (fun hsh => nx hC' hn' rfl)⟩) (fun hthere => nx hC' hn' rfl)⟩)⟩)
    have hk : (s.kind != 1) = false := hk
    have ht : (!(decide (s.ty = ⟨#[]⟩))) = false := ht
    have hsh : (!(decide (getS (Key.s (cutD s.fr)) (devs l' (cutU s.fr)) = s.sh))) = true := hsh
    have hk : s.kind = 1 := by simpa using hk
    have ht : s.ty = ⟨#[]⟩ := by simpa using ht
    rw [hk, ht] at hh h2
    exact absurd (by simpa using h0) (he_twice hh hthere (by simpa using hsh) h2)
  · refine ⟨l, rfl, rfl, hC, by omega, fun m hm => ⟨rfl, isv hm, fun Z => ends _ m Z hm ?_⟩⟩
    generalize stzL ss = sl
    simp [S.le, sealAll, leL, leA, leO, jks, stC2, mkI, mkS, mkB, S.fits, fitsL, AV.fits, Ob.fits, fobC]
  · refine ⟨l, rfl, rfl, hC, by omega, fun m hm => ⟨rfl, isv hm, fun Z => ends _ m Z hm ?_⟩⟩
    generalize stzL ss = sl
    simp [S.le, sealAll, leL, leA, leO, jks, stC2, mkI, mkS, mkB, S.fits, fitsL, AV.fits, Ob.fits, fobC]
theorem hCs : ∀ as', TyArgs Tryd.prog Tryd.f4.params.toList as' → ∃ p, FCs as' = some (p, mkB true) ∧ p := by
  intro as' h
  rw [Tryd.params4] at h
  obtain ⟨a, rfl, ha⟩ := tyargs1 h
  obtain ⟨l, rfl, hl, hf⟩ := arg_stzs ha
  exact ⟨_, rfl, l, rfl, hl, hf⟩
end Go.Proofs.YthbejheedpdioaaDoor
