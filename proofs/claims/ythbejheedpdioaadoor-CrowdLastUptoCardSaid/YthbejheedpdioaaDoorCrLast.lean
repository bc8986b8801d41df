import Derived.Test.YthbejheedpdioaaDoorCrLeaves
set_option linter.unusedSimpArgs false
set_option linter.unusedVariables false
namespace Go.Proofs.YthbejheedpdioaaDoor
open Go Go.AM Go.RowKit
set_option maxRecDepth 10000
attribute [local irreducible] aUnr aUnS aCode
noncomputable abbrev GLa : List (FuncId × En) := [(8, .det FLv), (14, .det F14), (9, .new ENw), (10, .ref (frameE EHe)), (12, .ref (frameE EUs)), (13, .ref (frameE EDv)), (11, .ref (frameE EShow))]
theorem gLa : GSound Tryd.prog GLa := gsound_det cLives (gsound_det c14 (gsound_new cNw (gsound_ref (RSound.frame (cHe_of cCnt)) (gsound_ref (RSound.frame cUs) (gsound_ref (RSound.frame cDv) (gsound_ref (RSound.frame cShow) gsound_nil))))))
noncomputable def rLa_k0 (q : AV → Prop) : Kont := kBlk (0 : Nat) (kSeq (aCode KS GLa (cAt [1, 1, 1, 1, 1] Tryd.b3) (kRet KS (Array.toList (Func.results Tryd.f3)) q)) (kRet KS (Array.toList (Func.results Tryd.f3)) q))
theorem rLa (sl : List (List D)) (q : AV → Prop) :
  (aCode KS GLa Tryd.b3 (kRet KS Tryd.f3.results.toList q) ⟨[.d (.sl sl)] ++ List.replicate (Tryd.f3.ntmps - 1) .jk, []⟩) = (
  True ∧
  (([] : List AV) = []) ∧
  (([] : List AV) = []) ∧
  ALoop (aCode KS GLa (cAt [1, 1, 1, 1, 0, 1, 0, 0] Tryd.b3)) (rLa_k0 q) ⟨[AV.d (.sl sl), AV.jk, mkB false, AV.rf (0 + 1) 0, AV.rf (2 + 1) 0, AV.nl, mkI .i64 0] ++ (jks 12 ++ ([mkB true, mkB false, AV.rf (0 + 1) 0, AV.rf (2 + 1) 0] ++ (jks 146))), [Ob.bun (famR (FamD.mk KK.str (Shp.map KK.str) [])), Ob.box [AV.mp (0 + 0)], Ob.bun (famR (FamD.mk KK.str (Shp.map KK.str) [])), Ob.box [AV.mp (2 + 0)]]⟩) := by kernel_rfl
def stA1 (sl : List (List D)) (lc ld : FLs) (hs : List (List D)) (i : Int) : S := ⟨[.d (.sl sl), .jk, mkB false, .rf 1 0, .rf 3 0, .vw 4 hs.length, mkI .i64 i] ++ jks 162, [fobC lc, .box [.mp 0], fobC ld, .box [.mp 2], .row 12 hs]⟩
noncomputable def rLa_b_k0 {ι : Type} (st : ι → S) (inv : ι → Prop) (μ : ι → Nat) (kk : ι) (sl : List (List D)) (lc : FLs) (ld : FLs) (hs : List (List D)) (i : Int) (q : AV → Prop) : Kont := kBlk (2 : Nat) (kSeq (aCode KS GLa (cAt [1, 1, 1, 1, 0, 1, 0, 0, 1, 0, 0, 1, 1, 1] Tryd.b3) (kBlk (1 : Nat) (kSeq (aCode KS GLa (cAt [1, 1, 1, 1, 0, 1, 0, 0, 1, 1] Tryd.b3) (kFamM [] (maskOf (stA1 sl lc ld hs i)) st inv μ kk (rLa_k0 q))) (kFamM [] (maskOf (stA1 sl lc ld hs i)) st inv μ kk (rLa_k0 q))))) (kBlk (1 : Nat) (kSeq (aCode KS GLa (cAt [1, 1, 1, 1, 0, 1, 0, 0, 1, 1] Tryd.b3) (kFamM [] (maskOf (stA1 sl lc ld hs i)) st inv μ kk (rLa_k0 q))) (kFamM [] (maskOf (stA1 sl lc ld hs i)) st inv μ kk (rLa_k0 q)))))
noncomputable def rLa_b_k1 (q : AV → Prop) : Kont := kBlk (4 : Nat) (kSeq (aCode KS GLa (cAt [1, 1, 1, 1, 1, 1, 1] Tryd.b3) (kRet KS (Array.toList (Func.results Tryd.f3)) q)) (kRet KS (Array.toList (Func.results Tryd.f3)) q))
theorem rLa_b {ι : Type} (st : ι → S) (inv : ι → Prop) (μ : ι → Nat) (kk : ι) (sl : List (List D)) (lc ld : FLs) (hs : List (List D)) (i : Int) (q : AV → Prop) :
  (aCode KS GLa (cAt [1, 1, 1, 1, 0, 1, 0, 0] Tryd.b3) (kFamM [] (maskOf (stA1 sl lc ld hs i)) st inv μ kk (rLa_k0 q)) (stA1 sl lc ld hs i)) = (
  ((List.length sl) ≤ LIM) →
  bcase (decide (i < ((List.length sl) : Int))) (
   bcase (decide (i < (50 : Int))) (
    (((0 : Int) ≤ i) ∧ (i < ((List.length sl) : Int))) ∧
    ((List.length (List.getD sl (Int.toNat i) [])) = 12) ∧
    (12 ≤ (List.length (List.getD sl (Int.toNat i) []))) ∧
    (((List.getD (List.getD sl (Int.toNat i) []) 0 d0) = (D.v (.int IntKind.i64 (intD (List.getD (List.getD sl (Int.toNat i) []) 0 d0))))) ∧ (((List.getD (List.drop 1 (List.getD sl (Int.toNat i) [])) 0 d0) = (D.v (.string (strD (List.getD (List.drop 1 (List.getD sl (Int.toNat i) [])) 0 d0))))) ∧ (((List.getD (List.drop 1 (List.drop 1 (List.getD sl (Int.toNat i) []))) 0 d0) = (D.v (.string (strD (List.getD (List.drop 1 (List.drop 1 (List.getD sl (Int.toNat i) []))) 0 d0))))) ∧ (((List.getD (List.drop 1 (List.drop 1 (List.drop 1 (List.getD sl (Int.toNat i) [])))) 0 d0) = (D.v (.string (strD (List.getD (List.drop 1 (List.drop 1 (List.drop 1 (List.getD sl (Int.toNat i) [])))) 0 d0))))) ∧ (((List.getD (List.drop 1 (List.drop 1 (List.drop 1 (List.drop 1 (List.getD sl (Int.toNat i) []))))) 0 d0) = (D.v (.string (strD (List.getD (List.drop 1 (List.drop 1 (List.drop 1 (List.drop 1 (List.getD sl (Int.toNat i) []))))) 0 d0))))) ∧ (((List.getD (List.drop 1 (List.drop 1 (List.drop 1 (List.drop 1 (List.drop 1 (List.getD sl (Int.toNat i) [])))))) 0 d0) = (D.v (.string (strD (List.getD (List.drop 1 (List.drop 1 (List.drop 1 (List.drop 1 (List.drop 1 (List.getD sl (Int.toNat i) [])))))) 0 d0))))) ∧ (((List.getD (List.drop 1 (List.drop 1 (List.drop 1 (List.drop 1 (List.drop 1 (List.drop 1 (List.getD sl (Int.toNat i) []))))))) 0 d0) = (D.v (.string (strD (List.getD (List.drop 1 (List.drop 1 (List.drop 1 (List.drop 1 (List.drop 1 (List.drop 1 (List.getD sl (Int.toNat i) []))))))) 0 d0))))) ∧ (((List.getD (List.drop 1 (List.drop 1 (List.drop 1 (List.drop 1 (List.drop 1 (List.drop 1 (List.drop 1 (List.getD sl (Int.toNat i) [])))))))) 0 d0) = (D.v (.string (strD (List.getD (List.drop 1 (List.drop 1 (List.drop 1 (List.drop 1 (List.drop 1 (List.drop 1 (List.drop 1 (List.getD sl (Int.toNat i) [])))))))) 0 d0))))) ∧ (((List.getD (List.drop 1 (List.drop 1 (List.drop 1 (List.drop 1 (List.drop 1 (List.drop 1 (List.drop 1 (List.drop 1 (List.getD sl (Int.toNat i) []))))))))) 0 d0) = (D.v (.int IntKind.u32 (intD (List.getD (List.drop 1 (List.drop 1 (List.drop 1 (List.drop 1 (List.drop 1 (List.drop 1 (List.drop 1 (List.drop 1 (List.getD sl (Int.toNat i) []))))))))) 0 d0))))) ∧ (((List.getD (List.drop 1 (List.drop 1 (List.drop 1 (List.drop 1 (List.drop 1 (List.drop 1 (List.drop 1 (List.drop 1 (List.drop 1 (List.getD sl (Int.toNat i) [])))))))))) 0 d0) = (D.v (.int IntKind.i64 (intD (List.getD (List.drop 1 (List.drop 1 (List.drop 1 (List.drop 1 (List.drop 1 (List.drop 1 (List.drop 1 (List.drop 1 (List.drop 1 (List.getD sl (Int.toNat i) [])))))))))) 0 d0))))) ∧ (((List.getD (List.drop 1 (List.drop 1 (List.drop 1 (List.drop 1 (List.drop 1 (List.drop 1 (List.drop 1 (List.drop 1 (List.drop 1 (List.drop 1 (List.getD sl (Int.toNat i) []))))))))))) 0 d0) = (D.v (.bool (boolD (List.getD (List.drop 1 (List.drop 1 (List.drop 1 (List.drop 1 (List.drop 1 (List.drop 1 (List.drop 1 (List.drop 1 (List.drop 1 (List.drop 1 (List.getD sl (Int.toNat i) []))))))))))) 0 d0))))) ∧ (((List.getD (List.drop 1 (List.drop 1 (List.drop 1 (List.drop 1 (List.drop 1 (List.drop 1 (List.drop 1 (List.drop 1 (List.drop 1 (List.drop 1 (List.drop 1 (List.getD sl (Int.toNat i) [])))))))))))) 0 d0) = (D.sl (slD (List.getD (List.drop 1 (List.drop 1 (List.drop 1 (List.drop 1 (List.drop 1 (List.drop 1 (List.drop 1 (List.drop 1 (List.drop 1 (List.drop 1 (List.drop 1 (List.getD sl (Int.toNat i) [])))))))))))) 0 d0)))) ∧ True)))))))))))) ∧
    ALoop (aCode KS GLa (cAt [1, 1, 1, 1, 0, 1, 0, 0, 1, 0, 0, 1, 1, 0, 1, 0, 0] Tryd.b3)) (rLa_b_k0 st inv μ kk sl lc ld hs i q) ⟨[AV.d (.sl sl), AV.jk, mkB false, AV.rf 1 0, AV.rf 3 0, AV.vw 4 (List.length hs), mkI .i64 i, AV.rf 5 0, mkB false, mkI .i64 0] ++ (jks 13 ++ ([mkI .i64 i, AV.d (.sl sl), mkI .i64 ((List.length sl) : Int), mkB (decide (i < ((List.length sl) : Int))), mkB true, mkI .i64 i, mkB (decide (i < (50 : Int))), mkB true, AV.jk, AV.jk, AV.d (.sl sl), mkI .i64 i, AV.ep (List.getD sl (Int.toNat i) []), AV.ag [mkI .i64 (intD (List.getD (List.getD sl (Int.toNat i) []) 0 d0)), mkS (strD (List.getD (List.drop 1 (List.getD sl (Int.toNat i) [])) 0 d0)), mkS (strD (List.getD (List.drop 1 (List.drop 1 (List.getD sl (Int.toNat i) []))) 0 d0)), mkS (strD (List.getD (List.drop 1 (List.drop 1 (List.drop 1 (List.getD sl (Int.toNat i) [])))) 0 d0)), mkS (strD (List.getD (List.drop 1 (List.drop 1 (List.drop 1 (List.drop 1 (List.getD sl (Int.toNat i) []))))) 0 d0)), mkS (strD (List.getD (List.drop 1 (List.drop 1 (List.drop 1 (List.drop 1 (List.drop 1 (List.getD sl (Int.toNat i) [])))))) 0 d0)), mkS (strD (List.getD (List.drop 1 (List.drop 1 (List.drop 1 (List.drop 1 (List.drop 1 (List.drop 1 (List.getD sl (Int.toNat i) []))))))) 0 d0)), mkS (strD (List.getD (List.drop 1 (List.drop 1 (List.drop 1 (List.drop 1 (List.drop 1 (List.drop 1 (List.drop 1 (List.getD sl (Int.toNat i) [])))))))) 0 d0)), mkI .u32 (intD (List.getD (List.drop 1 (List.drop 1 (List.drop 1 (List.drop 1 (List.drop 1 (List.drop 1 (List.drop 1 (List.drop 1 (List.getD sl (Int.toNat i) []))))))))) 0 d0)), mkI .i64 (intD (List.getD (List.drop 1 (List.drop 1 (List.drop 1 (List.drop 1 (List.drop 1 (List.drop 1 (List.drop 1 (List.drop 1 (List.drop 1 (List.getD sl (Int.toNat i) [])))))))))) 0 d0)), mkB (boolD (List.getD (List.drop 1 (List.drop 1 (List.drop 1 (List.drop 1 (List.drop 1 (List.drop 1 (List.drop 1 (List.drop 1 (List.drop 1 (List.drop 1 (List.getD sl (Int.toNat i) []))))))))))) 0 d0)), AV.d (.sl (slD (List.getD (List.drop 1 (List.drop 1 (List.drop 1 (List.drop 1 (List.drop 1 (List.drop 1 (List.drop 1 (List.drop 1 (List.drop 1 (List.drop 1 (List.drop 1 (List.getD sl (Int.toNat i) [])))))))))))) 0 d0)))]] ++ (jks 132))), [Ob.bun (famR (FamD.mk KK.str (Shp.map KK.str) lc)), Ob.box [AV.mp 0], Ob.bun (famR (FamD.mk KK.str (Shp.map KK.str) ld)), Ob.box [AV.mp 2], Ob.row 12 hs, Ob.box [mkI .i64 (intD (List.getD (List.getD sl (Int.toNat i) []) 0 d0)), mkS (strD (List.getD (List.drop 1 (List.getD sl (Int.toNat i) [])) 0 d0)), mkS (strD (List.getD (List.drop 1 (List.drop 1 (List.getD sl (Int.toNat i) []))) 0 d0)), mkS (strD (List.getD (List.drop 1 (List.drop 1 (List.drop 1 (List.getD sl (Int.toNat i) [])))) 0 d0)), mkS (strD (List.getD (List.drop 1 (List.drop 1 (List.drop 1 (List.drop 1 (List.getD sl (Int.toNat i) []))))) 0 d0)), mkS (strD (List.getD (List.drop 1 (List.drop 1 (List.drop 1 (List.drop 1 (List.drop 1 (List.getD sl (Int.toNat i) [])))))) 0 d0)), mkS (strD (List.getD (List.drop 1 (List.drop 1 (List.drop 1 (List.drop 1 (List.drop 1 (List.drop 1 (List.getD sl (Int.toNat i) []))))))) 0 d0)), mkS (strD (List.getD (List.drop 1 (List.drop 1 (List.drop 1 (List.drop 1 (List.drop 1 (List.drop 1 (List.drop 1 (List.getD sl (Int.toNat i) [])))))))) 0 d0)), mkI .u32 (intD (List.getD (List.drop 1 (List.drop 1 (List.drop 1 (List.drop 1 (List.drop 1 (List.drop 1 (List.drop 1 (List.drop 1 (List.getD sl (Int.toNat i) []))))))))) 0 d0)), mkI .i64 (intD (List.getD (List.drop 1 (List.drop 1 (List.drop 1 (List.drop 1 (List.drop 1 (List.drop 1 (List.drop 1 (List.drop 1 (List.drop 1 (List.getD sl (Int.toNat i) [])))))))))) 0 d0)), mkB (boolD (List.getD (List.drop 1 (List.drop 1 (List.drop 1 (List.drop 1 (List.drop 1 (List.drop 1 (List.drop 1 (List.drop 1 (List.drop 1 (List.drop 1 (List.getD sl (Int.toNat i) []))))))))))) 0 d0)), AV.d (.sl (slD (List.getD (List.drop 1 (List.drop 1 (List.drop 1 (List.drop 1 (List.drop 1 (List.drop 1 (List.drop 1 (List.drop 1 (List.drop 1 (List.drop 1 (List.drop 1 (List.getD sl (Int.toNat i) [])))))))))))) 0 d0)))]]⟩) (
    ALoop (aCode KS GLa (cAt [1, 1, 1, 1, 1, 1, 0, 1, 0, 0] Tryd.b3)) (rLa_b_k1 q) ⟨[AV.d (.sl sl), AV.jk, mkB false, AV.rf 1 0, AV.rf 3 0, AV.vw 4 (List.length hs), mkI .i64 i, AV.jk, AV.jk, AV.jk, mkI .i64 0, mkI .i64 0] ++ (jks 11 ++ ([mkI .i64 i, AV.d (.sl sl), mkI .i64 ((List.length sl) : Int), mkB (decide (i < ((List.length sl) : Int))), mkB true, mkI .i64 i, mkB (decide (i < (50 : Int))), mkB false] ++ (jks 138))), [Ob.bun (famR (FamD.mk KK.str (Shp.map KK.str) lc)), Ob.box [AV.mp 0], Ob.bun (famR (FamD.mk KK.str (Shp.map KK.str) ld)), Ob.box [AV.mp 2], Ob.row 12 hs]⟩)) (
   ALoop (aCode KS GLa (cAt [1, 1, 1, 1, 1, 1, 0, 1, 0, 0] Tryd.b3)) (rLa_b_k1 q) ⟨[AV.d (.sl sl), AV.jk, mkB false, AV.rf 1 0, AV.rf 3 0, AV.vw 4 (List.length hs), mkI .i64 i, AV.jk, AV.jk, AV.jk, mkI .i64 0, mkI .i64 0] ++ (jks 11 ++ ([mkI .i64 i, AV.d (.sl sl), mkI .i64 ((List.length sl) : Int), mkB (decide (i < ((List.length sl) : Int))), mkB false, AV.tp [], AV.tp [], mkB false] ++ (jks 138))), [Ob.bun (famR (FamD.mk KK.str (Shp.map KK.str) lc)), Ob.box [AV.mp 0], Ob.bun (famR (FamD.mk KK.str (Shp.map KK.str) ld)), Ob.box [AV.mp 2], Ob.row 12 hs]⟩)) := by kernel_rfl
def stAi (sl : List (List D)) (lc ld : FLs) (hs : List (List D)) (i : Int) (z : Bool) (k : Int) (bx : List AV) : S := ⟨[.d (.sl sl), .jk, mkB false, .rf 1 0, .rf 3 0, .vw 4 hs.length, mkI .i64 i, .rf 5 0, mkB z, mkI .i64 k] ++ jks 159, [fobC lc, .box [.mp 0], fobC ld, .box [.mp 2], .row 12 hs, .box bx]⟩
theorem rLa_i {ι ι2 : Type} (st : ι → S) (inv : ι → Prop) (μ : ι → Nat) (kk : ι) (st2 : ι2 → S) (inv2 : ι2 → Prop) (μ2 : ι2 → Nat) (kk2 : ι2) (sl : List (List D)) (lc ld : FLs) (hs : List (List D)) (i : Int) (z : Bool) (k : Int) (kind : Int) (ty id fr to sh tok rea : ByteArray) (hh ver : Int) (rem : Bool) (its : List (List D)) (q : AV → Prop) :
  (aCode KS GLa (cAt [1, 1, 1, 1, 0, 1, 0, 0, 1, 0, 0, 1, 1, 0, 1, 0, 0] Tryd.b3) (kFamM [] (maskOf (stAi sl lc ld hs i z k [mkI .i64 kind, mkS ty, mkS id, mkS fr, mkS to, mkS sh, mkS tok, mkS rea, mkI .u32 hh, mkI .i64 ver, mkB rem, .d (.sl its)])) st2 inv2 μ2 kk2 (rLa_b_k0 st inv μ kk sl lc ld hs i q)) (stAi sl lc ld hs i z k [mkI .i64 kind, mkS ty, mkS id, mkS fr, mkS to, mkS sh, mkS tok, mkS rea, mkI .u32 hh, mkI .i64 ver, mkB rem, .d (.sl its)])) = (
  ((ByteArray.size fr) ≤ LIM) →
  bcase (decide (k < ((ByteArray.size fr) : Int))) (
   bcase z (
    FamNext st2 inv2 μ2 kk2 ⟨[AV.d (.sl sl), AV.jk, mkB false, AV.rf 1 0, AV.rf 3 0, AV.vw 4 (List.length hs), mkI .i64 i, AV.rf 5 0, mkB true, mkI .i64 (IntKind.wrap .i64 (k + (1 : Int)))] ++ (jks 159), [Ob.bun (famR (FamD.mk KK.str (Shp.map KK.str) lc)), Ob.box [AV.mp 0], Ob.bun (famR (FamD.mk KK.str (Shp.map KK.str) ld)), Ob.box [AV.mp 2], Ob.row 12 hs, Ob.box [mkI .i64 kind, mkS ty, mkS id, mkS fr, mkS to, mkS sh, mkS tok, mkS rea, mkI .u32 hh, mkI .i64 ver, mkB rem, AV.d (.sl its)]]⟩) (
    (((0 : Int) ≤ k) ∧ (k < ((ByteArray.size fr) : Int))) ∧
    FamNext st2 inv2 μ2 kk2 ⟨[AV.d (.sl sl), AV.jk, mkB false, AV.rf 1 0, AV.rf 3 0, AV.vw 4 (List.length hs), mkI .i64 i, AV.rf 5 0, mkB (((UInt8.toNat (List.getD (Array.toList (ByteArray.data fr)) (Int.toNat k) (0 : UInt8))) : Int) == (47 : Int)), mkI .i64 (IntKind.wrap .i64 (k + (1 : Int)))] ++ (jks 159), [Ob.bun (famR (FamD.mk KK.str (Shp.map KK.str) lc)), Ob.box [AV.mp 0], Ob.bun (famR (FamD.mk KK.str (Shp.map KK.str) ld)), Ob.box [AV.mp 2], Ob.row 12 hs, Ob.box [mkI .i64 kind, mkS ty, mkS id, mkS fr, mkS to, mkS sh, mkS tok, mkS rea, mkI .u32 hh, mkI .i64 ver, mkB rem, AV.d (.sl its)]]⟩)) (
   bcase z (
    ∃ (l : FLs),
    ∃ (kind_1 : Int),
    ∃ (ty_1 : ByteArray),
    ∃ (id_1 : ByteArray),
    ∃ (fr_1 : ByteArray),
    ∃ (to_1 : ByteArray),
    ∃ (sh_1 : ByteArray),
    ∃ (tok_1 : ByteArray),
    ∃ (rea_1 : ByteArray),
    ∃ (hh_1 : Int),
    ∃ (ver_1 : Int),
    ∃ (rem_1 : Bool),
    ∃ (its_1 : List (List D)),
    ([AV.rf 0 0, AV.ag [mkI .i64 kind, mkS ty, mkS id, mkS fr, mkS to, mkS sh, mkS tok, mkS rea, mkI .u32 hh, mkI .i64 ver, mkB rem, AV.d (.sl its)]] = [AV.rf 0 0, AV.ag [mkI .i64 kind_1, mkS ty_1, mkS id_1, mkS fr_1, mkS to_1, mkS sh_1, mkS tok_1, mkS rea_1, mkI .u32 hh_1, mkI .i64 ver_1, mkB rem_1, AV.d (.sl its_1)]]) ∧
    ([Ob.box [AV.mp (0 + 1)], Ob.bun (famR (FamD.mk KK.str (Shp.map KK.str) lc)), Ob.gh [AV.rf 0 0]] = [Ob.box [AV.mp 1], Ob.bun (famR (FamD.mk KK.str (Shp.map KK.str) l)), Ob.gh [AV.rf 0 0]]) ∧
    (CrOk l) ∧
    ((cntL l) ≤ (1000 : Nat)) ∧
    ((ByteArray.size fr_1) ≤ SZC) ∧
    ((ByteArray.size sh_1) ≤ LIM) ∧ (
     ∀ (e : Int),
     ∀ (l' : FLs),
     (HeR l kind_1 ty_1 fr_1 sh_1 e l') →
     ((Option.some (Ob.gh [AV.rf 0 0])) = (Option.some (Ob.gh [AV.rf 0 0]))) ∧
     bcase (e == (0 : Int)) (
      (∀ (c : List D), (c ∈ [[D.v (.int IntKind.i64 kind), D.v (.string ty), D.v (.string id), D.v (.string fr), D.v (.string to), D.v (.string sh), D.v (.string tok), D.v (.string rea), D.v (.int IntKind.u32 hh), D.v (.int IntKind.i64 ver), D.v (.bool rem), D.sl its]]) → (List.length c) = 12) ∧
      ((List.length hs) = (List.length hs)) ∧
      (((List.length hs) + 1) ≤ LIM) ∧
      FamNext st inv μ kk ⟨[AV.d (.sl sl), AV.jk, mkB false, AV.rf 1 0, AV.rf 3 0, AV.vw 4 ((List.length hs) + 1), mkI .i64 (IntKind.wrap .i64 (i + (1 : Int)))] ++ (jks 162), [Ob.bun (famR (FamD.mk KK.str (Shp.map KK.str) l')), Ob.box [AV.mp (if 1 < 2 then 0 else 7 + (1 - 2))], Ob.bun (famR (FamD.mk KK.str (Shp.map KK.str) ld)), Ob.box [AV.mp 2], Ob.row 12 (hs ++ [[D.v (.int IntKind.i64 kind), D.v (.string ty), D.v (.string id), D.v (.string fr), D.v (.string to), D.v (.string sh), D.v (.string tok), D.v (.string rea), D.v (.int IntKind.u32 hh), D.v (.int IntKind.i64 ver), D.v (.bool rem), D.sl its]]), Ob.box [mkI .i64 kind, mkS ty, mkS id, mkS fr, mkS to, mkS sh, mkS tok, mkS rea, mkI .u32 hh, mkI .i64 ver, mkB rem, AV.d (.sl its)], Ob.gone, Ob.gone, Ob.row 12 [[D.v (.int IntKind.i64 kind), D.v (.string ty), D.v (.string id), D.v (.string fr), D.v (.string to), D.v (.string sh), D.v (.string tok), D.v (.string rea), D.v (.int IntKind.u32 hh), D.v (.int IntKind.i64 ver), D.v (.bool rem), D.sl its]]]⟩) (
      FamNext st inv μ kk ⟨[AV.d (.sl sl), AV.jk, mkB false, AV.rf 1 0, AV.rf 3 0, AV.vw 4 (List.length hs), mkI .i64 (IntKind.wrap .i64 (i + (1 : Int)))] ++ (jks 162), [Ob.bun (famR (FamD.mk KK.str (Shp.map KK.str) l')), Ob.box [AV.mp (if 1 < 2 then 0 else 7 + (1 - 2))], Ob.bun (famR (FamD.mk KK.str (Shp.map KK.str) ld)), Ob.box [AV.mp 2], Ob.row 12 hs, Ob.box [mkI .i64 kind, mkS ty, mkS id, mkS fr, mkS to, mkS sh, mkS tok, mkS rea, mkI .u32 hh, mkI .i64 ver, mkB rem, AV.d (.sl its)], Ob.gone, Ob.gone]⟩))) (
    FamNext st inv μ kk ⟨[AV.d (.sl sl), AV.jk, mkB false, AV.rf 1 0, AV.rf 3 0, AV.vw 4 (List.length hs), mkI .i64 (IntKind.wrap .i64 (i + (1 : Int)))] ++ (jks 162), [Ob.bun (famR (FamD.mk KK.str (Shp.map KK.str) lc)), Ob.box [AV.mp 0], Ob.bun (famR (FamD.mk KK.str (Shp.map KK.str) ld)), Ob.box [AV.mp 2], Ob.row 12 hs, Ob.box [mkI .i64 kind, mkS ty, mkS id, mkS fr, mkS to, mkS sh, mkS tok, mkS rea, mkI .u32 hh, mkI .i64 ver, mkB rem, AV.d (.sl its)]]⟩))) := by kernel_rfl
def stA2 (lc ld : FLs) (hs : List (List D)) (n i : Int) : S := ⟨[.jk, .jk, mkB false, .rf 1 0, .rf 3 0, .d (.sl hs), .jk, .jk, .jk, .jk, mkI .i64 n, mkI .i64 i] ++ jks 157, [fobC lc, .box [.mp 0], fobC ld, .box [.mp 2]]⟩
noncomputable def rLa_c_k0 {ι : Type} (st : ι → S) (inv : ι → Prop) (μ : ι → Nat) (kk : ι) (lc : FLs) (ld : FLs) (hs : List (List D)) (n : Int) (i : Int) (q : AV → Prop) : Kont := kBlk (6 : Nat) (kSeq (aCode KS GLa (cAt [1, 1, 1, 1, 1, 1, 0, 1, 0, 0, 1, 0, 0, 1, 1] Tryd.b3) (kBlk (5 : Nat) (kSeq (aCode KS GLa (cAt [1, 1, 1, 1, 1, 1, 0, 1, 0, 0, 1, 1] Tryd.b3) (kFamM [] (maskOf (stA2 lc ld hs n i)) st inv μ kk (rLa_b_k1 q))) (kFamM [] (maskOf (stA2 lc ld hs n i)) st inv μ kk (rLa_b_k1 q))))) (kBlk (5 : Nat) (kSeq (aCode KS GLa (cAt [1, 1, 1, 1, 1, 1, 0, 1, 0, 0, 1, 1] Tryd.b3) (kFamM [] (maskOf (stA2 lc ld hs n i)) st inv μ kk (rLa_b_k1 q))) (kFamM [] (maskOf (stA2 lc ld hs n i)) st inv μ kk (rLa_b_k1 q)))))
noncomputable def rLa_c_k1 (q : AV → Prop) : Kont := kBlk (8 : Nat) (kSeq (aCode KS GLa (cAt [1, 1, 1, 1, 1, 1, 1, 1, 1, 1] Tryd.b3) (kRet KS (Array.toList (Func.results Tryd.f3)) q)) (kRet KS (Array.toList (Func.results Tryd.f3)) q))
theorem rLa_c {ι : Type} (st : ι → S) (inv : ι → Prop) (μ : ι → Nat) (kk : ι) (lc ld : FLs) (hs : List (List D)) (n i : Int) (q : AV → Prop) :
  (aCode KS GLa (cAt [1, 1, 1, 1, 1, 1, 0, 1, 0, 0] Tryd.b3) (kFamM [] (maskOf (stA2 lc ld hs n i)) st inv μ kk (rLa_b_k1 q)) (stA2 lc ld hs n i)) = (
  ((List.length hs) ≤ LIM) →
  bcase (decide (i < ((List.length hs) : Int))) (
   ALoop (aCode KS GLa (cAt [1, 1, 1, 1, 1, 1, 0, 1, 0, 0, 1, 0, 0, 1, 0, 1, 0, 0] Tryd.b3)) (rLa_c_k0 st inv μ kk lc ld hs n i q) ⟨[AV.jk, AV.jk, mkB false, AV.rf 1 0, AV.rf 3 0, AV.d (.sl hs), AV.jk, AV.jk, AV.jk, AV.jk, mkI .i64 n, mkI .i64 i, mkB true, mkI .i64 (IntKind.wrap .i64 (i + (1 : Int)))] ++ (jks 49 ++ ([mkI .i64 i, AV.d (.sl hs), mkI .i64 ((List.length hs) : Int), mkB true, AV.jk, AV.jk, mkI .i64 i, mkI .i64 (IntKind.wrap .i64 (i + (1 : Int)))] ++ (jks 98))), [Ob.bun (famR (FamD.mk KK.str (Shp.map KK.str) lc)), Ob.box [AV.mp 0], Ob.bun (famR (FamD.mk KK.str (Shp.map KK.str) ld)), Ob.box [AV.mp 2]]⟩) (
   ∃ (l : FLs),
   ([AV.rf 0 0] = [AV.rf 0 0]) ∧
   ([Ob.box [AV.mp (0 + 1)], Ob.bun (famR (FamD.mk KK.str (Shp.map KK.str) lc)), Ob.gh [AV.rf 0 0]] = [Ob.box [AV.mp 1], Ob.bun (famR (FamD.mk KK.str (Shp.map KK.str) l)), Ob.gh [AV.rf 0 0]]) ∧
   (CrOk l) ∧
   ((cntL l) ≤ (1000 : Nat)) ∧ (
    ∀ (ks : List ByteArray),
    (SortB ks (List.map (fun (x : Prod Key (Prod Nat Rec)) => Prod.fst x) l)) →
    ((Option.some (Ob.gh [AV.rf 0 0])) = (Option.some (Ob.gh [AV.rf 0 0]))) ∧
    ALoop (aCode KS GLa (cAt [1, 1, 1, 1, 1, 1, 1, 1, 1, 0, 1, 0, 0] Tryd.b3)) (rLa_c_k1 q) ⟨[AV.jk, AV.jk, mkB false, AV.rf 1 0, AV.rf 3 0, AV.d (.sl hs), AV.jk, AV.jk, AV.jk, AV.jk, mkI .i64 n, mkI .i64 i, AV.jk, AV.jk, AV.jk, AV.jk, mkI .i64 0, AV.d (.sl (strsD ks)), mkI .i64 0] ++ (jks 44 ++ ([mkI .i64 i, AV.d (.sl hs), mkI .i64 ((List.length hs) : Int), mkB false] ++ (jks 75 ++ ([AV.rf 1 0, AV.d (.sl (strsD ks))] ++ (jks 25))))), [Ob.bun (famR (FamD.mk KK.str (Shp.map KK.str) l)), Ob.box [AV.mp (if 1 < 2 then 0 else 5 + (1 - 2))], Ob.bun (famR (FamD.mk KK.str (Shp.map KK.str) ld)), Ob.box [AV.mp 2], Ob.gone, Ob.gone]⟩))) := by kernel_rfl
def stAj (lc ld : FLs) (hs : List (List D)) (n i : Int) (z : Bool) (k : Int) : S := ⟨[.jk, .jk, mkB false, .rf 1 0, .rf 3 0, .d (.sl hs), .jk, .jk, .jk, .jk, mkI .i64 n, mkI .i64 i, mkB z, mkI .i64 k] ++ jks 155, [fobC lc, .box [.mp 0], fobC ld, .box [.mp 2]]⟩
theorem rLa_jt {ι ι2 : Type} (st : ι → S) (inv : ι → Prop) (μ : ι → Nat) (kk : ι) (st2 : ι2 → S) (inv2 : ι2 → Prop) (μ2 : ι2 → Nat) (kk2 : ι2) (lc ld : FLs) (hs : List (List D)) (n i : Int) (k : Int) (q : AV → Prop) :
  (aCode KS GLa (cAt [1, 1, 1, 1, 1, 1, 0, 1, 0, 0, 1, 0, 0, 1, 0, 1, 0, 0] Tryd.b3) (kFamM [] (maskOf (stAj lc ld hs n i true k)) st2 inv2 μ2 kk2 (rLa_c_k0 st inv μ kk lc ld hs n i q)) (stAj lc ld hs n i true k)) = (
  ((List.length hs) ≤ LIM) →
  bcase (decide (k < ((List.length hs) : Int))) (
   (((0 : Int) ≤ k) ∧ (k < ((List.length hs) : Int))) ∧
   ((List.length (List.getD hs (Int.toNat k) [])) = 12) ∧
   ((1 : Nat) ≤ (List.length (List.drop 3 (List.getD hs (Int.toNat k) [])))) ∧
   ((List.getD (List.drop 3 (List.getD hs (Int.toNat k) [])) 0 d0) = (D.v (.string (strD (List.getD (List.drop 3 (List.getD hs (Int.toNat k) [])) 0 d0))))) ∧
   (((0 : Int) ≤ i) ∧ (i < ((List.length hs) : Int))) ∧
   ((List.length (List.getD hs (Int.toNat i) [])) = 12) ∧
   ((1 : Nat) ≤ (List.length (List.drop 3 (List.getD hs (Int.toNat i) [])))) ∧
   ((List.getD (List.drop 3 (List.getD hs (Int.toNat i) [])) 0 d0) = (D.v (.string (strD (List.getD (List.drop 3 (List.getD hs (Int.toNat i) [])) 0 d0))))) ∧
   FamNext st2 inv2 μ2 kk2 ⟨[AV.jk, AV.jk, mkB false, AV.rf 1 0, AV.rf 3 0, AV.d (.sl hs), AV.jk, AV.jk, AV.jk, AV.jk, mkI .i64 n, mkI .i64 i, mkB (!(decide ((strD (List.getD (List.drop 3 (List.getD hs (Int.toNat k) [])) 0 d0)) = (strD (List.getD (List.drop 3 (List.getD hs (Int.toNat i) [])) 0 d0))))), mkI .i64 (IntKind.wrap .i64 (k + (1 : Int)))] ++ (jks 155), [Ob.bun (famR (FamD.mk KK.str (Shp.map KK.str) lc)), Ob.box [AV.mp 0], Ob.bun (famR (FamD.mk KK.str (Shp.map KK.str) ld)), Ob.box [AV.mp 2]]⟩) (
   (((0 : Int) ≤ i) ∧ (i < ((List.length hs) : Int))) ∧
   ((List.length (List.getD hs (Int.toNat i) [])) = 12) ∧
   ((1 : Nat) ≤ (List.length (List.drop 3 (List.getD hs (Int.toNat i) [])))) ∧
   ((List.getD (List.drop 3 (List.getD hs (Int.toNat i) [])) 0 d0) = (D.v (.string (strD (List.getD (List.drop 3 (List.getD hs (Int.toNat i) [])) 0 d0))))) ∧ (
    ∃ (l : FLs),
    ∃ (x : ByteArray),
    ([AV.rf 0 0, mkS (strD (List.getD (List.drop 3 (List.getD hs (Int.toNat i) [])) 0 d0))] = [AV.rf 0 0, mkS x]) ∧
    ([Ob.box [AV.mp (0 + 1)], Ob.bun (famR (FamD.mk KK.str (Shp.map KK.str) lc)), Ob.gh [AV.rf 0 0]] = [Ob.box [AV.mp 1], Ob.bun (famR (FamD.mk KK.str (Shp.map KK.str) l)), Ob.gh [AV.rf 0 0]]) ∧
    (CrOk l) ∧
    ((ByteArray.size x) ≤ LIM) ∧
    ((Option.some (Ob.gh [AV.rf 0 0])) = (Option.some (Ob.gh [AV.rf 0 0]))) ∧
    (((0 : Int) ≤ i) ∧ (i < ((List.length hs) : Int))) ∧
    ((List.length (List.getD hs (Int.toNat i) [])) = 12) ∧
    ((1 : Nat) ≤ (List.length (List.drop 1 (List.getD hs (Int.toNat i) [])))) ∧
    ((List.getD (List.drop 1 (List.getD hs (Int.toNat i) [])) 0 d0) = (D.v (.string (strD (List.getD (List.drop 1 (List.getD hs (Int.toNat i) [])) 0 d0))))) ∧
    bcase (!((hasK (Key.s (cutD x)) (devs l (cutU x))) == (decide ((strD (List.getD (List.drop 1 (List.getD hs (Int.toNat i) [])) 0 d0)) = ⟨#[]⟩)))) (
     q (mkB false)) (
     bcase (hasK (Key.s (cutD x)) (devs l (cutU x))) (
      (((0 : Int) ≤ i) ∧ (i < ((List.length hs) : Int))) ∧
      ((List.length (List.getD hs (Int.toNat i) [])) = 12) ∧
      ((1 : Nat) ≤ (List.length (List.drop 5 (List.getD hs (Int.toNat i) [])))) ∧
      ((List.getD (List.drop 5 (List.getD hs (Int.toNat i) [])) 0 d0) = (D.v (.string (strD (List.getD (List.drop 5 (List.getD hs (Int.toNat i) [])) 0 d0))))) ∧
      bcase (!(decide ((getS (Key.s (cutD x)) (devs l (cutU x))) = (strD (List.getD (List.drop 5 (List.getD hs (Int.toNat i) [])) 0 d0))))) (
       q (mkB false)) (
       (((0 : Int) ≤ i) ∧ (i < ((List.length hs) : Int))) ∧
       ((List.length (List.getD hs (Int.toNat i) [])) = 12) ∧
       ((1 : Nat) ≤ (List.length (List.drop 1 (List.getD hs (Int.toNat i) [])))) ∧
       ((List.getD (List.drop 1 (List.getD hs (Int.toNat i) [])) 0 d0) = (D.v (.string (strD (List.getD (List.drop 1 (List.getD hs (Int.toNat i) [])) 0 d0))))) ∧
       bcase (decide ((strD (List.getD (List.drop 1 (List.getD hs (Int.toNat i) [])) 0 d0)) = ⟨#[]⟩)) (
        (((0 : Int) ≤ i) ∧ (i < ((List.length hs) : Int))) ∧
        ((List.length (List.getD hs (Int.toNat i) [])) = 12) ∧
        (12 ≤ (List.length (List.getD hs (Int.toNat i) []))) ∧
        (((List.getD (List.getD hs (Int.toNat i) []) 0 d0) = (D.v (.int IntKind.i64 (intD (List.getD (List.getD hs (Int.toNat i) []) 0 d0))))) ∧ (((List.getD (List.drop 1 (List.getD hs (Int.toNat i) [])) 0 d0) = (D.v (.string (strD (List.getD (List.drop 1 (List.getD hs (Int.toNat i) [])) 0 d0))))) ∧ (((List.getD (List.drop 1 (List.drop 1 (List.getD hs (Int.toNat i) []))) 0 d0) = (D.v (.string (strD (List.getD (List.drop 1 (List.drop 1 (List.getD hs (Int.toNat i) []))) 0 d0))))) ∧ (((List.getD (List.drop 1 (List.drop 1 (List.drop 1 (List.getD hs (Int.toNat i) [])))) 0 d0) = (D.v (.string (strD (List.getD (List.drop 1 (List.drop 1 (List.drop 1 (List.getD hs (Int.toNat i) [])))) 0 d0))))) ∧ (((List.getD (List.drop 1 (List.drop 1 (List.drop 1 (List.drop 1 (List.getD hs (Int.toNat i) []))))) 0 d0) = (D.v (.string (strD (List.getD (List.drop 1 (List.drop 1 (List.drop 1 (List.drop 1 (List.getD hs (Int.toNat i) []))))) 0 d0))))) ∧ (((List.getD (List.drop 1 (List.drop 1 (List.drop 1 (List.drop 1 (List.drop 1 (List.getD hs (Int.toNat i) [])))))) 0 d0) = (D.v (.string (strD (List.getD (List.drop 1 (List.drop 1 (List.drop 1 (List.drop 1 (List.drop 1 (List.getD hs (Int.toNat i) [])))))) 0 d0))))) ∧ (((List.getD (List.drop 1 (List.drop 1 (List.drop 1 (List.drop 1 (List.drop 1 (List.drop 1 (List.getD hs (Int.toNat i) []))))))) 0 d0) = (D.v (.string (strD (List.getD (List.drop 1 (List.drop 1 (List.drop 1 (List.drop 1 (List.drop 1 (List.drop 1 (List.getD hs (Int.toNat i) []))))))) 0 d0))))) ∧ (((List.getD (List.drop 1 (List.drop 1 (List.drop 1 (List.drop 1 (List.drop 1 (List.drop 1 (List.drop 1 (List.getD hs (Int.toNat i) [])))))))) 0 d0) = (D.v (.string (strD (List.getD (List.drop 1 (List.drop 1 (List.drop 1 (List.drop 1 (List.drop 1 (List.drop 1 (List.drop 1 (List.getD hs (Int.toNat i) [])))))))) 0 d0))))) ∧ (((List.getD (List.drop 1 (List.drop 1 (List.drop 1 (List.drop 1 (List.drop 1 (List.drop 1 (List.drop 1 (List.drop 1 (List.getD hs (Int.toNat i) []))))))))) 0 d0) = (D.v (.int IntKind.u32 (intD (List.getD (List.drop 1 (List.drop 1 (List.drop 1 (List.drop 1 (List.drop 1 (List.drop 1 (List.drop 1 (List.drop 1 (List.getD hs (Int.toNat i) []))))))))) 0 d0))))) ∧ (((List.getD (List.drop 1 (List.drop 1 (List.drop 1 (List.drop 1 (List.drop 1 (List.drop 1 (List.drop 1 (List.drop 1 (List.drop 1 (List.getD hs (Int.toNat i) [])))))))))) 0 d0) = (D.v (.int IntKind.i64 (intD (List.getD (List.drop 1 (List.drop 1 (List.drop 1 (List.drop 1 (List.drop 1 (List.drop 1 (List.drop 1 (List.drop 1 (List.drop 1 (List.getD hs (Int.toNat i) [])))))))))) 0 d0))))) ∧ (((List.getD (List.drop 1 (List.drop 1 (List.drop 1 (List.drop 1 (List.drop 1 (List.drop 1 (List.drop 1 (List.drop 1 (List.drop 1 (List.drop 1 (List.getD hs (Int.toNat i) []))))))))))) 0 d0) = (D.v (.bool (boolD (List.getD (List.drop 1 (List.drop 1 (List.drop 1 (List.drop 1 (List.drop 1 (List.drop 1 (List.drop 1 (List.drop 1 (List.drop 1 (List.drop 1 (List.getD hs (Int.toNat i) []))))))))))) 0 d0))))) ∧ (((List.getD (List.drop 1 (List.drop 1 (List.drop 1 (List.drop 1 (List.drop 1 (List.drop 1 (List.drop 1 (List.drop 1 (List.drop 1 (List.drop 1 (List.drop 1 (List.getD hs (Int.toNat i) [])))))))))))) 0 d0) = (D.sl (slD (List.getD (List.drop 1 (List.drop 1 (List.drop 1 (List.drop 1 (List.drop 1 (List.drop 1 (List.drop 1 (List.drop 1 (List.drop 1 (List.drop 1 (List.drop 1 (List.getD hs (Int.toNat i) [])))))))))))) 0 d0)))) ∧ True)))))))))))) ∧ (
         ∃ (l_1 : FLs),
         ∃ (kind : Int),
         ∃ (ty : ByteArray),
         ∃ (id : ByteArray),
         ∃ (fr : ByteArray),
         ∃ (to : ByteArray),
         ∃ (sh : ByteArray),
         ∃ (tok : ByteArray),
         ∃ (rea : ByteArray),
         ∃ (hh : Int),
         ∃ (ver : Int),
         ∃ (rem : Bool),
         ∃ (its : List (List D)),
         ([AV.rf 0 0, AV.ag [mkI .i64 (intD (List.getD (List.getD hs (Int.toNat i) []) 0 d0)), mkS (strD (List.getD (List.drop 1 (List.getD hs (Int.toNat i) [])) 0 d0)), mkS (strD (List.getD (List.drop 1 (List.drop 1 (List.getD hs (Int.toNat i) []))) 0 d0)), mkS (strD (List.getD (List.drop 1 (List.drop 1 (List.drop 1 (List.getD hs (Int.toNat i) [])))) 0 d0)), mkS (strD (List.getD (List.drop 1 (List.drop 1 (List.drop 1 (List.drop 1 (List.getD hs (Int.toNat i) []))))) 0 d0)), mkS (strD (List.getD (List.drop 1 (List.drop 1 (List.drop 1 (List.drop 1 (List.drop 1 (List.getD hs (Int.toNat i) [])))))) 0 d0)), mkS (strD (List.getD (List.drop 1 (List.drop 1 (List.drop 1 (List.drop 1 (List.drop 1 (List.drop 1 (List.getD hs (Int.toNat i) []))))))) 0 d0)), mkS (strD (List.getD (List.drop 1 (List.drop 1 (List.drop 1 (List.drop 1 (List.drop 1 (List.drop 1 (List.drop 1 (List.getD hs (Int.toNat i) [])))))))) 0 d0)), mkI .u32 (intD (List.getD (List.drop 1 (List.drop 1 (List.drop 1 (List.drop 1 (List.drop 1 (List.drop 1 (List.drop 1 (List.drop 1 (List.getD hs (Int.toNat i) []))))))))) 0 d0)), mkI .i64 (intD (List.getD (List.drop 1 (List.drop 1 (List.drop 1 (List.drop 1 (List.drop 1 (List.drop 1 (List.drop 1 (List.drop 1 (List.drop 1 (List.getD hs (Int.toNat i) [])))))))))) 0 d0)), mkB (boolD (List.getD (List.drop 1 (List.drop 1 (List.drop 1 (List.drop 1 (List.drop 1 (List.drop 1 (List.drop 1 (List.drop 1 (List.drop 1 (List.drop 1 (List.getD hs (Int.toNat i) []))))))))))) 0 d0)), AV.d (.sl (slD (List.getD (List.drop 1 (List.drop 1 (List.drop 1 (List.drop 1 (List.drop 1 (List.drop 1 (List.drop 1 (List.drop 1 (List.drop 1 (List.drop 1 (List.drop 1 (List.getD hs (Int.toNat i) [])))))))))))) 0 d0)))]] = [AV.rf 0 0, AV.ag [mkI .i64 kind, mkS ty, mkS id, mkS fr, mkS to, mkS sh, mkS tok, mkS rea, mkI .u32 hh, mkI .i64 ver, mkB rem, AV.d (.sl its)]]) ∧
         ([Ob.box [AV.mp (0 + 1)], Ob.bun (famR (FamD.mk KK.str (Shp.map KK.str) ld)), Ob.gh [AV.rf 0 0]] = [Ob.box [AV.mp 1], Ob.bun (famR (FamD.mk KK.str (Shp.map KK.str) l_1)), Ob.gh [AV.rf 0 0]]) ∧
         (CrOk l_1) ∧
         ((cntL l_1) ≤ (1000 : Nat)) ∧
         ((ByteArray.size fr) ≤ SZC) ∧
         ((ByteArray.size sh) ≤ LIM) ∧ (
          ∀ (e : Int),
          ∀ (l' : FLs),
          (HeR l_1 kind ty fr sh e l') →
          ((Option.some (Ob.gh [AV.rf 0 0])) = (Option.some (Ob.gh [AV.rf 0 0]))) ∧
          bcase (e != (0 : Int)) (
           q (mkB false)) (
           FamNext st inv μ kk ⟨[AV.jk, AV.jk, mkB false, AV.rf 1 0, AV.rf 3 0, AV.d (.sl hs), AV.jk, AV.jk, AV.jk, AV.jk, mkI .i64 (IntKind.wrap .i64 (n + (1 : Int))), mkI .i64 (IntKind.wrap .i64 (i + (1 : Int)))] ++ (jks 157), [Ob.bun (famR (FamD.mk KK.str (Shp.map KK.str) l)), Ob.box [AV.mp (if 1 < 2 then 0 else 5 + (1 - 2))], Ob.bun (famR (FamD.mk KK.str (Shp.map KK.str) l')), Ob.box [AV.mp (if 1 < 2 then 2 else 7 + (1 - 2))], Ob.gone, Ob.gone, Ob.gone, Ob.gone]⟩)))) (
        FamNext st inv μ kk ⟨[AV.jk, AV.jk, mkB false, AV.rf 1 0, AV.rf 3 0, AV.d (.sl hs), AV.jk, AV.jk, AV.jk, AV.jk, mkI .i64 n, mkI .i64 (IntKind.wrap .i64 (i + (1 : Int)))] ++ (jks 157), [Ob.bun (famR (FamD.mk KK.str (Shp.map KK.str) l)), Ob.box [AV.mp (if 1 < 2 then 0 else 5 + (1 - 2))], Ob.bun (famR (FamD.mk KK.str (Shp.map KK.str) ld)), Ob.box [AV.mp 2], Ob.gone, Ob.gone]⟩))) (
      (((0 : Int) ≤ i) ∧ (i < ((List.length hs) : Int))) ∧
      ((List.length (List.getD hs (Int.toNat i) [])) = 12) ∧
      ((1 : Nat) ≤ (List.length (List.drop 1 (List.getD hs (Int.toNat i) [])))) ∧
      ((List.getD (List.drop 1 (List.getD hs (Int.toNat i) [])) 0 d0) = (D.v (.string (strD (List.getD (List.drop 1 (List.getD hs (Int.toNat i) [])) 0 d0))))) ∧
      bcase (decide ((strD (List.getD (List.drop 1 (List.getD hs (Int.toNat i) [])) 0 d0)) = ⟨#[]⟩)) (
       (((0 : Int) ≤ i) ∧ (i < ((List.length hs) : Int))) ∧
       ((List.length (List.getD hs (Int.toNat i) [])) = 12) ∧
       (12 ≤ (List.length (List.getD hs (Int.toNat i) []))) ∧
       (((List.getD (List.getD hs (Int.toNat i) []) 0 d0) = (D.v (.int IntKind.i64 (intD (List.getD (List.getD hs (Int.toNat i) []) 0 d0))))) ∧ (((List.getD (List.drop 1 (List.getD hs (Int.toNat i) [])) 0 d0) = (D.v (.string (strD (List.getD (List.drop 1 (List.getD hs (Int.toNat i) [])) 0 d0))))) ∧ (((List.getD (List.drop 1 (List.drop 1 (List.getD hs (Int.toNat i) []))) 0 d0) = (D.v (.string (strD (List.getD (List.drop 1 (List.drop 1 (List.getD hs (Int.toNat i) []))) 0 d0))))) ∧ (((List.getD (List.drop 1 (List.drop 1 (List.drop 1 (List.getD hs (Int.toNat i) [])))) 0 d0) = (D.v (.string (strD (List.getD (List.drop 1 (List.drop 1 (List.drop 1 (List.getD hs (Int.toNat i) [])))) 0 d0))))) ∧ (((List.getD (List.drop 1 (List.drop 1 (List.drop 1 (List.drop 1 (List.getD hs (Int.toNat i) []))))) 0 d0) = (D.v (.string (strD (List.getD (List.drop 1 (List.drop 1 (List.drop 1 (List.drop 1 (List.getD hs (Int.toNat i) []))))) 0 d0))))) ∧ (((List.getD (List.drop 1 (List.drop 1 (List.drop 1 (List.drop 1 (List.drop 1 (List.getD hs (Int.toNat i) [])))))) 0 d0) = (D.v (.string (strD (List.getD (List.drop 1 (List.drop 1 (List.drop 1 (List.drop 1 (List.drop 1 (List.getD hs (Int.toNat i) [])))))) 0 d0))))) ∧ (((List.getD (List.drop 1 (List.drop 1 (List.drop 1 (List.drop 1 (List.drop 1 (List.drop 1 (List.getD hs (Int.toNat i) []))))))) 0 d0) = (D.v (.string (strD (List.getD (List.drop 1 (List.drop 1 (List.drop 1 (List.drop 1 (List.drop 1 (List.drop 1 (List.getD hs (Int.toNat i) []))))))) 0 d0))))) ∧ (((List.getD (List.drop 1 (List.drop 1 (List.drop 1 (List.drop 1 (List.drop 1 (List.drop 1 (List.drop 1 (List.getD hs (Int.toNat i) [])))))))) 0 d0) = (D.v (.string (strD (List.getD (List.drop 1 (List.drop 1 (List.drop 1 (List.drop 1 (List.drop 1 (List.drop 1 (List.drop 1 (List.getD hs (Int.toNat i) [])))))))) 0 d0))))) ∧ (((List.getD (List.drop 1 (List.drop 1 (List.drop 1 (List.drop 1 (List.drop 1 (List.drop 1 (List.drop 1 (List.drop 1 (List.getD hs (Int.toNat i) []))))))))) 0 d0) = (D.v (.int IntKind.u32 (intD (List.getD (List.drop 1 (List.drop 1 (List.drop 1 (List.drop 1 (List.drop 1 (List.drop 1 (List.drop 1 (List.drop 1 (List.getD hs (Int.toNat i) []))))))))) 0 d0))))) ∧ (((List.getD (List.drop 1 (List.drop 1 (List.drop 1 (List.drop 1 (List.drop 1 (List.drop 1 (List.drop 1 (List.drop 1 (List.drop 1 (List.getD hs (Int.toNat i) [])))))))))) 0 d0) = (D.v (.int IntKind.i64 (intD (List.getD (List.drop 1 (List.drop 1 (List.drop 1 (List.drop 1 (List.drop 1 (List.drop 1 (List.drop 1 (List.drop 1 (List.drop 1 (List.getD hs (Int.toNat i) [])))))))))) 0 d0))))) ∧ (((List.getD (List.drop 1 (List.drop 1 (List.drop 1 (List.drop 1 (List.drop 1 (List.drop 1 (List.drop 1 (List.drop 1 (List.drop 1 (List.drop 1 (List.getD hs (Int.toNat i) []))))))))))) 0 d0) = (D.v (.bool (boolD (List.getD (List.drop 1 (List.drop 1 (List.drop 1 (List.drop 1 (List.drop 1 (List.drop 1 (List.drop 1 (List.drop 1 (List.drop 1 (List.drop 1 (List.getD hs (Int.toNat i) []))))))))))) 0 d0))))) ∧ (((List.getD (List.drop 1 (List.drop 1 (List.drop 1 (List.drop 1 (List.drop 1 (List.drop 1 (List.drop 1 (List.drop 1 (List.drop 1 (List.drop 1 (List.drop 1 (List.getD hs (Int.toNat i) [])))))))))))) 0 d0) = (D.sl (slD (List.getD (List.drop 1 (List.drop 1 (List.drop 1 (List.drop 1 (List.drop 1 (List.drop 1 (List.drop 1 (List.drop 1 (List.drop 1 (List.drop 1 (List.drop 1 (List.getD hs (Int.toNat i) [])))))))))))) 0 d0)))) ∧ True)))))))))))) ∧ (
        ∃ (l_1 : FLs),
        ∃ (kind : Int),
        ∃ (ty : ByteArray),
        ∃ (id : ByteArray),
        ∃ (fr : ByteArray),
        ∃ (to : ByteArray),
        ∃ (sh : ByteArray),
        ∃ (tok : ByteArray),
        ∃ (rea : ByteArray),
        ∃ (hh : Int),
        ∃ (ver : Int),
        ∃ (rem : Bool),
        ∃ (its : List (List D)),
        ([AV.rf 0 0, AV.ag [mkI .i64 (intD (List.getD (List.getD hs (Int.toNat i) []) 0 d0)), mkS (strD (List.getD (List.drop 1 (List.getD hs (Int.toNat i) [])) 0 d0)), mkS (strD (List.getD (List.drop 1 (List.drop 1 (List.getD hs (Int.toNat i) []))) 0 d0)), mkS (strD (List.getD (List.drop 1 (List.drop 1 (List.drop 1 (List.getD hs (Int.toNat i) [])))) 0 d0)), mkS (strD (List.getD (List.drop 1 (List.drop 1 (List.drop 1 (List.drop 1 (List.getD hs (Int.toNat i) []))))) 0 d0)), mkS (strD (List.getD (List.drop 1 (List.drop 1 (List.drop 1 (List.drop 1 (List.drop 1 (List.getD hs (Int.toNat i) [])))))) 0 d0)), mkS (strD (List.getD (List.drop 1 (List.drop 1 (List.drop 1 (List.drop 1 (List.drop 1 (List.drop 1 (List.getD hs (Int.toNat i) []))))))) 0 d0)), mkS (strD (List.getD (List.drop 1 (List.drop 1 (List.drop 1 (List.drop 1 (List.drop 1 (List.drop 1 (List.drop 1 (List.getD hs (Int.toNat i) [])))))))) 0 d0)), mkI .u32 (intD (List.getD (List.drop 1 (List.drop 1 (List.drop 1 (List.drop 1 (List.drop 1 (List.drop 1 (List.drop 1 (List.drop 1 (List.getD hs (Int.toNat i) []))))))))) 0 d0)), mkI .i64 (intD (List.getD (List.drop 1 (List.drop 1 (List.drop 1 (List.drop 1 (List.drop 1 (List.drop 1 (List.drop 1 (List.drop 1 (List.drop 1 (List.getD hs (Int.toNat i) [])))))))))) 0 d0)), mkB (boolD (List.getD (List.drop 1 (List.drop 1 (List.drop 1 (List.drop 1 (List.drop 1 (List.drop 1 (List.drop 1 (List.drop 1 (List.drop 1 (List.drop 1 (List.getD hs (Int.toNat i) []))))))))))) 0 d0)), AV.d (.sl (slD (List.getD (List.drop 1 (List.drop 1 (List.drop 1 (List.drop 1 (List.drop 1 (List.drop 1 (List.drop 1 (List.drop 1 (List.drop 1 (List.drop 1 (List.drop 1 (List.getD hs (Int.toNat i) [])))))))))))) 0 d0)))]] = [AV.rf 0 0, AV.ag [mkI .i64 kind, mkS ty, mkS id, mkS fr, mkS to, mkS sh, mkS tok, mkS rea, mkI .u32 hh, mkI .i64 ver, mkB rem, AV.d (.sl its)]]) ∧
        ([Ob.box [AV.mp (0 + 1)], Ob.bun (famR (FamD.mk KK.str (Shp.map KK.str) ld)), Ob.gh [AV.rf 0 0]] = [Ob.box [AV.mp 1], Ob.bun (famR (FamD.mk KK.str (Shp.map KK.str) l_1)), Ob.gh [AV.rf 0 0]]) ∧
        (CrOk l_1) ∧
        ((cntL l_1) ≤ (1000 : Nat)) ∧
        ((ByteArray.size fr) ≤ SZC) ∧
        ((ByteArray.size sh) ≤ LIM) ∧ (
         ∀ (e : Int),
         ∀ (l' : FLs),
         (HeR l_1 kind ty fr sh e l') →
         ((Option.some (Ob.gh [AV.rf 0 0])) = (Option.some (Ob.gh [AV.rf 0 0]))) ∧
         bcase (e != (0 : Int)) (
          q (mkB false)) (
          FamNext st inv μ kk ⟨[AV.jk, AV.jk, mkB false, AV.rf 1 0, AV.rf 3 0, AV.d (.sl hs), AV.jk, AV.jk, AV.jk, AV.jk, mkI .i64 (IntKind.wrap .i64 (n + (1 : Int))), mkI .i64 (IntKind.wrap .i64 (i + (1 : Int)))] ++ (jks 157), [Ob.bun (famR (FamD.mk KK.str (Shp.map KK.str) l)), Ob.box [AV.mp (if 1 < 2 then 0 else 5 + (1 - 2))], Ob.bun (famR (FamD.mk KK.str (Shp.map KK.str) l')), Ob.box [AV.mp (if 1 < 2 then 2 else 7 + (1 - 2))], Ob.gone, Ob.gone, Ob.gone, Ob.gone]⟩)))) (
       FamNext st inv μ kk ⟨[AV.jk, AV.jk, mkB false, AV.rf 1 0, AV.rf 3 0, AV.d (.sl hs), AV.jk, AV.jk, AV.jk, AV.jk, mkI .i64 n, mkI .i64 (IntKind.wrap .i64 (i + (1 : Int)))] ++ (jks 157), [Ob.bun (famR (FamD.mk KK.str (Shp.map KK.str) l)), Ob.box [AV.mp (if 1 < 2 then 0 else 5 + (1 - 2))], Ob.bun (famR (FamD.mk KK.str (Shp.map KK.str) ld)), Ob.box [AV.mp 2], Ob.gone, Ob.gone]⟩)))))) := by kernel_rfl
theorem rLa_jf {ι ι2 : Type} (st : ι → S) (inv : ι → Prop) (μ : ι → Nat) (kk : ι) (st2 : ι2 → S) (inv2 : ι2 → Prop) (μ2 : ι2 → Nat) (kk2 : ι2) (lc ld : FLs) (hs : List (List D)) (n i : Int) (k : Int) (q : AV → Prop) :
  (aCode KS GLa (cAt [1, 1, 1, 1, 1, 1, 0, 1, 0, 0, 1, 0, 0, 1, 0, 1, 0, 0] Tryd.b3) (kFamM [] (maskOf (stAj lc ld hs n i false k)) st2 inv2 μ2 kk2 (rLa_c_k0 st inv μ kk lc ld hs n i q)) (stAj lc ld hs n i false k)) = (
  ((List.length hs) ≤ LIM) →
  bcase (decide (k < ((List.length hs) : Int))) (
   FamNext st2 inv2 μ2 kk2 ⟨[AV.jk, AV.jk, mkB false, AV.rf 1 0, AV.rf 3 0, AV.d (.sl hs), AV.jk, AV.jk, AV.jk, AV.jk, mkI .i64 n, mkI .i64 i, mkB false, mkI .i64 (IntKind.wrap .i64 (k + (1 : Int)))] ++ (jks 155), [Ob.bun (famR (FamD.mk KK.str (Shp.map KK.str) lc)), Ob.box [AV.mp 0], Ob.bun (famR (FamD.mk KK.str (Shp.map KK.str) ld)), Ob.box [AV.mp 2]]⟩) (
   (((0 : Int) ≤ i) ∧ (i < ((List.length hs) : Int))) ∧
   ((List.length (List.getD hs (Int.toNat i) [])) = 12) ∧
   ((1 : Nat) ≤ (List.length (List.drop 3 (List.getD hs (Int.toNat i) [])))) ∧
   ((List.getD (List.drop 3 (List.getD hs (Int.toNat i) [])) 0 d0) = (D.v (.string (strD (List.getD (List.drop 3 (List.getD hs (Int.toNat i) [])) 0 d0))))) ∧ (
    ∃ (l : FLs),
    ∃ (x : ByteArray),
    ([AV.rf 0 0, mkS (strD (List.getD (List.drop 3 (List.getD hs (Int.toNat i) [])) 0 d0))] = [AV.rf 0 0, mkS x]) ∧
    ([Ob.box [AV.mp (0 + 1)], Ob.bun (famR (FamD.mk KK.str (Shp.map KK.str) lc)), Ob.gh [AV.rf 0 0]] = [Ob.box [AV.mp 1], Ob.bun (famR (FamD.mk KK.str (Shp.map KK.str) l)), Ob.gh [AV.rf 0 0]]) ∧
    (CrOk l) ∧
    ((ByteArray.size x) ≤ LIM) ∧
    ((Option.some (Ob.gh [AV.rf 0 0])) = (Option.some (Ob.gh [AV.rf 0 0]))) ∧
    FamNext st inv μ kk ⟨[AV.jk, AV.jk, mkB false, AV.rf 1 0, AV.rf 3 0, AV.d (.sl hs), AV.jk, AV.jk, AV.jk, AV.jk, mkI .i64 n, mkI .i64 (IntKind.wrap .i64 (i + (1 : Int)))] ++ (jks 157), [Ob.bun (famR (FamD.mk KK.str (Shp.map KK.str) l)), Ob.box [AV.mp (if 1 < 2 then 0 else 5 + (1 - 2))], Ob.bun (famR (FamD.mk KK.str (Shp.map KK.str) ld)), Ob.box [AV.mp 2], Ob.gone, Ob.gone]⟩))) := by kernel_rfl
def stA3 (lc ld : FLs) (n tot : Int) (ks : List (List D)) (i : Int) : S := ⟨[.jk, .jk, mkB false, .rf 1 0, .rf 3 0, .jk, .jk, .jk, .jk, .jk, mkI .i64 n, .jk, .jk, .jk, .jk, .jk, mkI .i64 tot, .d (.sl ks), mkI .i64 i] ++ jks 150, [fobC lc, .box [.mp 0], fobC ld, .box [.mp 2]]⟩
theorem rLa_d {ι : Type} (st : ι → S) (inv : ι → Prop) (μ : ι → Nat) (kk : ι) (lc ld : FLs) (n tot : Int) (ks : List (List D)) (i : Int) (q : AV → Prop) :
  (aCode KS GLa (cAt [1, 1, 1, 1, 1, 1, 1, 1, 1, 0, 1, 0, 0] Tryd.b3) (kFamM [] (maskOf (stA3 lc ld n tot ks i)) st inv μ kk (rLa_c_k1 q)) (stA3 lc ld n tot ks i)) = (
  ((List.length ks) ≤ LIM) →
  bcase (decide (i < ((List.length ks) : Int))) (
   (((0 : Int) ≤ i) ∧ (i < ((List.length ks) : Int))) ∧
   ((List.length (List.getD ks (Int.toNat i) [])) = 1) ∧
   ((1 : Nat) ≤ (List.length (List.getD ks (Int.toNat i) []))) ∧
   ((List.getD (List.getD ks (Int.toNat i) []) 0 d0) = (D.v (.string (strD (List.getD (List.getD ks (Int.toNat i) []) 0 d0))))) ∧ (
    ∃ (l : FLs),
    ∃ (u : ByteArray),
    ([AV.rf 0 0, mkS (strD (List.getD (List.getD ks (Int.toNat i) []) 0 d0))] = [AV.rf 0 0, mkS u]) ∧
    ([Ob.box [AV.mp (0 + 1)], Ob.bun (famR (FamD.mk KK.str (Shp.map KK.str) lc)), Ob.gh [AV.rf 0 0]] = [Ob.box [AV.mp 1], Ob.bun (famR (FamD.mk KK.str (Shp.map KK.str) l)), Ob.gh [AV.rf 0 0]]) ∧
    (CrOk l) ∧
    ((cntL l) ≤ (1000 : Nat)) ∧ (
     ∀ (ks_1 : List ByteArray),
     (SortB ks_1 (List.map (fun (x : Prod Key AV) => Prod.fst x) (devs l u))) →
     ((Option.some (Ob.gh [AV.rf 0 0])) = (Option.some (Ob.gh [AV.rf 0 0]))) ∧ (
      ((List.length (strsD ks_1)) ≤ LIM) →
      FamNext st inv μ kk ⟨[AV.jk, AV.jk, mkB false, AV.rf 1 0, AV.rf 3 0, AV.jk, AV.jk, AV.jk, AV.jk, AV.jk, mkI .i64 n, AV.jk, AV.jk, AV.jk, AV.jk, AV.jk, mkI .i64 (IntKind.wrap .i64 (tot + ((List.length (strsD ks_1)) : Int))), AV.d (.sl ks), mkI .i64 (IntKind.wrap .i64 (i + (1 : Int)))] ++ (jks 150), [Ob.bun (famR (FamD.mk KK.str (Shp.map KK.str) l)), Ob.box [AV.mp (if 1 < 2 then 0 else 5 + (1 - 2))], Ob.bun (famR (FamD.mk KK.str (Shp.map KK.str) ld)), Ob.box [AV.mp 2], Ob.gone, Ob.gone]⟩)))) (
   bcase (tot == n) (
    ∃ (l : FLs),
    ([AV.rf 0 0] = [AV.rf 0 0]) ∧
    ([Ob.box [AV.mp (0 + 1)], Ob.bun (famR (FamD.mk KK.str (Shp.map KK.str) lc)), Ob.gh [AV.rf 0 0]] = [Ob.box [AV.mp 1], Ob.bun (famR (FamD.mk KK.str (Shp.map KK.str) l)), Ob.gh [AV.rf 0 0]]) ∧
    (CrOk l) ∧
    ((cntL l) ≤ (1000 : Nat)) ∧ (
     ∀ (ks_1 : List ByteArray),
     (SortB ks_1 (List.map (fun (x : Prod Key (Prod Nat Rec)) => Prod.fst x) l)) →
     ((Option.some (Ob.gh [AV.rf 0 0])) = (Option.some (Ob.gh [AV.rf 0 0]))) ∧ (
      ∃ (l_1 : FLs),
      ([AV.rf 0 0] = [AV.rf 0 0]) ∧
      ([Ob.box [AV.mp (0 + 1)], Ob.bun (famR (FamD.mk KK.str (Shp.map KK.str) ld)), Ob.gh [AV.rf 0 0]] = [Ob.box [AV.mp 1], Ob.bun (famR (FamD.mk KK.str (Shp.map KK.str) l_1)), Ob.gh [AV.rf 0 0]]) ∧
      (CrOk l_1) ∧
      ((cntL l_1) ≤ (1000 : Nat)) ∧ (
       ∀ (ks_2 : List ByteArray),
       (SortB ks_2 (List.map (fun (x : Prod Key (Prod Nat Rec)) => Prod.fst x) l_1)) →
       ((Option.some (Ob.gh [AV.rf 0 0])) = (Option.some (Ob.gh [AV.rf 0 0]))) ∧
       (((strsD ks_1) = (strsD (unSS (strsD ks_1)))) ∧ ((strsD ks_2) = (strsD (unSS (strsD ks_2))))) ∧
       q (mkB (decide ((unSS (strsD ks_1)) = (unSS (strsD ks_2))))))))) (
    q (mkB false)))) := by kernel_rfl
def lastH (H : List Stz) (i : Nat) : Prop := ∀ (m : Nat) (h : m < H.length) (h0 : i < H.length), i < m → H[m].fr ≠ H[i].fr
structure WfS (s : Stz) : Prop where
  kind : s.kind = 1
  addr : addrB s.fr = true
  cut : cutB s.fr = true
  ty : s.ty = unB ∨ s.ty = ⟨#[]⟩
  fit : s.fit
structure LaI (l : FLs) (H : List Stz) : Prop where
  ok : CrOk l
  cnt : cntL l ≤ 64
  wf : ∀ s ∈ H, WfS s
  at_ : ∀ (i : Nat) (h : i < H.length), lastH H i → lk l (cutU H[i].fr) (cutD H[i].fr) = if H[i].ty = ⟨#[]⟩ then some H[i].sh else none
  src : ∀ u d, (lk l u d).isSome = true → ∃ (i : Nat) (h : i < H.length), lastH H i ∧ cutU H[i].fr = u ∧ cutD H[i].fr = d ∧ H[i].ty = ⟨#[]⟩
theorem la_nil : LaI [] [] := ⟨crOk_nil, by decide, fun s hs => (by cases hs), fun i h => (by simp at h), fun u d h => (by cases h)⟩
theorem la_keep {l l' : FLs} {H : List Stz} {kind e : Int} {ty fr sh : ByteArray} (h : LaI l H) (hh : HeR l kind ty fr sh e l') (he : e ≠ 0) : l' = l := by
  cases hh with
  | bad _ => rfl
  | full _ _ _ _ _ _ => rfl
  | off _ _ _ _ => exact absurd rfl he
  | on _ _ _ _ _ _ => exact absurd rfl he
theorem app_old {H : List Stz} {s : Stz} {i : Nat} (h : i < H.length) : (H ++ [s])[i]'(by simp; omega) = H[i] := List.getElem_append_left h
theorem app_new {H : List Stz} {s : Stz} : (H ++ [s])[H.length]'(by simp) = s := by simp
theorem lastH_app {H : List Stz} {s : Stz} {i : Nat} (h : i < H.length) : lastH (H ++ [s]) i ↔ lastH H i ∧ s.fr ≠ H[i].fr := by
  constructor
  · intro hl
    refine ⟨fun m hm h0 hi => ?_, ?_⟩
    · have := hl m (by simp; omega) (by simp; omega) hi
      rwa [app_old hm, app_old h] at this
    · have := hl H.length (by simp) (by simp; omega) h
      rwa [app_new, app_old h] at this
  · rintro ⟨h1, h2⟩ m hm h0 hi
    rw [app_old h]
    rcases Nat.lt_or_ge m H.length with hlt | hge
    · rw [app_old hlt]; exact h1 m hlt h hi
    · have : m = H.length := by simp at hm; omega
      subst this
      rw [app_new]; exact h2
theorem lastH_new {H : List Stz} {s : Stz} : lastH (H ++ [s]) H.length := fun m hm _ hi => by simp at hm; omega
theorem la_step {l l' : FLs} {H : List Stz} {s : Stz} (h : LaI l H) (hh : HeR l s.kind s.ty s.fr s.sh 0 l') (hc : cutB s.fr = true) (hf : s.fit) : LaI l' (H ++ [s]) := by
  obtain ⟨c1, c2⟩ := he_keep hh h.ok h.cnt
  have hw : WfS s := by
    cases hh with
    | off h1 h2 h3 _ => exact ⟨h1, h2, hc, .inl h3, hf⟩
    | on h1 h2 h3 _ _ _ => exact ⟨h1, h2, hc, .inr h3, hf⟩
  have hd := addr_dev hw.addr hc
  have hlk : ∀ w e, lk l' w e = if w = cutU s.fr ∧ e = cutD s.fr then (if s.ty = ⟨#[]⟩ then some s.sh else none) else lk l w e := fun w e => by
    cases hh with
    | off h1 h2 h3 hch =>
      rw [lk_off h.ok hch, if_neg (show ¬ s.ty = ⟨#[]⟩ by rw [h3]; decide)]
      by_cases hx : w = cutU s.fr ∧ e = cutD s.fr
      · rw [if_pos hx, if_pos ⟨hx.1, .inr hx.2⟩]
      · rw [if_neg hx, if_neg]
        rintro ⟨h1, h2 | h2⟩
        · exact hd h2
        · exact hx ⟨h1, h2⟩
    | on h1 h2 h3 _ _ hch => rw [lk_on hch, if_pos h3]
  have pr : ∀ (i : Nat) (hi : i < H.length), s.fr ≠ H[i].fr → ¬ (cutU H[i].fr = cutU s.fr ∧ cutD H[i].fr = cutD s.fr) := fun i hi hne hx =>
    hne (addr_inj hc (h.wf _ (List.getElem_mem hi)).cut hx.1.symm hx.2.symm)
  refine ⟨c1, c2, fun x hx => ?_, fun i hi hl => ?_, fun u d hs => ?_⟩
  · rcases List.mem_append.1 hx with hx | hx
    · exact h.wf x hx
    · rw [List.mem_singleton] at hx; subst hx; exact hw
  · rcases Nat.lt_or_ge i H.length with hlt | hge
    · obtain ⟨g1, g2⟩ := (lastH_app hlt).1 hl
      rw [app_old hlt, hlk, if_neg (pr i hlt g2)]
      exact h.at_ i hlt g1
    · have : i = H.length := by simp at hi; omega
      subst this
      rw [app_new, hlk, if_pos ⟨rfl, rfl⟩]
  · rw [hlk] at hs
    split at hs
    · rename_i hx
      split at hs
      · rename_i ht
        refine ⟨H.length, by simp, lastH_new, ?_⟩
        rw [app_new]
        exact ⟨hx.1.symm, hx.2.symm, ht⟩
      · cases hs
    · rename_i hx
      obtain ⟨i, hi, g1, g2, g3, g4⟩ := h.src u d hs
      refine ⟨i, by simp; omega, (lastH_app hi).2 ⟨g1, fun e => hx ?_⟩, ?_⟩
      · rw [e]; exact ⟨g2.symm, g3.symm⟩
      · rw [app_old hi]; exact ⟨g2, g3, g4⟩
structure LaD (D : FLs) (H : List Stz) (i n : Nat) : Prop where
  ok : CrOk D
  sup : ∀ u d, (lk D u d).isSome = true ↔ ∃ (j : Nat) (h : j < H.length), j < i ∧ lastH H j ∧ H[j].ty = ⟨#[]⟩ ∧ cutU H[j].fr = u ∧ cutD H[j].fr = d
  cnt : cntL D = n
theorem lad_nil (H : List Stz) : LaD [] H 0 0 := ⟨crOk_nil, fun u d => ⟨fun h => (by cases h), fun ⟨j, _, h, _⟩ => (by omega)⟩, rfl⟩
theorem LaD.sub {l D : FLs} {H : List Stz} {i n : Nat} (h : LaI l H) (hD : LaD D H i n) : ∀ u d, (lk D u d).isSome = true → (lk l u d).isSome = true := fun u d hs => by
  obtain ⟨j, hj, _, g1, g2, g3, g4⟩ := (hD.sup u d).1 hs
  have := h.at_ j hj g1
  rw [if_pos g2, g3, g4] at this
  rw [this]; rfl
theorem LaD.le {l D : FLs} {H : List Stz} {i n : Nat} (h : LaI l H) (hD : LaD D H i n) : n ≤ 64 := by
  have := cnt_le hD.ok h.ok (LaD.sub h hD)
  have h2 := h.cnt
  rw [hD.cnt] at this
  omega
theorem LaD.skip {D : FLs} {H : List Stz} {i n : Nat} (hD : LaD D H i n) (hi : i < H.length) (hn : ¬ (lastH H i ∧ H[i].ty = ⟨#[]⟩)) : LaD D H (i + 1) n :=
  ⟨hD.ok, fun u d => (hD.sup u d).trans ⟨fun ⟨j, h, h1, h2⟩ => ⟨j, h, by omega, h2⟩, fun ⟨j, h, h1, h2, h3, h4⟩ => ⟨j, h, by
    rcases Nat.lt_or_ge j i with hlt | hge
    · exact hlt
    · have : j = i := by omega
      subst this
      exact absurd ⟨h2, h3⟩ hn, h2, h3, h4⟩⟩, hD.cnt⟩
theorem LaD.take {l D D' : FLs} {H : List Stz} {i n : Nat} {e : Int} (h : LaI l H) (hD : LaD D H i n) (hi : i < H.length) (hl : lastH H i) (ht : H[i].ty = ⟨#[]⟩) (hh : HeR D H[i].kind H[i].ty H[i].fr H[i].sh e D') : e = 0 ∧ LaD D' H (i + 1) (n + 1) := by
  have hw := h.wf _ (List.getElem_mem hi)
  have hdv := addr_dev hw.addr hw.cut
  have hno : lk D (cutU H[i].fr) (cutD H[i].fr) = none := by
    cases hx : lk D (cutU H[i].fr) (cutD H[i].fr) with
    | none => rfl
    | some v =>
      obtain ⟨j, hj, g0, g1, g2, g3, g4⟩ := (hD.sup _ _).1 (by rw [hx]; rfl)
      exact absurd (addr_inj hw.cut (h.wf _ (List.getElem_mem hj)).cut g3.symm g4.symm) (g1 i hi hj g0)
  have hyes : (lk l (cutU H[i].fr) (cutD H[i].fr)).isSome = true := by rw [h.at_ i hi hl, if_pos ht]; rfl
  have hlt := cnt_lt hD.ok h.ok (LaD.sub h hD) hno hyes
  have h64 := h.cnt
  rw [hw.kind, ht] at hh
  obtain ⟨rfl, hch⟩ := he_on hh hw.addr hdv (by omega)
  refine ⟨rfl, hch.ok, fun u d => ?_, ?_⟩
  · rw [lk_on hch]
    constructor
    · intro hs
      split at hs
      · rename_i hx
        exact ⟨i, hi, by omega, hl, ht, hx.1.symm, hx.2.symm⟩
      · obtain ⟨j, hj, g0, g1⟩ := (hD.sup _ _).1 hs
        exact ⟨j, hj, by omega, g1⟩
    · rintro ⟨j, hj, g0, g1, g2, g3, g4⟩
      split
      · rfl
      · rename_i hx
        refine (hD.sup _ _).2 ⟨j, hj, ?_, g1, g2, g3, g4⟩
        rcases Nat.lt_or_ge j i with hlt | hge
        · exact hlt
        · have : j = i := by omega
          subst this
          exact absurd ⟨g3.symm, g4.symm⟩ hx
  · have hc := hch.cnt
    have hs := (set_has (k := .s (cutD H[i].fr)) (v := mkS H[i].sh) (devs D (cutU H[i].fr))).2
    rw [if_neg (by rw [lk_has, hno]; simp)] at hs
    have h3 := hD.cnt
    omega
theorem LaD.all {l D : FLs} {H : List Stz} {n : Nat} (h : LaI l H) (hD : LaD D H H.length n) : ∀ u d, (lk D u d).isSome = (lk l u d).isSome := fun u d => by
  rw [Bool.eq_iff_iff]
  refine ⟨LaD.sub h hD u d, fun hs => ?_⟩
  obtain ⟨i, hi, g1, g2, g3, g4⟩ := h.src u d hs
  exact (hD.sup _ _).2 ⟨i, hi, hi, g1, g4, g2, g3⟩
theorem la_loop3 {lc D : FLs} {H : List Stz} {n : Nat} (h : LaI lc H) (hD : LaD D H H.length n) {ks : List ByteArray} (hks : SortB ks (lc.map (·.1))) {q : AV → Prop} (hq : q (mkB true)) {s : S} (hs : S.le (sealAll [] s) (stA3 lc D (n : Int) 0 (strsD ks) 0)) :
    ALoop (aCode KS GLa (cAt [1, 1, 1, 1, 1, 1, 1, 1, 1, 0, 1, 0, 0] Tryd.b3)) (rLa_c_k1 q) s := by
  have hC := h.ok
  have hn := h.cnt
  have hall := sumU_all hC hks
  have hsame := LaD.all h hD
  have hcnt := cnt_eq hD.ok hC hsame
  have hn2 := hD.cnt
  refine ALoop.introM [] (maskOf (stA3 lc D (n : Int) 0 (strsD ks) 0)) (fun i : Nat => stA3 lc D (n : Int) (sumU lc (ks.take i) : Nat) (strsD ks) (i : Int)) (fun i => i ≤ ks.length) (fun i => ks.length - i)
    ⟨[], 0, by simpa [sumU] using hs, Nat.zero_le _⟩ fun i hi => ?_
  have hi : i ≤ ks.length := hi
  have ht := sumU_take lc ks i
  refine cast (rLa_d _ _ _ i lc D (n : Int) (sumU lc (ks.take i) : Nat) (strsD ks) (i : Int) q).symm fun hlim => bcase_dec (fun hlt => ?_) (fun hge => ?_)
  · have hlim : ks.length ≤ LIM := by rw [strsD_length] at hlim; exact hlim
    unfold LIM at hlim
    have hlt : i < ks.length := by rw [strsD_length] at hlt; omega
    have w1 : IntKind.wrap .i64 ((i : Int) + 1) = ((i + 1 : Nat) : Int) := by rw [IntWalk.i64_in _ (by omega)]; omega
    rw [strs_at ks hlt, w1]
    refine ⟨⟨by omega, by rw [strsD_length]; omega⟩, rfl, by simp, rfl, lc, ks[i], rfl, rfl, hC, by omega, fun kd hkd => ⟨rfl, fun _ => ?_⟩⟩
    have hl := devs_len lc hkd
    have hsu := sumU_succ lc ks hlt
    have ht2 := sumU_take lc ks (i + 1)
    have w2 : IntKind.wrap .i64 (((sumU lc (ks.take i) : Nat) : Int) + ((strsD kd).length : Int)) = ((sumU lc (ks.take (i + 1)) : Nat) : Int) := by rw [strsD_length, IntWalk.i64_in _ (by omega)]; omega
    rw [w2]
    refine .mk [] (i + 1) ?_ hlt (show ks.length - (i + 1) < ks.length - i by omega)
    generalize (sumU lc (ks.take (i + 1)) : Nat) = z
    generalize strsD ks = kk
    simp [S.le, sealAll, leL, leA, leO, jks, stA3, mkI, mkS, mkB, S.fits, fitsL, AV.fits, Ob.fits, fobC]
  · have hi2 : i = ks.length := by rw [strsD_length] at hge; omega
    subst hi2
    rw [List.take_length, hall]
    refine bcaseT (beq_iff_eq.2 (by omega)) ⟨lc, rfl, rfl, hC, by omega, fun k1 hk1 => ⟨rfl, D, rfl, rfl, hD.ok, by omega, fun k2 hk2 => ⟨rfl, ⟨by simp, by simp⟩, ?_⟩⟩⟩
    rw [us_eq hC hD.ok (fun u d => (hsame u d).symm) hk1 hk2, decide_eq_true rfl]
    exact hq
theorem la_loop2 {lc : FLs} {H : List Stz} (h : LaI lc H) (hlen : H.length ≤ 50) {q : AV → Prop} (hq : q (mkB true)) {s : S} (rs : List Nat) (hs : S.le (sealAll rs s) (stA2 lc [] (stzL H) 0 0)) :
    ALoop (aCode KS GLa (cAt [1, 1, 1, 1, 1, 1, 0, 1, 0, 0] Tryd.b3)) (rLa_b_k1 q) s := by
  have hC := h.ok
  have hn := h.cnt
  have hHl := stzL_len H
  refine ALoop.introM [] (maskOf (stA2 lc [] (stzL H) 0 0)) (fun x : FLs × Nat × Nat => stA2 lc x.1 (stzL H) (x.2.1 : Int) (x.2.2 : Int)) (fun x => LaD x.1 H x.2.2 x.2.1 ∧ x.2.2 ≤ H.length) (fun x => H.length - x.2.2)
    ⟨rs, ([], 0, 0), hs, lad_nil H, Nat.zero_le _⟩ fun ⟨D, n, i⟩ ⟨hD, hi⟩ => ?_
  simp only at hD hi
  have hn2 := LaD.le h hD
  have hn3 := hD.cnt
  refine cast (rLa_c _ _ _ (D, n, i) lc D (stzL H) (n : Int) (i : Int) q).symm fun hlim => bcase_dec (fun hlt => ?_) (fun hge => ?_)
  · have hlt : i < H.length := by rw [hHl] at hlt; omega
    have w1 : IntKind.wrap .i64 ((i : Int) + 1) = ((i + 1 : Nat) : Int) := by rw [IntWalk.i64_in _ (by omega)]; omega
    rw [w1]
    have hi1 : (0 ≤ (i : Int)) ∧ ((i : Int) < ((stzL H).length : Int)) := ⟨by omega, by rw [hHl]; omega⟩
    have hwf := h.wf _ (List.getElem_mem hlt)
    have nx : ∀ {D' : FLs} {n' : Nat} {o : List Ob}, LaD D' H (i + 1) n' → o = [fobC lc, .box [.mp 0], fobC D', .box [.mp 2]] ++ o.drop 4 → FamNext (fun x : FLs × Nat × Nat => stA2 lc x.1 (stzL H) (x.2.1 : Int) (x.2.2 : Int)) (fun x => LaD x.1 H x.2.2 x.2.1 ∧ x.2.2 ≤ H.length) (fun x => H.length - x.2.2) (D, n, i) ⟨[.jk, .jk, mkB false, .rf 1 0, .rf 3 0, .d (.sl (stzL H)), .jk, .jk, .jk, .jk, mkI .i64 (n' : Int), mkI .i64 ((i + 1 : Nat) : Int)] ++ jks 157, o⟩ := fun {D' n' o} h1 ho => by
      refine .mk [] (D', n', i + 1) ?_ ⟨h1, hlt⟩ (show H.length - (i + 1) < H.length - i by omega)
      rw [ho]
      generalize stzL H = hs
      simp [S.le, sealAll, leL, leA, leO, jks, stA2, mkI, mkS, mkB, S.fits, fitsL, AV.fits, Ob.fits, fobC]
    refine ALoop.introM [] (maskOf (stAj lc D (stzL H) (n : Int) (i : Int) true 0)) (fun x : Bool × Nat => stAj lc D (stzL H) (n : Int) (i : Int) x.1 (x.2 : Int)) (fun x => i < x.2 ∧ x.2 ≤ H.length ∧ (x.1 = true ↔ ∀ (m : Nat) (hm : m < H.length), i < m → m < x.2 → H[m].fr ≠ H[i].fr)) (fun x => H.length - x.2)
      ⟨[], (true, i + 1), by generalize stzL H = hs; simp [S.le, sealAll, leL, leA, leO, jks, stAj, mkI, mkS, mkB, S.fits, fitsL, AV.fits, Ob.fits, fobC], by show i < i + 1; omega, hlt, ⟨fun _ m _ h1 h2 => by simp only at h2; omega, fun _ => rfl⟩⟩ fun ⟨z, k⟩ ⟨hk1, hk2, hz⟩ => ?_
    simp only at hk1 hk2 hz
    have wk : k < H.length → IntKind.wrap .i64 ((k : Int) + 1) = ((k + 1 : Nat) : Int) := fun h => by rw [IntWalk.i64_in _ (by omega)]; omega
    cases z with
    | false =>
      refine cast (rLa_jf _ _ _ (D, n, i) _ _ _ (false, k) lc D (stzL H) (n : Int) (i : Int) (k : Int) q).symm fun _ => bcase_dec (fun hlt2 => ?_) (fun hge2 => ?_)
      · have hlt2 : k < H.length := by rw [hHl] at hlt2; omega
        rw [wk hlt2]
        refine .mk [] (false, k + 1) ?_ ⟨by show i < k + 1; omega, hlt2, ⟨fun h => (by cases h), fun hh => absurd (hz.2 fun m hm h1 h2 => hh m hm h1 (by show m < k + 1; omega)) (by decide)⟩⟩ (show H.length - (k + 1) < H.length - k by omega)
        generalize stzL H = hs
        simp [S.le, sealAll, leL, leA, leO, jks, stAj, mkI, mkS, mkB, S.fits, fitsL, AV.fits, Ob.fits, fobC]
      · have hk3 : k = H.length := by rw [hHl] at hge2; omega
        have hnl : ¬ lastH H i := fun hl => absurd (hz.2 fun m hm h1 _ => hl m hm hlt h1) (by decide)
        rw [stz_cons H hlt, w1]
        exact ⟨hi1, rfl, by simp [stzD], rfl, lc, H[i].fr, rfl, rfl, hC, szc_lim hwf.fit.fr, rfl, nx (hD.skip hlt fun hh => hnl hh.1) rfl⟩
    | true =>
      refine cast (rLa_jt _ _ _ (D, n, i) _ _ _ (true, k) lc D (stzL H) (n : Int) (i : Int) (k : Int) q).symm fun _ => bcase_dec (fun hlt2 => ?_) (fun hge2 => ?_)
      · have hlt2 : k < H.length := by rw [hHl] at hlt2; omega
        rw [wk hlt2, stz_cons H hlt, stz_cons H hlt2]
        refine ⟨⟨by omega, by rw [hHl]; omega⟩, rfl, by simp [stzD], rfl, hi1, rfl, by simp [stzD], rfl, ?_⟩
        refine .mk [] (!(decide (H[k].fr = H[i].fr)), k + 1) ?_ ⟨by show i < k + 1; omega, hlt2, ?_⟩ (show H.length - (k + 1) < H.length - k by omega)
        · show S.le (sealAll [] ⟨[.jk, .jk, mkB false, .rf 1 0, .rf 3 0, .d (.sl (stzL H)), .jk, .jk, .jk, .jk, mkI .i64 (n : Int), mkI .i64 (i : Int), mkB (!(decide (H[k].fr = H[i].fr))), mkI .i64 ((k + 1 : Nat) : Int)] ++ jks 155, [fobC lc, .box [.mp 0], fobC D, .box [.mp 2]]⟩) _
          generalize (!(decide (H[k].fr = H[i].fr))) = z
          generalize stzL H = hs
          simp [S.le, sealAll, leL, leA, leO, jks, stAj, mkI, mkS, mkB, S.fits, fitsL, AV.fits, Ob.fits, fobC]
        · simp only [Bool.not_eq_true', decide_eq_false_iff_not]
          constructor
          · intro hne m hm h1 h2
            by_cases e : m = k
            · subst e; exact hne
            · exact hz.1 rfl m hm h1 (by omega)
          · intro hh
            exact hh k hlt2 hk1 (by omega)
      · have hk3 : k = H.length := by rw [hHl] at hge2; omega
        have hl : lastH H i := fun m hm h0 h1 => hz.1 rfl m hm h1 (by omega)
        have hat := h.at_ i hlt hl
        have wn : IntKind.wrap .i64 ((n : Int) + 1) = ((n + 1 : Nat) : Int) := by rw [IntWalk.i64_in _ (by omega)]; omega
        rw [stz_cons H hlt, w1, wn]
        have e1 : hasK (.s (cutD H[i].fr)) (devs lc (cutU H[i].fr)) = decide (H[i].ty = ⟨#[]⟩) := by
          rw [lk_has, hat]
          by_cases ht : H[i].ty = ⟨#[]⟩
          · rw [if_pos ht, decide_eq_true ht]; rfl
          · rw [if_neg ht, decide_eq_false ht]; rfl
        refine ⟨hi1, rfl, by simp [stzD], rfl, lc, H[i].fr, rfl, rfl, hC, szc_lim hwf.fit.fr, rfl, hi1, rfl, by simp [stzD], rfl, bcaseF ?_ (bcase_mk (fun hthere => ?_) (fun hthere => ?_))⟩
        · show (!(hasK (.s (cutD H[i].fr)) (devs lc (cutU H[i].fr)) == decide (H[i].ty = ⟨#[]⟩))) = false
          rw [e1]; simp
        · have ht : H[i].ty = ⟨#[]⟩ := by rw [e1] at hthere; exact of_decide_eq_true hthere
          refine ⟨hi1, rfl, by simp [stzD], rfl, bcaseF ?_ ⟨hi1, rfl, by simp [stzD], rfl, bcaseT (decide_eq_true ht) ⟨hi1, rfl, Nat.le_refl 12, ⟨rfl, rfl, rfl, rfl, rfl, rfl, rfl, rfl, rfl, rfl, rfl, rfl, trivial⟩, D, H[i].kind, H[i].ty, H[i].id, H[i].fr, H[i].to, H[i].sh, H[i].tok, H[i].rea, H[i].hh, H[i].ver, H[i].rem, H[i].its, rfl, rfl, hD.ok, by omega, hwf.fit.fr, szc_lim hwf.fit.sh, fun e D' hh => ⟨rfl, ?_⟩⟩⟩⟩
          · show (!(decide (getS (.s (cutD H[i].fr)) (devs lc (cutU H[i].fr)) = H[i].sh))) = false
            rw [lk_get, hat, if_pos ht]; simp
          · obtain ⟨rfl, hD'⟩ := LaD.take h hD hlt hl ht hh
            exact bcaseF (by decide) (nx hD' rfl)
        · have ht : ¬ H[i].ty = ⟨#[]⟩ := by rw [e1] at hthere; exact of_decide_eq_false hthere
          exact ⟨hi1, rfl, by simp [stzD], rfl, bcaseF (decide_eq_false ht) (nx (hD.skip hlt fun hh => ht hh.2) rfl)⟩
  · have hi2 : i = H.length := by rw [hHl] at hge; omega
    subst hi2
    refine ⟨lc, rfl, rfl, hC, by omega, fun ks hks => ⟨rfl, la_loop3 h hD hks hq ?_⟩⟩
    generalize stzL H = hs
    generalize strsD ks = k1
    simp [S.le, sealAll, leL, leA, leO, jks, stA3, mkI, mkS, mkB, S.fits, fitsL, AV.fits, Ob.fits, fobC]
theorem cLa : PSound Tryd.prog 3 (detE FCs) := by
  refine det_fn (c := Tryd.b3) mixed KS_ok gLa Tryd.func3 rfl rfl Tryd.call3 fun al p r q hF hp hq => ?_
  unfold FCs at hF; split at hF <;> cases hF
  obtain ⟨ss, rfl, hlen, hfit⟩ := hp
  have hSl := stzL_len ss
  refine cast (rLa (stzL ss) q).symm ⟨trivial, rfl, rfl, ALoop.openT 5 12 (by omega) ?_⟩
  refine ALoop.introM [] (maskOf (stA1 (stzL ss) [] [] [] 0)) (fun x : FLs × List Stz × Nat => stA1 (stzL ss) x.1 [] (stzL x.2.1) (x.2.2 : Int)) (fun x => LaI x.1 x.2.1 ∧ x.2.1.length ≤ x.2.2 ∧ x.2.2 ≤ ss.length ∧ x.2.2 ≤ 50) (fun x => ss.length - x.2.2)
    ⟨[], ([], [], 0), by generalize stzL ss = sl; simp [S.le, sealAll, leL, leA, leO, jks, stA1, mkI, mkS, mkB, S.fits, fitsL, AV.fits, Ob.fits, fobC, S.openT, stzL], la_nil, Nat.le_refl _, Nat.zero_le _, Nat.zero_le _⟩ fun ⟨l, H, i⟩ ⟨hI, hHi, hi, hi50⟩ => ?_
  simp only at hI hHi hi hi50
  have hC := hI.ok
  have hn := hI.cnt
  refine cast (rLa_b _ _ _ (l, H, i) (stzL ss) l [] (stzL H) (i : Int) q).symm fun hlim => bcase_dec (fun hlt => bcase_dec (fun h50 => ?_) (fun h50 => ?_)) (fun hge => ?_)
  · have hlt : i < ss.length := by rw [hSl] at hlt; omega
    have w1 : IntKind.wrap .i64 ((i : Int) + 1) = ((i + 1 : Nat) : Int) := by rw [IntWalk.i64_in _ (by omega)]; omega
    have hi1 : (0 ≤ (i : Int)) ∧ ((i : Int) < ((stzL ss).length : Int)) := ⟨by omega, by rw [hSl]; omega⟩
    rw [stz_cons ss hlt]
    have hf := hfit _ (List.getElem_mem hlt)
    generalize ss[i] = s at hf
    obtain ⟨kind, ty, id, fr, to, sh, tok, rea, hh, ver, rem, its⟩ := s
    have hfr := hf.fr
    simp only at hfr
    have nx : ∀ {l' : FLs} {H' : List Stz} {o : List Ob}, LaI l' H' → H'.length ≤ i + 1 → o = [fobC l', .box [.mp 0], fobC [], .box [.mp 2], .row 12 (stzL H')] ++ o.drop 5 → FamNext (fun x : FLs × List Stz × Nat => stA1 (stzL ss) x.1 [] (stzL x.2.1) (x.2.2 : Int)) (fun x => LaI x.1 x.2.1 ∧ x.2.1.length ≤ x.2.2 ∧ x.2.2 ≤ ss.length ∧ x.2.2 ≤ 50) (fun x => ss.length - x.2.2) (l, H, i) ⟨[.d (.sl (stzL ss)), .jk, mkB false, .rf 1 0, .rf 3 0, .vw 4 (stzL H').length, mkI .i64 ((i + 1 : Nat) : Int)] ++ jks 162, o⟩ := fun {l' H' o} h1 h2 ho => by
      refine .mk [] (l', H', i + 1) ?_ ⟨h1, h2, hlt, by show i + 1 ≤ 50; omega⟩ (show ss.length - (i + 1) < ss.length - i by omega)
      rw [ho]
      generalize stzL ss = sl
      generalize stzL H' = hs
      simp [S.le, sealAll, leL, leA, leO, jks, stA1, mkI, mkS, mkB, S.fits, fitsL, AV.fits, Ob.fits, fobC]
    refine ⟨hi1, rfl, Nat.le_refl 12, ⟨rfl, rfl, rfl, rfl, rfl, rfl, rfl, rfl, rfl, rfl, rfl, rfl, trivial⟩, ?_⟩
    refine ALoop.introM [] (maskOf (stAi (stzL ss) l [] (stzL H) (i : Int) false 0 [mkI .i64 kind, mkS ty, mkS id, mkS fr, mkS to, mkS sh, mkS tok, mkS rea, mkI .u32 hh, mkI .i64 ver, mkB rem, .d (.sl its)])) (fun k : Nat => stAi (stzL ss) l [] (stzL H) (i : Int) (anyTo fr k) (k : Int) [mkI .i64 kind, mkS ty, mkS id, mkS fr, mkS to, mkS sh, mkS tok, mkS rea, mkI .u32 hh, mkI .i64 ver, mkB rem, .d (.sl its)]) (fun k => k ≤ fr.size) (fun k => fr.size - k)
      ⟨[], 0, by generalize stzL ss = sl; generalize stzL H = hs; simp [S.le, sealAll, leL, leA, leO, jks, stAi, mkI, mkS, mkB, S.fits, fitsL, AV.fits, Ob.fits, fobC, anyTo, stzD, intD, strD, boolD, slD], Nat.zero_le _⟩ fun k hk => ?_
    have hk : k ≤ fr.size := hk
    refine cast (rLa_i _ _ _ (l, H, i) _ _ _ k (stzL ss) l [] (stzL H) (i : Int) (anyTo fr k) (k : Int) kind ty id fr to sh tok rea hh ver rem its q).symm fun _ => bcase_dec (fun hlt2 => ?_) (fun hge2 => ?_)
    · unfold SZC at hfr
      have hlt2 : k < fr.size := by omega
      have wk : IntKind.wrap .i64 ((k : Int) + 1) = ((k + 1 : Nat) : Int) := by rw [IntWalk.i64_in _ (by omega)]; omega
      rw [wk]
      have e1 := anyTo_succ fr hlt2
      refine bcase_mk (fun hz => ?_) (fun hz => ⟨by omega, ?_⟩)
      · refine .mk [] (k + 1) ?_ hlt2 (show fr.size - (k + 1) < fr.size - k by omega)
        rw [hz] at e1
        rw [e1]
        generalize stzL ss = sl
        generalize stzL H = hs
        simp [S.le, sealAll, leL, leA, leO, jks, stAi, mkI, mkS, mkB, S.fits, fitsL, AV.fits, Ob.fits, fobC]
      · refine .mk [] (k + 1) ?_ hlt2 (show fr.size - (k + 1) < fr.size - k by omega)
        rw [hz, Bool.false_or] at e1
        rw [← e1]
        generalize anyTo fr (k + 1) = z
        generalize stzL ss = sl
        generalize stzL H = hs
        simp [S.le, sealAll, leL, leA, leO, jks, stAi, mkI, mkS, mkB, S.fits, fitsL, AV.fits, Ob.fits, fobC]
    · have : k = fr.size := by omega
      subst this
      rw [anyTo_all, w1]
      refine bcase_mk (fun hz => ?_) (fun hz => nx hI (by omega) rfl)
      refine ⟨l, kind, ty, id, fr, to, sh, tok, rea, hh, ver, rem, its, rfl, rfl, hC, by omega, hf.fr, szc_lim hf.sh, fun e l' hr => ⟨rfl, bcase_mk (fun he => ?_) (fun he => ?_)⟩⟩
      · have he : e = 0 := by simpa using he
        subst he
        have hst := la_step (s := ⟨kind, ty, id, fr, to, sh, tok, rea, hh, ver, rem, its⟩) hI hr hz hf
        have e2 : stzL (H ++ [⟨kind, ty, id, fr, to, sh, tok, rea, hh, ver, rem, its⟩]) = stzL H ++ [[.v (.int .i64 kind), .v (.string ty), .v (.string id), .v (.string fr), .v (.string to), .v (.string sh), .v (.string tok), .v (.string rea), .v (.int .u32 hh), .v (.int .i64 ver), .v (.bool rem), .sl its]] := by simp [stzL, stzD]
        have e3 : (stzL (H ++ [⟨kind, ty, id, fr, to, sh, tok, rea, hh, ver, rem, its⟩])).length = (stzL H).length + 1 := by rw [stzL_len, stzL_len, List.length_append]; rfl
        have hl2 := stzL_len H
        refine ⟨fun c hc => by simp at hc; simp [hc], rfl, by unfold LIM; omega, ?_⟩
        rw [← e3, ← e2]
        exact nx hst (by rw [List.length_append]; show H.length + 1 ≤ i + 1; omega) rfl
      · have he : e ≠ 0 := by simpa using he
        have := la_keep hI hr he
        subst this
        exact nx hI (by omega) rfl
  · exact la_loop2 hI (by omega) hq [4] (by have hl2 := stzL_len H; generalize stzL ss = sl; generalize stzL H = hs; simp [S.le, sealAll, S.sealR, subL, AV.sub, Ob.subO, leL, leA, leO, jks, stA2, mkI, mkS, mkB, S.fits, fitsL, AV.fits, Ob.fits, fobC])
  · exact la_loop2 hI (by omega) hq [4] (by have hl2 := stzL_len H; generalize stzL ss = sl; generalize stzL H = hs; simp [S.le, sealAll, S.sealR, subL, AV.sub, Ob.subO, leL, leA, leO, jks, stA2, mkI, mkS, mkB, S.fits, fitsL, AV.fits, Ob.fits, fobC])
theorem hLa : ∀ as', TyArgs Tryd.prog Tryd.f3.params.toList as' → ∃ p, FCs as' = some (p, mkB true) ∧ p := by
  intro as' h
  rw [Tryd.params3] at h
  obtain ⟨a, rfl, ha⟩ := tyargs1 h
  obtain ⟨l, rfl, hl, hf⟩ := arg_stzs ha
  exact ⟨_, rfl, l, rfl, hl, hf⟩
end Go.Proofs.YthbejheedpdioaaDoor
