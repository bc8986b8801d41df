import Derived.Test.YthbejheedpdioaaDoorCrSame
import Derived.Test.YthbejheedpdioaaDoorCrFgt
import Derived.Test.YthbejheedpdioaaDoorCrCounts
set_option linter.unusedSimpArgs false
set_option linter.unusedVariables false
namespace Go.Proofs.YthbejheedpdioaaDoor
open Go Go.AM Go.RowKit
set_option maxRecDepth 10000
attribute [local irreducible] aUnr aUnS aCode
theorem rF2 (l : FLs) (us : List (List D)) (q : AV → List Ob → Prop) :
  (frameE EFo [.rf 0 0, .d (.sl us)] [cbo, fobC l, .gone, .gh [.rf 0 0]] q) = (
  ∃ (l_1 : FLs),
  ∃ (us_1 : List ByteArray),
  ([AV.rf 0 0, AV.d (.sl us)] = [AV.rf 0 0, AV.d (.sl (strsD us_1))]) ∧
  ([Ob.box [AV.mp (0 + 1)], Ob.bun (famR (FamD.mk KK.str (Shp.map KK.str) l)), Ob.gh [AV.rf 0 0]] = [Ob.box [AV.mp 1], Ob.bun (famR (FamD.mk KK.str (Shp.map KK.str) l_1)), Ob.gh [AV.rf 0 0]]) ∧
  (CrOk l_1) ∧ (
   ∀ (l' : FLs),
   (FgR us_1 l_1 l') →
   ((Option.some (Ob.gh [AV.rf 0 0])) = (Option.some (Ob.gh [AV.rf 0 0]))) ∧
   q (AV.tp []) [Ob.box [AV.mp (if 1 < 2 then 1 else 4 + (1 - 2))], Ob.bun (famR (FamD.mk KK.str (Shp.map KK.str) l')), Ob.gone, Ob.gh [AV.rf 0 0], Ob.gone])) := by kernel_rfl
def EFo2 : REnt := fun al o q => ∃ l us, al = [.rf 0 0, .vw 2 us.length] ∧ o = [cbo, fobC l, .row 1 (strsD us), .gh [.rf 0 0]] ∧ CrOk l ∧ ∀ l', FgR us l l' → q (.tp []) [cbo, fobC l', .gone, .gh [.rf 0 0]]
theorem cFo2 : RSound Tryd.prog 17 EFo2 := (RSound.frame cFo).weak fun al o q ⟨l, us, h1, h2, hC, hq⟩ => by
  subst h1 h2
  refine ⟨[.rf 0 0, .d (.sl (strsD us))], [cbo, fobC l, .gone, .gh [.rf 0 0]], (weak_seal _ [2]).trans (weak_le ?_), ?_⟩
  · have hl : us.length = (strsD us).length := by rw [strsD_length]
    rw [hl]
    generalize strsD us = es
    simp [S.le, sealAll, S.sealR, subL, AV.sub, Ob.subO, leL, leA, leO, cbo, fobC, S.fits, fitsL, AV.fits, Ob.fits]
  · exact cast (rF2 l (strsD us) (trimW q)).symm ⟨l, us, rfl, rfl, hC, fun l' hl' => ⟨rfl, _, _, weak_le (by simp [S.le, leL, leA, leO, cbo, fobC, S.fits, fitsL, AV.fits, Ob.fits]), hq l' hl'⟩⟩
noncomputable abbrev GLe : List (FuncId × En) := [(8, .det FLv), (16, .det F16), (14, .det F14), (9, .new ENw), (10, .ref (frameE EHe)), (12, .ref (frameE EUs)), (13, .ref (frameE EDv)), (17, .ref (frameE EFo2))]
noncomputable def rLe_k0 (q : AV → Prop) : Kont := kBlk (0 : Nat) (kSeq (aCode KS GLe (cAt [1, 1, 1, 1] Tryd.b5) (kRet KS (Array.toList (Func.results Tryd.f5)) q)) (kRet KS (Array.toList (Func.results Tryd.f5)) q))
theorem rLe (sl : List (List D)) (u : ByteArray) (q : AV → Prop) :
  (aCode KS GLe Tryd.b5 (kRet KS Tryd.f5.results.toList q) ⟨[.d (.sl sl), mkS u] ++ List.replicate (Tryd.f5.ntmps - 2) .jk, []⟩) = (
  True ∧
  (([] : List AV) = []) ∧
  (([] : List AV) = []) ∧
  ALoop (aCode KS GLe (cAt [1, 1, 1, 0, 1, 0, 0] Tryd.b5)) (rLe_k0 q) ⟨[AV.d (.sl sl), mkS u, AV.jk, AV.jk, mkB false, AV.rf (0 + 1) 0, AV.rf (2 + 1) 0, mkI .i64 0, AV.jk, AV.jk, AV.jk, AV.jk, AV.jk, AV.jk, AV.jk, mkB true, mkB false, AV.rf (0 + 1) 0, AV.rf (2 + 1) 0] ++ (jks 101), [Ob.bun (famR (FamD.mk KK.str (Shp.map KK.str) [])), Ob.box [AV.mp (0 + 0)], Ob.bun (famR (FamD.mk KK.str (Shp.map KK.str) [])), Ob.box [AV.mp (2 + 0)]]⟩) := by kernel_rfl
def stL1 (sl : List (List D)) (u : ByteArray) (lc ld : FLs) (i : Int) : S := ⟨[.d (.sl sl), mkS u, .jk, .jk, mkB false, .rf 1 0, .rf 3 0, mkI .i64 i] ++ jks 112, [fobC lc, .box [.mp 0], fobC ld, .box [.mp 2]]⟩
noncomputable def rLe_b_k0 (q : AV → Prop) : Kont := kBlk (2 : Nat) (kSeq (aCode KS GLe (cAt [1, 1, 1, 1, 1, 1, 1, 1, 1] Tryd.b5) (kRet KS (Array.toList (Func.results Tryd.f5)) q)) (kRet KS (Array.toList (Func.results Tryd.f5)) q))
theorem rLe_b {ι : Type} (st : ι → S) (inv : ι → Prop) (μ : ι → Nat) (kk : ι) (sl : List (List D)) (u : ByteArray) (lc ld : FLs) (i : Int) (q : AV → Prop) :
  (aCode KS GLe (cAt [1, 1, 1, 0, 1, 0, 0] Tryd.b5) (kFamM [] (maskOf (stL1 sl u lc ld i)) st inv μ kk (rLe_k0 q)) (stL1 sl u lc ld i)) = (
  ((List.length sl) ≤ LIM) →
  bcase (decide (i < ((List.length sl) : Int))) (
   bcase (decide (i < (50 : Int))) (
    (((0 : Int) ≤ i) ∧ (i < ((List.length sl) : Int))) ∧
    ((List.length (List.getD sl (Int.toNat i) [])) = 12) ∧
    (12 ≤ (List.length (List.getD sl (Int.toNat i) []))) ∧
    (((List.getD (List.getD sl (Int.toNat i) []) 0 d0) = (D.v (.int IntKind.i64 (intD (List.getD (List.getD sl (Int.toNat i) []) 0 d0))))) ∧ (((List.getD (List.drop 1 (List.getD sl (Int.toNat i) [])) 0 d0) = (D.v (.string (strD (List.getD (List.drop 1 (List.getD sl (Int.toNat i) [])) 0 d0))))) ∧ (((List.getD (List.drop 1 (List.drop 1 (List.getD sl (Int.toNat i) []))) 0 d0) = (D.v (.string (strD (List.getD (List.drop 1 (List.drop 1 (List.getD sl (Int.toNat i) []))) 0 d0))))) ∧ (((List.getD (List.drop 1 (List.drop 1 (List.drop 1 (List.getD sl (Int.toNat i) [])))) 0 d0) = (D.v (.string (strD (List.getD (List.drop 1 (List.drop 1 (List.drop 1 (List.getD sl (Int.toNat i) [])))) 0 d0))))) ∧ (((List.getD (List.drop 1 (List.drop 1 (List.drop 1 (List.drop 1 (List.getD sl (Int.toNat i) []))))) 0 d0) = (D.v (.string (strD (List.getD (List.drop 1 (List.drop 1 (List.drop 1 (List.drop 1 (List.getD sl (Int.toNat i) []))))) 0 d0))))) ∧ (((List.getD (List.drop 1 (List.drop 1 (List.drop 1 (List.drop 1 (List.drop 1 (List.getD sl (Int.toNat i) [])))))) 0 d0) = (D.v (.string (strD (List.getD (List.drop 1 (List.drop 1 (List.drop 1 (List.drop 1 (List.drop 1 (List.getD sl (Int.toNat i) [])))))) 0 d0))))) ∧ (((List.getD (List.drop 1 (List.drop 1 (List.drop 1 (List.drop 1 (List.drop 1 (List.drop 1 (List.getD sl (Int.toNat i) []))))))) 0 d0) = (D.v (.string (strD (List.getD (List.drop 1 (List.drop 1 (List.drop 1 (List.drop 1 (List.drop 1 (List.drop 1 (List.getD sl (Int.toNat i) []))))))) 0 d0))))) ∧ (((List.getD (List.drop 1 (List.drop 1 (List.drop 1 (List.drop 1 (List.drop 1 (List.drop 1 (List.drop 1 (List.getD sl (Int.toNat i) [])))))))) 0 d0) = (D.v (.string (strD (List.getD (List.drop 1 (List.drop 1 (List.drop 1 (List.drop 1 (List.drop 1 (List.drop 1 (List.drop 1 (List.getD sl (Int.toNat i) [])))))))) 0 d0))))) ∧ (((List.getD (List.drop 1 (List.drop 1 (List.drop 1 (List.drop 1 (List.drop 1 (List.drop 1 (List.drop 1 (List.drop 1 (List.getD sl (Int.toNat i) []))))))))) 0 d0) = (D.v (.int IntKind.u32 (intD (List.getD (List.drop 1 (List.drop 1 (List.drop 1 (List.drop 1 (List.drop 1 (List.drop 1 (List.drop 1 (List.drop 1 (List.getD sl (Int.toNat i) []))))))))) 0 d0))))) ∧ (((List.getD (List.drop 1 (List.drop 1 (List.drop 1 (List.drop 1 (List.drop 1 (List.drop 1 (List.drop 1 (List.drop 1 (List.drop 1 (List.getD sl (Int.toNat i) [])))))))))) 0 d0) = (D.v (.int IntKind.i64 (intD (List.getD (List.drop 1 (List.drop 1 (List.drop 1 (List.drop 1 (List.drop 1 (List.drop 1 (List.drop 1 (List.drop 1 (List.drop 1 (List.getD sl (Int.toNat i) [])))))))))) 0 d0))))) ∧ (((List.getD (List.drop 1 (List.drop 1 (List.drop 1 (List.drop 1 (List.drop 1 (List.drop 1 (List.drop 1 (List.drop 1 (List.drop 1 (List.drop 1 (List.getD sl (Int.toNat i) []))))))))))) 0 d0) = (D.v (.bool (boolD (List.getD (List.drop 1 (List.drop 1 (List.drop 1 (List.drop 1 (List.drop 1 (List.drop 1 (List.drop 1 (List.drop 1 (List.drop 1 (List.drop 1 (List.getD sl (Int.toNat i) []))))))))))) 0 d0))))) ∧ (((List.getD (List.drop 1 (List.drop 1 (List.drop 1 (List.drop 1 (List.drop 1 (List.drop 1 (List.drop 1 (List.drop 1 (List.drop 1 (List.drop 1 (List.drop 1 (List.getD sl (Int.toNat i) [])))))))))))) 0 d0) = (D.sl (slD (List.getD (List.drop 1 (List.drop 1 (List.drop 1 (List.drop 1 (List.drop 1 (List.drop 1 (List.drop 1 (List.drop 1 (List.drop 1 (List.drop 1 (List.drop 1 (List.getD sl (Int.toNat i) [])))))))))))) 0 d0)))) ∧ True)))))))))))) ∧ (
     ∃ (l : FLs),
     ∃ (kind : Int),
     ∃ (ty : ByteArray),
     ∃ (id : ByteArray),
     ∃ (fr : ByteArray),
     ∃ (to : ByteArray),
     ∃ (sh : ByteArray),
     ∃ (tok : ByteArray),
     ∃ (rea : ByteArray),
     ∃ (hh : Int),
     ∃ (ver : Int),
     ∃ (rem : Bool),
     ∃ (its : List (List D)),
     ([AV.rf 0 0, AV.ag [mkI .i64 (intD (List.getD (List.getD sl (Int.toNat i) []) 0 d0)), mkS (strD (List.getD (List.drop 1 (List.getD sl (Int.toNat i) [])) 0 d0)), mkS (strD (List.getD (List.drop 1 (List.drop 1 (List.getD sl (Int.toNat i) []))) 0 d0)), mkS (strD (List.getD (List.drop 1 (List.drop 1 (List.drop 1 (List.getD sl (Int.toNat i) [])))) 0 d0)), mkS (strD (List.getD (List.drop 1 (List.drop 1 (List.drop 1 (List.drop 1 (List.getD sl (Int.toNat i) []))))) 0 d0)), mkS (strD (List.getD (List.drop 1 (List.drop 1 (List.drop 1 (List.drop 1 (List.drop 1 (List.getD sl (Int.toNat i) [])))))) 0 d0)), mkS (strD (List.getD (List.drop 1 (List.drop 1 (List.drop 1 (List.drop 1 (List.drop 1 (List.drop 1 (List.getD sl (Int.toNat i) []))))))) 0 d0)), mkS (strD (List.getD (List.drop 1 (List.drop 1 (List.drop 1 (List.drop 1 (List.drop 1 (List.drop 1 (List.drop 1 (List.getD sl (Int.toNat i) [])))))))) 0 d0)), mkI .u32 (intD (List.getD (List.drop 1 (List.drop 1 (List.drop 1 (List.drop 1 (List.drop 1 (List.drop 1 (List.drop 1 (List.drop 1 (List.getD sl (Int.toNat i) []))))))))) 0 d0)), mkI .i64 (intD (List.getD (List.drop 1 (List.drop 1 (List.drop 1 (List.drop 1 (List.drop 1 (List.drop 1 (List.drop 1 (List.drop 1 (List.drop 1 (List.getD sl (Int.toNat i) [])))))))))) 0 d0)), mkB (boolD (List.getD (List.drop 1 (List.drop 1 (List.drop 1 (List.drop 1 (List.drop 1 (List.drop 1 (List.drop 1 (List.drop 1 (List.drop 1 (List.drop 1 (List.getD sl (Int.toNat i) []))))))))))) 0 d0)), AV.d (.sl (slD (List.getD (List.drop 1 (List.drop 1 (List.drop 1 (List.drop 1 (List.drop 1 (List.drop 1 (List.drop 1 (List.drop 1 (List.drop 1 (List.drop 1 (List.drop 1 (List.getD sl (Int.toNat i) [])))))))))))) 0 d0)))]] = [AV.rf 0 0, AV.ag [mkI .i64 kind, mkS ty, mkS id, mkS fr, mkS to, mkS sh, mkS tok, mkS rea, mkI .u32 hh, mkI .i64 ver, mkB rem, AV.d (.sl its)]]) ∧
     ([Ob.box [AV.mp (0 + 1)], Ob.bun (famR (FamD.mk KK.str (Shp.map KK.str) lc)), Ob.gh [AV.rf 0 0]] = [Ob.box [AV.mp 1], Ob.bun (famR (FamD.mk KK.str (Shp.map KK.str) l)), Ob.gh [AV.rf 0 0]]) ∧
     (CrOk l) ∧
     ((cntL l) ≤ (1000 : Nat)) ∧
     ((ByteArray.size fr) ≤ SZC) ∧
     ((ByteArray.size sh) ≤ LIM) ∧ (
      ∀ (e : Int),
      ∀ (l' : FLs),
      (HeR l kind ty fr sh e l') →
      ((Option.some (Ob.gh [AV.rf 0 0])) = (Option.some (Ob.gh [AV.rf 0 0]))) ∧
      (((0 : Int) ≤ i) ∧ (i < ((List.length sl) : Int))) ∧
      ((List.length (List.getD sl (Int.toNat i) [])) = 12) ∧
      (12 ≤ (List.length (List.getD sl (Int.toNat i) []))) ∧
      (((List.getD (List.getD sl (Int.toNat i) []) 0 d0) = (D.v (.int IntKind.i64 (intD (List.getD (List.getD sl (Int.toNat i) []) 0 d0))))) ∧ (((List.getD (List.drop 1 (List.getD sl (Int.toNat i) [])) 0 d0) = (D.v (.string (strD (List.getD (List.drop 1 (List.getD sl (Int.toNat i) [])) 0 d0))))) ∧ (((List.getD (List.drop 1 (List.drop 1 (List.getD sl (Int.toNat i) []))) 0 d0) = (D.v (.string (strD (List.getD (List.drop 1 (List.drop 1 (List.getD sl (Int.toNat i) []))) 0 d0))))) ∧ (((List.getD (List.drop 1 (List.drop 1 (List.drop 1 (List.getD sl (Int.toNat i) [])))) 0 d0) = (D.v (.string (strD (List.getD (List.drop 1 (List.drop 1 (List.drop 1 (List.getD sl (Int.toNat i) [])))) 0 d0))))) ∧ (((List.getD (List.drop 1 (List.drop 1 (List.drop 1 (List.drop 1 (List.getD sl (Int.toNat i) []))))) 0 d0) = (D.v (.string (strD (List.getD (List.drop 1 (List.drop 1 (List.drop 1 (List.drop 1 (List.getD sl (Int.toNat i) []))))) 0 d0))))) ∧ (((List.getD (List.drop 1 (List.drop 1 (List.drop 1 (List.drop 1 (List.drop 1 (List.getD sl (Int.toNat i) [])))))) 0 d0) = (D.v (.string (strD (List.getD (List.drop 1 (List.drop 1 (List.drop 1 (List.drop 1 (List.drop 1 (List.getD sl (Int.toNat i) [])))))) 0 d0))))) ∧ (((List.getD (List.drop 1 (List.drop 1 (List.drop 1 (List.drop 1 (List.drop 1 (List.drop 1 (List.getD sl (Int.toNat i) []))))))) 0 d0) = (D.v (.string (strD (List.getD (List.drop 1 (List.drop 1 (List.drop 1 (List.drop 1 (List.drop 1 (List.drop 1 (List.getD sl (Int.toNat i) []))))))) 0 d0))))) ∧ (((List.getD (List.drop 1 (List.drop 1 (List.drop 1 (List.drop 1 (List.drop 1 (List.drop 1 (List.drop 1 (List.getD sl (Int.toNat i) [])))))))) 0 d0) = (D.v (.string (strD (List.getD (List.drop 1 (List.drop 1 (List.drop 1 (List.drop 1 (List.drop 1 (List.drop 1 (List.drop 1 (List.getD sl (Int.toNat i) [])))))))) 0 d0))))) ∧ (((List.getD (List.drop 1 (List.drop 1 (List.drop 1 (List.drop 1 (List.drop 1 (List.drop 1 (List.drop 1 (List.drop 1 (List.getD sl (Int.toNat i) []))))))))) 0 d0) = (D.v (.int IntKind.u32 (intD (List.getD (List.drop 1 (List.drop 1 (List.drop 1 (List.drop 1 (List.drop 1 (List.drop 1 (List.drop 1 (List.drop 1 (List.getD sl (Int.toNat i) []))))))))) 0 d0))))) ∧ (((List.getD (List.drop 1 (List.drop 1 (List.drop 1 (List.drop 1 (List.drop 1 (List.drop 1 (List.drop 1 (List.drop 1 (List.drop 1 (List.getD sl (Int.toNat i) [])))))))))) 0 d0) = (D.v (.int IntKind.i64 (intD (List.getD (List.drop 1 (List.drop 1 (List.drop 1 (List.drop 1 (List.drop 1 (List.drop 1 (List.drop 1 (List.drop 1 (List.drop 1 (List.getD sl (Int.toNat i) [])))))))))) 0 d0))))) ∧ (((List.getD (List.drop 1 (List.drop 1 (List.drop 1 (List.drop 1 (List.drop 1 (List.drop 1 (List.drop 1 (List.drop 1 (List.drop 1 (List.drop 1 (List.getD sl (Int.toNat i) []))))))))))) 0 d0) = (D.v (.bool (boolD (List.getD (List.drop 1 (List.drop 1 (List.drop 1 (List.drop 1 (List.drop 1 (List.drop 1 (List.drop 1 (List.drop 1 (List.drop 1 (List.drop 1 (List.getD sl (Int.toNat i) []))))))))))) 0 d0))))) ∧ (((List.getD (List.drop 1 (List.drop 1 (List.drop 1 (List.drop 1 (List.drop 1 (List.drop 1 (List.drop 1 (List.drop 1 (List.drop 1 (List.drop 1 (List.drop 1 (List.getD sl (Int.toNat i) [])))))))))))) 0 d0) = (D.sl (slD (List.getD (List.drop 1 (List.drop 1 (List.drop 1 (List.drop 1 (List.drop 1 (List.drop 1 (List.drop 1 (List.drop 1 (List.drop 1 (List.drop 1 (List.drop 1 (List.getD sl (Int.toNat i) [])))))))))))) 0 d0)))) ∧ True)))))))))))) ∧ (
       ∃ (l_1 : FLs),
       ∃ (kind_1 : Int),
       ∃ (ty_1 : ByteArray),
       ∃ (id_1 : ByteArray),
       ∃ (fr_1 : ByteArray),
       ∃ (to_1 : ByteArray),
       ∃ (sh_1 : ByteArray),
       ∃ (tok_1 : ByteArray),
       ∃ (rea_1 : ByteArray),
       ∃ (hh_1 : Int),
       ∃ (ver_1 : Int),
       ∃ (rem_1 : Bool),
       ∃ (its_1 : List (List D)),
       ([AV.rf 0 0, AV.ag [mkI .i64 (intD (List.getD (List.getD sl (Int.toNat i) []) 0 d0)), mkS (strD (List.getD (List.drop 1 (List.getD sl (Int.toNat i) [])) 0 d0)), mkS (strD (List.getD (List.drop 1 (List.drop 1 (List.getD sl (Int.toNat i) []))) 0 d0)), mkS (strD (List.getD (List.drop 1 (List.drop 1 (List.drop 1 (List.getD sl (Int.toNat i) [])))) 0 d0)), mkS (strD (List.getD (List.drop 1 (List.drop 1 (List.drop 1 (List.drop 1 (List.getD sl (Int.toNat i) []))))) 0 d0)), mkS (strD (List.getD (List.drop 1 (List.drop 1 (List.drop 1 (List.drop 1 (List.drop 1 (List.getD sl (Int.toNat i) [])))))) 0 d0)), mkS (strD (List.getD (List.drop 1 (List.drop 1 (List.drop 1 (List.drop 1 (List.drop 1 (List.drop 1 (List.getD sl (Int.toNat i) []))))))) 0 d0)), mkS (strD (List.getD (List.drop 1 (List.drop 1 (List.drop 1 (List.drop 1 (List.drop 1 (List.drop 1 (List.drop 1 (List.getD sl (Int.toNat i) [])))))))) 0 d0)), mkI .u32 (intD (List.getD (List.drop 1 (List.drop 1 (List.drop 1 (List.drop 1 (List.drop 1 (List.drop 1 (List.drop 1 (List.drop 1 (List.getD sl (Int.toNat i) []))))))))) 0 d0)), mkI .i64 (intD (List.getD (List.drop 1 (List.drop 1 (List.drop 1 (List.drop 1 (List.drop 1 (List.drop 1 (List.drop 1 (List.drop 1 (List.drop 1 (List.getD sl (Int.toNat i) [])))))))))) 0 d0)), mkB (boolD (List.getD (List.drop 1 (List.drop 1 (List.drop 1 (List.drop 1 (List.drop 1 (List.drop 1 (List.drop 1 (List.drop 1 (List.drop 1 (List.drop 1 (List.getD sl (Int.toNat i) []))))))))))) 0 d0)), AV.d (.sl (slD (List.getD (List.drop 1 (List.drop 1 (List.drop 1 (List.drop 1 (List.drop 1 (List.drop 1 (List.drop 1 (List.drop 1 (List.drop 1 (List.drop 1 (List.drop 1 (List.getD sl (Int.toNat i) [])))))))))))) 0 d0)))]] = [AV.rf 0 0, AV.ag [mkI .i64 kind_1, mkS ty_1, mkS id_1, mkS fr_1, mkS to_1, mkS sh_1, mkS tok_1, mkS rea_1, mkI .u32 hh_1, mkI .i64 ver_1, mkB rem_1, AV.d (.sl its_1)]]) ∧
       ([Ob.box [AV.mp (0 + 1)], Ob.bun (famR (FamD.mk KK.str (Shp.map KK.str) ld)), Ob.gh [AV.rf 0 0]] = [Ob.box [AV.mp 1], Ob.bun (famR (FamD.mk KK.str (Shp.map KK.str) l_1)), Ob.gh [AV.rf 0 0]]) ∧
       (CrOk l_1) ∧
       ((cntL l_1) ≤ (1000 : Nat)) ∧
       ((ByteArray.size fr_1) ≤ SZC) ∧
       ((ByteArray.size sh_1) ≤ LIM) ∧ (
        ∀ (e_1 : Int),
        ∀ (l'_1 : FLs),
        (HeR l_1 kind_1 ty_1 fr_1 sh_1 e_1 l'_1) →
        ((Option.some (Ob.gh [AV.rf 0 0])) = (Option.some (Ob.gh [AV.rf 0 0]))) ∧
        FamNext st inv μ kk ⟨[AV.d (.sl sl), mkS u, AV.jk, AV.jk, mkB false, AV.rf 1 0, AV.rf 3 0, mkI .i64 (IntKind.wrap .i64 (i + (1 : Int)))] ++ (jks 112), [Ob.bun (famR (FamD.mk KK.str (Shp.map KK.str) l')), Ob.box [AV.mp (if 1 < 2 then 0 else 5 + (1 - 2))], Ob.bun (famR (FamD.mk KK.str (Shp.map KK.str) l'_1)), Ob.box [AV.mp (if 1 < 2 then 2 else 7 + (1 - 2))], Ob.gone, Ob.gone, Ob.gone, Ob.gone]⟩))))) (
    ∃ (l : FLs),
    ([AV.rf 0 0] = [AV.rf 0 0]) ∧
    ([Ob.box [AV.mp (0 + 1)], Ob.bun (famR (FamD.mk KK.str (Shp.map KK.str) lc)), Ob.gh [AV.rf 0 0]] = [Ob.box [AV.mp 1], Ob.bun (famR (FamD.mk KK.str (Shp.map KK.str) l)), Ob.gh [AV.rf 0 0]]) ∧
    (CrOk l) ∧
    ((cntL l) ≤ (1000 : Nat)) ∧ (
     ∀ (ks : List ByteArray),
     (SortB ks (List.map (fun (x : Prod Key (Prod Nat Rec)) => Prod.fst x) l)) →
     ((Option.some (Ob.gh [AV.rf 0 0])) = (Option.some (Ob.gh [AV.rf 0 0]))) ∧ (
      ∃ (l_1 : FLs),
      ∃ (u_1 : ByteArray),
      ([AV.rf 0 0, mkS u] = [AV.rf 0 0, mkS u_1]) ∧
      ([Ob.box [AV.mp (0 + 1)], Ob.bun (famR (FamD.mk KK.str (Shp.map KK.str) ld)), Ob.gh [AV.rf 0 0]] = [Ob.box [AV.mp 1], Ob.bun (famR (FamD.mk KK.str (Shp.map KK.str) l_1)), Ob.gh [AV.rf 0 0]]) ∧
      (CrOk l_1) ∧
      ((cntL l_1) ≤ (1000 : Nat)) ∧ (
       ∀ (ks_1 : List ByteArray),
       (SortB ks_1 (List.map (fun (x : Prod Key AV) => Prod.fst x) (devs l_1 u_1))) →
       ((Option.some (Ob.gh [AV.rf 0 0])) = (Option.some (Ob.gh [AV.rf 0 0]))) ∧
       True ∧ (
        ∃ (l_2 : FLs),
        ∃ (kind : Int),
        ∃ (ty : ByteArray),
        ∃ (id : ByteArray),
        ∃ (fr : ByteArray),
        ∃ (to : ByteArray),
        ∃ (sh : ByteArray),
        ∃ (tok : ByteArray),
        ∃ (rea : ByteArray),
        ∃ (hh : Int),
        ∃ (ver : Int),
        ∃ (rem : Bool),
        ∃ (its : List (List D)),
        ([AV.rf 0 0, AV.ag [mkI .i64 1, mkS ⟨#[117, 110, 97, 118, 97, 105, 108, 97, 98, 108, 101]⟩, mkS ⟨#[]⟩, mkS u, mkS ⟨#[]⟩, mkS ⟨#[]⟩, mkS ⟨#[]⟩, mkS ⟨#[]⟩, mkI .u32 0, mkI .i64 0, mkB false, AV.d (.sl [])]] = [AV.rf 0 0, AV.ag [mkI .i64 kind, mkS ty, mkS id, mkS fr, mkS to, mkS sh, mkS tok, mkS rea, mkI .u32 hh, mkI .i64 ver, mkB rem, AV.d (.sl its)]]) ∧
        ([Ob.box [AV.mp (0 + 1)], Ob.bun (famR (FamD.mk KK.str (Shp.map KK.str) l)), Ob.gh [AV.rf 0 0]] = [Ob.box [AV.mp 1], Ob.bun (famR (FamD.mk KK.str (Shp.map KK.str) l_2)), Ob.gh [AV.rf 0 0]]) ∧
        (CrOk l_2) ∧
        ((cntL l_2) ≤ (1000 : Nat)) ∧
        ((ByteArray.size fr) ≤ SZC) ∧
        ((ByteArray.size sh) ≤ LIM) ∧ (
         ∀ (e : Int),
         ∀ (l' : FLs),
         (HeR l_2 kind ty fr sh e l') →
         ((Option.some (Ob.gh [AV.rf 0 0])) = (Option.some (Ob.gh [AV.rf 0 0]))) ∧
         bcase (e != (0 : Int)) (
          bcase (e == (6 : Int)) (
           ∃ (l_3 : FLs),
           ([AV.rf 0 0] = [AV.rf 0 0]) ∧
           ([Ob.box [AV.mp (0 + 1)], Ob.bun (famR (FamD.mk KK.str (Shp.map KK.str) l')), Ob.gh [AV.rf 0 0]] = [Ob.box [AV.mp 1], Ob.bun (famR (FamD.mk KK.str (Shp.map KK.str) l_3)), Ob.gh [AV.rf 0 0]]) ∧
           (CrOk l_3) ∧
           ((cntL l_3) ≤ (1000 : Nat)) ∧ (
            ∀ (ks_2 : List ByteArray),
            (SortB ks_2 (List.map (fun (x : Prod Key (Prod Nat Rec)) => Prod.fst x) l_3)) →
            ((Option.some (Ob.gh [AV.rf 0 0])) = (Option.some (Ob.gh [AV.rf 0 0]))) ∧
            (((strsD ks) = (strsD (unSS (strsD ks)))) ∧ ((strsD ks_2) = (strsD (unSS (strsD ks_2))))) ∧
            q (mkB (decide ((unSS (strsD ks)) = (unSS (strsD ks_2))))))) (
           q (mkB false))) (
          ALoop (aCode KS GLe (cAt [1, 1, 1, 1, 1, 1, 1, 1, 0, 1, 0, 0] Tryd.b5)) (rLe_b_k0 q) ⟨[AV.d (.sl sl), mkS u, AV.jk, AV.jk, mkB false, AV.rf 1 0, AV.rf 3 0, mkI .i64 i, AV.d (.sl (strsD ks)), AV.d (.sl (strsD ks_1)), mkI .i64 e, mkB false, mkI .i64 0, AV.jk, AV.jk, AV.jk, AV.jk, AV.jk, AV.jk, mkI .i64 i, AV.d (.sl sl), mkI .i64 ((List.length sl) : Int), mkB (decide (i < ((List.length sl) : Int))), mkB true, mkI .i64 i, mkB (decide (i < (50 : Int))), mkB false] ++ (jks 14 ++ ([AV.rf 1 0, AV.d (.sl (strsD ks)), AV.rf 3 0, mkS u, AV.d (.sl (strsD ks_1)), AV.rf 1 0, mkS u, AV.ag [mkI .i64 1, mkS ⟨#[117, 110, 97, 118, 97, 105, 108, 97, 98, 108, 101]⟩, mkS ⟨#[]⟩, mkS u, mkS ⟨#[]⟩, mkS ⟨#[]⟩, mkS ⟨#[]⟩, mkS ⟨#[]⟩, mkI .u32 0, mkI .i64 0, mkB false, AV.d (.sl [])], mkI .i64 e, mkI .i64 e, mkB false] ++ (jks 68))), [Ob.bun (famR (FamD.mk KK.str (Shp.map KK.str) l')), Ob.box [AV.mp (if 1 < 2 then 0 else 9 + (1 - 2))], Ob.bun (famR (FamD.mk KK.str (Shp.map KK.str) l_1)), Ob.box [AV.mp (if 1 < 2 then 2 else 7 + (1 - 2))], Ob.gone, Ob.gone, Ob.gone, Ob.gone, Ob.gone, Ob.gone]⟩)))))))) (
   ∃ (l : FLs),
   ([AV.rf 0 0] = [AV.rf 0 0]) ∧
   ([Ob.box [AV.mp (0 + 1)], Ob.bun (famR (FamD.mk KK.str (Shp.map KK.str) lc)), Ob.gh [AV.rf 0 0]] = [Ob.box [AV.mp 1], Ob.bun (famR (FamD.mk KK.str (Shp.map KK.str) l)), Ob.gh [AV.rf 0 0]]) ∧
   (CrOk l) ∧
   ((cntL l) ≤ (1000 : Nat)) ∧ (
    ∀ (ks : List ByteArray),
    (SortB ks (List.map (fun (x : Prod Key (Prod Nat Rec)) => Prod.fst x) l)) →
    ((Option.some (Ob.gh [AV.rf 0 0])) = (Option.some (Ob.gh [AV.rf 0 0]))) ∧ (
     ∃ (l_1 : FLs),
     ∃ (u_1 : ByteArray),
     ([AV.rf 0 0, mkS u] = [AV.rf 0 0, mkS u_1]) ∧
     ([Ob.box [AV.mp (0 + 1)], Ob.bun (famR (FamD.mk KK.str (Shp.map KK.str) ld)), Ob.gh [AV.rf 0 0]] = [Ob.box [AV.mp 1], Ob.bun (famR (FamD.mk KK.str (Shp.map KK.str) l_1)), Ob.gh [AV.rf 0 0]]) ∧
     (CrOk l_1) ∧
     ((cntL l_1) ≤ (1000 : Nat)) ∧ (
      ∀ (ks_1 : List ByteArray),
      (SortB ks_1 (List.map (fun (x : Prod Key AV) => Prod.fst x) (devs l_1 u_1))) →
      ((Option.some (Ob.gh [AV.rf 0 0])) = (Option.some (Ob.gh [AV.rf 0 0]))) ∧
      True ∧ (
       ∃ (l_2 : FLs),
       ∃ (kind : Int),
       ∃ (ty : ByteArray),
       ∃ (id : ByteArray),
       ∃ (fr : ByteArray),
       ∃ (to : ByteArray),
       ∃ (sh : ByteArray),
       ∃ (tok : ByteArray),
       ∃ (rea : ByteArray),
       ∃ (hh : Int),
       ∃ (ver : Int),
       ∃ (rem : Bool),
       ∃ (its : List (List D)),
       ([AV.rf 0 0, AV.ag [mkI .i64 1, mkS ⟨#[117, 110, 97, 118, 97, 105, 108, 97, 98, 108, 101]⟩, mkS ⟨#[]⟩, mkS u, mkS ⟨#[]⟩, mkS ⟨#[]⟩, mkS ⟨#[]⟩, mkS ⟨#[]⟩, mkI .u32 0, mkI .i64 0, mkB false, AV.d (.sl [])]] = [AV.rf 0 0, AV.ag [mkI .i64 kind, mkS ty, mkS id, mkS fr, mkS to, mkS sh, mkS tok, mkS rea, mkI .u32 hh, mkI .i64 ver, mkB rem, AV.d (.sl its)]]) ∧
       ([Ob.box [AV.mp (0 + 1)], Ob.bun (famR (FamD.mk KK.str (Shp.map KK.str) l)), Ob.gh [AV.rf 0 0]] = [Ob.box [AV.mp 1], Ob.bun (famR (FamD.mk KK.str (Shp.map KK.str) l_2)), Ob.gh [AV.rf 0 0]]) ∧
       (CrOk l_2) ∧
       ((cntL l_2) ≤ (1000 : Nat)) ∧
       ((ByteArray.size fr) ≤ SZC) ∧
       ((ByteArray.size sh) ≤ LIM) ∧ (
        ∀ (e : Int),
        ∀ (l' : FLs),
        (HeR l_2 kind ty fr sh e l') →
        ((Option.some (Ob.gh [AV.rf 0 0])) = (Option.some (Ob.gh [AV.rf 0 0]))) ∧
        bcase (e != (0 : Int)) (
         bcase (e == (6 : Int)) (
          ∃ (l_3 : FLs),
          ([AV.rf 0 0] = [AV.rf 0 0]) ∧
          ([Ob.box [AV.mp (0 + 1)], Ob.bun (famR (FamD.mk KK.str (Shp.map KK.str) l')), Ob.gh [AV.rf 0 0]] = [Ob.box [AV.mp 1], Ob.bun (famR (FamD.mk KK.str (Shp.map KK.str) l_3)), Ob.gh [AV.rf 0 0]]) ∧
          (CrOk l_3) ∧
          ((cntL l_3) ≤ (1000 : Nat)) ∧ (
           ∀ (ks_2 : List ByteArray),
           (SortB ks_2 (List.map (fun (x : Prod Key (Prod Nat Rec)) => Prod.fst x) l_3)) →
           ((Option.some (Ob.gh [AV.rf 0 0])) = (Option.some (Ob.gh [AV.rf 0 0]))) ∧
           (((strsD ks) = (strsD (unSS (strsD ks)))) ∧ ((strsD ks_2) = (strsD (unSS (strsD ks_2))))) ∧
           q (mkB (decide ((unSS (strsD ks)) = (unSS (strsD ks_2))))))) (
          q (mkB false))) (
         ALoop (aCode KS GLe (cAt [1, 1, 1, 1, 1, 1, 1, 1, 0, 1, 0, 0] Tryd.b5)) (rLe_b_k0 q) ⟨[AV.d (.sl sl), mkS u, AV.jk, AV.jk, mkB false, AV.rf 1 0, AV.rf 3 0, mkI .i64 i, AV.d (.sl (strsD ks)), AV.d (.sl (strsD ks_1)), mkI .i64 e, mkB false, mkI .i64 0, AV.jk, AV.jk, AV.jk, AV.jk, AV.jk, AV.jk, mkI .i64 i, AV.d (.sl sl), mkI .i64 ((List.length sl) : Int), mkB (decide (i < ((List.length sl) : Int))), mkB false, AV.tp [], AV.tp [], mkB false] ++ (jks 14 ++ ([AV.rf 1 0, AV.d (.sl (strsD ks)), AV.rf 3 0, mkS u, AV.d (.sl (strsD ks_1)), AV.rf 1 0, mkS u, AV.ag [mkI .i64 1, mkS ⟨#[117, 110, 97, 118, 97, 105, 108, 97, 98, 108, 101]⟩, mkS ⟨#[]⟩, mkS u, mkS ⟨#[]⟩, mkS ⟨#[]⟩, mkS ⟨#[]⟩, mkS ⟨#[]⟩, mkI .u32 0, mkI .i64 0, mkB false, AV.d (.sl [])], mkI .i64 e, mkI .i64 e, mkB false] ++ (jks 68))), [Ob.bun (famR (FamD.mk KK.str (Shp.map KK.str) l')), Ob.box [AV.mp (if 1 < 2 then 0 else 9 + (1 - 2))], Ob.bun (famR (FamD.mk KK.str (Shp.map KK.str) l_1)), Ob.box [AV.mp (if 1 < 2 then 2 else 7 + (1 - 2))], Ob.gone, Ob.gone, Ob.gone, Ob.gone, Ob.gone, Ob.gone]⟩)))))))) := by kernel_rfl
def stL2 (u : ByteArray) (lc ld : FLs) (ks kd : List (List D)) (z : Bool) (k : Int) : S := ⟨[.jk, mkS u, .jk, .jk, mkB false, .rf 1 0, .rf 3 0, .jk, .d (.sl ks), .d (.sl kd), .jk, mkB z, mkI .i64 k] ++ jks 107, [fobC lc, .box [.mp 0], fobC ld, .box [.mp 2]]⟩
noncomputable def rLe_c_k0 (q : AV → Prop) : Kont := kBlk (4 : Nat) (kSeq (aCode KS GLe (cAt [1, 1, 1, 1, 1, 1, 1, 1, 1, 1, 1, 1] Tryd.b5) (kRet KS (Array.toList (Func.results Tryd.f5)) q)) (kRet KS (Array.toList (Func.results Tryd.f5)) q))
theorem rLe_c {ι : Type} (st : ι → S) (inv : ι → Prop) (μ : ι → Nat) (kk : ι) (u : ByteArray) (lc ld : FLs) (ks kd : List (List D)) (z : Bool) (k : Int) (q : AV → Prop) :
  (aCode KS GLe (cAt [1, 1, 1, 1, 1, 1, 1, 1, 0, 1, 0, 0] Tryd.b5) (kFamM [] (maskOf (stL2 u lc ld ks kd z k)) st inv μ kk (rLe_b_k0 q)) (stL2 u lc ld ks kd z k)) = (
  ((ByteArray.size u) ≤ LIM) →
  bcase (decide (k < ((ByteArray.size u) : Int))) (
   bcase z (
    FamNext st inv μ kk ⟨[AV.jk, mkS u, AV.jk, AV.jk, mkB false, AV.rf 1 0, AV.rf 3 0, AV.jk, AV.d (.sl ks), AV.d (.sl kd), AV.jk, mkB true, mkI .i64 (IntKind.wrap .i64 (k + (1 : Int)))] ++ (jks 107), [Ob.bun (famR (FamD.mk KK.str (Shp.map KK.str) lc)), Ob.box [AV.mp 0], Ob.bun (famR (FamD.mk KK.str (Shp.map KK.str) ld)), Ob.box [AV.mp 2]]⟩) (
    (((0 : Int) ≤ k) ∧ (k < ((ByteArray.size u) : Int))) ∧
    FamNext st inv μ kk ⟨[AV.jk, mkS u, AV.jk, AV.jk, mkB false, AV.rf 1 0, AV.rf 3 0, AV.jk, AV.d (.sl ks), AV.d (.sl kd), AV.jk, mkB (((UInt8.toNat (List.getD (Array.toList (ByteArray.data u)) (Int.toNat k) (0 : UInt8))) : Int) == (47 : Int)), mkI .i64 (IntKind.wrap .i64 (k + (1 : Int)))] ++ (jks 107), [Ob.bun (famR (FamD.mk KK.str (Shp.map KK.str) lc)), Ob.box [AV.mp 0], Ob.bun (famR (FamD.mk KK.str (Shp.map KK.str) ld)), Ob.box [AV.mp 2]]⟩)) (
   ∃ (l : FLs),
   ∃ (us : List ByteArray),
   ([AV.rf 0 0, AV.vw ((0 + 1) + 1) 1] = [AV.rf 0 0, AV.vw 2 (List.length us)]) ∧
   ([Ob.box [AV.mp (0 + 1)], Ob.bun (famR (FamD.mk KK.str (Shp.map KK.str) ld)), Ob.row 1 [[D.v (.string u)]], Ob.gh [AV.rf 0 0]] = [Ob.box [AV.mp 1], Ob.bun (famR (FamD.mk KK.str (Shp.map KK.str) l)), Ob.row 1 (strsD us), Ob.gh [AV.rf 0 0]]) ∧
   (CrOk l) ∧ (
    ∀ (l' : FLs),
    (FgR us l l') →
    ((Option.some (Ob.gh [AV.rf 0 0])) = (Option.some (Ob.gh [AV.rf 0 0]))) ∧ (
     ∃ (l_1 : FLs),
     ([AV.rf 0 0] = [AV.rf 0 0]) ∧
     ([Ob.box [AV.mp (0 + 1)], Ob.bun (famR (FamD.mk KK.str (Shp.map KK.str) lc)), Ob.gh [AV.rf 0 0]] = [Ob.box [AV.mp 1], Ob.bun (famR (FamD.mk KK.str (Shp.map KK.str) l_1)), Ob.gh [AV.rf 0 0]]) ∧
     (CrOk l_1) ∧
     ((cntL l_1) ≤ (1000 : Nat)) ∧ (
      ∀ (ks_1 : List ByteArray),
      (SortB ks_1 (List.map (fun (x : Prod Key (Prod Nat Rec)) => Prod.fst x) l_1)) →
      ((Option.some (Ob.gh [AV.rf 0 0])) = (Option.some (Ob.gh [AV.rf 0 0]))) ∧
      ALoop (aCode KS GLe (cAt [1, 1, 1, 1, 1, 1, 1, 1, 1, 1, 1, 0, 1, 0, 0] Tryd.b5)) (rLe_c_k0 q) ⟨[AV.jk, mkS u, AV.jk, AV.jk, mkB false, AV.rf 1 0, AV.rf 3 0, AV.jk, AV.d (.sl ks), AV.d (.sl kd), AV.jk, mkB z, mkI .i64 k, AV.d (.sl (strsD ks_1)), mkI .i64 0] ++ (jks 45 ++ ([mkI .i64 k, mkS u, mkI .i64 ((ByteArray.size u) : Int), mkB false] ++ (jks 9 ++ ([AV.rf 3 0, mkS u, AV.jk, AV.tp [], AV.rf 1 0, AV.d (.sl (strsD ks_1))] ++ (jks 41))))), [Ob.bun (famR (FamD.mk KK.str (Shp.map KK.str) l_1)), Ob.box [AV.mp (if 1 < 2 then 0 else 8 + (1 - 2))], Ob.bun (famR (FamD.mk KK.str (Shp.map KK.str) l')), Ob.box [AV.mp (if 1 < 3 then 2 else 6 + (1 - 3))], Ob.gone, Ob.gone, Ob.gone, Ob.gone, Ob.gone]⟩))))) := by kernel_rfl
def stL3 (u : ByteArray) (lc ld : FLs) (ks kd : List (List D)) (z : Bool) (now : List (List D)) (i : Int) : S := ⟨[.jk, mkS u, .jk, .jk, mkB false, .rf 1 0, .rf 3 0, .jk, .d (.sl ks), .d (.sl kd), .jk, mkB z, .jk, .d (.sl now), mkI .i64 i] ++ jks 105, [fobC lc, .box [.mp 0], fobC ld, .box [.mp 2]]⟩
theorem rLe_d {ι : Type} (st : ι → S) (inv : ι → Prop) (μ : ι → Nat) (kk : ι) (u : ByteArray) (lc ld : FLs) (ks kd : List (List D)) (z : Bool) (now : List (List D)) (i : Int) (q : AV → Prop) :
  (aCode KS GLe (cAt [1, 1, 1, 1, 1, 1, 1, 1, 1, 1, 1, 0, 1, 0, 0] Tryd.b5) (kFamM [] (maskOf (stL3 u lc ld ks kd z now i)) st inv μ kk (rLe_c_k0 q)) (stL3 u lc ld ks kd z now i)) = (
  ((List.length now) ≤ LIM) →
  bcase (decide (i < ((List.length now) : Int))) (
   (((0 : Int) ≤ i) ∧ (i < ((List.length now) : Int))) ∧
   ((List.length (List.getD now (Int.toNat i) [])) = 1) ∧
   ((1 : Nat) ≤ (List.length (List.getD now (Int.toNat i) []))) ∧
   ((List.getD (List.getD now (Int.toNat i) []) 0 d0) = (D.v (.string (strD (List.getD (List.getD now (Int.toNat i) []) 0 d0))))) ∧
   bcase (decide ((strD (List.getD (List.getD now (Int.toNat i) []) 0 d0)) = u)) (
    q (mkB false)) (
    FamNext st inv μ kk ⟨[AV.jk, mkS u, AV.jk, AV.jk, mkB false, AV.rf 1 0, AV.rf 3 0, AV.jk, AV.d (.sl ks), AV.d (.sl kd), AV.jk, mkB z, AV.jk, AV.d (.sl now), mkI .i64 (IntKind.wrap .i64 (i + (1 : Int)))] ++ (jks 105), [Ob.bun (famR (FamD.mk KK.str (Shp.map KK.str) lc)), Ob.box [AV.mp 0], Ob.bun (famR (FamD.mk KK.str (Shp.map KK.str) ld)), Ob.box [AV.mp 2]]⟩)) (
   bcase z (
    ∃ (l : FLs),
    ∃ (u_1 : ByteArray),
    ([AV.rf 0 0, mkS u] = [AV.rf 0 0, mkS u_1]) ∧
    ([Ob.box [AV.mp (0 + 1)], Ob.bun (famR (FamD.mk KK.str (Shp.map KK.str) ld)), Ob.gh [AV.rf 0 0]] = [Ob.box [AV.mp 1], Ob.bun (famR (FamD.mk KK.str (Shp.map KK.str) l)), Ob.gh [AV.rf 0 0]]) ∧
    (CrOk l) ∧
    ((cntL l) ≤ (1000 : Nat)) ∧ (
     ∀ (ks_1 : List ByteArray),
     (SortB ks_1 (List.map (fun (x : Prod Key AV) => Prod.fst x) (devs l u_1))) →
     ((Option.some (Ob.gh [AV.rf 0 0])) = (Option.some (Ob.gh [AV.rf 0 0]))) ∧
     (((strsD ks_1) = (strsD (unSS (strsD ks_1)))) ∧ (kd = (strsD (unSS kd)))) ∧
     bcase (decide ((unSS (strsD ks_1)) = (unSS kd))) (
      ∃ (l_1 : FLs),
      ([AV.rf 0 0] = [AV.rf 0 0]) ∧
      ([Ob.box [AV.mp (0 + 1)], Ob.bun (famR (FamD.mk KK.str (Shp.map KK.str) l)), Ob.gh [AV.rf 0 0]] = [Ob.box [AV.mp 1], Ob.bun (famR (FamD.mk KK.str (Shp.map KK.str) l_1)), Ob.gh [AV.rf 0 0]]) ∧
      (CrOk l_1) ∧
      ((cntL l_1) ≤ (1000 : Nat)) ∧ (
       ∀ (ks_2 : List ByteArray),
       (SortB ks_2 (List.map (fun (x : Prod Key (Prod Nat Rec)) => Prod.fst x) l_1)) →
       ((Option.some (Ob.gh [AV.rf 0 0])) = (Option.some (Ob.gh [AV.rf 0 0]))) ∧ (
        ((List.length (strsD ks_2)) ≤ LIM) →
        bcase (decide (((List.length (strsD ks_2)) : Int) ≤ (1 : Int))) (
         ((List.length now) ≤ LIM) →
         ((List.length ks) ≤ LIM) →
         q (mkB (decide (((List.length now) : Int) ≥ (IntKind.wrap .i64 (((List.length ks) : Int) - (1 : Int))))))) (
         q (mkB false))))) (
      q (mkB false)))) (
    ∃ (l : FLs),
    ∃ (u_1 : ByteArray),
    ([AV.rf 0 0, mkS u] = [AV.rf 0 0, mkS u_1]) ∧
    ([Ob.box [AV.mp (0 + 1)], Ob.bun (famR (FamD.mk KK.str (Shp.map KK.str) lc)), Ob.gh [AV.rf 0 0]] = [Ob.box [AV.mp 1], Ob.bun (famR (FamD.mk KK.str (Shp.map KK.str) l)), Ob.gh [AV.rf 0 0]]) ∧
    (CrOk l) ∧
    ((cntL l) ≤ (1000 : Nat)) ∧ (
     ∀ (ks_1 : List ByteArray),
     (SortB ks_1 (List.map (fun (x : Prod Key AV) => Prod.fst x) (devs l u_1))) →
     ((Option.some (Ob.gh [AV.rf 0 0])) = (Option.some (Ob.gh [AV.rf 0 0]))) ∧ (
      ((List.length (strsD ks_1)) ≤ LIM) →
      bcase (((List.length (strsD ks_1)) : Int) == (0 : Int)) (
       ∃ (l_1 : FLs),
       ∃ (u_2 : ByteArray),
       ([AV.rf 0 0, mkS u] = [AV.rf 0 0, mkS u_2]) ∧
       ([Ob.box [AV.mp (0 + 1)], Ob.bun (famR (FamD.mk KK.str (Shp.map KK.str) ld)), Ob.gh [AV.rf 0 0]] = [Ob.box [AV.mp 1], Ob.bun (famR (FamD.mk KK.str (Shp.map KK.str) l_1)), Ob.gh [AV.rf 0 0]]) ∧
       (CrOk l_1) ∧
       ((cntL l_1) ≤ (1000 : Nat)) ∧ (
        ∀ (ks_2 : List ByteArray),
        (SortB ks_2 (List.map (fun (x : Prod Key AV) => Prod.fst x) (devs l_1 u_2))) →
        ((Option.some (Ob.gh [AV.rf 0 0])) = (Option.some (Ob.gh [AV.rf 0 0]))) ∧
        (((strsD ks_2) = (strsD (unSS (strsD ks_2)))) ∧ (kd = (strsD (unSS kd)))) ∧
        bcase (decide ((unSS (strsD ks_2)) = (unSS kd))) (
         ∃ (l_2 : FLs),
         ([AV.rf 0 0] = [AV.rf 0 0]) ∧
         ([Ob.box [AV.mp (0 + 1)], Ob.bun (famR (FamD.mk KK.str (Shp.map KK.str) l_1)), Ob.gh [AV.rf 0 0]] = [Ob.box [AV.mp 1], Ob.bun (famR (FamD.mk KK.str (Shp.map KK.str) l_2)), Ob.gh [AV.rf 0 0]]) ∧
         (CrOk l_2) ∧
         ((cntL l_2) ≤ (1000 : Nat)) ∧ (
          ∀ (ks_3 : List ByteArray),
          (SortB ks_3 (List.map (fun (x : Prod Key (Prod Nat Rec)) => Prod.fst x) l_2)) →
          ((Option.some (Ob.gh [AV.rf 0 0])) = (Option.some (Ob.gh [AV.rf 0 0]))) ∧ (
           ((List.length (strsD ks_3)) ≤ LIM) →
           bcase (decide (((List.length (strsD ks_3)) : Int) ≤ (1 : Int))) (
            ((List.length now) ≤ LIM) →
            ((List.length ks) ≤ LIM) →
            q (mkB (decide (((List.length now) : Int) ≥ (IntKind.wrap .i64 (((List.length ks) : Int) - (1 : Int))))))) (
            q (mkB false))))) (
         q (mkB false)))) (
       q (mkB false))))))) := by kernel_rfl
theorem mem_idx : ∀ (l : List UInt8) (c : UInt8), 0 ≤ Lib.indexByte l c ↔ c ∈ l
  | [], c => by simp [Lib.indexByte]
  | b :: l, c => by
    have ih := mem_idx l c
    have ge := Lib.indexByte_ge l c
    unfold Lib.indexByte
    by_cases h : b = c
    · simp [h]
    · have h' : ¬ c = b := fun e => h e.symm
      simp only [beq_iff_eq, h, if_false, List.mem_cons, h', false_or, ← ih]
      split <;> rename_i hh
      · omega
      · have : Lib.indexByte l c ≠ -1 := by simpa using hh
        omega
theorem cutB_iff (s : ByteArray) : cutB s = true ↔ (47 : UInt8) ∈ s.data.toList := by
  unfold cutB cutI
  rw [decide_eq_true_eq, ← mem_idx]
theorem cut_no {s : ByteArray} (h : cutB s = false) : cutU s = s ∧ cutD s = ⟨#[]⟩ := by
  have h : ¬ cutI s ≥ 0 := of_decide_eq_false h
  unfold cutU cutD
  rw [if_neg h, if_neg h]
  exact ⟨rfl, rfl⟩
theorem user_no {u : ByteArray} (h : userB u = true) : cutB u = false := by
  cases hc : cutB u with
  | false => rfl
  | true =>
    simp only [userB, Bool.and_eq_true, List.all_eq_true, decide_eq_true_eq] at h
    exact absurd (h.2 47 ((cutB_iff u).1 hc)) (by decide)
def anyTo (u : ByteArray) (k : Nat) : Bool := (u.data.toList.take k).any (· == 47)
theorem anyTo_succ (u : ByteArray) {k : Nat} (h : k < u.size) : anyTo u (k + 1) = (anyTo u k || (((u.data.toList.getD ((k : Int).toNat) 0).toNat : Int) == 47)) := by
  have hl : k < u.data.toList.length := by rw [Array.length_toList]; exact h
  unfold anyTo
  rw [List.take_add_one, List.getElem?_eq_getElem hl, List.any_append, Int.toNat_natCast, List.getD_eq_getElem?_getD, List.getElem?_eq_getElem hl]
  congr 1
  simp only [Option.toList_some, List.any_cons, List.any_nil, Bool.or_false, Option.getD_some]
  rw [Bool.eq_iff_iff, beq_iff_eq, beq_iff_eq]
  constructor
  · intro e; rw [e]; rfl
  · intro e
    have : (u.data.toList[k]).toNat = (47 : UInt8).toNat := by
      have e2 : (47 : UInt8).toNat = 47 := rfl
      omega
    exact UInt8.toNat_inj.1 this
theorem anyTo_all (u : ByteArray) : anyTo u u.size = cutB u := by
  unfold anyTo
  rw [List.take_of_length_le (by rw [Array.length_toList]; exact Nat.le_refl _), Bool.eq_iff_iff, cutB_iff, List.any_eq_true]
  constructor
  · rintro ⟨x, hx, e⟩; rw [← beq_iff_eq.1 e]; exact hx
  · exact fun h => ⟨_, h, by simp⟩
def SameC (a b : FLs) : Prop := ∀ u d, lk a u d = lk b u d
def NoSl (l : FLs) : Prop := ∀ u d, (lk l u d).isSome = true → userB u = true
theorem he_nosl {l l' : FLs} {kind e : Int} {ty fr sh : ByteArray} (h : HeR l kind ty fr sh e l') (hC : CrOk l) (hn : NoSl l) : NoSl l' := by
  cases h with
  | bad h => exact hn
  | full h1 h2 h3 h4 h5 h6 => exact hn
  | off h1 h2 h3 h =>
    intro u d hs
    rw [lk_off hC h] at hs
    split at hs
    · cases hs
    · exact hn u d hs
  | on h1 h2 h3 h4 h5 h =>
    intro u d hs
    rw [lk_on h] at hs
    split at hs
    · rename_i hw
      rw [hw.1]
      unfold addrB at h2
      simp only [Bool.and_eq_true] at h2
      exact h2.1
    · exact hn u d hs
theorem he_same {a a' b b' : FLs} {kind e e' : Int} {ty fr sh : ByteArray} (h : HeR a kind ty fr sh e a') (h' : HeR b kind ty fr sh e' b') (ha : CrOk a) (hb : CrOk b) (hs : SameC a b) : e = e' ∧ SameC a' b' := by
  have hc : cntL a = cntL b := cnt_eq ha hb fun u d => by rw [hs]
  have hk : hasK (.s (cutD fr)) (devs a (cutU fr)) = hasK (.s (cutD fr)) (devs b (cutU fr)) := by rw [lk_has, lk_has, hs]
  have nb : ∀ {ty : ByteArray}, kind = 1 → addrB fr = true → (ty = unB ∨ ty = ⟨#[]⟩ ∧ cutD fr ≠ ⟨#[]⟩) → ¬ (kind ≠ 1 ∨ addrB fr = false ∨ (ty ≠ unB ∧ (ty ≠ ⟨#[]⟩ ∨ cutD fr = ⟨#[]⟩))) := fun h1 h2 h3 => by
    rintro (h | h | ⟨h, h4⟩)
    · exact h h1
    · rw [h2] at h; cases h
    · rcases h3 with h3 | ⟨h3, h5⟩
      · exact h h3
      · rcases h4 with h4 | h4
        · exact h4 h3
        · exact h5 h4
  have ne : (⟨#[]⟩ : ByteArray) ≠ unB := by decide
  cases h with
  | bad h =>
    cases h' with
    | bad _ => exact ⟨rfl, hs⟩
    | off h1 h2 h3 _ => exact absurd h (nb h1 h2 (.inl h3))
    | full h1 h2 h3 h4 _ _ => exact absurd h (nb h1 h2 (.inr ⟨h3, h4⟩))
    | on h1 h2 h3 h4 _ _ => exact absurd h (nb h1 h2 (.inr ⟨h3, h4⟩))
  | off h1 h2 h3 hch =>
    cases h' with
    | bad h => exact absurd h (nb h1 h2 (.inl h3))
    | off _ _ _ hch' =>
      refine ⟨rfl, fun u d => ?_⟩
      rw [lk_off ha hch, lk_off hb hch', hs]
    | full _ _ h4 _ _ _ => exact absurd (h4.symm.trans h3) ne
    | on _ _ h4 _ _ _ => exact absurd (h4.symm.trans h3) ne
  | full h1 h2 h3 h4 h5 h6 =>
    cases h' with
    | bad h => exact absurd h (nb h1 h2 (.inr ⟨h3, h4⟩))
    | off _ _ h7 _ => exact absurd (h3.symm.trans h7) ne
    | full _ _ _ _ _ _ => exact ⟨rfl, hs⟩
    | on _ _ _ _ h7 _ =>
      rcases h7 with h7 | h7
      · rw [← hk, h5] at h7; cases h7
      · exact absurd (hc ▸ h6) h7
  | on h1 h2 h3 h4 h5 hch =>
    cases h' with
    | bad h => exact absurd h (nb h1 h2 (.inr ⟨h3, h4⟩))
    | off _ _ h7 _ => exact absurd (h3.symm.trans h7) ne
    | full _ _ _ _ h7 h8 =>
      rcases h5 with h5 | h5
      · rw [hk, h7] at h5; cases h5
      · exact absurd (hc.trans h8) h5
    | on _ _ _ _ _ hch' =>
      refine ⟨rfl, fun u d => ?_⟩
      rw [lk_on hch, lk_on hch', hs]
theorem he_gone {l l' : FLs} {u : ByteArray} {e : Int} (h : HeR l 1 unB u ⟨#[]⟩ e l') : (e = 6 ∧ l' = l) ∨ (e = 0 ∧ ChR (cutU u) l l' (lvM (cutD u) (devs l (cutU u)))) := by
  have ne : (unB : ByteArray) ≠ ⟨#[]⟩ := by decide
  cases h with
  | bad h => exact .inl ⟨rfl, rfl⟩
  | off h1 h2 h3 h => exact .inr ⟨rfl, h⟩
  | full h1 h2 h3 h4 h5 h6 => exact absurd h3 ne
  | on h1 h2 h3 h4 h5 h => exact absurd h3 ne
structure GoS (u : ByteArray) (l l' : FLs) : Prop where
  ok : CrOk l
  no : NoSl l
  ch : ChR (cutU u) l l' (lvM (cutD u) (devs l (cutU u)))
theorem GoS.lk {u : ByteArray} {l l' : FLs} (h : GoS u l l') (w e : ByteArray) : lk l' w e = if w = cutU u ∧ (cutD u = ⟨#[]⟩ ∨ e = cutD u) then none else lk l w e := lk_off h.ok h.ch w e
theorem GoS.notin {u : ByteArray} {l l' : FLs} (h : GoS u l l') {now : List ByteArray} (hn : SortB now (l'.map (·.1))) : u ∉ now := fun hm => by
  obtain ⟨d, hd⟩ := (us_mem h.ch.ok).1 ((sortB_mem hn).1 hm)
  have hd0 := hd
  rw [h.lk] at hd
  split at hd
  · cases hd
  · rename_i hne
    obtain ⟨e1, e2⟩ := cut_no (user_no (h.no u d hd))
    exact hne ⟨e1.symm, .inl e2⟩
theorem GoS.none {u : ByteArray} {l l' : FLs} (h : GoS u l l') (hc : cutB u = false) : devs l' u = [] := by
  obtain ⟨e1, e2⟩ := cut_no hc
  rw [h.ch.dv, if_pos e1.symm, e2]
  rfl
theorem GoS.len {u : ByteArray} {l l' : FLs} (h : GoS u l l') {ks now : List ByteArray} (h1 : SortB ks (l.map (·.1))) (h2 : SortB now (l'.map (·.1))) : ks.length ≤ now.length + 1 := by
  have := nd_le (b := cutU u :: now) (sortB_nd h.ok h1) fun w hw => by
    obtain ⟨d, hd⟩ := (us_mem h.ok).1 ((sortB_mem h1).1 hw)
    by_cases e : w = cutU u
    · rw [e]; exact List.mem_cons_self
    · refine List.mem_cons_of_mem _ ((sortB_mem h2).2 ((us_mem h.ch.ok).2 ⟨d, ?_⟩))
      rw [h.lk, if_neg fun hh => e hh.1]
      exact hd
  rwa [List.length_cons] at this
theorem fg_one {u : ByteArray} {l l' : FLs} (h : FgR [u] l l') {ku : List ByteArray} (h1 : SortB ku (l'.map (·.1))) : ku.length ≤ 1 := by
  have := nd_le (b := [u]) (sortB_nd h.ok h1) fun w hw => by
    obtain ⟨d, hd⟩ := (us_mem h.ok).1 ((sortB_mem h1).1 hw)
    unfold lk at hd
    rw [h.dv] at hd
    split at hd
    · rename_i hm
      exact (memB_iff _ _).1 hm
    · cases hd
  exact this
theorem sortB_same {a b : List ByteArray} {kl : List Key} (h1 : SortB a kl) (h2 : SortB b kl) : a = b := perm_sorted (s_perm (h1.perm.trans h2.perm.symm)) h1.ord h2.ord
theorem fg_devs {u : ByteArray} {l l' : FLs} (h : FgR [u] l l') : devs l' u = devs l u := by
  rw [h.dv, if_pos ((memB_iff _ _).2 (by simp))]
structure LvT (u : ByteArray) (lc l' ld ld' : FLs) (ks kd now : List ByteArray) : Prop where
  go : GoS u lc l'
  n1 : cntL l' ≤ 64
  n2 : cntL ld' ≤ 64
  ks : SortB ks (lc.map (·.1))
  kd : SortB kd ((devs ld u).map (·.1))
  now : SortB now (l'.map (·.1))
  fg : FgR [u] ld ld'
theorem le_loop3 {u : ByteArray} {lc l' ld ld' : FLs} {ks kd now : List ByteArray} (h : LvT u lc l' ld ld' ks kd now) {q : AV → Prop} (hq : q (mkB true)) {s : S} (hs : S.le (sealAll [] s) (stL3 u l' ld' (strsD ks) (strsD kd) (cutB u) (strsD now) 0)) :
    ALoop (aCode KS GLe (cAt [1, 1, 1, 1, 1, 1, 1, 1, 1, 1, 1, 0, 1, 0, 0] Tryd.b5)) (rLe_c_k0 q) s := by
  have hn1 := h.n1
  have hn2 := h.n2
  refine ALoop.introM [] (maskOf (stL3 u l' ld' (strsD ks) (strsD kd) (cutB u) (strsD now) 0)) (fun i : Nat => stL3 u l' ld' (strsD ks) (strsD kd) (cutB u) (strsD now) (i : Int)) (fun i => i ≤ now.length) (fun i => now.length - i)
    ⟨[], 0, hs, Nat.zero_le _⟩ fun i hi => ?_
  have hi : i ≤ now.length := hi
  refine cast (rLe_d _ _ _ i u l' ld' (strsD ks) (strsD kd) (cutB u) (strsD now) (i : Int) q).symm fun hlim => bcase_dec (fun hlt => ?_) (fun hge => ?_)
  · have hlim : now.length ≤ LIM := by rw [strsD_length] at hlim; exact hlim
    unfold LIM at hlim
    have hlt : i < now.length := by rw [strsD_length] at hlt; omega
    have w1 : IntKind.wrap .i64 ((i : Int) + 1) = ((i + 1 : Nat) : Int) := by rw [IntWalk.i64_in _ (by omega)]; omega
    rw [strs_at now hlt, w1]
    refine ⟨⟨by omega, by rw [strsD_length]; omega⟩, rfl, by simp, rfl, bcaseF ?_ ?_⟩
    · show decide (now[i] = u) = false
      exact decide_eq_false fun e => h.go.notin h.now (e ▸ List.getElem_mem hlt)
    · refine .mk [] (i + 1) ?_ hlt (show now.length - (i + 1) < now.length - i by omega)
      generalize strsD ks = k1
      generalize strsD kd = k2
      generalize strsD now = k3
      simp [S.le, sealAll, leL, leA, leO, jks, stL3, mkI, mkS, mkB, S.fits, fitsL, AV.fits, Ob.fits, fobC]
  · have dev : ∀ kd', SortB kd' ((devs ld' u).map (·.1)) → kd' = kd := fun kd' hkd' => by
      rw [fg_devs h.fg] at hkd'
      exact sortB_same hkd' h.kd
    have fin : ∀ ku, SortB ku (ld'.map (·.1)) → ((strsD ku).length ≤ LIM → bcase (decide (((strsD ku).length : Int) ≤ 1)) ((strsD now).length ≤ LIM → (strsD ks).length ≤ LIM → q (mkB (decide (((strsD now).length : Int) ≥ IntKind.wrap .i64 (((strsD ks).length : Int) - 1))))) (q (mkB false))) := fun ku hku _ => by
      have h1 := fg_one h.fg hku
      have h2 := h.go.len h.ks h.now
      rw [strsD_length, strsD_length, strsD_length]
      refine bcaseT (decide_eq_true (by omega)) fun hl1 hl2 => ?_
      unfold LIM at hl2
      rw [decide_eq_true (by rw [IntWalk.i64_in _ (by omega)]; omega)]
      exact hq
    refine bcase_mk (fun hz => ?_) (fun hz => ?_)
    · refine ⟨ld', u, rfl, rfl, h.fg.ok, by omega, fun kd' hkd' => ⟨rfl, ⟨by simp, by simp⟩, ?_⟩⟩
      rw [dev kd' hkd']
      exact bcaseT (by simp) ⟨ld', rfl, rfl, h.fg.ok, by omega, fun ku hku => ⟨rfl, fin ku hku⟩⟩
    · refine ⟨l', u, rfl, rfl, h.go.ch.ok, by omega, fun kc hkc => ⟨rfl, fun _ => bcaseT ?_ ⟨ld', u, rfl, rfl, h.fg.ok, by omega, fun kd' hkd' => ⟨rfl, ⟨by simp, by simp⟩, ?_⟩⟩⟩⟩
      · rw [strsD_length, devs_len l' hkc, h.go.none hz]; rfl
      · rw [dev kd' hkd']
        exact bcaseT (by simp) ⟨ld', rfl, rfl, h.fg.ok, by omega, fun ku hku => ⟨rfl, fin ku hku⟩⟩
theorem le_loop2 {u : ByteArray} (hu : u.size ≤ SZC) {lc l' ld : FLs} {ks kd : List ByteArray} (hG : GoS u lc l') (h1 : cntL l' ≤ 64) (hd : CrOk ld) (h2 : cntL ld ≤ 64) (hks : SortB ks (lc.map (·.1))) (hkd : SortB kd ((devs ld u).map (·.1))) {q : AV → Prop} (hq : q (mkB true)) {s : S} (hs : S.le (sealAll [] s) (stL2 u l' ld (strsD ks) (strsD kd) false 0)) :
    ALoop (aCode KS GLe (cAt [1, 1, 1, 1, 1, 1, 1, 1, 0, 1, 0, 0] Tryd.b5)) (rLe_b_k0 q) s := by
  refine ALoop.introM [] (maskOf (stL2 u l' ld (strsD ks) (strsD kd) false 0)) (fun k : Nat => stL2 u l' ld (strsD ks) (strsD kd) (anyTo u k) (k : Int)) (fun k => k ≤ u.size) (fun k => u.size - k)
    ⟨[], 0, by simpa [anyTo] using hs, Nat.zero_le _⟩ fun k hk => ?_
  have hk : k ≤ u.size := hk
  refine cast (rLe_c _ _ _ k u l' ld (strsD ks) (strsD kd) (anyTo u k) (k : Int) q).symm fun hlim => bcase_dec (fun hlt => ?_) (fun hge => ?_)
  · unfold SZC at hu
    have hlt : k < u.size := by omega
    have w1 : IntKind.wrap .i64 ((k : Int) + 1) = ((k + 1 : Nat) : Int) := by rw [IntWalk.i64_in _ (by omega)]; omega
    rw [w1]
    have e1 := anyTo_succ u hlt
    refine bcase_mk (fun hz => ?_) (fun hz => ⟨by omega, ?_⟩)
    · refine .mk [] (k + 1) ?_ hlt (show u.size - (k + 1) < u.size - k by omega)
      rw [hz] at e1
      rw [e1]
      generalize strsD ks = k1
      generalize strsD kd = k2
      simp [S.le, sealAll, leL, leA, leO, jks, stL2, mkI, mkS, mkB, S.fits, fitsL, AV.fits, Ob.fits, fobC]
    · refine .mk [] (k + 1) ?_ hlt (show u.size - (k + 1) < u.size - k by omega)
      rw [hz, Bool.false_or] at e1
      rw [← e1]
      generalize anyTo u (k + 1) = z
      generalize strsD ks = k1
      generalize strsD kd = k2
      simp [S.le, sealAll, leL, leA, leO, jks, stL2, mkI, mkS, mkB, S.fits, fitsL, AV.fits, Ob.fits, fobC]
  · have : k = u.size := by omega
    subst this
    rw [anyTo_all]
    refine ⟨ld, [u], rfl, rfl, hd, fun ld' hfg => ⟨rfl, l', rfl, rfl, hG.ch.ok, by omega, fun now hnow => ⟨rfl, le_loop3 ⟨hG, h1, Nat.le_trans hfg.cnt h2, hks, hkd, hnow, hfg⟩ hq ?_⟩⟩⟩
    generalize strsD ks = k1
    generalize strsD kd = k2
    generalize strsD now = k3
    generalize cutB u = z
    simp [S.le, sealAll, leL, leA, leO, jks, stL3, mkI, mkS, mkB, S.fits, fitsL, AV.fits, Ob.fits, fobC]
structure LvI (lc ld : FLs) : Prop where
  c : CrOk lc
  d : CrOk ld
  nc : cntL lc ≤ 64
  nd : cntL ld ≤ 64
  same : SameC lc ld
  no : NoSl lc
def FLe : List AV → Option (Prop × AV) := fun al => match al with
  | [.d (.sl es), .d (.v (.string u))] => some (u.size ≤ SZC ∧ ∃ l : List Stz, es = stzL l ∧ l.length ≤ 1048576 ∧ ∀ s ∈ l, s.fit, mkB true)
  | _ => none
theorem gLe : GSound Tryd.prog GLe := gsound_det cLives (gsound_det c16 (gsound_det c14 (gsound_new cNw (gsound_ref (RSound.frame (cHe_of cCnt)) (gsound_ref (RSound.frame cUs) (gsound_ref (RSound.frame cDv) (gsound_ref (RSound.frame cFo2) gsound_nil)))))))
theorem cLe : PSound Tryd.prog 5 (detE FLe) := by
  refine det_fn (c := Tryd.b5) mixed KS_ok gLe Tryd.func5 rfl rfl Tryd.call5 fun al p r q hF hp hq => ?_
  unfold FLe at hF; split at hF <;> cases hF
  rename_i u
  obtain ⟨hu, ss, rfl, hlen, hfit⟩ := hp
  refine cast (rLe (stzL ss) u q).symm ⟨trivial, rfl, rfl, ?_⟩
  refine ALoop.introM [] (maskOf (stL1 (stzL ss) u [] [] 0)) (fun x : FLs × FLs × Nat => stL1 (stzL ss) u x.1 x.2.1 (x.2.2 : Int)) (fun x => LvI x.1 x.2.1 ∧ x.2.2 ≤ ss.length) (fun x => ss.length - x.2.2)
    ⟨[], ([], [], 0), by generalize stzL ss = sl; simp [S.le, sealAll, leL, leA, leO, jks, stL1, mkI, mkS, mkB, S.fits, fitsL, AV.fits, Ob.fits, fobC], ⟨crOk_nil, crOk_nil, by decide, by decide, fun _ _ => rfl, fun u d h => (by cases h)⟩, Nat.zero_le _⟩ fun ⟨lc, ld, i⟩ ⟨hI, hi⟩ => ?_
  simp only at hI hi
  have hC := hI.c
  have hD := hI.d
  have hn1 := hI.nc
  have hn2 := hI.nd
  have fin : ∀ {e : Int} {l' : FLs} {ks kd : List ByteArray} (X : Prop), HeR lc 1 unB u ⟨#[]⟩ e l' → SortB ks (lc.map (·.1)) → SortB kd ((devs ld u).map (·.1)) → (GoS u lc l' → cntL l' ≤ 64 → X) →
      bcase (e != 0) (bcase (e == 6) (∃ l_3, ([.rf 0 0] : List AV) = [.rf 0 0] ∧ ([.box [.mp (0 + 1)], fobC l', .gh [.rf 0 0]] : List Ob) = [.box [.mp 1], fobC l_3, .gh [.rf 0 0]] ∧ CrOk l_3 ∧ cntL l_3 ≤ 1000 ∧ ∀ ks2, SortB ks2 (l_3.map (·.1)) → (some (Ob.gh [.rf 0 0]) = some (Ob.gh [.rf 0 0])) ∧ (strsD ks = strsD (unSS (strsD ks)) ∧ strsD ks2 = strsD (unSS (strsD ks2))) ∧ q (mkB (decide (unSS (strsD ks) = unSS (strsD ks2))))) (q (mkB false))) X := fun {e l' ks kd} X hh hks hkd hX => by
    rcases he_gone hh with ⟨rfl, rfl⟩ | ⟨rfl, hch⟩
    · refine bcaseT (by decide) (bcaseT (by decide) ⟨l', rfl, rfl, hC, by omega, fun ks2 hks2 => ⟨rfl, ⟨by simp, by simp⟩, ?_⟩⟩)
      rw [sortB_same hks hks2, decide_eq_true rfl]
      exact hq
    · exact bcaseF (by decide) (hX ⟨hC, hI.no, hch⟩ (he_keep hh hC hn1).2)
  refine cast (rLe_b _ _ _ (lc, ld, i) (stzL ss) u lc ld (i : Int) q).symm fun hlim => bcase_dec (fun hlt => bcase_dec (fun h50 => ?_) (fun h50 => ?_)) (fun hge => ?_)
  · have hlt : i < ss.length := by rw [stzL_len] at hlt; omega
    have w1 : IntKind.wrap .i64 ((i : Int) + 1) = ((i + 1 : Nat) : Int) := by rw [IntWalk.i64_in _ (by omega)]; omega
    rw [stz_cons ss hlt, w1]
    have hf := hfit _ (List.getElem_mem hlt)
    generalize ss[i] = s at hf
    have hi1 : (0 ≤ (i : Int)) ∧ ((i : Int) < ((stzL ss).length : Int)) := ⟨by omega, by rw [stzL_len]; omega⟩
    refine ⟨hi1, rfl, Nat.le_refl 12, ⟨rfl, rfl, rfl, rfl, rfl, rfl, rfl, rfl, rfl, rfl, rfl, rfl, trivial⟩, lc, s.kind, s.ty, s.id, s.fr, s.to, s.sh, s.tok, s.rea, s.hh, s.ver, s.rem, s.its, rfl, rfl, hC, by omega, hf.fr, szc_lim hf.sh, fun e lc' h1 => ⟨rfl, hi1, rfl, Nat.le_refl 12, ⟨rfl, rfl, rfl, rfl, rfl, rfl, rfl, rfl, rfl, rfl, rfl, rfl, trivial⟩, ld, s.kind, s.ty, s.id, s.fr, s.to, s.sh, s.tok, s.rea, s.hh, s.ver, s.rem, s.its, rfl, rfl, hD, by omega, hf.fr, szc_lim hf.sh, fun e2 ld' h2 => ⟨rfl, ?_⟩⟩⟩
    obtain ⟨c1, c2⟩ := he_keep h1 hC hn1
    obtain ⟨d1, d2⟩ := he_keep h2 hD hn2
    refine .mk [] (lc', ld', i + 1) ?_ ⟨⟨c1, d1, c2, d2, (he_same h1 h2 hC hD hI.same).2, he_nosl h1 hC hI.no⟩, hlt⟩ (show ss.length - (i + 1) < ss.length - i by omega)
    generalize stzL ss = sl
    simp [S.le, sealAll, leL, leA, leO, jks, stL1, mkI, mkS, mkB, S.fits, fitsL, AV.fits, Ob.fits, fobC]
  · refine ⟨lc, rfl, rfl, hC, by omega, fun ks hks => ⟨rfl, ld, u, rfl, rfl, hD, by omega, fun kd hkd => ⟨rfl, trivial, lc, _, _, _, _, _, _, _, _, _, _, _, _, rfl, rfl, hC, by omega, hu, by decide, fun e l' hh => ⟨rfl, fin _ hh hks hkd fun hG hn => le_loop2 hu hG hn hD hn2 hks hkd hq ?_⟩⟩⟩⟩
    generalize stzL ss = sl
    generalize strsD ks = k1
    generalize strsD kd = k2
    simp [S.le, sealAll, leL, leA, leO, jks, stL2, mkI, mkS, mkB, S.fits, fitsL, AV.fits, Ob.fits, fobC]
  · refine ⟨lc, rfl, rfl, hC, by omega, fun ks hks => ⟨rfl, ld, u, rfl, rfl, hD, by omega, fun kd hkd => ⟨rfl, trivial, lc, _, _, _, _, _, _, _, _, _, _, _, _, rfl, rfl, hC, by omega, hu, by decide, fun e l' hh => ⟨rfl, fin _ hh hks hkd fun hG hn => le_loop2 hu hG hn hD hn2 hks hkd hq ?_⟩⟩⟩⟩
    generalize stzL ss = sl
    generalize strsD ks = k1
    generalize strsD kd = k2
    simp [S.le, sealAll, leL, leA, leO, jks, stL2, mkI, mkS, mkB, S.fits, fitsL, AV.fits, Ob.fits, fobC]
theorem hLe : ∀ as', TyArgs Tryd.prog Tryd.f5.params.toList as' → ∃ p, FLe as' = some (p, mkB true) ∧ p := by
  intro as' h
  rw [Tryd.params5] at h
  obtain ⟨a, b, rfl, ha, hb⟩ := tyargs2 h
  obtain ⟨l, rfl, hl, hf⟩ := arg_stzs ha
  obtain ⟨s, rfl, hs⟩ := arg_str Tryd.underlying9 hb
  exact ⟨_, rfl, hs, l, rfl, hl, hf⟩
end Go.Proofs.YthbejheedpdioaaDoor
