import Derived.Test.YtepkbbkfcnejmaaDoorLeEvM
import Derived.Test.YtepkbbkfcnejmaaDoorLeTy
set_option linter.unusedSimpArgs false
set_option linter.unusedVariables false
namespace Go.Proofs.YtepkbbkfcnejmaaDoor
open Go Go.AM Go.RowKit
set_option maxRecDepth 10000
attribute [local irreducible] aUnr aUnS aCode
noncomputable abbrev GEv : List (FuncId × En) := [(8, .det FLv), (9, .new ENw), (10, .ref (frameE ESr)), (11, .ref (frameE EGi)), (12, .ref (frameE ELo)), (13, .ref (frameE EGe)), (14, .ref (frameE EOf))]
theorem gEv : GSound Tryd.prog GEv := gsound_det cLv (gsound_new cNw (gsound_ref (RSound.frame cSr) (gsound_ref (RSound.frame cGi) (gsound_ref (RSound.frame cLo) (gsound_ref (RSound.frame cGe) (gsound_ref (RSound.frame cOf) gsound_nil))))))
noncomputable def rEv_k0 (q : AV → Prop) : Kont := kBlk (0 : Nat) (kSeq (aCode KL GEv (cAt [1, 1, 1, 1, 1, 1, 1] Tryd.b3) (kRet KL (Array.toList (Func.results Tryd.f3)) q)) (kRet KL (Array.toList (Func.results Tryd.f3)) q))
theorem rEv (most : Int) (asl tim : List (List D)) (q : AV → Prop) :
  (aCode KL GEv Tryd.b3 (kRet KL Tryd.f3.results.toList q) ⟨[mkI .i64 most, .d (.sl asl), .d (.sl tim)] ++ List.replicate (Tryd.f3.ntmps - 3) .jk, []⟩) = (
  True ∧
  (((16 : Int) = (0 : Int)) → False) ∧ (
   ∃ (a : Int),
   ∃ (b : Int),
   ([mkI .i64 (IntKind.wrap .i64 ((1 : Int) + (IntKind.wrap .i64 (Int.tmod (IntKind.wrap .u64 most) (16 : Int))))), mkI .i64 50] = [mkI .i64 a, mkI .i64 b]) ∧ (
    ∀ (M : Int),
    ∀ (L : Int),
    (M = (lim16 a)) →
    (L = (lim1000 b)) →
    ∃ (l : FLs),
    ∃ (la : Int),
    ∃ (mo : Int),
    ∃ (le : Int),
    ∃ (u : ByteArray),
    ∃ (d : ByteArray),
    ∃ (c : Int),
    ([AV.rf 0 0, mkS ⟨#[98, 111, 98]⟩, mkS ⟨#[112, 97, 100]⟩, mkI .i64 99] = [AV.rf 0 0, mkS u, mkS d, mkI .i64 c]) ∧
    ([Ob.box [AV.mp (0 + 1), mkI .i64 0, mkI .i64 M, mkI .i64 L], Ob.bun (famR (FamD.mk (KK.int IntKind.i64) (Shp.box SK) [])), Ob.gh [AV.rf 0 0]] = [Ob.box [AV.mp 1, mkI .i64 la, mkI .i64 mo, mkI .i64 le], Ob.bun (famR (FamD.mk (KK.int IntKind.i64) (Shp.box SK) l)), Ob.gh [AV.rf 0 0]]) ∧
    (TbC l la mo) ∧ (
     ∀ (a_1 : Int),
     ∀ (g : Int),
     ∀ (e : Int),
     ∀ (l' : FLs),
     ∀ (la' : Int),
     (((((userB u) = true) ∧ (((userB d) = true) ∧ (((0 : Int) ≤ c) ∧ ((firstE (pOn c) l) = Option.none)))) ∧ ((e = (0 : Int)) ∧ ((a_1 = (la + (1 : Int))) ∧ ((la' = (la + (1 : Int))) ∧ (∃ (l1 : FLs), ∃ (b_1 : Nat), ∃ (r : Rec), (((((List.length (selE u l)) : Int) < mo) ∧ ((g = (0 : Int)) ∧ (l1 = l))) ∨ ((mo ≤ ((List.length (selE u l)) : Int)) ∧ (∃ (v : Ent3), ((victE u l) = (Option.some v)) ∧ ((g = ((Prod.snd (Prod.snd v)).i (0 : Nat))) ∧ (l1 = (delF (Key.i IntKind.i64 g) l)))))) ∧ ((∀ (e_1 : Prod Key (Prod Nat Rec)), (e_1 ∈ l1) → ((Prod.fst (Prod.snd e_1)) = b_1) → False) ∧ ((((r.i (0 : Nat)) = (la + (1 : Int))) ∧ (((r.s (1 : Nat)) = u) ∧ (((r.s (2 : Nat)) = d) ∧ (((r.s (3 : Nat)) = ⟨#[]⟩) ∧ (((r.i (4 : Nat)) = c) ∧ ((r.i (5 : Nat)) = (0 : Int))))))) ∧ (l' = (l1 ++ [(Key.i IntKind.i64 (la + (1 : Int)), (b_1, r))]))))))))) ∨ (((((userB u) = true) ∧ (((userB d) = true) ∧ (((0 : Int) ≤ c) ∧ ((firstE (pOn c) l) = Option.none)))) → False) ∧ (((e = (0 : Int)) → False) ∧ ((l' = l) ∧ (la' = la))))) →
     ((Option.some (Ob.gh [AV.rf 0 0])) = (Option.some (Ob.gh [AV.rf 0 0]))) ∧
     ALoop (aCode KL GEv (cAt [1, 1, 1, 1, 1, 1, 0, 1, 0, 0] Tryd.b3)) (rEv_k0 q) ⟨[mkI .i64 (IntKind.wrap .i64 ((1 : Int) + (IntKind.wrap .i64 (Int.tmod (IntKind.wrap .u64 most) (16 : Int))))), AV.d (.sl asl), AV.d (.sl tim), AV.jk, AV.jk, AV.jk, mkB false, AV.rf (0 + 1) 0, mkI .i64 a_1, mkI .i64 g, mkI .i64 e, mkI .i64 2, mkI .i64 0, mkI .i64 0] ++ (jks 10 ++ ([mkB true, mkB false, mkI .i64 most, mkI .u64 (IntKind.wrap .u64 most), mkI .u64 (Int.tmod (IntKind.wrap .u64 most) (16 : Int)), mkI .i64 (IntKind.wrap .i64 (Int.tmod (IntKind.wrap .u64 most) (16 : Int))), mkI .i64 (IntKind.wrap .i64 ((1 : Int) + (IntKind.wrap .i64 (Int.tmod (IntKind.wrap .u64 most) (16 : Int))))), mkI .i64 (IntKind.wrap .i64 ((1 : Int) + (IntKind.wrap .i64 (Int.tmod (IntKind.wrap .u64 most) (16 : Int))))), AV.rf (0 + 1) 0, AV.tp [mkI .i64 a_1, mkI .i64 g, mkI .i64 e], AV.rf (0 + 1) 0, AV.tp [mkI .i64 a_1, mkI .i64 g, mkI .i64 e], mkI .i64 a_1, mkI .i64 g, mkI .i64 e] ++ (jks 102))), [Ob.bun (famR (FamD.mk (KK.int IntKind.i64) (Shp.box SK) l')), Ob.box [AV.mp (if 1 < 2 then 0 else 3 + (1 - 2)), mkI .i64 la', mkI .i64 mo, mkI .i64 le], Ob.gone, Ob.gone]⟩)))) := by kernel_rfl
def tob (l : FLs) (la mo le : Int) : List Ob := [fob l, .box [.mp 0, mkI .i64 la, mkI .i64 mo, mkI .i64 le], .gone, .gone]
def stEv (Mx : Int) (asl tim : List (List D)) (mo ot want best i : Int) (l : FLs) (la : Int) : S := ⟨[mkI .i64 Mx, .d (.sl asl), .d (.sl tim), .jk, .jk, .jk, mkB false, .rf 1 0, mkI .i64 ot, .jk, .jk, mkI .i64 want, mkI .i64 best, mkI .i64 i] ++ jks 127, tob l la mo 50⟩
theorem rEv_b {ι : Type} (st : ι → S) (inv : ι → Prop) (μ : ι → Nat) (kk : ι) (Mx : Int) (asl tim : List (List D)) (mo ot want best i : Int) (l : FLs) (la : Int) (q : AV → Prop) :
  (aCode KL GEv (cAt [1, 1, 1, 1, 1, 1, 0, 1, 0, 0] Tryd.b3) (kFamM [] (maskOf (stEv Mx asl tim mo ot want best i l la)) st inv μ kk (rEv_k0 q)) (stEv Mx asl tim mo ot want best i l la)) = (
  bcase (decide (i < Mx)) (
   ∃ (l_1 : FLs),
   ∃ (la_1 : Int),
   ∃ (mo_1 : Int),
   ∃ (le : Int),
   ∃ (u : ByteArray),
   ∃ (d : ByteArray),
   ∃ (c : Int),
   ([AV.rf 0 0, mkS ⟨#[97, 110, 110]⟩, mkS ⟨#[112, 97, 100]⟩, mkI .i64 i] = [AV.rf 0 0, mkS u, mkS d, mkI .i64 c]) ∧
   ([Ob.box [AV.mp (0 + 1), mkI .i64 la, mkI .i64 mo, mkI .i64 50], Ob.bun (famR (FamD.mk (KK.int IntKind.i64) (Shp.box SK) l)), Ob.gh [AV.rf 0 0]] = [Ob.box [AV.mp 1, mkI .i64 la_1, mkI .i64 mo_1, mkI .i64 le], Ob.bun (famR (FamD.mk (KK.int IntKind.i64) (Shp.box SK) l_1)), Ob.gh [AV.rf 0 0]]) ∧
   (TbC l_1 la_1 mo_1) ∧ (
    ∀ (a : Int),
    ∀ (g : Int),
    ∀ (e : Int),
    ∀ (l' : FLs),
    ∀ (la' : Int),
    (((((userB u) = true) ∧ (((userB d) = true) ∧ (((0 : Int) ≤ c) ∧ ((firstE (pOn c) l_1) = Option.none)))) ∧ ((e = (0 : Int)) ∧ ((a = (la_1 + (1 : Int))) ∧ ((la' = (la_1 + (1 : Int))) ∧ (∃ (l1 : FLs), ∃ (b : Nat), ∃ (r : Rec), (((((List.length (selE u l_1)) : Int) < mo_1) ∧ ((g = (0 : Int)) ∧ (l1 = l_1))) ∨ ((mo_1 ≤ ((List.length (selE u l_1)) : Int)) ∧ (∃ (v : Ent3), ((victE u l_1) = (Option.some v)) ∧ ((g = ((Prod.snd (Prod.snd v)).i (0 : Nat))) ∧ (l1 = (delF (Key.i IntKind.i64 g) l_1)))))) ∧ ((∀ (e_1 : Prod Key (Prod Nat Rec)), (e_1 ∈ l1) → ((Prod.fst (Prod.snd e_1)) = b) → False) ∧ ((((r.i (0 : Nat)) = (la_1 + (1 : Int))) ∧ (((r.s (1 : Nat)) = u) ∧ (((r.s (2 : Nat)) = d) ∧ (((r.s (3 : Nat)) = ⟨#[]⟩) ∧ (((r.i (4 : Nat)) = c) ∧ ((r.i (5 : Nat)) = (0 : Int))))))) ∧ (l' = (l1 ++ [(Key.i IntKind.i64 (la_1 + (1 : Int)), (b, r))]))))))))) ∨ (((((userB u) = true) ∧ (((userB d) = true) ∧ (((0 : Int) ≤ c) ∧ ((firstE (pOn c) l_1) = Option.none)))) → False) ∧ (((e = (0 : Int)) → False) ∧ ((l' = l_1) ∧ (la' = la_1))))) →
    ((Option.some (Ob.gh [AV.rf 0 0])) = (Option.some (Ob.gh [AV.rf 0 0]))) ∧
    bcase (e != (0 : Int)) (
     q (mkB false)) (
     ([[D.v (.int IntKind.u8 (IntKind.wrap .u8 (IntKind.wrap .i64 ((97 : Int) + i))))]] = (bytesD (unB [[D.v (.int IntKind.u8 (IntKind.wrap .u8 (IntKind.wrap .i64 ((97 : Int) + i))))]]))) ∧
     (((ByteArray.size (⟨#[116]⟩ : ByteArray)) + (ByteArray.size (unB [[D.v (.int IntKind.u8 (IntKind.wrap .u8 (IntKind.wrap .i64 ((97 : Int) + i))))]]))) ≤ LIM) ∧ (
      ∃ (l_2 : FLs),
      ∃ (la_2 : Int),
      ∃ (mo_2 : Int),
      ∃ (le_1 : Int),
      ∃ (id : Int),
      ∃ (tok : ByteArray),
      ([AV.rf 0 0, mkI .i64 a, mkS ((⟨#[116]⟩ : ByteArray) ++ (unB [[D.v (.int IntKind.u8 (IntKind.wrap .u8 (IntKind.wrap .i64 ((97 : Int) + i))))]]))] = [AV.rf 0 0, mkI .i64 id, mkS tok]) ∧
      ([Ob.box [AV.mp (0 + 1), mkI .i64 la', mkI .i64 mo_1, mkI .i64 le], Ob.bun (famR (FamD.mk (KK.int IntKind.i64) (Shp.box SK) l')), Ob.gh [AV.rf 0 0]] = [Ob.box [AV.mp 1, mkI .i64 la_2, mkI .i64 mo_2, mkI .i64 le_1], Ob.bun (famR (FamD.mk (KK.int IntKind.i64) (Shp.box SK) l_2)), Ob.gh [AV.rf 0 0]]) ∧
      (TbC l_2 la_2 mo_2) ∧ (
       ∀ (e_1 : Int),
       ∀ (l'_1 : FLs),
       ((∃ (b : Nat), ∃ (r : Rec), (((Key.i IntKind.i64 id, (b, r)) ∈ l_2) ∧ (((r.s (3 : Nat)) = ⟨#[]⟩) ∧ ((((r.i (4 : Nat)) = (-(1 : Int))) → False) ∧ (((firstE (pWi tok) l_2) = Option.none) ∧ ((tok = ⟨#[]⟩) → False))))) ∧ ((e_1 = (0 : Int)) ∧ (l'_1 = (putM b (Rec.put r (3 : Nat) (mkS tok)) l_2)))) ∨ (((e_1 = (0 : Int)) → False) ∧ ((l'_1 = l_2) ∧ (∀ (b : Nat), ∀ (r : Rec), (((Key.i IntKind.i64 id, (b, r)) ∈ l_2) ∧ (((r.s (3 : Nat)) = ⟨#[]⟩) ∧ ((((r.i (4 : Nat)) = (-(1 : Int))) → False) ∧ (((firstE (pWi tok) l_2) = Option.none) ∧ ((tok = ⟨#[]⟩) → False))))) → False)))) →
       ((Option.some (Ob.gh [AV.rf 0 0])) = (Option.some (Ob.gh [AV.rf 0 0]))) ∧
       bcase (e_1 != (0 : Int)) (
        q (mkB false)) (
        ((List.length tim) ≤ LIM) →
        bcase (decide (i < ((List.length tim) : Int))) (
         (((0 : Int) ≤ i) ∧ (i < ((List.length tim) : Int))) ∧
         ((List.length (List.getD tim (Int.toNat i) [])) = 1) ∧
         ((1 : Nat) ≤ (List.length (List.getD tim (Int.toNat i) []))) ∧
         ((List.getD (List.getD tim (Int.toNat i) []) 0 d0) = (D.v (.int IntKind.i64 (intD (List.getD (List.getD tim (Int.toNat i) []) 0 d0))))) ∧
         (((1000 : Int) = (0 : Int)) → False) ∧ (
          ((List.length asl) ≤ LIM) →
          bcase (decide (i < ((List.length asl) : Int))) (
           (((0 : Int) ≤ i) ∧ (i < ((List.length asl) : Int))) ∧
           ((List.length (List.getD asl (Int.toNat i) [])) = 1) ∧
           ((1 : Nat) ≤ (List.length (List.getD asl (Int.toNat i) []))) ∧
           ((List.getD (List.getD asl (Int.toNat i) []) 0 d0) = (D.v (.bool (boolD (List.getD (List.getD asl (Int.toNat i) []) 0 d0))))) ∧
           bcase (boolD (List.getD (List.getD asl (Int.toNat i) []) 0 d0)) (
            ∃ (l_3 : FLs),
            ∃ (la_3 : Int),
            ∃ (mo_3 : Int),
            ∃ (le_2 : Int),
            ∃ (id_1 : Int),
            ∃ (now : Int),
            ([AV.rf 0 0, mkI .i64 a, mkI .i64 (IntKind.wrap .i64 (Int.tmod (IntKind.wrap .u64 (intD (List.getD (List.getD tim (Int.toNat i) []) 0 d0))) (1000 : Int)))] = [AV.rf 0 0, mkI .i64 id_1, mkI .i64 now]) ∧
            ([Ob.box [AV.mp (0 + 1), mkI .i64 la_2, mkI .i64 mo_2, mkI .i64 le_1], Ob.bun (famR (FamD.mk (KK.int IntKind.i64) (Shp.box SK) l'_1)), Ob.gh [AV.rf 0 0]] = [Ob.box [AV.mp 1, mkI .i64 la_3, mkI .i64 mo_3, mkI .i64 le_2], Ob.bun (famR (FamD.mk (KK.int IntKind.i64) (Shp.box SK) l_3)), Ob.gh [AV.rf 0 0]]) ∧
            (TbC l_3 la_3 mo_3) ∧
            (((0 : Int) ≤ le_2) ∧ (le_2 ≤ (1000 : Int))) ∧ (
             ∀ (z : Bool),
             ∀ (e_2 : Int),
             ∀ (l'_2 : FLs),
             ((∃ (b : Nat), ∃ (r : Rec), (((Key.i IntKind.i64 id_1, (b, r)) ∈ l_3) ∧ ((((r.i (4 : Nat)) = (-(1 : Int))) → False) ∧ (((0 : Int) ≤ now) ∧ (now ≤ (1099511627776 : Int))))) ∧ ((e_2 = (0 : Int)) ∧ ((((r.s (3 : Nat)) = ⟨#[]⟩) ∧ ((z = false) ∧ (l'_2 = (delF (Key.i IntKind.i64 id_1) l_3)))) ∨ ((((r.s (3 : Nat)) = ⟨#[]⟩) → False) ∧ ((z = true) ∧ (l'_2 = (putM b (Rec.put (Rec.put r (4 : Nat) (mkI .i64 (-(1 : Int)))) (5 : Nat) (mkI .i64 (now + le_2))) l_3))))))) ∨ (((e_2 = (0 : Int)) → False) ∧ ((l'_2 = l_3) ∧ (∀ (b : Nat), ∀ (r : Rec), (((Key.i IntKind.i64 id_1, (b, r)) ∈ l_3) ∧ ((((r.i (4 : Nat)) = (-(1 : Int))) → False) ∧ (((0 : Int) ≤ now) ∧ (now ≤ (1099511627776 : Int))))) → False)))) →
             ((Option.some (Ob.gh [AV.rf 0 0])) = (Option.some (Ob.gh [AV.rf 0 0]))) ∧
             bcase (best == (0 : Int)) (
              FamNext st inv μ kk ⟨[mkI .i64 Mx, AV.d (.sl asl), AV.d (.sl tim), AV.jk, AV.jk, AV.jk, mkB false, AV.rf 1 0, mkI .i64 ot, AV.jk, AV.jk, mkI .i64 a, mkI .i64 (IntKind.wrap .i64 ((IntKind.wrap .i64 (Int.tmod (IntKind.wrap .u64 (intD (List.getD (List.getD tim (Int.toNat i) []) 0 d0))) (1000 : Int))) + (1 : Int))), mkI .i64 (IntKind.wrap .i64 (i + (1 : Int)))] ++ (jks 127), [Ob.bun (famR (FamD.mk (KK.int IntKind.i64) (Shp.box SK) l'_2)), Ob.box [AV.mp (if 1 < 2 then 0 else 10 + (1 - 2)), mkI .i64 la_3, mkI .i64 mo_3, mkI .i64 le_2], Ob.gone, Ob.gone, Ob.gone, Ob.gone, Ob.row 1 [[D.v (.int IntKind.u8 (IntKind.wrap .u8 (IntKind.wrap .i64 ((97 : Int) + i))))]], Ob.gone, Ob.gone, Ob.gone, Ob.gone]⟩) (
              bcase (decide ((IntKind.wrap .i64 (Int.tmod (IntKind.wrap .u64 (intD (List.getD (List.getD tim (Int.toNat i) []) 0 d0))) (1000 : Int))) < (IntKind.wrap .i64 (best - (1 : Int))))) (
               FamNext st inv μ kk ⟨[mkI .i64 Mx, AV.d (.sl asl), AV.d (.sl tim), AV.jk, AV.jk, AV.jk, mkB false, AV.rf 1 0, mkI .i64 ot, AV.jk, AV.jk, mkI .i64 a, mkI .i64 (IntKind.wrap .i64 ((IntKind.wrap .i64 (Int.tmod (IntKind.wrap .u64 (intD (List.getD (List.getD tim (Int.toNat i) []) 0 d0))) (1000 : Int))) + (1 : Int))), mkI .i64 (IntKind.wrap .i64 (i + (1 : Int)))] ++ (jks 127), [Ob.bun (famR (FamD.mk (KK.int IntKind.i64) (Shp.box SK) l'_2)), Ob.box [AV.mp (if 1 < 2 then 0 else 10 + (1 - 2)), mkI .i64 la_3, mkI .i64 mo_3, mkI .i64 le_2], Ob.gone, Ob.gone, Ob.gone, Ob.gone, Ob.row 1 [[D.v (.int IntKind.u8 (IntKind.wrap .u8 (IntKind.wrap .i64 ((97 : Int) + i))))]], Ob.gone, Ob.gone, Ob.gone, Ob.gone]⟩) (
               FamNext st inv μ kk ⟨[mkI .i64 Mx, AV.d (.sl asl), AV.d (.sl tim), AV.jk, AV.jk, AV.jk, mkB false, AV.rf 1 0, mkI .i64 ot, AV.jk, AV.jk, mkI .i64 want, mkI .i64 best, mkI .i64 (IntKind.wrap .i64 (i + (1 : Int)))] ++ (jks 127), [Ob.bun (famR (FamD.mk (KK.int IntKind.i64) (Shp.box SK) l'_2)), Ob.box [AV.mp (if 1 < 2 then 0 else 10 + (1 - 2)), mkI .i64 la_3, mkI .i64 mo_3, mkI .i64 le_2], Ob.gone, Ob.gone, Ob.gone, Ob.gone, Ob.row 1 [[D.v (.int IntKind.u8 (IntKind.wrap .u8 (IntKind.wrap .i64 ((97 : Int) + i))))]], Ob.gone, Ob.gone, Ob.gone, Ob.gone]⟩)))) (
            FamNext st inv μ kk ⟨[mkI .i64 Mx, AV.d (.sl asl), AV.d (.sl tim), AV.jk, AV.jk, AV.jk, mkB false, AV.rf 1 0, mkI .i64 ot, AV.jk, AV.jk, mkI .i64 want, mkI .i64 best, mkI .i64 (IntKind.wrap .i64 (i + (1 : Int)))] ++ (jks 127), [Ob.bun (famR (FamD.mk (KK.int IntKind.i64) (Shp.box SK) l'_1)), Ob.box [AV.mp (if 1 < 2 then 0 else 8 + (1 - 2)), mkI .i64 la_2, mkI .i64 mo_2, mkI .i64 le_1], Ob.gone, Ob.gone, Ob.gone, Ob.gone, Ob.row 1 [[D.v (.int IntKind.u8 (IntKind.wrap .u8 (IntKind.wrap .i64 ((97 : Int) + i))))]], Ob.gone, Ob.gone]⟩)) (
           FamNext st inv μ kk ⟨[mkI .i64 Mx, AV.d (.sl asl), AV.d (.sl tim), AV.jk, AV.jk, AV.jk, mkB false, AV.rf 1 0, mkI .i64 ot, AV.jk, AV.jk, mkI .i64 want, mkI .i64 best, mkI .i64 (IntKind.wrap .i64 (i + (1 : Int)))] ++ (jks 127), [Ob.bun (famR (FamD.mk (KK.int IntKind.i64) (Shp.box SK) l'_1)), Ob.box [AV.mp (if 1 < 2 then 0 else 8 + (1 - 2)), mkI .i64 la_2, mkI .i64 mo_2, mkI .i64 le_1], Ob.gone, Ob.gone, Ob.gone, Ob.gone, Ob.row 1 [[D.v (.int IntKind.u8 (IntKind.wrap .u8 (IntKind.wrap .i64 ((97 : Int) + i))))]], Ob.gone, Ob.gone]⟩))) (
         ((List.length asl) ≤ LIM) →
         bcase (decide (i < ((List.length asl) : Int))) (
          (((0 : Int) ≤ i) ∧ (i < ((List.length asl) : Int))) ∧
          ((List.length (List.getD asl (Int.toNat i) [])) = 1) ∧
          ((1 : Nat) ≤ (List.length (List.getD asl (Int.toNat i) []))) ∧
          ((List.getD (List.getD asl (Int.toNat i) []) 0 d0) = (D.v (.bool (boolD (List.getD (List.getD asl (Int.toNat i) []) 0 d0))))) ∧
          bcase (boolD (List.getD (List.getD asl (Int.toNat i) []) 0 d0)) (
           ∃ (l_3 : FLs),
           ∃ (la_3 : Int),
           ∃ (mo_3 : Int),
           ∃ (le_2 : Int),
           ∃ (id_1 : Int),
           ∃ (now : Int),
           ([AV.rf 0 0, mkI .i64 a, mkI .i64 0] = [AV.rf 0 0, mkI .i64 id_1, mkI .i64 now]) ∧
           ([Ob.box [AV.mp (0 + 1), mkI .i64 la_2, mkI .i64 mo_2, mkI .i64 le_1], Ob.bun (famR (FamD.mk (KK.int IntKind.i64) (Shp.box SK) l'_1)), Ob.gh [AV.rf 0 0]] = [Ob.box [AV.mp 1, mkI .i64 la_3, mkI .i64 mo_3, mkI .i64 le_2], Ob.bun (famR (FamD.mk (KK.int IntKind.i64) (Shp.box SK) l_3)), Ob.gh [AV.rf 0 0]]) ∧
           (TbC l_3 la_3 mo_3) ∧
           (((0 : Int) ≤ le_2) ∧ (le_2 ≤ (1000 : Int))) ∧ (
            ∀ (z : Bool),
            ∀ (e_2 : Int),
            ∀ (l'_2 : FLs),
            ((∃ (b : Nat), ∃ (r : Rec), (((Key.i IntKind.i64 id_1, (b, r)) ∈ l_3) ∧ ((((r.i (4 : Nat)) = (-(1 : Int))) → False) ∧ (((0 : Int) ≤ now) ∧ (now ≤ (1099511627776 : Int))))) ∧ ((e_2 = (0 : Int)) ∧ ((((r.s (3 : Nat)) = ⟨#[]⟩) ∧ ((z = false) ∧ (l'_2 = (delF (Key.i IntKind.i64 id_1) l_3)))) ∨ ((((r.s (3 : Nat)) = ⟨#[]⟩) → False) ∧ ((z = true) ∧ (l'_2 = (putM b (Rec.put (Rec.put r (4 : Nat) (mkI .i64 (-(1 : Int)))) (5 : Nat) (mkI .i64 (now + le_2))) l_3))))))) ∨ (((e_2 = (0 : Int)) → False) ∧ ((l'_2 = l_3) ∧ (∀ (b : Nat), ∀ (r : Rec), (((Key.i IntKind.i64 id_1, (b, r)) ∈ l_3) ∧ ((((r.i (4 : Nat)) = (-(1 : Int))) → False) ∧ (((0 : Int) ≤ now) ∧ (now ≤ (1099511627776 : Int))))) → False)))) →
            ((Option.some (Ob.gh [AV.rf 0 0])) = (Option.some (Ob.gh [AV.rf 0 0]))) ∧
            bcase (best == (0 : Int)) (
             FamNext st inv μ kk ⟨[mkI .i64 Mx, AV.d (.sl asl), AV.d (.sl tim), AV.jk, AV.jk, AV.jk, mkB false, AV.rf 1 0, mkI .i64 ot, AV.jk, AV.jk, mkI .i64 a, mkI .i64 (IntKind.wrap .i64 ((0 : Int) + (1 : Int))), mkI .i64 (IntKind.wrap .i64 (i + (1 : Int)))] ++ (jks 127), [Ob.bun (famR (FamD.mk (KK.int IntKind.i64) (Shp.box SK) l'_2)), Ob.box [AV.mp (if 1 < 2 then 0 else 10 + (1 - 2)), mkI .i64 la_3, mkI .i64 mo_3, mkI .i64 le_2], Ob.gone, Ob.gone, Ob.gone, Ob.gone, Ob.row 1 [[D.v (.int IntKind.u8 (IntKind.wrap .u8 (IntKind.wrap .i64 ((97 : Int) + i))))]], Ob.gone, Ob.gone, Ob.gone, Ob.gone]⟩) (
             bcase (decide ((0 : Int) < (IntKind.wrap .i64 (best - (1 : Int))))) (
              FamNext st inv μ kk ⟨[mkI .i64 Mx, AV.d (.sl asl), AV.d (.sl tim), AV.jk, AV.jk, AV.jk, mkB false, AV.rf 1 0, mkI .i64 ot, AV.jk, AV.jk, mkI .i64 a, mkI .i64 (IntKind.wrap .i64 ((0 : Int) + (1 : Int))), mkI .i64 (IntKind.wrap .i64 (i + (1 : Int)))] ++ (jks 127), [Ob.bun (famR (FamD.mk (KK.int IntKind.i64) (Shp.box SK) l'_2)), Ob.box [AV.mp (if 1 < 2 then 0 else 10 + (1 - 2)), mkI .i64 la_3, mkI .i64 mo_3, mkI .i64 le_2], Ob.gone, Ob.gone, Ob.gone, Ob.gone, Ob.row 1 [[D.v (.int IntKind.u8 (IntKind.wrap .u8 (IntKind.wrap .i64 ((97 : Int) + i))))]], Ob.gone, Ob.gone, Ob.gone, Ob.gone]⟩) (
              FamNext st inv μ kk ⟨[mkI .i64 Mx, AV.d (.sl asl), AV.d (.sl tim), AV.jk, AV.jk, AV.jk, mkB false, AV.rf 1 0, mkI .i64 ot, AV.jk, AV.jk, mkI .i64 want, mkI .i64 best, mkI .i64 (IntKind.wrap .i64 (i + (1 : Int)))] ++ (jks 127), [Ob.bun (famR (FamD.mk (KK.int IntKind.i64) (Shp.box SK) l'_2)), Ob.box [AV.mp (if 1 < 2 then 0 else 10 + (1 - 2)), mkI .i64 la_3, mkI .i64 mo_3, mkI .i64 le_2], Ob.gone, Ob.gone, Ob.gone, Ob.gone, Ob.row 1 [[D.v (.int IntKind.u8 (IntKind.wrap .u8 (IntKind.wrap .i64 ((97 : Int) + i))))]], Ob.gone, Ob.gone, Ob.gone, Ob.gone]⟩)))) (
           FamNext st inv μ kk ⟨[mkI .i64 Mx, AV.d (.sl asl), AV.d (.sl tim), AV.jk, AV.jk, AV.jk, mkB false, AV.rf 1 0, mkI .i64 ot, AV.jk, AV.jk, mkI .i64 want, mkI .i64 best, mkI .i64 (IntKind.wrap .i64 (i + (1 : Int)))] ++ (jks 127), [Ob.bun (famR (FamD.mk (KK.int IntKind.i64) (Shp.box SK) l'_1)), Ob.box [AV.mp (if 1 < 2 then 0 else 8 + (1 - 2)), mkI .i64 la_2, mkI .i64 mo_2, mkI .i64 le_1], Ob.gone, Ob.gone, Ob.gone, Ob.gone, Ob.row 1 [[D.v (.int IntKind.u8 (IntKind.wrap .u8 (IntKind.wrap .i64 ((97 : Int) + i))))]], Ob.gone, Ob.gone]⟩)) (
          FamNext st inv μ kk ⟨[mkI .i64 Mx, AV.d (.sl asl), AV.d (.sl tim), AV.jk, AV.jk, AV.jk, mkB false, AV.rf 1 0, mkI .i64 ot, AV.jk, AV.jk, mkI .i64 want, mkI .i64 best, mkI .i64 (IntKind.wrap .i64 (i + (1 : Int)))] ++ (jks 127), [Ob.bun (famR (FamD.mk (KK.int IntKind.i64) (Shp.box SK) l'_1)), Ob.box [AV.mp (if 1 < 2 then 0 else 8 + (1 - 2)), mkI .i64 la_2, mkI .i64 mo_2, mkI .i64 le_1], Ob.gone, Ob.gone, Ob.gone, Ob.gone, Ob.row 1 [[D.v (.int IntKind.u8 (IntKind.wrap .u8 (IntKind.wrap .i64 ((97 : Int) + i))))]], Ob.gone, Ob.gone]⟩)))))))) (
   ∃ (l_1 : FLs),
   ∃ (la_1 : Int),
   ∃ (mo_1 : Int),
   ∃ (le : Int),
   ∃ (u : ByteArray),
   ∃ (d : ByteArray),
   ∃ (c : Int),
   ([AV.rf 0 0, mkS ⟨#[97, 110, 110]⟩, mkS ⟨#[112, 104, 111, 110, 101]⟩, mkI .i64 50] = [AV.rf 0 0, mkS u, mkS d, mkI .i64 c]) ∧
   ([Ob.box [AV.mp (0 + 1), mkI .i64 la, mkI .i64 mo, mkI .i64 50], Ob.bun (famR (FamD.mk (KK.int IntKind.i64) (Shp.box SK) l)), Ob.gh [AV.rf 0 0]] = [Ob.box [AV.mp 1, mkI .i64 la_1, mkI .i64 mo_1, mkI .i64 le], Ob.bun (famR (FamD.mk (KK.int IntKind.i64) (Shp.box SK) l_1)), Ob.gh [AV.rf 0 0]]) ∧
   (TbC l_1 la_1 mo_1) ∧ (
    ∀ (a : Int),
    ∀ (g : Int),
    ∀ (e : Int),
    ∀ (l' : FLs),
    ∀ (la' : Int),
    (((((userB u) = true) ∧ (((userB d) = true) ∧ (((0 : Int) ≤ c) ∧ ((firstE (pOn c) l_1) = Option.none)))) ∧ ((e = (0 : Int)) ∧ ((a = (la_1 + (1 : Int))) ∧ ((la' = (la_1 + (1 : Int))) ∧ (∃ (l1 : FLs), ∃ (b : Nat), ∃ (r : Rec), (((((List.length (selE u l_1)) : Int) < mo_1) ∧ ((g = (0 : Int)) ∧ (l1 = l_1))) ∨ ((mo_1 ≤ ((List.length (selE u l_1)) : Int)) ∧ (∃ (v : Ent3), ((victE u l_1) = (Option.some v)) ∧ ((g = ((Prod.snd (Prod.snd v)).i (0 : Nat))) ∧ (l1 = (delF (Key.i IntKind.i64 g) l_1)))))) ∧ ((∀ (e_1 : Prod Key (Prod Nat Rec)), (e_1 ∈ l1) → ((Prod.fst (Prod.snd e_1)) = b) → False) ∧ ((((r.i (0 : Nat)) = (la_1 + (1 : Int))) ∧ (((r.s (1 : Nat)) = u) ∧ (((r.s (2 : Nat)) = d) ∧ (((r.s (3 : Nat)) = ⟨#[]⟩) ∧ (((r.i (4 : Nat)) = c) ∧ ((r.i (5 : Nat)) = (0 : Int))))))) ∧ (l' = (l1 ++ [(Key.i IntKind.i64 (la_1 + (1 : Int)), (b, r))]))))))))) ∨ (((((userB u) = true) ∧ (((userB d) = true) ∧ (((0 : Int) ≤ c) ∧ ((firstE (pOn c) l_1) = Option.none)))) → False) ∧ (((e = (0 : Int)) → False) ∧ ((l' = l_1) ∧ (la' = la_1))))) →
    ((Option.some (Ob.gh [AV.rf 0 0])) = (Option.some (Ob.gh [AV.rf 0 0]))) ∧ (
     ∃ (l_2 : FLs),
     ∃ (la_2 : Int),
     ∃ (mo_2 : Int),
     ∃ (le_1 : Int),
     ∃ (id : Int),
     ([AV.rf 0 0, mkI .i64 ot] = [AV.rf 0 0, mkI .i64 id]) ∧
     ([Ob.box [AV.mp (0 + 1), mkI .i64 la', mkI .i64 mo_1, mkI .i64 le], Ob.bun (famR (FamD.mk (KK.int IntKind.i64) (Shp.box SK) l')), Ob.gh [AV.rf 0 0]] = [Ob.box [AV.mp 1, mkI .i64 la_2, mkI .i64 mo_2, mkI .i64 le_1], Ob.bun (famR (FamD.mk (KK.int IntKind.i64) (Shp.box SK) l_2)), Ob.gh [AV.rf 0 0]]) ∧
     (TbC l_2 la_2 mo_2) ∧
     (∀ (b : Nat), ∀ (r : Rec), ((Key.i IntKind.i64 id, (b, r)) ∈ l_2) → ((Option.some (Ob.gh [AV.rf 0 0])) = (Option.some (Ob.gh [AV.rf 0 0]))) ∧ (∃ (l_3 : FLs), ∃ (la_3 : Int), ∃ (mo_3 : Int), ∃ (le_2 : Int), ∃ (c_1 : ByteArray), ([AV.rf 0 0, mkS ⟨#[97, 110, 110]⟩] = [AV.rf 0 0, mkS c_1]) ∧ (([Ob.box [AV.mp (0 + 1), mkI .i64 la_2, mkI .i64 mo_2, mkI .i64 le_1], Ob.bun (famR (FamD.mk (KK.int IntKind.i64) (Shp.box SK) l_2)), Ob.gh [AV.rf 0 0]] = [Ob.box [AV.mp 1, mkI .i64 la_3, mkI .i64 mo_3, mkI .i64 le_2], Ob.bun (famR (FamD.mk (KK.int IntKind.i64) (Shp.box SK) l_3)), Ob.gh [AV.rf 0 0]]) ∧ ((TabOk l_3) ∧ (∀ (ids : List (List D)), (ids = (idsL (pOf c_1) l_3)) → ((Option.some (Ob.gh [AV.rf 0 0])) = (Option.some (Ob.gh [AV.rf 0 0]))) ∧ (bcase (e == (0 : Int)) (bcase (g == want) (bcase (((List.length ids) : Int) == Mx) ((((0 : Int) ≤ (IntKind.wrap .i64 (((List.length ids) : Int) - (1 : Int)))) ∧ ((IntKind.wrap .i64 (((List.length ids) : Int) - (1 : Int))) < ((List.length ids) : Int))) ∧ (((Int.toNat (IntKind.wrap .i64 (((List.length ids) : Int) - (1 : Int)))) < (List.length ids)) ∧ (((0 : Nat) ≤ (List.length (List.getD ids (Int.toNat (IntKind.wrap .i64 (((List.length ids) : Int) - (1 : Int)))) []))) ∧ (((1 : Nat) ≤ (List.length (List.drop 0 (List.getD ids (Int.toNat (IntKind.wrap .i64 (((List.length ids) : Int) - (1 : Int)))) [])))) ∧ (((List.getD (List.drop 0 (List.getD ids (Int.toNat (IntKind.wrap .i64 (((List.length ids) : Int) - (1 : Int)))) [])) 0 d0) = (D.v (.int IntKind.i64 (intD (List.getD (List.drop 0 (List.getD ids (Int.toNat (IntKind.wrap .i64 (((List.length ids) : Int) - (1 : Int)))) [])) 0 d0))))) ∧ (q (mkB ((intD (List.getD (List.drop 0 (List.getD ids (Int.toNat (IntKind.wrap .i64 (((List.length ids) : Int) - (1 : Int)))) [])) 0 d0)) == a)))))))) (q (mkB false))) (q (mkB false))) (q (mkB false)))))))) ∧ (
      (∀ (e_1 : Prod Key (Prod Nat Rec)), (e_1 ∈ l_2) → ((Prod.fst e_1) = (Key.i IntKind.i64 id)) → False) →
      ((Option.some (Ob.gh [AV.rf 0 0])) = (Option.some (Ob.gh [AV.rf 0 0]))) ∧ (
       ∃ (l_3 : FLs),
       ∃ (la_3 : Int),
       ∃ (mo_3 : Int),
       ∃ (le_2 : Int),
       ∃ (c_1 : ByteArray),
       ([AV.rf 0 0, mkS ⟨#[97, 110, 110]⟩] = [AV.rf 0 0, mkS c_1]) ∧
       ([Ob.box [AV.mp (0 + 1), mkI .i64 la_2, mkI .i64 mo_2, mkI .i64 le_1], Ob.bun (famR (FamD.mk (KK.int IntKind.i64) (Shp.box SK) l_2)), Ob.gh [AV.rf 0 0]] = [Ob.box [AV.mp 1, mkI .i64 la_3, mkI .i64 mo_3, mkI .i64 le_2], Ob.bun (famR (FamD.mk (KK.int IntKind.i64) (Shp.box SK) l_3)), Ob.gh [AV.rf 0 0]]) ∧
       (TabOk l_3) ∧ (
        ∀ (ids : List (List D)),
        (ids = (idsL (pOf c_1) l_3)) →
        ((Option.some (Ob.gh [AV.rf 0 0])) = (Option.some (Ob.gh [AV.rf 0 0]))) ∧
        bcase (e == (0 : Int)) (
         bcase (g == want) (
          q (mkB false)) (
          q (mkB false))) (
         q (mkB false))))))))) := by kernel_rfl
theorem iN (n : Int) : intD (List.getD [D.v (.int .i64 n)] 0 d0) = n := rfl
theorem bN (b : Bool) : boolD (List.getD [D.v (.bool b)] 0 d0) = b := rfl
theorem tok_raw : ∀ {i : Nat}, i < 16 → [[D.v (.int .u8 (IntKind.wrap .u8 (IntKind.wrap .i64 (97 + (i : Int)))))]] = bytesD (unB [[D.v (.int .u8 (IntKind.wrap .u8 (IntKind.wrap .i64 (97 + (i : Int)))))]])
  | 0, _ => by kernel_rfl
  | 1, _ => by kernel_rfl
  | 2, _ => by kernel_rfl
  | 3, _ => by kernel_rfl
  | 4, _ => by kernel_rfl
  | 5, _ => by kernel_rfl
  | 6, _ => by kernel_rfl
  | 7, _ => by kernel_rfl
  | 8, _ => by kernel_rfl
  | 9, _ => by kernel_rfl
  | 10, _ => by kernel_rfl
  | 11, _ => by kernel_rfl
  | 12, _ => by kernel_rfl
  | 13, _ => by kernel_rfl
  | 14, _ => by kernel_rfl
  | 15, _ => by kernel_rfl
  | n + 16, h => absurd h (by omega)
theorem ev_start {i : Nat} {Mx want best la a g e la' : Int} {l l' : FLs} {d : ByteArray} {c : Int} (h : EvI i want best l la) (hd : userB d = true) (hc0 : 0 ≤ c) (hc1 : c ≠ 99) (hc2 : (i : Int) ≤ c) (hs : StR Mx annB d c l la a g e l' la') :
    e = 0 ∧ a = la + 1 ∧ la' = la + 1 ∧ ∃ l1 b r, StVi Mx annB l g l1 ∧ newF b l1 ∧ (r.i 0 = la + 1 ∧ r.s 1 = annB ∧ r.s 2 = d ∧ r.s 3 = ⟨#[]⟩ ∧ r.i 4 = c ∧ r.i 5 = 0) ∧ l' = l1 ++ [(kI (la + 1), b, r)] := by
  rcases hs with ⟨_, rfl, rfl, rfl, hx⟩ | ⟨hn, _⟩
  · exact ⟨rfl, rfl, rfl, hx⟩
  · exact (hn ⟨uann, hd, hc0, h.free hc1 hc2⟩).elim
theorem ev_no {i : Nat} {Mx want best la g : Int} {l l1 : FLs} (h : EvI i want best l la) (hi : (i : Int) < Mx) (hs : StVi Mx annB l g l1) : l1 = l := by
  obtain ⟨m, hm, hl, _⟩ := h.sel
  rcases hs with ⟨_, _, h⟩ | ⟨h, _⟩
  · exact h
  · rw [hm, hl] at h; omega
theorem ev_give {i : Nat} {want best la e : Int} {l l' : FLs} {b : Nat} {r : Rec} (h : EvI i want best l la) (hi : i < 16) (hb : newF b l) (hr : r.s 3 = ⟨#[]⟩) (h4 : r.i 4 = (i : Int)) (hs : GvR (la + 1) (tokE (i : Int)) (l ++ [(kI (la + 1), b, r)]) e l') (h0 : r.i 0 = la + 1) :
    e = 0 ∧ l' = l ++ [(kI (la + 1), b, r.put 3 (mkS (tokE (i : Int))))] := by
  have hla := h.la
  have hT : Tab (l ++ [(kI (la + 1), b, r)]) (la + 1) := h.tab.add (by omega) hb h0
  rcases hs with ⟨b', r', ⟨hm, _⟩, rfl, rfl⟩ | ⟨_, _, hn⟩
  · have := hT.uni mem_last _ hm rfl
    cases this
    exact ⟨rfl, put_last hb⟩
  · exact absurd ⟨mem_last, hr, by rw [h4]; omega, h.untok hi hr, tok_ne (by omega)⟩ (hn b r)
theorem ev_lose {la now e : Int} {z : Bool} {l l' : FLs} {b : Nat} {r : Rec} (hT : Tab (l ++ [(kI (la + 1), b, r)]) (la + 1)) (hb : newF b l) (hr : r.s 3 ≠ ⟨#[]⟩) (h4 : r.i 4 ≠ -1) (hn : 0 ≤ now ∧ now < 1000) (hs : LoR 50 (la + 1) now (l ++ [(kI (la + 1), b, r)]) z e l') :
    l' = l ++ [(kI (la + 1), b, (r.put 4 (mkI .i64 (-1))).put 5 (mkI .i64 (now + 50)))] := by
  rcases hs with ⟨b', r', ⟨hm, _⟩, rfl, ⟨h, _⟩ | ⟨_, rfl, rfl⟩⟩ | ⟨_, _, hn'⟩
  · have := hT.uni mem_last _ hm rfl
    cases this
    exact absurd h hr
  · have := hT.uni mem_last _ hm rfl
    cases this
    exact put_last hb
  · exact absurd ⟨mem_last, h4, hn.1, by omega⟩ (hn' b r)
def FEv : List AV → Option (Prop × AV) := fun al => match al with
  | [.d (.v (.int .i64 most)), .d (.sl asl), .d (.sl tim)] => some ((∀ c ∈ asl, ∃ b : Bool, c = [.v (.bool b)]) ∧ ∀ c ∈ tim, ∃ n : Int, c = [.v (.int .i64 n)], mkB true)
  | _ => none
structure EvX where
  i : Nat
  want : Int
  best : Int
  l : FLs
  la : Int
theorem cEv : PSound Tryd.prog 3 (detE FEv) := by
  refine det_fn (c := Tryd.b3) mixed KL_ok gEv Tryd.func3 rfl rfl Tryd.call3 fun al p r q hF hp hq => ?_
  unfold FEv at hF; split at hF <;> cases hF
  rename_i most asl tim
  obtain ⟨hasl, htim⟩ := hp
  refine cast (rEv most asl tim q).symm ?_
  have hX := mod_lt most 16 (by omega) (by omega)
  generalize IntKind.wrap .i64 (Int.tmod (IntKind.wrap .u64 most) 16) = X at *
  have hMx : IntKind.wrap .i64 (1 + X) = 1 + X := IntWalk.i64_in _ (by omega)
  generalize IntKind.wrap .i64 (1 + X) = Mx at *
  refine ⟨trivial, by decide, _, _, rfl, fun M L hM hL => ?_⟩
  have hL : L = 50 := hL
  have hM : M = Mx := by rw [hM]; unfold lim16; repeat' split
                         all_goals omega
  subst hL hM
  refine ⟨[], 0, M, 50, bobB, padB, 99, rfl, rfl, ⟨Tab.nil, by omega, by omega, by omega⟩, fun a g e l' la' hs => ⟨rfl, ?_⟩⟩
  have hs : StR M bobB padB 99 [] 0 a g e l' la' := hs
  obtain ⟨rfl, rfl, rfl, hI⟩ : e = 0 ∧ a = 0 + 1 ∧ la' = 0 + 1 ∧ EvI 0 2 0 l' (0 + 1) := by
    rcases hs with ⟨_, rfl, rfl, rfl, l1, b, r, hv, hb, ⟨h0, h1, _, h3, h4, _⟩, rfl⟩ | ⟨h, _⟩
    · refine ⟨rfl, rfl, rfl, ?_⟩
      rcases hv with ⟨_, _, rfl⟩ | ⟨h, _⟩
      · exact EvI.start h0 h1 h3 h4
      · simp [selE] at h; omega
    · exact absurd ⟨ubob, upad, by decide, rfl⟩ h
  refine ALoop.introM [] (maskOf (stEv M asl tim M 1 2 0 0 l' 1)) (fun x : EvX => stEv M asl tim M 1 x.want x.best x.i x.l x.la) (fun x => EvI x.i x.want x.best x.l x.la ∧ (x.i : Int) ≤ M) (fun x => M.toNat - x.i) ⟨[], ⟨0, 2, 0, l', 0 + 1⟩, by simp [S.le, sealAll, leL, leA, leO, jks, stEv, tob, mkI, mkS, mkB, S.fits, fitsL, AV.fits, Ob.fits, fob], hI, by show (0 : Int) ≤ M; omega⟩ fun ⟨i, want, best, l, la⟩ ⟨hI, hiM⟩ => ?_
  clear hs
  have hI : EvI i want best l la := hI
  have hiM : (i : Int) ≤ M := hiM
  have hla := hI.la
  refine cast (rEv_b _ _ _ (EvX.mk i want best l la) M asl tim M 1 want best i l la q).symm (bcase_dec (fun hlt => ?_) (fun hge => ?_))
  · refine ⟨l, la, M, 50, annB, padB, i, rfl, rfl, ⟨hI.tab, by omega, by omega, by omega⟩, fun a g e l' la' hs => ⟨rfl, ?_⟩⟩
    have hs : StR M annB padB i l la a g e l' la' := hs
    obtain ⟨rfl, rfl, rfl, l1, b, r, hv, hb, ⟨h0, h1, h2, h3, h4, h5⟩, rfl⟩ := ev_start hI upad (by omega) (by omega) (by omega) hs
    obtain rfl := ev_no hI hlt hv
    have hT : Tab (l1 ++ [(kI (la + 1), b, r)]) (la + 1) := hI.tab.add (by omega) hb h0
    clear hs hv
    refine bcaseF (by decide) ⟨tok_raw (by omega), ?_, l1 ++ [(kI (la + 1), b, r)], la + 1, M, 50, la + 1, tokE i, rfl, rfl, ⟨hT, by omega, by omega, by omega⟩, fun e1 l2 hs => ⟨rfl, ?_⟩⟩
    · show _ + 1 ≤ LIM
      unfold LIM
      have : ByteArray.size (⟨#[116]⟩ : ByteArray) = 1 := by decide
      omega
    have hs : GvR (la + 1) (tokE i) (l1 ++ [(kI (la + 1), b, r)]) e1 l2 := hs
    obtain ⟨rfl, rfl⟩ := ev_give hI (by omega) hb h3 h4 hs h0
    clear hs hT
    have w1 : IntKind.wrap .i64 ((i : Int) + 1) = (i + 1 : Nat) := by rw [IntWalk.i64_in _ (by omega)]; omega
    rw [w1]
    have g0 : (r.put 3 (mkS (tokE (i : Int)))).i 0 = la + 1 := h0
    have g1 : (r.put 3 (mkS (tokE (i : Int)))).s 1 = annB := h1
    have g3 : (r.put 3 (mkS (tokE (i : Int)))).s 3 = tokE (i : Int) := rfl
    have g4 : (r.put 3 (mkS (tokE (i : Int)))).i 4 = (i : Int) := h4
    generalize r.put 3 (mkS (tokE (i : Int))) = r1 at *
    have hT1 : Tab (l1 ++ [(kI (la + 1), b, r1)]) (la + 1) := hI.tab.add (by omega) hb g0
    have awake : EvI (i + 1) want best (l1 ++ [(kI (la + 1), b, r1)]) (la + 1) := hI.step hb g0 g1 g3 (.inl ⟨g4, rfl, rfl⟩)
    have mu : M.toNat - (i + 1) < M.toNat - i := by omega
    have slept : ∀ at_ : Int, 0 ≤ at_ ∧ at_ < 1000 → ∀ z e2 l3, LoR 50 (la + 1) at_ (l1 ++ [(kI (la + 1), b, r1)]) z e2 l3 → ((best = 0 ∨ at_ < best - 1) → EvI (i + 1) (la + 1) (at_ + 1) l3 (la + 1)) ∧ ((best ≠ 0 ∧ ¬ at_ < best - 1) → EvI (i + 1) want best l3 (la + 1)) := by
      intro at_ hat z e2 l3 hs
      have := ev_lose hT1 hb (by rw [g3]; exact tok_ne (by omega)) (by rw [g4]; omega) hat hs
      subst this
      have k5 : ((r1.put 4 (mkI .i64 (-1))).put 5 (mkI .i64 (at_ + 50))).i 5 = at_ + 50 := rfl
      refine ⟨fun h => hI.step hb g0 g1 g3 (.inr ⟨rfl, ?_, ?_, .inl ⟨?_, rfl, ?_⟩⟩), fun h => hI.step hb g0 g1 g3 (.inr ⟨rfl, ?_, ?_, .inr ⟨⟨h.1, ?_⟩, rfl, rfl⟩⟩)⟩
      all_goals rw [k5]
      all_goals omega
    have hbest : best = 0 ∨ 1 ≤ best ∧ best ≤ 1000 := by
      obtain ⟨m, hm, hml, hW, hE⟩ := hI.sel
      cases hsl : slpE m with
      | nil => exact .inl (hW.no hsl).1
      | cons y m' =>
        obtain ⟨k1, _, k3⟩ := hW.yes y m' hsl
        have hmm : minG y m' ∈ slpE m := by rw [hsl]; exact minG_mem m' y
        obtain ⟨hmm, hsp⟩ := List.mem_filter.1 hmm
        obtain ⟨j, hj, ej⟩ := List.getElem_of_mem hmm
        have hEj := hE j hj
        rw [ej] at hEj
        rcases hEj.c with hc | ⟨_, hc, hc2⟩
        · simp [pAw, hc] at hsp <;> omega
        · exact .inr ⟨k3, by omega⟩
    have wb : best ≠ 0 → IntKind.wrap .i64 (best - 1) = best - 1 := fun h => IntWalk.i64_in _ (by omega)
    clear hbest
    have fin : ∀ (want' best' : Int) (l3 : FLs) (s : S), EvI (i + 1) want' best' l3 (la + 1) → s.le (stEv M asl tim M 1 want' best' (i + 1 : Nat) l3 (la + 1)) → FamNext (fun x : EvX => stEv M asl tim M 1 x.want x.best x.i x.l x.la) (fun x => EvI x.i x.want x.best x.l x.la ∧ (x.i : Int) ≤ M) (fun x => M.toNat - x.i) ⟨i, want, best, l1, la⟩ s := fun want' best' l3 s hE hs => .mk [] ⟨i + 1, want', best', l3, la + 1⟩ hs ⟨hE, by show ((i + 1 : Nat) : Int) ≤ M; omega⟩ mu
    clear hI hT1 g0 g1 g3 g4 h0 h1 h2 h3 h4 h5 mu
    generalize l1 ++ [(kI (la + 1), b, r1)] = l3 at *
    refine bcaseF (by decide) (fun htl => ?_)
    simp only [Int.toNat_natCast]
    refine bcase_dec (fun ht => ?_) (fun ht => ?_)
    · obtain ⟨n, hn⟩ := htim _ (getD_mem (l := tim) (i := i) (by omega))
      simp only [hn, iN]
      refine ⟨⟨by omega, ht⟩, by first | rfl | trivial, Nat.le_refl 1, by first | rfl | trivial, by decide, fun hal => bcase_dec (fun ha => ?_) (fun ha => ?_)⟩
      · obtain ⟨z, hz⟩ := hasl _ (getD_mem (l := asl) (i := i) (by omega))
        simp only [hz, bN]
        have hA := mod_lt n 1000 (by omega) (by omega)
        refine ⟨⟨by omega, ha⟩, by first | rfl | trivial, Nat.le_refl 1, by first | rfl | trivial, bcase_mk (fun hz => ?_) (fun hz => ?_)⟩
        · refine ⟨l3, la + 1, M, 50, la + 1, IntKind.wrap .i64 (Int.tmod (IntKind.wrap .u64 n) 1000), rfl, rfl, ⟨awake.tab, by omega, by omega, by omega⟩, by decide, fun z2 e2 l4 hs => ⟨by first | rfl | trivial, ?_⟩⟩
          have hs := slept _ hA z2 e2 l4 hs
          generalize IntKind.wrap .i64 (Int.tmod (IntKind.wrap .u64 n) 1000) = A at *
          have wA : IntKind.wrap .i64 (A + 1) = A + 1 := IntWalk.i64_in _ (by omega)
          rw [wA]
          refine bcase_mk (fun k => ?_) (fun k => ?_)
          · have k : best = 0 := by simpa using k
            exact fin _ _ _ _ (hs.1 (.inl k)) (by simp [S.le, leL, leA, leO, jks, stEv, tob, mkI, mkS, mkB, S.fits, fitsL, AV.fits, Ob.fits, fob])
          · have k : best ≠ 0 := by simpa using k
            rw [wb k]
            refine bcase_dec (fun k2 => ?_) (fun k2 => ?_)
            · exact fin _ _ _ _ (hs.1 (.inr k2)) (by simp [S.le, leL, leA, leO, jks, stEv, tob, mkI, mkS, mkB, S.fits, fitsL, AV.fits, Ob.fits, fob])
            · exact fin _ _ _ _ (hs.2 ⟨k, k2⟩) (by simp [S.le, leL, leA, leO, jks, stEv, tob, mkI, mkS, mkB, S.fits, fitsL, AV.fits, Ob.fits, fob])
        · exact fin _ _ _ _ awake (by simp [S.le, leL, leA, leO, jks, stEv, tob, mkI, mkS, mkB, S.fits, fitsL, AV.fits, Ob.fits, fob])
      · exact fin _ _ _ _ awake (by simp [S.le, leL, leA, leO, jks, stEv, tob, mkI, mkS, mkB, S.fits, fitsL, AV.fits, Ob.fits, fob])
    · refine fun hal => bcase_dec (fun ha => ?_) (fun ha => ?_)
      · obtain ⟨z, hz⟩ := hasl _ (getD_mem (l := asl) (i := i) (by omega))
        simp only [hz, bN]
        refine ⟨⟨by omega, ha⟩, by first | rfl | trivial, Nat.le_refl 1, by first | rfl | trivial, bcase_mk (fun hz => ?_) (fun hz => ?_)⟩
        · refine ⟨l3, la + 1, M, 50, la + 1, 0, rfl, rfl, ⟨awake.tab, by omega, by omega, by omega⟩, by decide, fun z2 e2 l4 hs => ⟨by first | rfl | trivial, ?_⟩⟩
          have hs := slept 0 (by decide) z2 e2 l4 hs
          have wA : IntKind.wrap .i64 (0 + 1) = 0 + 1 := by decide
          rw [wA]
          refine bcase_mk (fun k => ?_) (fun k => ?_)
          · have k : best = 0 := by simpa using k
            exact fin _ _ _ _ (hs.1 (.inl k)) (by simp [S.le, leL, leA, leO, jks, stEv, tob, mkI, mkS, mkB, S.fits, fitsL, AV.fits, Ob.fits, fob])
          · have k : best ≠ 0 := by simpa using k
            rw [wb k]
            refine bcase_dec (fun k2 => ?_) (fun k2 => ?_)
            · exact fin _ _ _ _ (hs.1 (.inr k2)) (by simp [S.le, leL, leA, leO, jks, stEv, tob, mkI, mkS, mkB, S.fits, fitsL, AV.fits, Ob.fits, fob])
            · exact fin _ _ _ _ (hs.2 ⟨k, k2⟩) (by simp [S.le, leL, leA, leO, jks, stEv, tob, mkI, mkS, mkB, S.fits, fitsL, AV.fits, Ob.fits, fob])
        · exact fin _ _ _ _ awake (by simp [S.le, leL, leA, leO, jks, stEv, tob, mkI, mkS, mkB, S.fits, fitsL, AV.fits, Ob.fits, fob])
      · exact fin _ _ _ _ awake (by simp [S.le, leL, leA, leO, jks, stEv, tob, mkI, mkS, mkB, S.fits, fitsL, AV.fits, Ob.fits, fob])
  · have hiM : (i : Int) = M := by omega
    refine ⟨l, la, M, 50, annB, phoB, 50, rfl, rfl, ⟨hI.tab, by omega, by omega, by omega⟩, fun a g e l' la' hs => ⟨rfl, ?_⟩⟩
    have hs : StR M annB phoB 50 l la a g e l' la' := hs
    obtain ⟨rfl, rfl, rfl, l1, b, r, hv, hb, ⟨h0, h1, h2, h3, h4, h5⟩, rfl⟩ := ev_start hI upho (by omega) (by omega) (by omega) hs
    obtain ⟨hgw, ⟨b1, r1, hone⟩, hcnt⟩ : g = want ∧ (∃ b r, (kI 1, b, r) ∈ l1) ∧ ((l1.filter fun e => pOf annB e.2.2).length : Int) + 1 = i := by
      rcases hv with ⟨h, _⟩ | ⟨_, v, hv, hg, hl1⟩
      · obtain ⟨m, hm, hml, _⟩ := hI.sel
        rw [hm, hml] at h; omega
      · exact hI.fin (by omega) hv hg hl1
    have hT : Tab (l1 ++ [(kI (la + 1), b, r)]) (la + 1) := by
      rcases hv with ⟨_, _, rfl⟩ | ⟨_, v, _, _, rfl⟩
      · exact hI.tab.add (by omega) hb h0
      · exact (hI.tab.del _).add (by omega) hb h0
    have hC : TbC (l1 ++ [(kI (la + 1), b, r)]) (la + 1) M := ⟨hT, by omega, by omega, by omega⟩
    have hids : idsL (pOf annB) (l1 ++ [(kI (la + 1), b, r)]) = (l1.filter fun e => pOf annB e.2.2).map idD ++ [idD (kI (la + 1), b, r)] := by
      unfold idsL
      have hp : pOf annB r = true := decide_eq_true h1
      rw [List.filter_append, List.map_append]
      simp [hp]
    refine ⟨l1 ++ [(kI (la + 1), b, r)], la + 1, M, 50, 1, rfl, rfl, hC, fun b2 r2 _ => ⟨rfl, l1 ++ [(kI (la + 1), b, r)], la + 1, M, 50, annB, rfl, rfl, hC.ok, fun ids he => ⟨rfl, ?_⟩⟩, fun hno => absurd rfl (hno (kI 1, b1, r1) (by simp [hone]))⟩
    have hlen : (ids.length : Int) = M := by rw [he, hids]; simp; omega
    have hlast : ids.getD (M - 1).toNat [] = idD (kI (la + 1), b, r) := by
      rw [he, hids, List.getD_eq_getElem?_getD, List.getElem?_append_right (by simp; omega)]
      have : (M - 1).toNat - ((l1.filter fun e => pOf annB e.2.2).map idD).length = 0 := by simp; omega
      rw [this]; rfl
    rw [hlen]
    have wM : IntKind.wrap .i64 (M - 1) = M - 1 := IntWalk.i64_in _ (by omega)
    rw [wM, hlast]
    refine bcaseT rfl (bcaseT (by simpa using hgw) (bcaseT (by simp) ⟨⟨by omega, by omega⟩, by omega, Nat.zero_le _, Nat.le_refl 1, rfl, ?_⟩))
    have : (intD (List.getD (List.drop 0 (idD (kI (la + 1), b, r))) 0 d0) == la + 1) = true := by
      show (r.i 0 == la + 1) = true
      rw [h0]; simp
    rw [this]
    exact hq
theorem hEv : ∀ as', TyArgs Tryd.prog Tryd.f3.params.toList as' → ∃ p, FEv as' = some (p, mkB true) ∧ p := by
  intro as' h
  rw [Tryd.params3] at h
  obtain ⟨a, b, c, rfl, ha, hb, hc⟩ := tyargs3 h
  obtain ⟨x, rfl, hx⟩ := arg_int Tryd.underlying3 ha
  obtain ⟨y, rfl, hy⟩ := arg_bools Tryd.underlying22 Tryd.underlying4 hb
  obtain ⟨z, rfl, hz⟩ := arg_ints Tryd.underlying23 Tryd.underlying3 hc
  exact ⟨_, rfl, hy, hz⟩
end Go.Proofs.YtepkbbkfcnejmaaDoor
