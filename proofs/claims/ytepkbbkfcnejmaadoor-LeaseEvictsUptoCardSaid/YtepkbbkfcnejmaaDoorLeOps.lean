import Derived.Test.YtepkbbkfcnejmaaDoorLeVi
set_option linter.unusedSimpArgs false
set_option linter.unusedVariables false
namespace Go.Proofs.YtepkbbkfcnejmaaDoor
open Go Go.AM Go.RowKit
set_option maxRecDepth 10000
attribute [local irreducible] aUnr aUnS aCode
noncomputable abbrev GTb : List (FuncId × En) := inlΓS KL ((24, .ref (frameE (EFst (mkI .i64) pOn))) :: (28, .ref (frameE (EFst mkS pWi))) :: (25, .ref (frameE EVi)) :: GB) tabI 4 8
theorem gTb : GSound Tryd.prog GTb := inlS_sound mixed KL_ok (gsound_ref (RSound.frame cOn) (gsound_ref (RSound.frame cWi) (gsound_ref (RSound.frame cVi) gB))) tabI_ok 8
theorem rTSr (l : FLs) (la mo le : Int) (u d : ByteArray) (c : Int) (q : AV → List Ob → Prop) :
  (aCode KL GTb Tryd.b10 (kRetF KL Tryd.f10.results.toList q) ⟨[.rf 0 0, mkS u, mkS d, mkI .i64 c] ++ List.replicate (Tryd.f10.ntmps - 4) .jk, [tbo la mo le, fob l, .gh [.rf 0 0]]⟩) = (
  True ∧
  bcase (!(userB u)) (
   q (AV.tp [mkI .i64 0, mkI .i64 0, mkI .i64 1]) [Ob.box [AV.mp 1, mkI .i64 la, mkI .i64 mo, mkI .i64 le], Ob.bun (famR (FamD.mk (KK.int IntKind.i64) (Shp.box SK) l)), Ob.gh [AV.rf 0 0]]) (
   True ∧
   bcase (!(userB d)) (
    q (AV.tp [mkI .i64 0, mkI .i64 0, mkI .i64 1]) [Ob.box [AV.mp 1, mkI .i64 la, mkI .i64 mo, mkI .i64 le], Ob.bun (famR (FamD.mk (KK.int IntKind.i64) (Shp.box SK) l)), Ob.gh [AV.rf 0 0]]) (
    bcase (decide (c < (0 : Int))) (
     q (AV.tp [mkI .i64 0, mkI .i64 0, mkI .i64 1]) [Ob.box [AV.mp 1, mkI .i64 la, mkI .i64 mo, mkI .i64 le], Ob.bun (famR (FamD.mk (KK.int IntKind.i64) (Shp.box SK) l)), Ob.gh [AV.rf 0 0]]) (
     ∃ (l_1 : FLs),
     ∃ (la_1 : Int),
     ∃ (mo_1 : Int),
     ∃ (le_1 : Int),
     ∃ (c_1 : Int),
     ([AV.rf 0 0, mkI .i64 c] = [AV.rf 0 0, mkI .i64 c_1]) ∧
     ([Ob.box [AV.mp (0 + 1), mkI .i64 la, mkI .i64 mo, mkI .i64 le], Ob.bun (famR (FamD.mk (KK.int IntKind.i64) (Shp.box SK) l)), Ob.gh [AV.rf 0 0]] = [Ob.box [AV.mp 1, mkI .i64 la_1, mkI .i64 mo_1, mkI .i64 le_1], Ob.bun (famR (FamD.mk (KK.int IntKind.i64) (Shp.box SK) l_1)), Ob.gh [AV.rf 0 0]]) ∧
     (TabOk l_1) ∧
     (∀ (k : Key), ∀ (b : Nat), ∀ (r : Rec), ((firstE (pOn c_1) l_1) = (Option.some (k, (b, r)))) → ((Option.some (Ob.gh [AV.rf 0 0])) = (Option.some (Ob.gh [AV.rf 0 0]))) ∧ (q (AV.tp [mkI .i64 0, mkI .i64 0, mkI .i64 8]) [Ob.box [AV.mp (if 1 < 2 then 1 else 4 + (1 - 2)), mkI .i64 la_1, mkI .i64 mo_1, mkI .i64 le_1], Ob.bun (famR (FamD.mk (KK.int IntKind.i64) (Shp.box SK) l_1)), Ob.gh [AV.rf 0 0], Ob.gone, Ob.gone])) ∧ (
      ((firstE (pOn c_1) l_1) = Option.none) →
      ((Option.some (Ob.gh [AV.rf 0 0])) = (Option.some (Ob.gh [AV.rf 0 0]))) ∧ (
       ∃ (l_2 : FLs),
       ∃ (la_2 : Int),
       ∃ (mo_2 : Int),
       ∃ (le_2 : Int),
       ∃ (u_1 : ByteArray),
       ([AV.rf 0 0, mkS u] = [AV.rf 0 0, mkS u_1]) ∧
       ([Ob.box [AV.mp (0 + 1), mkI .i64 la_1, mkI .i64 mo_1, mkI .i64 le_1], Ob.bun (famR (FamD.mk (KK.int IntKind.i64) (Shp.box SK) l_1)), Ob.gh [AV.rf 0 0]] = [Ob.box [AV.mp 1, mkI .i64 la_2, mkI .i64 mo_2, mkI .i64 le_2], Ob.bun (famR (FamD.mk (KK.int IntKind.i64) (Shp.box SK) l_2)), Ob.gh [AV.rf 0 0]]) ∧
       (TabOk l_2) ∧
       ((0 : Int) < mo_2) ∧
       ((((List.length (selE u_1 l_2)) : Int) < mo_2) → ((Option.some (Ob.gh [AV.rf 0 0])) = (Option.some (Ob.gh [AV.rf 0 0]))) ∧ (((hasF (Key.i IntKind.i64 (IntKind.wrap .i64 (la_2 + (1 : Int)))) l_2) = false) ∧ (∀ (b : Nat), (∀ (e : Prod Key (Prod Nat Rec)), (e ∈ l_2) → ((Prod.fst (Prod.snd e)) = b) → False) → q (AV.tp [mkI .i64 (IntKind.wrap .i64 (la_2 + (1 : Int))), mkI .i64 0, mkI .i64 0]) [Ob.box [AV.mp (if 1 < 2 then 1 else 6 + (1 - 2)), mkI .i64 (IntKind.wrap .i64 (la_2 + (1 : Int))), mkI .i64 mo_2, mkI .i64 le_2], Ob.bun (famR (FamD.mk (KK.int IntKind.i64) (Shp.box SK) (l_2 ++ [(Key.i IntKind.i64 (IntKind.wrap .i64 (la_2 + (1 : Int))), (b, Rec.mk (fun (n : Nat) => intA (List.getD [mkI .i64 (IntKind.wrap .i64 (la_2 + (1 : Int))), mkS u, mkS d, mkS ⟨#[]⟩, mkI .i64 c, mkI .i64 0] n AV.jk)) (fun (n : Nat) => strA (List.getD [mkI .i64 (IntKind.wrap .i64 (la_2 + (1 : Int))), mkS u, mkS d, mkS ⟨#[]⟩, mkI .i64 c, mkI .i64 0] n AV.jk)) []))]))), Ob.gh [AV.rf 0 0], Ob.gone, Ob.gone, Ob.gone, Ob.gone, Ob.gone]))) ∧ (
        (mo_2 ≤ ((List.length (selE u_1 l_2)) : Int)) →
        ∀ (k : Key),
        ∀ (b : Nat),
        ∀ (r : Rec),
        ((victE u_1 l_2) = (Option.some (k, (b, r)))) →
        ((Option.some (Ob.gh [AV.rf 0 0])) = (Option.some (Ob.gh [AV.rf 0 0]))) ∧ (
         ∃ (r_1 : Rec),
         ((recF b l_2) = (Option.some r_1)) ∧
         ((hasF (Key.i IntKind.i64 (IntKind.wrap .i64 (la_2 + (1 : Int)))) (delF (Key.i IntKind.i64 (r_1.i (0 : Nat))) l_2)) = false) ∧ (
          ∀ (b_1 : Nat),
          (∀ (e : Prod Key (Prod Nat Rec)), (e ∈ (delF (Key.i IntKind.i64 (r_1.i (0 : Nat))) l_2)) → ((Prod.fst (Prod.snd e)) = b_1) → False) →
          q (AV.tp [mkI .i64 (IntKind.wrap .i64 (la_2 + (1 : Int))), mkI .i64 (r_1.i (0 : Nat)), mkI .i64 0]) [Ob.box [AV.mp (if 1 < 2 then 1 else 6 + (1 - 2)), mkI .i64 (IntKind.wrap .i64 (la_2 + (1 : Int))), mkI .i64 mo_2, mkI .i64 le_2], Ob.bun (famR (FamD.mk (KK.int IntKind.i64) (Shp.box SK) ((delF (Key.i IntKind.i64 (r_1.i (0 : Nat))) l_2) ++ [(Key.i IntKind.i64 (IntKind.wrap .i64 (la_2 + (1 : Int))), (b_1, Rec.mk (fun (n : Nat) => intA (List.getD [mkI .i64 (IntKind.wrap .i64 (la_2 + (1 : Int))), mkS u, mkS d, mkS ⟨#[]⟩, mkI .i64 c, mkI .i64 0] n AV.jk)) (fun (n : Nat) => strA (List.getD [mkI .i64 (IntKind.wrap .i64 (la_2 + (1 : Int))), mkS u, mkS d, mkS ⟨#[]⟩, mkI .i64 c, mkI .i64 0] n AV.jk)) []))]))), Ob.gh [AV.rf 0 0], Ob.gone, Ob.gone, Ob.gone, Ob.gone, Ob.gone]))))))))) := by kernel_rfl
theorem rTGi (l : FLs) (la mo le : Int) (id : Int) (tok : ByteArray) (q : AV → List Ob → Prop) :
  (aCode KL GTb Tryd.b11 (kRetF KL Tryd.f11.results.toList q) ⟨[.rf 0 0, mkI .i64 id, mkS tok] ++ List.replicate (Tryd.f11.ntmps - 3) .jk, [tbo la mo le, fob l, .gh [.rf 0 0]]⟩) = (
  bcase (hasF (Key.i IntKind.i64 id) l) (
   ∃ (b : Nat),
   ((blkF (Key.i IntKind.i64 id) l) = (Option.some b)) ∧ (
    ∃ (r : Rec),
    ((recF b l) = (Option.some r)) ∧
    bcase (!(decide ((r.s ((((0 : Nat) + (1 : Nat)) + (1 : Nat)) + (1 : Nat))) = ⟨#[]⟩))) (
     q (mkI .i64 11) [Ob.box [AV.mp 1, mkI .i64 la, mkI .i64 mo, mkI .i64 le], Ob.bun (famR (FamD.mk (KK.int IntKind.i64) (Shp.box SK) l)), Ob.gh [AV.rf 0 0], Ob.gone]) (
     ∃ (r_1 : Rec),
     ((recF b l) = (Option.some r_1)) ∧
     bcase ((r_1.i (((((0 : Nat) + (1 : Nat)) + (1 : Nat)) + (1 : Nat)) + (1 : Nat))) == (-(1 : Int))) (
      q (mkI .i64 11) [Ob.box [AV.mp 1, mkI .i64 la, mkI .i64 mo, mkI .i64 le], Ob.bun (famR (FamD.mk (KK.int IntKind.i64) (Shp.box SK) l)), Ob.gh [AV.rf 0 0], Ob.gone, Ob.gone]) (
      ∃ (l_1 : FLs),
      ∃ (la_1 : Int),
      ∃ (mo_1 : Int),
      ∃ (le_1 : Int),
      ∃ (c : ByteArray),
      ([AV.rf 0 0, mkS tok] = [AV.rf 0 0, mkS c]) ∧
      ([Ob.box [AV.mp (0 + 1), mkI .i64 la, mkI .i64 mo, mkI .i64 le], Ob.bun (famR (FamD.mk (KK.int IntKind.i64) (Shp.box SK) l)), Ob.gh [AV.rf 0 0]] = [Ob.box [AV.mp 1, mkI .i64 la_1, mkI .i64 mo_1, mkI .i64 le_1], Ob.bun (famR (FamD.mk (KK.int IntKind.i64) (Shp.box SK) l_1)), Ob.gh [AV.rf 0 0]]) ∧
      (TabOk l_1) ∧
      (∀ (k : Key), ∀ (b_1 : Nat), ∀ (r_2 : Rec), ((firstE (pWi c) l_1) = (Option.some (k, (b_1, r_2)))) → ((Option.some (Ob.gh [AV.rf 0 0])) = (Option.some (Ob.gh [AV.rf 0 0]))) ∧ (q (mkI .i64 8) [Ob.box [AV.mp (if 1 < 2 then 1 else 6 + (1 - 2)), mkI .i64 la_1, mkI .i64 mo_1, mkI .i64 le_1], Ob.bun (famR (FamD.mk (KK.int IntKind.i64) (Shp.box SK) l_1)), Ob.gh [AV.rf 0 0], Ob.gone, Ob.gone, Ob.gone, Ob.gone])) ∧ (
       ((firstE (pWi c) l_1) = Option.none) →
       ((Option.some (Ob.gh [AV.rf 0 0])) = (Option.some (Ob.gh [AV.rf 0 0]))) ∧
       bcase (decide (tok = ⟨#[]⟩)) (
        q (mkI .i64 1) [Ob.box [AV.mp (if 1 < 2 then 1 else 6 + (1 - 2)), mkI .i64 la_1, mkI .i64 mo_1, mkI .i64 le_1], Ob.bun (famR (FamD.mk (KK.int IntKind.i64) (Shp.box SK) l_1)), Ob.gh [AV.rf 0 0], Ob.gone, Ob.gone, Ob.gone, Ob.gone]) (
        ∃ (r_2 : Rec),
        ((recF b l_1) = (Option.some r_2)) ∧
        q (mkI .i64 0) [Ob.box [AV.mp (if 1 < 2 then 1 else 6 + (1 - 2)), mkI .i64 la_1, mkI .i64 mo_1, mkI .i64 le_1], Ob.bun (famR (FamD.mk (KK.int IntKind.i64) (Shp.box SK) (putM b (Rec.put r_2 ((0 : Nat) + (3 : Nat)) (mkS tok)) l_1))), Ob.gh [AV.rf 0 0], Ob.gone, Ob.gone, Ob.gone, Ob.gone])))))) (
   q (mkI .i64 7) [Ob.box [AV.mp 1, mkI .i64 la, mkI .i64 mo, mkI .i64 le], Ob.bun (famR (FamD.mk (KK.int IntKind.i64) (Shp.box SK) l)), Ob.gh [AV.rf 0 0], Ob.gone])) := by kernel_rfl
theorem rTLo (l : FLs) (la mo le : Int) (id now : Int) (q : AV → List Ob → Prop) :
  (aCode KL GTb Tryd.b12 (kRetF KL Tryd.f12.results.toList q) ⟨[.rf 0 0, mkI .i64 id, mkI .i64 now] ++ List.replicate (Tryd.f12.ntmps - 3) .jk, [tbo la mo le, fob l, .gh [.rf 0 0]]⟩) = (
  bcase (hasF (Key.i IntKind.i64 id) l) (
   ∃ (b : Nat),
   ((blkF (Key.i IntKind.i64 id) l) = (Option.some b)) ∧ (
    ∃ (r : Rec),
    ((recF b l) = (Option.some r)) ∧
    bcase ((r.i (((((0 : Nat) + (1 : Nat)) + (1 : Nat)) + (1 : Nat)) + (1 : Nat))) == (-(1 : Int))) (
     q (AV.tp [mkB false, mkI .i64 11]) [Ob.box [AV.mp 1, mkI .i64 la, mkI .i64 mo, mkI .i64 le], Ob.bun (famR (FamD.mk (KK.int IntKind.i64) (Shp.box SK) l)), Ob.gh [AV.rf 0 0], Ob.gone, Ob.gone]) (
     bcase (decide (now < (0 : Int))) (
      q (AV.tp [mkB false, mkI .i64 1]) [Ob.box [AV.mp 1, mkI .i64 la, mkI .i64 mo, mkI .i64 le], Ob.bun (famR (FamD.mk (KK.int IntKind.i64) (Shp.box SK) l)), Ob.gh [AV.rf 0 0], Ob.gone, Ob.gone]) (
      bcase (decide (now > (1099511627776 : Int))) (
       q (AV.tp [mkB false, mkI .i64 1]) [Ob.box [AV.mp 1, mkI .i64 la, mkI .i64 mo, mkI .i64 le], Ob.bun (famR (FamD.mk (KK.int IntKind.i64) (Shp.box SK) l)), Ob.gh [AV.rf 0 0], Ob.gone, Ob.gone]) (
       ∃ (r_1 : Rec),
       ((recF b l) = (Option.some r_1)) ∧
       bcase (decide ((r_1.s ((((0 : Nat) + (1 : Nat)) + (1 : Nat)) + (1 : Nat))) = ⟨#[]⟩)) (
        q (AV.tp [mkB false, mkI .i64 0]) [Ob.box [AV.mp 1, mkI .i64 la, mkI .i64 mo, mkI .i64 le], Ob.bun (famR (FamD.mk (KK.int IntKind.i64) (Shp.box SK) (delF (Key.i IntKind.i64 id) l))), Ob.gh [AV.rf 0 0], Ob.gone, Ob.gone]) (
        ∃ (r_2 : Rec),
        ((recF b l) = (Option.some r_2)) ∧ (
         ∃ (r_3 : Rec),
         ((recF b (putM b (Rec.put r_2 ((0 : Nat) + (4 : Nat)) (mkI .i64 (-(1 : Int)))) l)) = (Option.some r_3)) ∧
         q (AV.tp [mkB true, mkI .i64 0]) [Ob.box [AV.mp 1, mkI .i64 la, mkI .i64 mo, mkI .i64 le], Ob.bun (famR (FamD.mk (KK.int IntKind.i64) (Shp.box SK) (putM b (Rec.put r_3 ((0 : Nat) + (5 : Nat)) (mkI .i64 (IntKind.wrap .i64 (now + le)))) (putM b (Rec.put r_2 ((0 : Nat) + (4 : Nat)) (mkI .i64 (-(1 : Int)))) l)))), Ob.gh [AV.rf 0 0], Ob.gone, Ob.gone]))))))) (
   q (AV.tp [mkB false, mkI .i64 7]) [Ob.box [AV.mp 1, mkI .i64 la, mkI .i64 mo, mkI .i64 le], Ob.bun (famR (FamD.mk (KK.int IntKind.i64) (Shp.box SK) l)), Ob.gh [AV.rf 0 0], Ob.gone])) := by kernel_rfl
theorem rTGe (l : FLs) (la mo le : Int) (id : Int) (q : AV → List Ob → Prop) :
  (aCode KL GTb Tryd.b13 (kRetF KL Tryd.f13.results.toList q) ⟨[.rf 0 0, mkI .i64 id] ++ List.replicate (Tryd.f13.ntmps - 2) .jk, [tbo la mo le, fob l, .gh [.rf 0 0]]⟩) = (
  bcase (hasF (Key.i IntKind.i64 id) l) (
   ∃ (b : Nat),
   ((blkF (Key.i IntKind.i64 id) l) = (Option.some b)) ∧ (
    ∃ (r : Rec),
    ((recF b l) = (Option.some r)) ∧
    q (AV.tp [AV.ag [mkI .i64 (r.i (0 : Nat)), mkS (r.s ((0 : Nat) + (1 : Nat))), mkS (r.s (((0 : Nat) + (1 : Nat)) + (1 : Nat))), mkS (r.s ((((0 : Nat) + (1 : Nat)) + (1 : Nat)) + (1 : Nat))), mkI .i64 (r.i (((((0 : Nat) + (1 : Nat)) + (1 : Nat)) + (1 : Nat)) + (1 : Nat))), mkI .i64 (r.i ((((((0 : Nat) + (1 : Nat)) + (1 : Nat)) + (1 : Nat)) + (1 : Nat)) + (1 : Nat)))], mkB true]) [Ob.box [AV.mp 1, mkI .i64 la, mkI .i64 mo, mkI .i64 le], Ob.bun (famR (FamD.mk (KK.int IntKind.i64) (Shp.box SK) l)), Ob.gh [AV.rf 0 0], Ob.box [mkI .i64 (r.i (0 : Nat)), mkS (r.s ((0 : Nat) + (1 : Nat))), mkS (r.s (((0 : Nat) + (1 : Nat)) + (1 : Nat))), mkS (r.s ((((0 : Nat) + (1 : Nat)) + (1 : Nat)) + (1 : Nat))), mkI .i64 (r.i (((((0 : Nat) + (1 : Nat)) + (1 : Nat)) + (1 : Nat)) + (1 : Nat))), mkI .i64 (r.i ((((((0 : Nat) + (1 : Nat)) + (1 : Nat)) + (1 : Nat)) + (1 : Nat)) + (1 : Nat)))], Ob.gone])) (
   q (AV.tp [AV.ag [mkI .i64 0, mkS ⟨#[]⟩, mkS ⟨#[]⟩, mkS ⟨#[]⟩, mkI .i64 0, mkI .i64 0], mkB false]) [Ob.box [AV.mp 1, mkI .i64 la, mkI .i64 mo, mkI .i64 le], Ob.bun (famR (FamD.mk (KK.int IntKind.i64) (Shp.box SK) l)), Ob.gh [AV.rf 0 0], Ob.box [mkI .i64 0, mkS ⟨#[]⟩, mkS ⟨#[]⟩, mkS ⟨#[]⟩, mkI .i64 0, mkI .i64 0], Ob.gone])) := by kernel_rfl
end Go.Proofs.YtepkbbkfcnejmaaDoor
