import Derived.Test.YtepkbbkfcnejmaaDoorLeVi
set_option linter.unusedSimpArgs false
set_option linter.unusedVariables false
set_option maxRecDepth 10000
namespace Go.Proofs.YtepkbbkfcnejmaaDoor
open Go Go.AM Go.RowKit
attribute [local irreducible] aUnr aUnS aCode
noncomputable abbrev GTb : List (FuncId × En) := inlΓS KL ((24, .ref (frameE (EFst (mkI .i64) pOn))) :: (28, .ref (frameE (EFst mkS pWi))) :: (25, .ref (frameE EVi)) :: GB) tabI 4 8
theorem gTb : GSound Tryd.prog GTb := inlS_sound mixed KL_ok (gsound_ref (RSound.frame cOn) (gsound_ref (RSound.frame cWi) (gsound_ref (RSound.frame cVi) gB))) tabI_ok 8
theorem rTSr (l : FLs) (la mo le : Int) (u d : ByteArray) (c : Int) (q : AV → List Ob → Prop) :
  (aCode KL GTb Tryd.b10 (kRetF KL Tryd.f10.results.toList q) ⟨[.rf 0 0, mkS u, mkS d, mkI .i64 c] ++ List.replicate (Tryd.f10.ntmps - 4) .jk, [tbo la mo le, fob l, .gh [.rf 0 0]]⟩) = (
  True ∧
  bcase (!(userB u)) (
   q (AV.tp [mkI .i64 0, mkI .i64 0, mkI .i64 1]) [Ob.box [AV.mp 1, mkI .i64 la, mkI .i64 mo, mkI .i64 le], Ob.bun (famR (FamD.mk (KK.int IntKind.i64) (Shp.box SK) l)), Ob.gh [AV.rf 0 0]]) (
   True ∧
   bcase (!(userB d)) (
    q (AV.tp [mkI .i64 0, mkI .i64 0, mkI .i64 1]) [Ob.box [AV.mp 1, mkI .i64 la, mkI .i64 mo, mkI .i64 le], Ob.bun (famR (FamD.mk (KK.int IntKind.i64) (Shp.box SK) l)), Ob.gh [AV.rf 0 0]]) (
    bcase (decide (c < (0 : Int))) (
     q (AV.tp [mkI .i64 0, mkI .i64 0, mkI .i64 1]) [Ob.box [AV.mp 1, mkI .i64 la, mkI .i64 mo, mkI .i64 le], Ob.bun (famR (FamD.mk (KK.int IntKind.i64) (Shp.box SK) l)), Ob.gh [AV.rf 0 0]]) (
     ∃ (l_1 : FLs),
     ∃ (la_1 : Int),
     ∃ (mo_1 : Int),
     ∃ (le_1 : Int),
     ∃ (c_1 : Int),
     ([AV.rf 0 0, mkI .i64 c] = [AV.rf 0 0, mkI .i64 c_1]) ∧
     ([Ob.box [AV.mp (0 + 1), mkI .i64 la, mkI .i64 mo, mkI .i64 le], Ob.bun (famR (FamD.mk (KK.int IntKind.i64) (Shp.box SK) l)), Ob.gh [AV.rf 0 0]] = [Ob.box [AV.mp 1, mkI .i64 la_1, mkI .i64 mo_1, mkI .i64 le_1], Ob.bun (famR (FamD.mk (KK.int IntKind.i64) (Shp.box SK) l_1)), Ob.gh [AV.rf 0 0]]) ∧
     (TabOk l_1) ∧
     (∀ (k : Key), ∀ (b : Nat), ∀ (r : Rec), ((firstE (pOn c_1) l_1) = (Option.some (k, (b, r)))) → ((Option.some (Ob.gh [AV.rf 0 0])) = (Option.some (Ob.gh [AV.rf 0 0]))) ∧ (q (AV.tp [mkI .i64 0, mkI .i64 0, mkI .i64 8]) [Ob.box [AV.mp (if 1 < 2 then 1 else 4 + (1 - 2)), mkI .i64 la_1, mkI .i64 mo_1, mkI .i64 le_1], Ob.bun (famR (FamD.mk (KK.int IntKind.i64) (Shp.box SK) l_1)), Ob.gh [AV.rf 0 0], Ob.gone, Ob.gone])) ∧ (
      ((firstE (pOn c_1) l_1) = Option.none) →
      ((Option.some (Ob.gh [AV.rf 0 0])) = (Option.some (Ob.gh [AV.rf 0 0]))) ∧ (
       ∃ (l_2 : FLs),
       ∃ (la_2 : Int),
       ∃ (mo_2 : Int),
       ∃ (le_2 : Int),
       ∃ (u_1 : ByteArray),
       ([AV.rf 0 0, mkS u] = [AV.rf 0 0, mkS u_1]) ∧
       ([Ob.box [AV.mp (0 + 1), mkI .i64 la_1, mkI .i64 mo_1, mkI .i64 le_1], Ob.bun (famR (FamD.mk (KK.int IntKind.i64) (Shp.box SK) l_1)), Ob.gh [AV.rf 0 0]] = [Ob.box [AV.mp 1, mkI .i64 la_2, mkI .i64 mo_2, mkI .i64 le_2], Ob.bun (famR (FamD.mk (KK.int IntKind.i64) (Shp.box SK) l_2)), Ob.gh [AV.rf 0 0]]) ∧
       (TabOk l_2) ∧
       ((0 : Int) < mo_2) ∧
       ((((List.length (selE u_1 l_2)) : Int) < mo_2) → ((Option.some (Ob.gh [AV.rf 0 0])) = (Option.some (Ob.gh [AV.rf 0 0]))) ∧ (((hasF (Key.i IntKind.i64 (IntKind.wrap .i64 (la_2 + (1 : Int)))) l_2) = false) ∧ (∀ (b : Nat), (∀ (e : Prod Key (Prod Nat Rec)), (e ∈ l_2) → ((Prod.fst (Prod.snd e)) = b) → False) → q (AV.tp [mkI .i64 (IntKind.wrap .i64 (la_2 + (1 : Int))), mkI .i64 0, mkI .i64 0]) [Ob.box [AV.mp (if 1 < 2 then 1 else 6 + (1 - 2)), mkI .i64 (IntKind.wrap .i64 (la_2 + (1 : Int))), mkI .i64 mo_2, mkI .i64 le_2], Ob.bun (famR (FamD.mk (KK.int IntKind.i64) (Shp.box SK) (l_2 ++ [(Key.i IntKind.i64 (IntKind.wrap .i64 (la_2 + (1 : Int))), (b, Rec.mk (fun (n : Nat) => intA (List.getD [mkI .i64 (IntKind.wrap .i64 (la_2 + (1 : Int))), mkS u, mkS d, mkS ⟨#[]⟩, mkI .i64 c, mkI .i64 0] n AV.jk)) (fun (n : Nat) => strA (List.getD [mkI .i64 (IntKind.wrap .i64 (la_2 + (1 : Int))), mkS u, mkS d, mkS ⟨#[]⟩, mkI .i64 c, mkI .i64 0] n AV.jk)) []))]))), Ob.gh [AV.rf 0 0], Ob.gone, Ob.gone, Ob.gone, Ob.gone, Ob.gone]))) ∧ (
        (mo_2 ≤ ((List.length (selE u_1 l_2)) : Int)) →
        ∀ (k : Key),
        ∀ (b : Nat),
        ∀ (r : Rec),
        ((victE u_1 l_2) = (Option.some (k, (b, r)))) →
        ((Option.some (Ob.gh [AV.rf 0 0])) = (Option.some (Ob.gh [AV.rf 0 0]))) ∧ (
         ∃ (r_1 : Rec),
         ((recF b l_2) = (Option.some r_1)) ∧
         ((hasF (Key.i IntKind.i64 (IntKind.wrap .i64 (la_2 + (1 : Int)))) (delF (Key.i IntKind.i64 (r_1.i (0 : Nat))) l_2)) = false) ∧ (
          ∀ (b_1 : Nat),
          (∀ (e : Prod Key (Prod Nat Rec)), (e ∈ (delF (Key.i IntKind.i64 (r_1.i (0 : Nat))) l_2)) → ((Prod.fst (Prod.snd e)) = b_1) → False) →
          q (AV.tp [mkI .i64 (IntKind.wrap .i64 (la_2 + (1 : Int))), mkI .i64 (r_1.i (0 : Nat)), mkI .i64 0]) [Ob.box [AV.mp (if 1 < 2 then 1 else 6 + (1 - 2)), mkI .i64 (IntKind.wrap .i64 (la_2 + (1 : Int))), mkI .i64 mo_2, mkI .i64 le_2], Ob.bun (famR (FamD.mk (KK.int IntKind.i64) (Shp.box SK) ((delF (Key.i IntKind.i64 (r_1.i (0 : Nat))) l_2) ++ [(Key.i IntKind.i64 (IntKind.wrap .i64 (la_2 + (1 : Int))), (b_1, Rec.mk (fun (n : Nat) => intA (List.getD [mkI .i64 (IntKind.wrap .i64 (la_2 + (1 : Int))), mkS u, mkS d, mkS ⟨#[]⟩, mkI .i64 c, mkI .i64 0] n AV.jk)) (fun (n : Nat) => strA (List.getD [mkI .i64 (IntKind.wrap .i64 (la_2 + (1 : Int))), mkS u, mkS d, mkS ⟨#[]⟩, mkI .i64 c, mkI .i64 0] n AV.jk)) []))]))), Ob.gh [AV.rf 0 0], Ob.gone, Ob.gone, Ob.gone, Ob.gone, Ob.gone]))))))))) := by kernel_rfl
theorem rTGi (l : FLs) (la mo le : Int) (id : Int) (tok : ByteArray) (q : AV → List Ob → Prop) :
  (aCode KL GTb Tryd.b11 (kRetF KL Tryd.f11.results.toList q) ⟨[.rf 0 0, mkI .i64 id, mkS tok] ++ List.replicate (Tryd.f11.ntmps - 3) .jk, [tbo la mo le, fob l, .gh [.rf 0 0]]⟩) = (
  bcase (hasF (Key.i IntKind.i64 id) l) (
   ∃ (b : Nat),
   ((blkF (Key.i IntKind.i64 id) l) = (Option.some b)) ∧ (
    ∃ (r : Rec),
    ((recF b l) = (Option.some r)) ∧
    bcase (!(decide ((r.s ((((0 : Nat) + (1 : Nat)) + (1 : Nat)) + (1 : Nat))) = ⟨#[]⟩))) (
     q (mkI .i64 11) [Ob.box [AV.mp 1, mkI .i64 la, mkI .i64 mo, mkI .i64 le], Ob.bun (famR (FamD.mk (KK.int IntKind.i64) (Shp.box SK) l)), Ob.gh [AV.rf 0 0], Ob.gone]) (
     ∃ (r_1 : Rec),
     ((recF b l) = (Option.some r_1)) ∧
     bcase ((r_1.i (((((0 : Nat) + (1 : Nat)) + (1 : Nat)) + (1 : Nat)) + (1 : Nat))) == (-(1 : Int))) (
      q (mkI .i64 11) [Ob.box [AV.mp 1, mkI .i64 la, mkI .i64 mo, mkI .i64 le], Ob.bun (famR (FamD.mk (KK.int IntKind.i64) (Shp.box SK) l)), Ob.gh [AV.rf 0 0], Ob.gone, Ob.gone]) (
      ∃ (l_1 : FLs),
      ∃ (la_1 : Int),
      ∃ (mo_1 : Int),
      ∃ (le_1 : Int),
      ∃ (c : ByteArray),
      ([AV.rf 0 0, mkS tok] = [AV.rf 0 0, mkS c]) ∧
      ([Ob.box [AV.mp (0 + 1), mkI .i64 la, mkI .i64 mo, mkI .i64 le], Ob.bun (famR (FamD.mk (KK.int IntKind.i64) (Shp.box SK) l)), Ob.gh [AV.rf 0 0]] = [Ob.box [AV.mp 1, mkI .i64 la_1, mkI .i64 mo_1, mkI .i64 le_1], Ob.bun (famR (FamD.mk (KK.int IntKind.i64) (Shp.box SK) l_1)), Ob.gh [AV.rf 0 0]]) ∧
      (TabOk l_1) ∧
      (∀ (k : Key), ∀ (b_1 : Nat), ∀ (r_2 : Rec), ((firstE (pWi c) l_1) = (Option.some (k, (b_1, r_2)))) → ((Option.some (Ob.gh [AV.rf 0 0])) = (Option.some (Ob.gh [AV.rf 0 0]))) ∧ (q (mkI .i64 8) [Ob.box [AV.mp (if 1 < 2 then 1 else 6 + (1 - 2)), mkI .i64 la_1, mkI .i64 mo_1, mkI .i64 le_1], Ob.bun (famR (FamD.mk (KK.int IntKind.i64) (Shp.box SK) l_1)), Ob.gh [AV.rf 0 0], Ob.gone, Ob.gone, Ob.gone, Ob.gone])) ∧ (
       ((firstE (pWi c) l_1) = Option.none) →
       ((Option.some (Ob.gh [AV.rf 0 0])) = (Option.some (Ob.gh [AV.rf 0 0]))) ∧
       bcase (decide (tok = ⟨#[]⟩)) (
        q (mkI .i64 1) [Ob.box [AV.mp (if 1 < 2 then 1 else 6 + (1 - 2)), mkI .i64 la_1, mkI .i64 mo_1, mkI .i64 le_1], Ob.bun (famR (FamD.mk (KK.int IntKind.i64) (Shp.box SK) l_1)), Ob.gh [AV.rf 0 0], Ob.gone, Ob.gone, Ob.gone, Ob.gone]) (
        ∃ (r_2 : Rec),
        ((recF b l_1) = (Option.some r_2)) ∧
        q (mkI .i64 0) [Ob.box [AV.mp (if 1 < 2 then 1 else 6 + (1 - 2)), mkI .i64 la_1, mkI .i64 mo_1, mkI .i64 le_1], Ob.bun (famR (FamD.mk (KK.int IntKind.i64) (Shp.box SK) (putM b (Rec.put r_2 ((0 : Nat) + (3 : Nat)) (mkS tok)) l_1))), Ob.gh [AV.rf 0 0], Ob.gone, Ob.gone, Ob.gone, Ob.gone])))))) (
   q (mkI .i64 7) [Ob.box [AV.mp 1, mkI .i64 la, mkI .i64 mo, mkI .i64 le], Ob.bun (famR (FamD.mk (KK.int IntKind.i64) (Shp.box SK) l)), Ob.gh [AV.rf 0 0], Ob.gone])) := by kernel_rfl
theorem rTLo (l : FLs) (la mo le : Int) (id now : Int) (q : AV → List Ob → Prop) :
  (aCode KL GTb Tryd.b12 (kRetF KL Tryd.f12.results.toList q) ⟨[.rf 0 0, mkI .i64 id, mkI .i64 now] ++ List.replicate (Tryd.f12.ntmps - 3) .jk, [tbo la mo le, fob l, .gh [.rf 0 0]]⟩) = (
  bcase (hasF (Key.i IntKind.i64 id) l) (
   ∃ (b : Nat),
   ((blkF (Key.i IntKind.i64 id) l) = (Option.some b)) ∧ (
    ∃ (r : Rec),
    ((recF b l) = (Option.some r)) ∧
    bcase ((r.i (((((0 : Nat) + (1 : Nat)) + (1 : Nat)) + (1 : Nat)) + (1 : Nat))) == (-(1 : Int))) (
     q (AV.tp [mkB false, mkI .i64 11]) [Ob.box [AV.mp 1, mkI .i64 la, mkI .i64 mo, mkI .i64 le], Ob.bun (famR (FamD.mk (KK.int IntKind.i64) (Shp.box SK) l)), Ob.gh [AV.rf 0 0], Ob.gone, Ob.gone]) (
     bcase (decide (now < (0 : Int))) (
      q (AV.tp [mkB false, mkI .i64 1]) [Ob.box [AV.mp 1, mkI .i64 la, mkI .i64 mo, mkI .i64 le], Ob.bun (famR (FamD.mk (KK.int IntKind.i64) (Shp.box SK) l)), Ob.gh [AV.rf 0 0], Ob.gone, Ob.gone]) (
      bcase (decide (now > (1099511627776 : Int))) (
       q (AV.tp [mkB false, mkI .i64 1]) [Ob.box [AV.mp 1, mkI .i64 la, mkI .i64 mo, mkI .i64 le], Ob.bun (famR (FamD.mk (KK.int IntKind.i64) (Shp.box SK) l)), Ob.gh [AV.rf 0 0], Ob.gone, Ob.gone]) (
       ∃ (r_1 : Rec),
       ((recF b l) = (Option.some r_1)) ∧
       bcase (decide ((r_1.s ((((0 : Nat) + (1 : Nat)) + (1 : Nat)) + (1 : Nat))) = ⟨#[]⟩)) (
        q (AV.tp [mkB false, mkI .i64 0]) [Ob.box [AV.mp 1, mkI .i64 la, mkI .i64 mo, mkI .i64 le], Ob.bun (famR (FamD.mk (KK.int IntKind.i64) (Shp.box SK) (delF (Key.i IntKind.i64 id) l))), Ob.gh [AV.rf 0 0], Ob.gone, Ob.gone]) (
        ∃ (r_2 : Rec),
        ((recF b l) = (Option.some r_2)) ∧ (
         ∃ (r_3 : Rec),
         ((recF b (putM b (Rec.put r_2 ((0 : Nat) + (4 : Nat)) (mkI .i64 (-(1 : Int)))) l)) = (Option.some r_3)) ∧
         q (AV.tp [mkB true, mkI .i64 0]) [Ob.box [AV.mp 1, mkI .i64 la, mkI .i64 mo, mkI .i64 le], Ob.bun (famR (FamD.mk (KK.int IntKind.i64) (Shp.box SK) (putM b (Rec.put r_3 ((0 : Nat) + (5 : Nat)) (mkI .i64 (IntKind.wrap .i64 (now + le)))) (putM b (Rec.put r_2 ((0 : Nat) + (4 : Nat)) (mkI .i64 (-(1 : Int)))) l)))), Ob.gh [AV.rf 0 0], Ob.gone, Ob.gone]))))))) (
   q (AV.tp [mkB false, mkI .i64 7]) [Ob.box [AV.mp 1, mkI .i64 la, mkI .i64 mo, mkI .i64 le], Ob.bun (famR (FamD.mk (KK.int IntKind.i64) (Shp.box SK) l)), Ob.gh [AV.rf 0 0], Ob.gone])) := by kernel_rfl
theorem rTGe (l : FLs) (la mo le : Int) (id : Int) (q : AV → List Ob → Prop) :
  (aCode KL GTb Tryd.b13 (kRetF KL Tryd.f13.results.toList q) ⟨[.rf 0 0, mkI .i64 id] ++ List.replicate (Tryd.f13.ntmps - 2) .jk, [tbo la mo le, fob l, .gh [.rf 0 0]]⟩) = (
  bcase (hasF (Key.i IntKind.i64 id) l) (
   ∃ (b : Nat),
   ((blkF (Key.i IntKind.i64 id) l) = (Option.some b)) ∧ (
    ∃ (r : Rec),
    ((recF b l) = (Option.some r)) ∧
    q (AV.tp [AV.ag [mkI .i64 (r.i (0 : Nat)), mkS (r.s ((0 : Nat) + (1 : Nat))), mkS (r.s (((0 : Nat) + (1 : Nat)) + (1 : Nat))), mkS (r.s ((((0 : Nat) + (1 : Nat)) + (1 : Nat)) + (1 : Nat))), mkI .i64 (r.i (((((0 : Nat) + (1 : Nat)) + (1 : Nat)) + (1 : Nat)) + (1 : Nat))), mkI .i64 (r.i ((((((0 : Nat) + (1 : Nat)) + (1 : Nat)) + (1 : Nat)) + (1 : Nat)) + (1 : Nat)))], mkB true]) [Ob.box [AV.mp 1, mkI .i64 la, mkI .i64 mo, mkI .i64 le], Ob.bun (famR (FamD.mk (KK.int IntKind.i64) (Shp.box SK) l)), Ob.gh [AV.rf 0 0], Ob.box [mkI .i64 (r.i (0 : Nat)), mkS (r.s ((0 : Nat) + (1 : Nat))), mkS (r.s (((0 : Nat) + (1 : Nat)) + (1 : Nat))), mkS (r.s ((((0 : Nat) + (1 : Nat)) + (1 : Nat)) + (1 : Nat))), mkI .i64 (r.i (((((0 : Nat) + (1 : Nat)) + (1 : Nat)) + (1 : Nat)) + (1 : Nat))), mkI .i64 (r.i ((((((0 : Nat) + (1 : Nat)) + (1 : Nat)) + (1 : Nat)) + (1 : Nat)) + (1 : Nat)))], Ob.gone])) (
   q (AV.tp [AV.ag [mkI .i64 0, mkS ⟨#[]⟩, mkS ⟨#[]⟩, mkS ⟨#[]⟩, mkI .i64 0, mkI .i64 0], mkB false]) [Ob.box [AV.mp 1, mkI .i64 la, mkI .i64 mo, mkI .i64 le], Ob.bun (famR (FamD.mk (KK.int IntKind.i64) (Shp.box SK) l)), Ob.gh [AV.rf 0 0], Ob.box [mkI .i64 0, mkS ⟨#[]⟩, mkS ⟨#[]⟩, mkS ⟨#[]⟩, mkI .i64 0, mkI .i64 0], Ob.gone])) := by kernel_rfl
theorem rTRe (l : FLs) (la mo le : Int) (tok : ByteArray) (c now : Int) (q : AV → List Ob → Prop) :
  (aCode KL GTb Tryd.b15 (kRetF KL Tryd.f15.results.toList q) ⟨[.rf 0 0, mkS tok, mkI .i64 c, mkI .i64 now] ++ List.replicate (Tryd.f15.ntmps - 4) .jk, [tbo la mo le, fob l, .gh [.rf 0 0]]⟩) = (
  bcase (decide (c < (0 : Int))) (
   q (AV.tp [mkI .i64 0, mkI .i64 0, mkI .i64 1]) [Ob.box [AV.mp 1, mkI .i64 la, mkI .i64 mo, mkI .i64 le], Ob.bun (famR (FamD.mk (KK.int IntKind.i64) (Shp.box SK) l)), Ob.gh [AV.rf 0 0]]) (
   bcase (decide (now < (0 : Int))) (
    q (AV.tp [mkI .i64 0, mkI .i64 0, mkI .i64 1]) [Ob.box [AV.mp 1, mkI .i64 la, mkI .i64 mo, mkI .i64 le], Ob.bun (famR (FamD.mk (KK.int IntKind.i64) (Shp.box SK) l)), Ob.gh [AV.rf 0 0]]) (
    bcase (decide (now > (1099511627776 : Int))) (
     q (AV.tp [mkI .i64 0, mkI .i64 0, mkI .i64 1]) [Ob.box [AV.mp 1, mkI .i64 la, mkI .i64 mo, mkI .i64 le], Ob.bun (famR (FamD.mk (KK.int IntKind.i64) (Shp.box SK) l)), Ob.gh [AV.rf 0 0]]) (
     ∃ (l_1 : FLs),
     ∃ (la_1 : Int),
     ∃ (mo_1 : Int),
     ∃ (le_1 : Int),
     ∃ (c_1 : ByteArray),
     ([AV.rf 0 0, mkS tok] = [AV.rf 0 0, mkS c_1]) ∧
     ([Ob.box [AV.mp (0 + 1), mkI .i64 la, mkI .i64 mo, mkI .i64 le], Ob.bun (famR (FamD.mk (KK.int IntKind.i64) (Shp.box SK) l)), Ob.gh [AV.rf 0 0]] = [Ob.box [AV.mp 1, mkI .i64 la_1, mkI .i64 mo_1, mkI .i64 le_1], Ob.bun (famR (FamD.mk (KK.int IntKind.i64) (Shp.box SK) l_1)), Ob.gh [AV.rf 0 0]]) ∧
     (TabOk l_1) ∧
     (∀ (k : Key), ∀ (b : Nat), ∀ (r : Rec), ((firstE (pWi c_1) l_1) = (Option.some (k, (b, r)))) → ((Option.some (Ob.gh [AV.rf 0 0])) = (Option.some (Ob.gh [AV.rf 0 0]))) ∧ (∃ (r_1 : Rec), ((recF b l_1) = (Option.some r_1)) ∧ (bcase ((r_1.i (((((0 : Nat) + (1 : Nat)) + (1 : Nat)) + (1 : Nat)) + (1 : Nat))) == (-(1 : Int))) (∃ (r_2 : Rec), ((recF b l_1) = (Option.some r_2)) ∧ (bcase (decide ((r_2.i ((((((0 : Nat) + (1 : Nat)) + (1 : Nat)) + (1 : Nat)) + (1 : Nat)) + (1 : Nat))) ≤ now)) (q (AV.tp [mkI .i64 0, mkI .i64 0, mkI .i64 7]) [Ob.box [AV.mp (if 1 < 2 then 1 else 4 + (1 - 2)), mkI .i64 la_1, mkI .i64 mo_1, mkI .i64 le_1], Ob.bun (famR (FamD.mk (KK.int IntKind.i64) (Shp.box SK) l_1)), Ob.gh [AV.rf 0 0], Ob.gone, Ob.gone, Ob.gone, Ob.gone]) (∃ (l_2 : FLs), ∃ (la_2 : Int), ∃ (mo_2 : Int), ∃ (le_2 : Int), ∃ (c_2 : Int), ([AV.rf 0 0, mkI .i64 c] = [AV.rf 0 0, mkI .i64 c_2]) ∧ (([Ob.box [AV.mp (0 + 1), mkI .i64 la_1, mkI .i64 mo_1, mkI .i64 le_1], Ob.bun (famR (FamD.mk (KK.int IntKind.i64) (Shp.box SK) l_1)), Ob.gh [AV.rf 0 0]] = [Ob.box [AV.mp 1, mkI .i64 la_2, mkI .i64 mo_2, mkI .i64 le_2], Ob.bun (famR (FamD.mk (KK.int IntKind.i64) (Shp.box SK) l_2)), Ob.gh [AV.rf 0 0]]) ∧ ((TabOk l_2) ∧ ((∀ (k_1 : Key), ∀ (b_1 : Nat), ∀ (r_3 : Rec), ((firstE (pOn c_2) l_2) = (Option.some (k_1, (b_1, r_3)))) → ((Option.some (Ob.gh [AV.rf 0 0])) = (Option.some (Ob.gh [AV.rf 0 0]))) ∧ (q (AV.tp [mkI .i64 0, mkI .i64 0, mkI .i64 8]) [Ob.box [AV.mp (if 1 < 2 then 1 else 8 + (1 - 2)), mkI .i64 la_2, mkI .i64 mo_2, mkI .i64 le_2], Ob.bun (famR (FamD.mk (KK.int IntKind.i64) (Shp.box SK) l_2)), Ob.gh [AV.rf 0 0], Ob.gone, Ob.gone, Ob.gone, Ob.gone, Ob.gone, Ob.gone])) ∧ (((firstE (pOn c_2) l_2) = Option.none) → ((Option.some (Ob.gh [AV.rf 0 0])) = (Option.some (Ob.gh [AV.rf 0 0]))) ∧ (∃ (r_3 : Rec), ((recF b l_2) = (Option.some r_3)) ∧ (∃ (r_4 : Rec), ((recF b l_2) = (Option.some r_4)) ∧ (∃ (r_5 : Rec), ((recF b (putM b (Rec.put r_4 ((0 : Nat) + (4 : Nat)) (mkI .i64 c)) l_2)) = (Option.some r_5)) ∧ (∃ (r_6 : Rec), ((recF b (putM b (Rec.put r_5 ((0 : Nat) + (5 : Nat)) (mkI .i64 0)) (putM b (Rec.put r_4 ((0 : Nat) + (4 : Nat)) (mkI .i64 c)) l_2))) = (Option.some r_6)) ∧ (q (AV.tp [mkI .i64 (r_6.i (0 : Nat)), mkI .i64 (r_3.i (((((0 : Nat) + (1 : Nat)) + (1 : Nat)) + (1 : Nat)) + (1 : Nat))), mkI .i64 0]) [Ob.box [AV.mp (if 1 < 2 then 1 else 8 + (1 - 2)), mkI .i64 la_2, mkI .i64 mo_2, mkI .i64 le_2], Ob.bun (famR (FamD.mk (KK.int IntKind.i64) (Shp.box SK) (putM b (Rec.put r_5 ((0 : Nat) + (5 : Nat)) (mkI .i64 0)) (putM b (Rec.put r_4 ((0 : Nat) + (4 : Nat)) (mkI .i64 c)) l_2)))), Ob.gh [AV.rf 0 0], Ob.gone, Ob.gone, Ob.gone, Ob.gone, Ob.gone, Ob.gone])))))))))))) (∃ (l_2 : FLs), ∃ (la_2 : Int), ∃ (mo_2 : Int), ∃ (le_2 : Int), ∃ (c_2 : Int), ([AV.rf 0 0, mkI .i64 c] = [AV.rf 0 0, mkI .i64 c_2]) ∧ (([Ob.box [AV.mp (0 + 1), mkI .i64 la_1, mkI .i64 mo_1, mkI .i64 le_1], Ob.bun (famR (FamD.mk (KK.int IntKind.i64) (Shp.box SK) l_1)), Ob.gh [AV.rf 0 0]] = [Ob.box [AV.mp 1, mkI .i64 la_2, mkI .i64 mo_2, mkI .i64 le_2], Ob.bun (famR (FamD.mk (KK.int IntKind.i64) (Shp.box SK) l_2)), Ob.gh [AV.rf 0 0]]) ∧ ((TabOk l_2) ∧ ((∀ (k_1 : Key), ∀ (b_1 : Nat), ∀ (r_2 : Rec), ((firstE (pOn c_2) l_2) = (Option.some (k_1, (b_1, r_2)))) → ((Option.some (Ob.gh [AV.rf 0 0])) = (Option.some (Ob.gh [AV.rf 0 0]))) ∧ (q (AV.tp [mkI .i64 0, mkI .i64 0, mkI .i64 8]) [Ob.box [AV.mp (if 1 < 2 then 1 else 8 + (1 - 2)), mkI .i64 la_2, mkI .i64 mo_2, mkI .i64 le_2], Ob.bun (famR (FamD.mk (KK.int IntKind.i64) (Shp.box SK) l_2)), Ob.gh [AV.rf 0 0], Ob.gone, Ob.gone, Ob.gone, Ob.gone, Ob.gone, Ob.gone])) ∧ (((firstE (pOn c_2) l_2) = Option.none) → ((Option.some (Ob.gh [AV.rf 0 0])) = (Option.some (Ob.gh [AV.rf 0 0]))) ∧ (∃ (r_2 : Rec), ((recF b l_2) = (Option.some r_2)) ∧ (∃ (r_3 : Rec), ((recF b l_2) = (Option.some r_3)) ∧ (∃ (r_4 : Rec), ((recF b (putM b (Rec.put r_3 ((0 : Nat) + (4 : Nat)) (mkI .i64 c)) l_2)) = (Option.some r_4)) ∧ (∃ (r_5 : Rec), ((recF b (putM b (Rec.put r_4 ((0 : Nat) + (5 : Nat)) (mkI .i64 0)) (putM b (Rec.put r_3 ((0 : Nat) + (4 : Nat)) (mkI .i64 c)) l_2))) = (Option.some r_5)) ∧ (q (AV.tp [mkI .i64 (r_5.i (0 : Nat)), mkI .i64 (r_2.i (((((0 : Nat) + (1 : Nat)) + (1 : Nat)) + (1 : Nat)) + (1 : Nat))), mkI .i64 0]) [Ob.box [AV.mp (if 1 < 2 then 1 else 8 + (1 - 2)), mkI .i64 la_2, mkI .i64 mo_2, mkI .i64 le_2], Ob.bun (famR (FamD.mk (KK.int IntKind.i64) (Shp.box SK) (putM b (Rec.put r_4 ((0 : Nat) + (5 : Nat)) (mkI .i64 0)) (putM b (Rec.put r_3 ((0 : Nat) + (4 : Nat)) (mkI .i64 c)) l_2)))), Ob.gh [AV.rf 0 0], Ob.gone, Ob.gone, Ob.gone, Ob.gone, Ob.gone, Ob.gone]))))))))))))) ∧ (
      ((firstE (pWi c_1) l_1) = Option.none) →
      ((Option.some (Ob.gh [AV.rf 0 0])) = (Option.some (Ob.gh [AV.rf 0 0]))) ∧
      q (AV.tp [mkI .i64 0, mkI .i64 0, mkI .i64 7]) [Ob.box [AV.mp (if 1 < 2 then 1 else 4 + (1 - 2)), mkI .i64 la_1, mkI .i64 mo_1, mkI .i64 le_1], Ob.bun (famR (FamD.mk (KK.int IntKind.i64) (Shp.box SK) l_1)), Ob.gh [AV.rf 0 0], Ob.gone, Ob.gone]))))) := by kernel_rfl
theorem rTEn (l : FLs) (la mo le : Int) (id : Int) (q : AV → List Ob → Prop) :
  (aCode KL GTb Tryd.b21 (kRetF KL Tryd.f21.results.toList q) ⟨[.rf 0 0, mkI .i64 id] ++ List.replicate (Tryd.f21.ntmps - 2) .jk, [tbo la mo le, fob l, .gh [.rf 0 0]]⟩) = (
  bcase (hasF (Key.i IntKind.i64 id) l) (
   ∃ (b : Nat),
   ((blkF (Key.i IntKind.i64 id) l) = (Option.some b)) ∧
   q (mkI .i64 0) [Ob.box [AV.mp 1, mkI .i64 la, mkI .i64 mo, mkI .i64 le], Ob.bun (famR (FamD.mk (KK.int IntKind.i64) (Shp.box SK) (delF (Key.i IntKind.i64 id) l))), Ob.gh [AV.rf 0 0], Ob.gone]) (
   q (mkI .i64 7) [Ob.box [AV.mp 1, mkI .i64 la, mkI .i64 mo, mkI .i64 le], Ob.bun (famR (FamD.mk (KK.int IntKind.i64) (Shp.box SK) l)), Ob.gh [AV.rf 0 0], Ob.gone])) := by kernel_rfl
end Go.Proofs.YtepkbbkfcnejmaaDoor

namespace Go.Proofs.YtepkbbkfcnejmaaDoor
open Go Go.AM Go.RowKit
attribute [local irreducible] aUnr aUnS aCode
abbrev obT (l : FLs) (la mo le : Int) : List Ob := [tbo la mo le, fob l, .gh [.rf 0 0]]
structure TbC (l : FLs) (la mo : Int) : Prop where
  t : Tab l la
  h0 : 0 ≤ la
  h1 : la < 1000
  mo : 0 < mo
theorem TbC.ok {l : FLs} {la mo : Int} (h : TbC l la mo) : TabOk l := h.t.ok h.h0 (by have := h.h1; omega)
theorem blk_no {ky : Key} : ∀ {l : FLs}, (∀ e ∈ l, e.1 ≠ ky) → blkF ky l = none
  | [], _ => rfl
  | x :: l, h => by simp only [blkF]; rw [if_neg (h x (by simp))]; exact blk_no fun e he => h e (by simp [he])
theorem has_yes {l : FLs} (hT : TabOk l) {ky : Key} (h : hasF ky l = true) : ∃ b r, blkF ky l = some b ∧ recF b l = some r ∧ (ky, b, r) ∈ l := by
  unfold hasF at h
  cases hb : blkF ky l with
  | none => rw [hb] at h; cases h
  | some b =>
    obtain ⟨r, hr⟩ := blk_mem hb
    exact ⟨b, r, rfl, rec_mem hT.nd hr, hr⟩
theorem has_no {l : FLs} {ky : Key} (h : hasF ky l = false) : ∀ e ∈ l, e.1 ≠ ky := by
  unfold hasF at h
  cases hb : blkF ky l with
  | none => exact blk_none hb
  | some b => rw [hb] at h; cases h
theorem no_has {l : FLs} {ky : Key} (h : ∀ e ∈ l, e.1 ≠ ky) : hasF ky l = false := by
  unfold hasF; rw [blk_no h]; rfl
theorem first_mem {p : Rec → Bool} {l : FLs} {k : Key} {b : Nat} {r : Rec} (h : firstE p l = some (k, b, r)) : (k, b, r) ∈ l ∧ p r = true := ⟨List.mem_of_find?_eq_some h, by have := List.find?_some h; exact this⟩
theorem vict_mem {u : ByteArray} {l : FLs} {v : Ent3} (h : victE u l = some v) : v ∈ selE u l := by
  unfold victE at h
  split at h
  · rename_i y m e
    cases h
    have : minG y m ∈ slpE (selE u l) := by rw [e]; exact minG_mem m y
    exact (List.mem_filter.1 this).1
  · exact List.mem_of_mem_head? h
def ESr : REnt := fun al o q => ∃ l la mo le u d c, al = [.rf 0 0, mkS u, mkS d, mkI .i64 c] ∧ o = obT l la mo le ∧ TbC l la mo ∧ ∀ a g e l' la', StR mo u d c l la a g e l' la' → q (.tp [mkI .i64 a, mkI .i64 g, mkI .i64 e]) (obT l' la' mo le)
theorem cSr : RSound Tryd.prog 10 ESr := by
  refine ref_gen trimW trimW_ok (code_bsound (c := Tryd.b10) mixed KL_ok gTb) KL_ok Tryd.func10 rfl rfl Tryd.call10 fun al o q ⟨l, la, mo, le, u, d, c, h1, h2, hC, hq⟩ => ?_
  subst h1 h2
  have hT := hC.ok
  have er : ∀ e : Int, e ≠ 0 → ¬ StOk u d c l → q (.tp [mkI .i64 0, mkI .i64 0, mkI .i64 e]) (obT l la mo le) := fun e he hs => hq 0 0 e l la (.inr ⟨hs, he, rfl, rfl⟩)
  have hw : IntKind.wrap .i64 (la + 1) = la + 1 := IntWalk.i64_in _ (by have := hC.h0; have := hC.h1; omega)
  refine cast (rTSr l la mo le u d c (trimW q)).symm ⟨trivial, bcase_mk (fun h => ?_) (fun h => ⟨trivial, bcase_mk (fun h2 => ?_) (fun h2 => bcase_dec (fun h3 => ?_) (fun h3 => ?_))⟩)⟩
  · exact ⟨_, _, weak_packG [some 0, some 1, some 2] rfl, er 1 (by decide) fun hs => by rw [hs.1] at h; cases h⟩
  · exact ⟨_, _, weak_packG [some 0, some 1, some 2] rfl, er 1 (by decide) fun hs => by rw [hs.2.1] at h2; cases h2⟩
  · exact ⟨_, _, weak_packG [some 0, some 1, some 2] rfl, er 1 (by decide) fun hs => by have := hs.2.2.1; omega⟩
  have hu : userB u = true := by simpa using h
  have hd : userB d = true := by simpa using h2
  refine ⟨l, la, mo, le, c, rfl, rfl, hT, fun k b r hf => ⟨rfl, _, _, weak_packG [some 0, some 1, some 2] rfl, er 8 (by decide) fun hs => by rw [hs.2.2.2] at hf; cases hf⟩, fun hf => ⟨rfl, l, la, mo, le, u, rfl, rfl, hT, hC.mo, fun hlt => ⟨rfl, ?_⟩, fun hge k b r hv => ⟨rfl, r, ?_⟩⟩⟩
  · rw [hw]
    refine ⟨no_has fun e he hk => ?_, fun b hb => ⟨_, _, weak_packG [some 0, some 1, some 2] rfl, hq _ _ _ _ _ (.inl ⟨⟨hu, hd, by omega, hf⟩, rfl, rfl, rfl, l, b, _, .inl ⟨hlt, rfl, rfl⟩, hb, ⟨rfl, rfl, rfl, rfl, rfl, rfl⟩, rfl⟩)⟩⟩
    have h5 := (hC.t.key e he).2.2
    rw [hk] at h5
    simp only [keyI] at h5
    omega
  · have hm := (List.mem_filter.1 (vict_mem hv)).1
    rw [hw]
    refine ⟨rec_mem hT.nd hm, no_has fun e he hk => ?_, fun b' hb => ⟨_, _, weak_packG [some 0, some 1, some 2] rfl, hq _ _ _ _ _ (.inl ⟨⟨hu, hd, by omega, hf⟩, rfl, rfl, rfl, _, b', _, .inr ⟨hge, _, hv, rfl, rfl⟩, hb, ⟨rfl, rfl, rfl, rfl, rfl, rfl⟩, rfl⟩)⟩⟩
    have h5 := (hC.t.key e ((del_sub _ _).subset he)).2.2
    rw [hk] at h5
    simp only [keyI] at h5
    omega
def EGi : REnt := fun al o q => ∃ l la mo le id tok, al = [.rf 0 0, mkI .i64 id, mkS tok] ∧ o = obT l la mo le ∧ TbC l la mo ∧ ∀ e l', GvR id tok l e l' → q (mkI .i64 e) (obT l' la mo le)
theorem cGi : RSound Tryd.prog 11 EGi := by
  refine ref_gen trimW trimW_ok (code_bsound (c := Tryd.b11) mixed KL_ok gTb) KL_ok Tryd.func11 rfl rfl Tryd.call11 fun al o q ⟨l, la, mo, le, id, tok, h1, h2, hC, hq⟩ => ?_
  subst h1 h2
  have hT := hC.ok
  have er : ∀ e : Int, e ≠ 0 → (∀ b r, ¬ GvOk id tok l b r) → q (mkI .i64 e) (obT l la mo le) := fun e he hs => hq e l (.inr ⟨he, rfl, hs⟩)
  refine cast (rTGi l la mo le id tok (trimW q)).symm (bcase_mk (fun h => ?_) (fun h => ?_))
  · obtain ⟨b, r, hb, hr, hm⟩ := has_yes hT h
    have un : ∀ b' r', GvOk id tok l b' r' → b' = b ∧ r' = r := fun b' r' hg => by have := hT.uni hm _ hg.1 rfl; cases this; exact ⟨rfl, rfl⟩
    refine ⟨b, hb, r, hr, bcase_mk (fun g => ?_) (fun g => ⟨r, hr, bcase_mk (fun g2 => ?_) (fun g2 => ⟨l, la, mo, le, tok, rfl, rfl, hT, fun k b1 r1 hf => ⟨rfl, ?_⟩, fun hf => ⟨rfl, bcase_dec (fun g3 => ?_) (fun g3 => ⟨r, hr, ?_⟩)⟩⟩)⟩)⟩
    · refine ⟨_, _, weak_packG [some 0, some 1, some 2] rfl, er 11 (by decide) fun b' r' hg => ?_⟩
      obtain ⟨rfl, rfl⟩ := un b' r' hg
      have := hg.2.1
      simp only [this] at g
      simp at g
    · refine ⟨_, _, weak_packG [some 0, some 1, some 2] rfl, er 11 (by decide) fun b' r' hg => ?_⟩
      obtain ⟨rfl, rfl⟩ := un b' r' hg
      exact hg.2.2.1 (by simpa using g2)
    · exact ⟨_, _, weak_packG [some 0, some 1, some 2] rfl, er 8 (by decide) fun b' r' hg => by rw [hg.2.2.2.1] at hf; cases hf⟩
    · exact ⟨_, _, weak_packG [some 0, some 1, some 2] rfl, er 1 (by decide) fun b' r' hg => hg.2.2.2.2 g3⟩
    · exact ⟨_, _, weak_packG [some 0, some 1, some 2] rfl, hq _ _ (.inl ⟨b, r, ⟨hm, by simpa using g, by simpa using g2, hf, g3⟩, rfl, rfl⟩)⟩
  · exact ⟨_, _, weak_packG [some 0, some 1, some 2] rfl, er 7 (by decide) fun b' r' hg => has_no h _ hg.1 rfl⟩
def ELo : REnt := fun al o q => ∃ l la mo le id now, al = [.rf 0 0, mkI .i64 id, mkI .i64 now] ∧ o = obT l la mo le ∧ TbC l la mo ∧ (0 ≤ le ∧ le ≤ 1000) ∧ ∀ z e l', LoR le id now l z e l' → q (.tp [mkB z, mkI .i64 e]) (obT l' la mo le)
theorem cLo : RSound Tryd.prog 12 ELo := by
  refine ref_gen trimW trimW_ok (code_bsound (c := Tryd.b12) mixed KL_ok gTb) KL_ok Tryd.func12 rfl rfl Tryd.call12 fun al o q ⟨l, la, mo, le, id, now, h1, h2, hC, hle, hq⟩ => ?_
  subst h1 h2
  have hT := hC.ok
  have er : ∀ e : Int, e ≠ 0 → (∀ b r, ¬ LoOk id now l b r) → q (.tp [mkB false, mkI .i64 e]) (obT l la mo le) := fun e he hs => hq false e l (.inr ⟨he, rfl, hs⟩)
  refine cast (rTLo l la mo le id now (trimW q)).symm (bcase_mk (fun h => ?_) (fun h => ?_))
  · obtain ⟨b, r, hb, hr, hm⟩ := has_yes hT h
    have un : ∀ b' r', LoOk id now l b' r' → b' = b ∧ r' = r := fun b' r' hg => by have := hT.uni hm _ hg.1 rfl; cases this; exact ⟨rfl, rfl⟩
    refine ⟨b, hb, r, hr, bcase_mk (fun g => ?_) (fun g => bcase_dec (fun g2 => ?_) (fun g2 => bcase_dec (fun g3 => ?_) (fun g3 => ⟨r, hr, bcase_dec (fun g4 => ?_) (fun g4 => ⟨r, hr, r.put 4 (mkI .i64 (-1)), rec_put hr, ?_⟩)⟩)))⟩
    · refine ⟨_, _, weak_packG [some 0, some 1, some 2] rfl, er 11 (by decide) fun b' r' hg => ?_⟩
      obtain ⟨rfl, rfl⟩ := un b' r' hg
      exact hg.2.1 (by simpa using g)
    · exact ⟨_, _, weak_packG [some 0, some 1, some 2] rfl, er 1 (by decide) fun b' r' hg => by have := hg.2.2.1; omega⟩
    · exact ⟨_, _, weak_packG [some 0, some 1, some 2] rfl, er 1 (by decide) fun b' r' hg => by have := hg.2.2.2; omega⟩
    · exact ⟨_, _, weak_packG [some 0, some 1, some 2] rfl, hq _ _ _ (.inl ⟨b, r, ⟨hm, by simpa using g, by omega, by omega⟩, rfl, .inl ⟨g4, rfl, rfl⟩⟩)⟩
    · have hw : IntKind.wrap .i64 (now + le) = now + le := IntWalk.i64_in _ (by omega)
      rw [hw]
      exact ⟨_, _, weak_packG [some 0, some 1, some 2] rfl, hq _ _ _ (.inl ⟨b, r, ⟨hm, by simpa using g, by omega, by omega⟩, rfl, .inr ⟨g4, rfl, put_put l⟩⟩)⟩
  · exact ⟨_, _, weak_packG [some 0, some 1, some 2] rfl, er 7 (by decide) fun b' r' hg => has_no h _ hg.1 rfl⟩
abbrev recA (r : Rec) : AV := .ag [mkI .i64 (r.i 0), mkS (r.s 1), mkS (r.s 2), mkS (r.s 3), mkI .i64 (r.i 4), mkI .i64 (r.i 5)]
abbrev recZ : AV := .ag [mkI .i64 0, mkS ⟨#[]⟩, mkS ⟨#[]⟩, mkS ⟨#[]⟩, mkI .i64 0, mkI .i64 0]
def EGe : REnt := fun al o q => ∃ l la mo le id, al = [.rf 0 0, mkI .i64 id] ∧ o = obT l la mo le ∧ TbC l la mo ∧ (∀ b r, (kI id, b, r) ∈ l → q (.tp [recA r, mkB true]) (obT l la mo le)) ∧ ((∀ e ∈ l, e.1 ≠ kI id) → q (.tp [recZ, mkB false]) (obT l la mo le))
theorem cGe : RSound Tryd.prog 13 EGe := by
  refine ref_gen trimW trimW_ok (code_bsound (c := Tryd.b13) mixed KL_ok gTb) KL_ok Tryd.func13 rfl rfl Tryd.call13 fun al o q ⟨l, la, mo, le, id, h1, h2, hC, hq1, hq2⟩ => ?_
  subst h1 h2
  refine cast (rTGe l la mo le id (trimW q)).symm (bcase_mk (fun h => ?_) (fun h => ?_))
  · obtain ⟨b, r, hb, hr, hm⟩ := has_yes hC.ok h
    exact ⟨b, hb, r, hr, _, _, weak_packG [some 0, some 1, some 2] rfl, hq1 b r hm⟩
  · exact ⟨_, _, weak_packG [some 0, some 1, some 2] rfl, hq2 (has_no h)⟩
def ERe : REnt := fun al o q => ∃ l la mo le tok c now, al = [.rf 0 0, mkS tok, mkI .i64 c, mkI .i64 now] ∧ o = obT l la mo le ∧ TbC l la mo ∧ ∀ a z e l', RsR tok c now l a z e l' → q (.tp [mkI .i64 a, mkI .i64 z, mkI .i64 e]) (obT l' la mo le)
theorem cRe : RSound Tryd.prog 15 ERe := by
  refine ref_gen trimW trimW_ok (code_bsound (c := Tryd.b15) mixed KL_ok gTb) KL_ok Tryd.func15 rfl rfl Tryd.call15 fun al o q ⟨l, la, mo, le, tok, c, now, h1, h2, hC, hq⟩ => ?_
  subst h1 h2
  have hT := hC.ok
  have er : ∀ e : Int, e ≠ 0 → q (.tp [mkI .i64 0, mkI .i64 0, mkI .i64 e]) (obT l la mo le) := fun e he => hq 0 0 e l (.inr ⟨he, rfl⟩)
  refine cast (rTRe l la mo le tok c now (trimW q)).symm (bcase_dec (fun g => ?_) (fun g => bcase_dec (fun g2 => ?_) (fun g2 => bcase_dec (fun g3 => ?_) (fun g3 => ⟨l, la, mo, le, tok, rfl, rfl, hT, fun k b r hf => ⟨rfl, r, ?_⟩, fun hf => ⟨rfl, ?_⟩⟩))))
  · exact ⟨_, _, weak_packG [some 0, some 1, some 2] rfl, er 1 (by decide)⟩
  · exact ⟨_, _, weak_packG [some 0, some 1, some 2] rfl, er 1 (by decide)⟩
  · exact ⟨_, _, weak_packG [some 0, some 1, some 2] rfl, er 1 (by decide)⟩
  · have hm := (first_mem hf).1
    have hr := rec_mem hT.nd hm
    have hr : recF b l = some r := hr
    refine ⟨hr, bcase_mk (fun h => ⟨r, hr, bcase_dec (fun h2 => ?_) (fun h2 => ⟨l, la, mo, le, c, rfl, rfl, hT, fun k1 b1 r1 hf1 => ⟨rfl, ?_⟩, fun hf1 => ⟨rfl, r, hr, r, hr, r.put 4 (mkI .i64 c), rec_put hr, (r.put 4 (mkI .i64 c)).put 5 (mkI .i64 0), rec_put (rec_put hr), ?_⟩⟩)⟩) (fun h => ⟨l, la, mo, le, c, rfl, rfl, hT, fun k1 b1 r1 hf1 => ⟨rfl, ?_⟩, fun hf1 => ⟨rfl, r, hr, r, hr, r.put 4 (mkI .i64 c), rec_put hr, (r.put 4 (mkI .i64 c)).put 5 (mkI .i64 0), rec_put (rec_put hr), ?_⟩⟩)⟩
    · exact ⟨_, _, weak_packG [some 0, some 1, some 2] rfl, er 7 (by decide)⟩
    · exact ⟨_, _, weak_packG [some 0, some 1, some 2] rfl, er 8 (by decide)⟩
    · exact ⟨_, _, weak_packG [some 0, some 1, some 2] rfl, hq _ _ _ _ (.inl ⟨rfl, k, b, r, hf, rfl, rfl, hf1, put_put l⟩)⟩
    · exact ⟨_, _, weak_packG [some 0, some 1, some 2] rfl, er 8 (by decide)⟩
    · exact ⟨_, _, weak_packG [some 0, some 1, some 2] rfl, hq _ _ _ _ (.inl ⟨rfl, k, b, r, hf, rfl, rfl, hf1, put_put l⟩)⟩
  · exact ⟨_, _, weak_packG [some 0, some 1, some 2] rfl, er 7 (by decide)⟩
def EEn : REnt := fun al o q => ∃ l la mo le id, al = [.rf 0 0, mkI .i64 id] ∧ o = obT l la mo le ∧ TbC l la mo ∧ ∀ e l', EnR id l e l' → q (mkI .i64 e) (obT l' la mo le)
theorem cEn : RSound Tryd.prog 21 EEn := by
  refine ref_gen trimW trimW_ok (code_bsound (c := Tryd.b21) mixed KL_ok gTb) KL_ok Tryd.func21 rfl rfl Tryd.call21 fun al o q ⟨l, la, mo, le, id, h1, h2, hC, hq⟩ => ?_
  subst h1 h2
  refine cast (rTEn l la mo le id (trimW q)).symm (bcase_mk (fun h => ?_) (fun h => ?_))
  · obtain ⟨b, r, hb, hr, hm⟩ := has_yes hC.ok h
    exact ⟨b, hb, _, _, weak_packG [some 0, some 1, some 2] rfl, hq _ _ (.inl ⟨rfl, rfl⟩)⟩
  · exact ⟨_, _, weak_packG [some 0, some 1, some 2] rfl, hq _ _ (.inr ⟨by decide, rfl⟩)⟩
end Go.Proofs.YtepkbbkfcnejmaaDoor
