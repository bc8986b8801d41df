import Derived.Test.YthbejheedpdioaaDoorBindAddr
import Derived.Test.YthbejheedpdioaaDoorAmTail
import Derived.Test.YthbejheedpdioaaDoorAmUnr
import Derived.Test.YthbejheedpdioaaDoorCrFam
set_option linter.unusedSimpArgs false
set_option linter.unusedVariables false
namespace Go.Proofs.YthbejheedpdioaaDoor
open Go Go.AM Go.RowKit
set_option maxRecDepth 10000
attribute [local irreducible] aUnr aUnS aCode
abbrev REnt := List AV → List Ob → (AV → List Ob → Prop) → Prop
noncomputable abbrev KC : TypeId → Option TK := runK Tryd.K
theorem KC_ok : KOk Tryd.prog KC := runK_ok Tryd.K_ok
def fobC (l : FLs) : Ob := .bun (famR ⟨.str, .map .str, l⟩)
def cbo : Ob := .box [.mp 1]
abbrev obC (l : FLs) : List Ob := [cbo, fobC l, .gh [.rf 0 0]]
abbrev rawM (b : Nat) : AV := .d (.v (.map (some b)))
def ECnt : REnt := fun al o q => ∃ l, al = [.rf 0 0] ∧ o = obC l ∧ CrOk l ∧ cntL l ≤ 1000 ∧ q (mkI .i64 (cntL l : Int)) (obC l)
noncomputable abbrev GSh : List (FuncId × En) := [(23, .det F25)]
theorem gSh : GSound Tryd.prog GSh := gsound_det c25 gsound_nil
theorem rSh (l : FLs) (x : ByteArray) (q : AV → List Ob → Prop) :
  (aCode KC GSh Tryd.b11 (kRetF KC Tryd.f11.results.toList q) ⟨[.rf 0 0, mkS x] ++ List.replicate (Tryd.f11.ntmps - 2) .jk, obC l⟩) = (
  ((ByteArray.size x) ≤ LIM) ∧
  bcase (hasF (Key.s (cutU x)) l) (
   ∃ (b : Nat),
   ((blkF (Key.s (cutU x)) l) = (Option.some b)) ∧
   ((mkS ⟨#[]⟩) = (mkS ⟨#[]⟩)) ∧ (
    ∃ (r : Rec),
    ((recF b l) = (Option.some r)) ∧
    q (AV.tp [mkS (getS (Key.s (cutD x)) r.m), mkB (hasK (Key.s (cutD x)) r.m)]) [Ob.box [AV.mp 1], Ob.bun (famR (FamD.mk KK.str (Shp.map KK.str) l)), Ob.gh [AV.rf 0 0]])) (
   q (AV.tp [mkS ⟨#[]⟩, mkB false]) [Ob.box [AV.mp 1], Ob.bun (famR (FamD.mk KK.str (Shp.map KK.str) l)), Ob.gh [AV.rf 0 0]])) := by kernel_rfl
theorem rLv (l : FLs) (u d : ByteArray) (q : AV → List Ob → Prop) :
  (aCode KC [] Tryd.b24 (kRetF KC Tryd.f24.results.toList q) ⟨[.rf 0 0, mkS u, mkS d] ++ List.replicate (Tryd.f24.ntmps - 3) .jk, obC l⟩) = (
  bcase (decide (d = ⟨#[]⟩)) (
   bcase (hasF (Key.s u) l) (
    ∃ (b : Nat),
    ((blkF (Key.s u) l) = (Option.some b)) ∧ (
     ∃ (r : Rec),
     ((recF b l) = (Option.some r)) ∧
     bcase (hasF (Key.s u) (putM b (Rec.mk r.i r.s []) l)) (
      ∃ (b_1 : Nat),
      ((blkF (Key.s u) (putM b (Rec.mk r.i r.s []) l)) = (Option.some b_1)) ∧ (
       ∃ (r_1 : Rec),
       ((recF b_1 (putM b (Rec.mk r.i r.s []) l)) = (Option.some r_1)) ∧
       bcase (hasF (Key.s u) (putM b_1 (Rec.mk r_1.i r_1.s (delKeyA (Key.s d) r_1.m)) (putM b (Rec.mk r.i r.s []) l))) (
        ∃ (b_2 : Nat),
        ((blkF (Key.s u) (putM b_1 (Rec.mk r_1.i r_1.s (delKeyA (Key.s d) r_1.m)) (putM b (Rec.mk r.i r.s []) l))) = (Option.some b_2)) ∧ (
         ∃ (r_2 : Rec),
         ((recF b_2 (putM b_1 (Rec.mk r_1.i r_1.s (delKeyA (Key.s d) r_1.m)) (putM b (Rec.mk r.i r.s []) l))) = (Option.some r_2)) ∧
         bcase (((List.length r_2.m) : Int) == (0 : Int)) (
          q (AV.tp []) [Ob.box [AV.mp 1], Ob.bun (famR (FamD.mk KK.str (Shp.map KK.str) (delF (Key.s u) (putM b_1 (Rec.mk r_1.i r_1.s (delKeyA (Key.s d) r_1.m)) (putM b (Rec.mk r.i r.s []) l))))), Ob.gh [AV.rf 0 0]]) (
          q (AV.tp []) [Ob.box [AV.mp 1], Ob.bun (famR (FamD.mk KK.str (Shp.map KK.str) (putM b_1 (Rec.mk r_1.i r_1.s (delKeyA (Key.s d) r_1.m)) (putM b (Rec.mk r.i r.s []) l)))), Ob.gh [AV.rf 0 0]]))) (
        q (AV.tp []) [Ob.box [AV.mp 1], Ob.bun (famR (FamD.mk KK.str (Shp.map KK.str) (delF (Key.s u) (putM b_1 (Rec.mk r_1.i r_1.s (delKeyA (Key.s d) r_1.m)) (putM b (Rec.mk r.i r.s []) l))))), Ob.gh [AV.rf 0 0]]))) (
      bcase (hasF (Key.s u) (putM b (Rec.mk r.i r.s []) l)) (
       ∃ (b_1 : Nat),
       ((blkF (Key.s u) (putM b (Rec.mk r.i r.s []) l)) = (Option.some b_1)) ∧ (
        ∃ (r_1 : Rec),
        ((recF b_1 (putM b (Rec.mk r.i r.s []) l)) = (Option.some r_1)) ∧
        bcase (((List.length r_1.m) : Int) == (0 : Int)) (
         q (AV.tp []) [Ob.box [AV.mp 1], Ob.bun (famR (FamD.mk KK.str (Shp.map KK.str) (delF (Key.s u) (putM b (Rec.mk r.i r.s []) l)))), Ob.gh [AV.rf 0 0]]) (
         q (AV.tp []) [Ob.box [AV.mp 1], Ob.bun (famR (FamD.mk KK.str (Shp.map KK.str) (putM b (Rec.mk r.i r.s []) l))), Ob.gh [AV.rf 0 0]]))) (
       q (AV.tp []) [Ob.box [AV.mp 1], Ob.bun (famR (FamD.mk KK.str (Shp.map KK.str) (delF (Key.s u) (putM b (Rec.mk r.i r.s []) l)))), Ob.gh [AV.rf 0 0]])))) (
    bcase (hasF (Key.s u) l) (
     ∃ (b : Nat),
     ((blkF (Key.s u) l) = (Option.some b)) ∧ (
      ∃ (r : Rec),
      ((recF b l) = (Option.some r)) ∧
      bcase (hasF (Key.s u) (putM b (Rec.mk r.i r.s (delKeyA (Key.s d) r.m)) l)) (
       ∃ (b_1 : Nat),
       ((blkF (Key.s u) (putM b (Rec.mk r.i r.s (delKeyA (Key.s d) r.m)) l)) = (Option.some b_1)) ∧ (
        ∃ (r_1 : Rec),
        ((recF b_1 (putM b (Rec.mk r.i r.s (delKeyA (Key.s d) r.m)) l)) = (Option.some r_1)) ∧
        bcase (((List.length r_1.m) : Int) == (0 : Int)) (
         q (AV.tp []) [Ob.box [AV.mp 1], Ob.bun (famR (FamD.mk KK.str (Shp.map KK.str) (delF (Key.s u) (putM b (Rec.mk r.i r.s (delKeyA (Key.s d) r.m)) l)))), Ob.gh [AV.rf 0 0]]) (
         q (AV.tp []) [Ob.box [AV.mp 1], Ob.bun (famR (FamD.mk KK.str (Shp.map KK.str) (putM b (Rec.mk r.i r.s (delKeyA (Key.s d) r.m)) l))), Ob.gh [AV.rf 0 0]]))) (
       q (AV.tp []) [Ob.box [AV.mp 1], Ob.bun (famR (FamD.mk KK.str (Shp.map KK.str) (delF (Key.s u) (putM b (Rec.mk r.i r.s (delKeyA (Key.s d) r.m)) l)))), Ob.gh [AV.rf 0 0]]))) (
     bcase (hasF (Key.s u) l) (
      ∃ (b : Nat),
      ((blkF (Key.s u) l) = (Option.some b)) ∧ (
       ∃ (r : Rec),
       ((recF b l) = (Option.some r)) ∧
       bcase (((List.length r.m) : Int) == (0 : Int)) (
        q (AV.tp []) [Ob.box [AV.mp 1], Ob.bun (famR (FamD.mk KK.str (Shp.map KK.str) (delF (Key.s u) l))), Ob.gh [AV.rf 0 0]]) (
        q (AV.tp []) [Ob.box [AV.mp 1], Ob.bun (famR (FamD.mk KK.str (Shp.map KK.str) l)), Ob.gh [AV.rf 0 0]]))) (
      q (AV.tp []) [Ob.box [AV.mp 1], Ob.bun (famR (FamD.mk KK.str (Shp.map KK.str) (delF (Key.s u) l))), Ob.gh [AV.rf 0 0]])))) (
   bcase (hasF (Key.s u) l) (
    ∃ (b : Nat),
    ((blkF (Key.s u) l) = (Option.some b)) ∧ (
     ∃ (r : Rec),
     ((recF b l) = (Option.some r)) ∧
     bcase (hasF (Key.s u) (putM b (Rec.mk r.i r.s (delKeyA (Key.s d) r.m)) l)) (
      ∃ (b_1 : Nat),
      ((blkF (Key.s u) (putM b (Rec.mk r.i r.s (delKeyA (Key.s d) r.m)) l)) = (Option.some b_1)) ∧ (
       ∃ (r_1 : Rec),
       ((recF b_1 (putM b (Rec.mk r.i r.s (delKeyA (Key.s d) r.m)) l)) = (Option.some r_1)) ∧
       bcase (((List.length r_1.m) : Int) == (0 : Int)) (
        q (AV.tp []) [Ob.box [AV.mp 1], Ob.bun (famR (FamD.mk KK.str (Shp.map KK.str) (delF (Key.s u) (putM b (Rec.mk r.i r.s (delKeyA (Key.s d) r.m)) l)))), Ob.gh [AV.rf 0 0]]) (
        q (AV.tp []) [Ob.box [AV.mp 1], Ob.bun (famR (FamD.mk KK.str (Shp.map KK.str) (putM b (Rec.mk r.i r.s (delKeyA (Key.s d) r.m)) l))), Ob.gh [AV.rf 0 0]]))) (
      q (AV.tp []) [Ob.box [AV.mp 1], Ob.bun (famR (FamD.mk KK.str (Shp.map KK.str) (delF (Key.s u) (putM b (Rec.mk r.i r.s (delKeyA (Key.s d) r.m)) l)))), Ob.gh [AV.rf 0 0]]))) (
    bcase (hasF (Key.s u) l) (
     ∃ (b : Nat),
     ((blkF (Key.s u) l) = (Option.some b)) ∧ (
      ∃ (r : Rec),
      ((recF b l) = (Option.some r)) ∧
      bcase (((List.length r.m) : Int) == (0 : Int)) (
       q (AV.tp []) [Ob.box [AV.mp 1], Ob.bun (famR (FamD.mk KK.str (Shp.map KK.str) (delF (Key.s u) l))), Ob.gh [AV.rf 0 0]]) (
       q (AV.tp []) [Ob.box [AV.mp 1], Ob.bun (famR (FamD.mk KK.str (Shp.map KK.str) l)), Ob.gh [AV.rf 0 0]]))) (
     q (AV.tp []) [Ob.box [AV.mp 1], Ob.bun (famR (FamD.mk KK.str (Shp.map KK.str) (delF (Key.s u) l))), Ob.gh [AV.rf 0 0]])))) := by kernel_rfl
theorem rNw (q : AV → List Ob → Prop) :
  (aCode KC [] Tryd.b9 (kRetF KC Tryd.f9.results.toList q) ⟨[] ++ List.replicate (Tryd.f9.ntmps) .jk, []⟩) = (
  q (AV.rf 1 0) [Ob.map KK.str [], Ob.box [AV.mp 0]]) := by kernel_rfl
end Go.Proofs.YthbejheedpdioaaDoor
