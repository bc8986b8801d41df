import Derived.Test.YtepkbbkfcnejmaaDoorLeLives
import Derived.Test.YtepkbbkfcnejmaaDoorAmBun
set_option linter.unusedSimpArgs false
set_option linter.unusedVariables false
namespace Go.Proofs.YtepkbbkfcnejmaaDoor
open Go Go.AM Go.RowKit
set_option maxRecDepth 10000
attribute [local irreducible] aUnr aUnS aCode
abbrev FLs := List (Key × Nat × Rec)
abbrev SK : List FK := [.int .i64, .str, .str, .str, .int .i64, .int .i64]
def fob (l : FLs) : Ob := .bun (famR ⟨.int .i64, .box SK, l⟩)
def tbo (la mo le : Int) : Ob := .box [.mp 1, mkI .i64 la, mkI .i64 mo, mkI .i64 le]
abbrev rawP (b : Nat) : AV := .d (.v (.pointer (some ⟨b, 0, none⟩)))
abbrev nilP : AV := .d (.v (.pointer none))
abbrev REnt := List AV → List Ob → (AV → List Ob → Prop) → Prop
noncomputable abbrev GA : List (FuncId × En) := inlΓS KL GB tabI 4 8
theorem gA : GSound Tryd.prog GA := inlS_sound mixed KL_ok gB tabI_ok 8
abbrev clo (f : FuncId) : AV := .fn (.func f) [] [.rf 2 0]
def stAl (f : FuncId) (cap : AV) (l : FLs) (la mo le : Int) (i : Int) (es : List (List D)) : S := ⟨[.rf 0 0, clo f, .jk, .jk, .nl, .vw 6 es.length] ++ jks 10 ++ [.d (.sl (intsD (keysF l))), mkI .i64 (intsD (keysF l)).length, mkI .i64 i] ++ jks 18, [tbo la mo le, fob l, .box [cap], .gh [.rf 0 0, .rf 2 0], .gone, .gone, .row 1 es]⟩
noncomputable def rAlOn_k0 (q : AV → (List Ob) → Prop) : Kont := kBlk (0 : Nat) (kSeq (aCode KL GA (cAt [1, 1, 1, 1] Tryd.b29) (kRetF KL (Array.toList (Func.results Tryd.f29)) q)) (kRetF KL (Array.toList (Func.results Tryd.f29)) q))
theorem rAlOn (l : FLs) (la mo le : Int) (c : Int) (q : AV → List Ob → Prop) :
  (aCode KL GA Tryd.b29 (kRetF KL Tryd.f29.results.toList q) ⟨[.rf 0 0, clo 40] ++ List.replicate (Tryd.f29.ntmps - 2) .jk, [tbo la mo le, fob l, .box [mkI .i64 c], .gh [.rf 0 0, .rf 2 0]]⟩) = (
  (IdsOk l) ∧ (
   ((List.length (intsD (keysF l))) ≤ LIM) →
   ALoop (aCode KL GA (cAt [1, 1, 1, 0, 1, 0, 0] Tryd.b29)) (rAlOn_k0 q) ⟨[AV.rf 0 0, AV.fn (Fn.func 40) [] [AV.rf 2 0], AV.jk, AV.jk, AV.nl, AV.nl, AV.jk, AV.jk, AV.jk, AV.rf 0 0, mkB false, AV.rf 0 0, AV.rf 0 0, AV.rf 0 (0 + 0), AV.mp 1, AV.fn (Fn.func 65) [] [AV.rf 5 0], AV.d (.sl (intsD (keysF l))), mkI .i64 ((List.length (intsD (keysF l))) : Int), mkI .i64 0] ++ (jks 18), [Ob.box [AV.mp 1, mkI .i64 la, mkI .i64 mo, mkI .i64 le], Ob.bun (famR (FamD.mk (KK.int IntKind.i64) (Shp.box SK) l)), Ob.box [mkI .i64 c], Ob.gh [AV.rf 0 0, AV.rf 2 0], Ob.gone, Ob.box [AV.mp 1]]⟩)) := by kernel_rfl
theorem rAlOn_b {ι : Type} (st : ι → S) (inv : ι → Prop) (μ : ι → Nat) (kk : ι) (l : FLs) (la mo le : Int) (c : Int) (i : Int) (es : List (List D)) (q : AV → List Ob → Prop) :
  (aCode KL GA (cAt [1, 1, 1, 0, 1, 0, 0] Tryd.b29) (kFamM [] (maskOf (stAl 40 (mkI .i64 c) l la mo le i es)) st inv μ kk (rAlOn_k0 q)) (stAl 40 (mkI .i64 c) l la mo le i es)) = (
  bcase (decide (i < ((List.length (intsD (keysF l))) : Int))) (
   (((0 : Int) ≤ i) ∧ (i < ((List.length (intsD (keysF l))) : Int))) ∧
   ((List.length (List.getD (intsD (keysF l)) (Int.toNat i) [])) = 1) ∧
   ((1 : Nat) ≤ (List.length (List.getD (intsD (keysF l)) (Int.toNat i) []))) ∧
   ((List.getD (List.getD (intsD (keysF l)) (Int.toNat i) []) 0 d0) = (D.v (.int IntKind.i64 (intD (List.getD (List.getD (intsD (keysF l)) (Int.toNat i) []) 0 d0))))) ∧
   bcase (hasF (Key.i IntKind.i64 (intD (List.getD (List.getD (intsD (keysF l)) (Int.toNat i) []) 0 d0))) l) (
    ∃ (b : Nat),
    ((blkF (Key.i IntKind.i64 (intD (List.getD (List.getD (intsD (keysF l)) (Int.toNat i) []) 0 d0))) l) = (Option.some b)) ∧ (
     ∃ (r : Rec),
     ((recF b l) = (Option.some r)) ∧
     bcase ((r.i (((((0 : Nat) + (1 : Nat)) + (1 : Nat)) + (1 : Nat)) + (1 : Nat))) == c) (
      ∃ (r_1 : Rec),
      ((recF b l) = (Option.some r_1)) ∧
      bcase (!((r_1.i (((((0 : Nat) + (1 : Nat)) + (1 : Nat)) + (1 : Nat)) + (1 : Nat))) == (-(1 : Int)))) (
       (∀ (c_1 : List D), (c_1 ∈ [[D.v (.pointer (Option.some (Addr.mk b (0 : Nat) Option.none)))]]) → (List.length c_1) = 1) ∧
       ((List.length es) = (List.length es)) ∧
       (((List.length es) + 1) ≤ LIM) ∧
       FamNext st inv μ kk ⟨[AV.rf 0 0, AV.fn (Fn.func 40) [] [AV.rf 2 0], AV.jk, AV.jk, AV.nl, AV.vw 6 ((List.length es) + 1)] ++ (jks 10 ++ ([AV.d (.sl (intsD (keysF l))), mkI .i64 ((List.length (intsD (keysF l))) : Int), mkI .i64 (IntKind.wrap .i64 (i + (1 : Int)))] ++ (jks 18))), [Ob.box [AV.mp 1, mkI .i64 la, mkI .i64 mo, mkI .i64 le], Ob.bun (famR (FamD.mk (KK.int IntKind.i64) (Shp.box SK) l)), Ob.box [mkI .i64 c], Ob.gh [AV.rf 0 0, AV.rf 2 0], Ob.gone, Ob.gone, Ob.row 1 (es ++ [[D.v (.pointer (Option.some (Addr.mk b (0 : Nat) Option.none)))]]), Ob.gone, Ob.gone, Ob.row 1 [[D.v (.pointer (Option.some (Addr.mk b (0 : Nat) Option.none)))]]]⟩) (
       FamNext st inv μ kk ⟨[AV.rf 0 0, AV.fn (Fn.func 40) [] [AV.rf 2 0], AV.jk, AV.jk, AV.nl, AV.vw 6 (List.length es)] ++ (jks 10 ++ ([AV.d (.sl (intsD (keysF l))), mkI .i64 ((List.length (intsD (keysF l))) : Int), mkI .i64 (IntKind.wrap .i64 (i + (1 : Int)))] ++ (jks 18))), [Ob.box [AV.mp 1, mkI .i64 la, mkI .i64 mo, mkI .i64 le], Ob.bun (famR (FamD.mk (KK.int IntKind.i64) (Shp.box SK) l)), Ob.box [mkI .i64 c], Ob.gh [AV.rf 0 0, AV.rf 2 0], Ob.gone, Ob.gone, Ob.row 1 es, Ob.gone, Ob.gone]⟩)) (
      FamNext st inv μ kk ⟨[AV.rf 0 0, AV.fn (Fn.func 40) [] [AV.rf 2 0], AV.jk, AV.jk, AV.nl, AV.vw 6 (List.length es)] ++ (jks 10 ++ ([AV.d (.sl (intsD (keysF l))), mkI .i64 ((List.length (intsD (keysF l))) : Int), mkI .i64 (IntKind.wrap .i64 (i + (1 : Int)))] ++ (jks 18))), [Ob.box [AV.mp 1, mkI .i64 la, mkI .i64 mo, mkI .i64 le], Ob.bun (famR (FamD.mk (KK.int IntKind.i64) (Shp.box SK) l)), Ob.box [mkI .i64 c], Ob.gh [AV.rf 0 0, AV.rf 2 0], Ob.gone, Ob.gone, Ob.row 1 es, Ob.gone]⟩))) (
    False)) (
   q (AV.vw 6 (List.length es)) [Ob.box [AV.mp 1, mkI .i64 la, mkI .i64 mo, mkI .i64 le], Ob.bun (famR (FamD.mk (KK.int IntKind.i64) (Shp.box SK) l)), Ob.box [mkI .i64 c], Ob.gh [AV.rf 0 0, AV.rf 2 0], Ob.gone, Ob.gone, Ob.row 1 es])) := by kernel_rfl
noncomputable def rAlWi_k0 (q : AV → (List Ob) → Prop) : Kont := kBlk (0 : Nat) (kSeq (aCode KL GA (cAt [1, 1, 1, 1] Tryd.b29) (kRetF KL (Array.toList (Func.results Tryd.f29)) q)) (kRetF KL (Array.toList (Func.results Tryd.f29)) q))
theorem rAlWi (l : FLs) (la mo le : Int) (c : ByteArray) (q : AV → List Ob → Prop) :
  (aCode KL GA Tryd.b29 (kRetF KL Tryd.f29.results.toList q) ⟨[.rf 0 0, clo 46] ++ List.replicate (Tryd.f29.ntmps - 2) .jk, [tbo la mo le, fob l, .box [mkS c], .gh [.rf 0 0, .rf 2 0]]⟩) = (
  (IdsOk l) ∧ (
   ((List.length (intsD (keysF l))) ≤ LIM) →
   ALoop (aCode KL GA (cAt [1, 1, 1, 0, 1, 0, 0] Tryd.b29)) (rAlWi_k0 q) ⟨[AV.rf 0 0, AV.fn (Fn.func 46) [] [AV.rf 2 0], AV.jk, AV.jk, AV.nl, AV.nl, AV.jk, AV.jk, AV.jk, AV.rf 0 0, mkB false, AV.rf 0 0, AV.rf 0 0, AV.rf 0 (0 + 0), AV.mp 1, AV.fn (Fn.func 65) [] [AV.rf 5 0], AV.d (.sl (intsD (keysF l))), mkI .i64 ((List.length (intsD (keysF l))) : Int), mkI .i64 0] ++ (jks 18), [Ob.box [AV.mp 1, mkI .i64 la, mkI .i64 mo, mkI .i64 le], Ob.bun (famR (FamD.mk (KK.int IntKind.i64) (Shp.box SK) l)), Ob.box [mkS c], Ob.gh [AV.rf 0 0, AV.rf 2 0], Ob.gone, Ob.box [AV.mp 1]]⟩)) := by kernel_rfl
theorem rAlWi_b {ι : Type} (st : ι → S) (inv : ι → Prop) (μ : ι → Nat) (kk : ι) (l : FLs) (la mo le : Int) (c : ByteArray) (i : Int) (es : List (List D)) (q : AV → List Ob → Prop) :
  (aCode KL GA (cAt [1, 1, 1, 0, 1, 0, 0] Tryd.b29) (kFamM [] (maskOf (stAl 46 (mkS c) l la mo le i es)) st inv μ kk (rAlWi_k0 q)) (stAl 46 (mkS c) l la mo le i es)) = (
  bcase (decide (i < ((List.length (intsD (keysF l))) : Int))) (
   (((0 : Int) ≤ i) ∧ (i < ((List.length (intsD (keysF l))) : Int))) ∧
   ((List.length (List.getD (intsD (keysF l)) (Int.toNat i) [])) = 1) ∧
   ((1 : Nat) ≤ (List.length (List.getD (intsD (keysF l)) (Int.toNat i) []))) ∧
   ((List.getD (List.getD (intsD (keysF l)) (Int.toNat i) []) 0 d0) = (D.v (.int IntKind.i64 (intD (List.getD (List.getD (intsD (keysF l)) (Int.toNat i) []) 0 d0))))) ∧
   bcase (hasF (Key.i IntKind.i64 (intD (List.getD (List.getD (intsD (keysF l)) (Int.toNat i) []) 0 d0))) l) (
    ∃ (b : Nat),
    ((blkF (Key.i IntKind.i64 (intD (List.getD (List.getD (intsD (keysF l)) (Int.toNat i) []) 0 d0))) l) = (Option.some b)) ∧ (
     ∃ (r : Rec),
     ((recF b l) = (Option.some r)) ∧
     bcase (decide ((r.s ((((0 : Nat) + (1 : Nat)) + (1 : Nat)) + (1 : Nat))) = c)) (
      bcase (!(decide (c = ⟨#[]⟩))) (
       (∀ (c_1 : List D), (c_1 ∈ [[D.v (.pointer (Option.some (Addr.mk b (0 : Nat) Option.none)))]]) → (List.length c_1) = 1) ∧
       ((List.length es) = (List.length es)) ∧
       (((List.length es) + 1) ≤ LIM) ∧
       FamNext st inv μ kk ⟨[AV.rf 0 0, AV.fn (Fn.func 46) [] [AV.rf 2 0], AV.jk, AV.jk, AV.nl, AV.vw 6 ((List.length es) + 1)] ++ (jks 10 ++ ([AV.d (.sl (intsD (keysF l))), mkI .i64 ((List.length (intsD (keysF l))) : Int), mkI .i64 (IntKind.wrap .i64 (i + (1 : Int)))] ++ (jks 18))), [Ob.box [AV.mp 1, mkI .i64 la, mkI .i64 mo, mkI .i64 le], Ob.bun (famR (FamD.mk (KK.int IntKind.i64) (Shp.box SK) l)), Ob.box [mkS c], Ob.gh [AV.rf 0 0, AV.rf 2 0], Ob.gone, Ob.gone, Ob.row 1 (es ++ [[D.v (.pointer (Option.some (Addr.mk b (0 : Nat) Option.none)))]]), Ob.gone, Ob.row 1 [[D.v (.pointer (Option.some (Addr.mk b (0 : Nat) Option.none)))]]]⟩) (
       FamNext st inv μ kk ⟨[AV.rf 0 0, AV.fn (Fn.func 46) [] [AV.rf 2 0], AV.jk, AV.jk, AV.nl, AV.vw 6 (List.length es)] ++ (jks 10 ++ ([AV.d (.sl (intsD (keysF l))), mkI .i64 ((List.length (intsD (keysF l))) : Int), mkI .i64 (IntKind.wrap .i64 (i + (1 : Int)))] ++ (jks 18))), [Ob.box [AV.mp 1, mkI .i64 la, mkI .i64 mo, mkI .i64 le], Ob.bun (famR (FamD.mk (KK.int IntKind.i64) (Shp.box SK) l)), Ob.box [mkS c], Ob.gh [AV.rf 0 0, AV.rf 2 0], Ob.gone, Ob.gone, Ob.row 1 es, Ob.gone]⟩)) (
      FamNext st inv μ kk ⟨[AV.rf 0 0, AV.fn (Fn.func 46) [] [AV.rf 2 0], AV.jk, AV.jk, AV.nl, AV.vw 6 (List.length es)] ++ (jks 10 ++ ([AV.d (.sl (intsD (keysF l))), mkI .i64 ((List.length (intsD (keysF l))) : Int), mkI .i64 (IntKind.wrap .i64 (i + (1 : Int)))] ++ (jks 18))), [Ob.box [AV.mp 1, mkI .i64 la, mkI .i64 mo, mkI .i64 le], Ob.bun (famR (FamD.mk (KK.int IntKind.i64) (Shp.box SK) l)), Ob.box [mkS c], Ob.gh [AV.rf 0 0, AV.rf 2 0], Ob.gone, Ob.gone, Ob.row 1 es, Ob.gone]⟩))) (
    False)) (
   q (AV.vw 6 (List.length es)) [Ob.box [AV.mp 1, mkI .i64 la, mkI .i64 mo, mkI .i64 le], Ob.bun (famR (FamD.mk (KK.int IntKind.i64) (Shp.box SK) l)), Ob.box [mkS c], Ob.gh [AV.rf 0 0, AV.rf 2 0], Ob.gone, Ob.gone, Ob.row 1 es])) := by kernel_rfl
noncomputable def rAlVi_k0 (q : AV → (List Ob) → Prop) : Kont := kBlk (0 : Nat) (kSeq (aCode KL GA (cAt [1, 1, 1, 1] Tryd.b29) (kRetF KL (Array.toList (Func.results Tryd.f29)) q)) (kRetF KL (Array.toList (Func.results Tryd.f29)) q))
theorem rAlVi (l : FLs) (la mo le : Int) (c : ByteArray) (q : AV → List Ob → Prop) :
  (aCode KL GA Tryd.b29 (kRetF KL Tryd.f29.results.toList q) ⟨[.rf 0 0, clo 41] ++ List.replicate (Tryd.f29.ntmps - 2) .jk, [tbo la mo le, fob l, .box [mkS c], .gh [.rf 0 0, .rf 2 0]]⟩) = (
  (IdsOk l) ∧ (
   ((List.length (intsD (keysF l))) ≤ LIM) →
   ALoop (aCode KL GA (cAt [1, 1, 1, 0, 1, 0, 0] Tryd.b29)) (rAlVi_k0 q) ⟨[AV.rf 0 0, AV.fn (Fn.func 41) [] [AV.rf 2 0], AV.jk, AV.jk, AV.nl, AV.nl, AV.jk, AV.jk, AV.jk, AV.rf 0 0, mkB false, AV.rf 0 0, AV.rf 0 0, AV.rf 0 (0 + 0), AV.mp 1, AV.fn (Fn.func 65) [] [AV.rf 5 0], AV.d (.sl (intsD (keysF l))), mkI .i64 ((List.length (intsD (keysF l))) : Int), mkI .i64 0] ++ (jks 18), [Ob.box [AV.mp 1, mkI .i64 la, mkI .i64 mo, mkI .i64 le], Ob.bun (famR (FamD.mk (KK.int IntKind.i64) (Shp.box SK) l)), Ob.box [mkS c], Ob.gh [AV.rf 0 0, AV.rf 2 0], Ob.gone, Ob.box [AV.mp 1]]⟩)) := by kernel_rfl
theorem rAlVi_b {ι : Type} (st : ι → S) (inv : ι → Prop) (μ : ι → Nat) (kk : ι) (l : FLs) (la mo le : Int) (c : ByteArray) (i : Int) (es : List (List D)) (q : AV → List Ob → Prop) :
  (aCode KL GA (cAt [1, 1, 1, 0, 1, 0, 0] Tryd.b29) (kFamM [] (maskOf (stAl 41 (mkS c) l la mo le i es)) st inv μ kk (rAlVi_k0 q)) (stAl 41 (mkS c) l la mo le i es)) = (
  bcase (decide (i < ((List.length (intsD (keysF l))) : Int))) (
   (((0 : Int) ≤ i) ∧ (i < ((List.length (intsD (keysF l))) : Int))) ∧
   ((List.length (List.getD (intsD (keysF l)) (Int.toNat i) [])) = 1) ∧
   ((1 : Nat) ≤ (List.length (List.getD (intsD (keysF l)) (Int.toNat i) []))) ∧
   ((List.getD (List.getD (intsD (keysF l)) (Int.toNat i) []) 0 d0) = (D.v (.int IntKind.i64 (intD (List.getD (List.getD (intsD (keysF l)) (Int.toNat i) []) 0 d0))))) ∧
   bcase (hasF (Key.i IntKind.i64 (intD (List.getD (List.getD (intsD (keysF l)) (Int.toNat i) []) 0 d0))) l) (
    ∃ (b : Nat),
    ((blkF (Key.i IntKind.i64 (intD (List.getD (List.getD (intsD (keysF l)) (Int.toNat i) []) 0 d0))) l) = (Option.some b)) ∧ (
     ∃ (r : Rec),
     ((recF b l) = (Option.some r)) ∧
     bcase (decide ((r.s ((0 : Nat) + (1 : Nat))) = c)) (
      (∀ (c_1 : List D), (c_1 ∈ [[D.v (.pointer (Option.some (Addr.mk b (0 : Nat) Option.none)))]]) → (List.length c_1) = 1) ∧
      ((List.length es) = (List.length es)) ∧
      (((List.length es) + 1) ≤ LIM) ∧
      FamNext st inv μ kk ⟨[AV.rf 0 0, AV.fn (Fn.func 41) [] [AV.rf 2 0], AV.jk, AV.jk, AV.nl, AV.vw 6 ((List.length es) + 1)] ++ (jks 10 ++ ([AV.d (.sl (intsD (keysF l))), mkI .i64 ((List.length (intsD (keysF l))) : Int), mkI .i64 (IntKind.wrap .i64 (i + (1 : Int)))] ++ (jks 18))), [Ob.box [AV.mp 1, mkI .i64 la, mkI .i64 mo, mkI .i64 le], Ob.bun (famR (FamD.mk (KK.int IntKind.i64) (Shp.box SK) l)), Ob.box [mkS c], Ob.gh [AV.rf 0 0, AV.rf 2 0], Ob.gone, Ob.gone, Ob.row 1 (es ++ [[D.v (.pointer (Option.some (Addr.mk b (0 : Nat) Option.none)))]]), Ob.gone, Ob.row 1 [[D.v (.pointer (Option.some (Addr.mk b (0 : Nat) Option.none)))]]]⟩) (
      FamNext st inv μ kk ⟨[AV.rf 0 0, AV.fn (Fn.func 41) [] [AV.rf 2 0], AV.jk, AV.jk, AV.nl, AV.vw 6 (List.length es)] ++ (jks 10 ++ ([AV.d (.sl (intsD (keysF l))), mkI .i64 ((List.length (intsD (keysF l))) : Int), mkI .i64 (IntKind.wrap .i64 (i + (1 : Int)))] ++ (jks 18))), [Ob.box [AV.mp 1, mkI .i64 la, mkI .i64 mo, mkI .i64 le], Ob.bun (famR (FamD.mk (KK.int IntKind.i64) (Shp.box SK) l)), Ob.box [mkS c], Ob.gh [AV.rf 0 0, AV.rf 2 0], Ob.gone, Ob.gone, Ob.row 1 es, Ob.gone]⟩))) (
    False)) (
   q (AV.vw 6 (List.length es)) [Ob.box [AV.mp 1, mkI .i64 la, mkI .i64 mo, mkI .i64 le], Ob.bun (famR (FamD.mk (KK.int IntKind.i64) (Shp.box SK) l)), Ob.box [mkS c], Ob.gh [AV.rf 0 0, AV.rf 2 0], Ob.gone, Ob.gone, Ob.row 1 es])) := by kernel_rfl
noncomputable def rAlLa_k0 (q : AV → (List Ob) → Prop) : Kont := kBlk (0 : Nat) (kSeq (aCode KL GA (cAt [1, 1, 1, 1] Tryd.b29) (kRetF KL (Array.toList (Func.results Tryd.f29)) q)) (kRetF KL (Array.toList (Func.results Tryd.f29)) q))
theorem rAlLa (l : FLs) (la mo le : Int) (c : Int) (q : AV → List Ob → Prop) :
  (aCode KL GA Tryd.b29 (kRetF KL Tryd.f29.results.toList q) ⟨[.rf 0 0, clo 32] ++ List.replicate (Tryd.f29.ntmps - 2) .jk, [tbo la mo le, fob l, .box [mkI .i64 c], .gh [.rf 0 0, .rf 2 0]]⟩) = (
  (IdsOk l) ∧ (
   ((List.length (intsD (keysF l))) ≤ LIM) →
   ALoop (aCode KL GA (cAt [1, 1, 1, 0, 1, 0, 0] Tryd.b29)) (rAlLa_k0 q) ⟨[AV.rf 0 0, AV.fn (Fn.func 32) [] [AV.rf 2 0], AV.jk, AV.jk, AV.nl, AV.nl, AV.jk, AV.jk, AV.jk, AV.rf 0 0, mkB false, AV.rf 0 0, AV.rf 0 0, AV.rf 0 (0 + 0), AV.mp 1, AV.fn (Fn.func 65) [] [AV.rf 5 0], AV.d (.sl (intsD (keysF l))), mkI .i64 ((List.length (intsD (keysF l))) : Int), mkI .i64 0] ++ (jks 18), [Ob.box [AV.mp 1, mkI .i64 la, mkI .i64 mo, mkI .i64 le], Ob.bun (famR (FamD.mk (KK.int IntKind.i64) (Shp.box SK) l)), Ob.box [mkI .i64 c], Ob.gh [AV.rf 0 0, AV.rf 2 0], Ob.gone, Ob.box [AV.mp 1]]⟩)) := by kernel_rfl
theorem rAlLa_b {ι : Type} (st : ι → S) (inv : ι → Prop) (μ : ι → Nat) (kk : ι) (l : FLs) (la mo le : Int) (c : Int) (i : Int) (es : List (List D)) (q : AV → List Ob → Prop) :
  (aCode KL GA (cAt [1, 1, 1, 0, 1, 0, 0] Tryd.b29) (kFamM [] (maskOf (stAl 32 (mkI .i64 c) l la mo le i es)) st inv μ kk (rAlLa_k0 q)) (stAl 32 (mkI .i64 c) l la mo le i es)) = (
  bcase (decide (i < ((List.length (intsD (keysF l))) : Int))) (
   (((0 : Int) ≤ i) ∧ (i < ((List.length (intsD (keysF l))) : Int))) ∧
   ((List.length (List.getD (intsD (keysF l)) (Int.toNat i) [])) = 1) ∧
   ((1 : Nat) ≤ (List.length (List.getD (intsD (keysF l)) (Int.toNat i) []))) ∧
   ((List.getD (List.getD (intsD (keysF l)) (Int.toNat i) []) 0 d0) = (D.v (.int IntKind.i64 (intD (List.getD (List.getD (intsD (keysF l)) (Int.toNat i) []) 0 d0))))) ∧
   bcase (hasF (Key.i IntKind.i64 (intD (List.getD (List.getD (intsD (keysF l)) (Int.toNat i) []) 0 d0))) l) (
    ∃ (b : Nat),
    ((blkF (Key.i IntKind.i64 (intD (List.getD (List.getD (intsD (keysF l)) (Int.toNat i) []) 0 d0))) l) = (Option.some b)) ∧ (
     ∃ (r : Rec),
     ((recF b l) = (Option.some r)) ∧
     bcase ((r.i (((((0 : Nat) + (1 : Nat)) + (1 : Nat)) + (1 : Nat)) + (1 : Nat))) == (-(1 : Int))) (
      ∃ (r_1 : Rec),
      ((recF b l) = (Option.some r_1)) ∧
      bcase (decide ((r_1.i ((((((0 : Nat) + (1 : Nat)) + (1 : Nat)) + (1 : Nat)) + (1 : Nat)) + (1 : Nat))) ≤ c)) (
       (∀ (c_1 : List D), (c_1 ∈ [[D.v (.pointer (Option.some (Addr.mk b (0 : Nat) Option.none)))]]) → (List.length c_1) = 1) ∧
       ((List.length es) = (List.length es)) ∧
       (((List.length es) + 1) ≤ LIM) ∧
       FamNext st inv μ kk ⟨[AV.rf 0 0, AV.fn (Fn.func 32) [] [AV.rf 2 0], AV.jk, AV.jk, AV.nl, AV.vw 6 ((List.length es) + 1)] ++ (jks 10 ++ ([AV.d (.sl (intsD (keysF l))), mkI .i64 ((List.length (intsD (keysF l))) : Int), mkI .i64 (IntKind.wrap .i64 (i + (1 : Int)))] ++ (jks 18))), [Ob.box [AV.mp 1, mkI .i64 la, mkI .i64 mo, mkI .i64 le], Ob.bun (famR (FamD.mk (KK.int IntKind.i64) (Shp.box SK) l)), Ob.box [mkI .i64 c], Ob.gh [AV.rf 0 0, AV.rf 2 0], Ob.gone, Ob.gone, Ob.row 1 (es ++ [[D.v (.pointer (Option.some (Addr.mk b (0 : Nat) Option.none)))]]), Ob.gone, Ob.gone, Ob.gone, Ob.row 1 [[D.v (.pointer (Option.some (Addr.mk b (0 : Nat) Option.none)))]]]⟩) (
       FamNext st inv μ kk ⟨[AV.rf 0 0, AV.fn (Fn.func 32) [] [AV.rf 2 0], AV.jk, AV.jk, AV.nl, AV.vw 6 (List.length es)] ++ (jks 10 ++ ([AV.d (.sl (intsD (keysF l))), mkI .i64 ((List.length (intsD (keysF l))) : Int), mkI .i64 (IntKind.wrap .i64 (i + (1 : Int)))] ++ (jks 18))), [Ob.box [AV.mp 1, mkI .i64 la, mkI .i64 mo, mkI .i64 le], Ob.bun (famR (FamD.mk (KK.int IntKind.i64) (Shp.box SK) l)), Ob.box [mkI .i64 c], Ob.gh [AV.rf 0 0, AV.rf 2 0], Ob.gone, Ob.gone, Ob.row 1 es, Ob.gone, Ob.gone, Ob.gone]⟩)) (
      FamNext st inv μ kk ⟨[AV.rf 0 0, AV.fn (Fn.func 32) [] [AV.rf 2 0], AV.jk, AV.jk, AV.nl, AV.vw 6 (List.length es)] ++ (jks 10 ++ ([AV.d (.sl (intsD (keysF l))), mkI .i64 ((List.length (intsD (keysF l))) : Int), mkI .i64 (IntKind.wrap .i64 (i + (1 : Int)))] ++ (jks 18))), [Ob.box [AV.mp 1, mkI .i64 la, mkI .i64 mo, mkI .i64 le], Ob.bun (famR (FamD.mk (KK.int IntKind.i64) (Shp.box SK) l)), Ob.box [mkI .i64 c], Ob.gh [AV.rf 0 0, AV.rf 2 0], Ob.gone, Ob.gone, Ob.row 1 es, Ob.gone, Ob.gone, Ob.gone]⟩))) (
    False)) (
   q (AV.vw 6 (List.length es)) [Ob.box [AV.mp 1, mkI .i64 la, mkI .i64 mo, mkI .i64 le], Ob.bun (famR (FamD.mk (KK.int IntKind.i64) (Shp.box SK) l)), Ob.box [mkI .i64 c], Ob.gh [AV.rf 0 0, AV.rf 2 0], Ob.gone, Ob.gone, Ob.row 1 es])) := by kernel_rfl
structure TabOk (l : FLs) : Prop where
  ids : IdsOk l
  nd : (l.map (·.2.1)).Nodup
abbrev rawD (e : Key × Nat × Rec) : List D := [.v (.pointer (some ⟨e.2.1, 0, none⟩))]
def selL (p : Rec → Bool) (l : FLs) : List (List D) := (l.filter fun e => p e.2.2).map rawD
theorem key_at {l : FLs} (h : TabOk l) {n : Nat} (hn : n < l.length) : (intsD (keysF l)).getD n [] = [.v (.int .i64 (keyI l[n].1))] ∧ l[n].1 = .i .i64 (keyI l[n].1) := by
  obtain ⟨m, e, _⟩ := h.ids.key l[n] (List.getElem_mem hn)
  refine ⟨?_, by rw [e]; rfl⟩
  rw [List.getD_eq_getElem?_getD, List.getElem?_eq_getElem (by simpa [intsD, keysF] using hn)]
  simp [intsD, keysF]
theorem blk_at : ∀ {l : FLs}, (keysF l).Pairwise (· < ·) → (∀ e ∈ l, e.1 = .i .i64 (keyI e.1)) → ∀ {n : Nat} (hn : n < l.length), blkF (.i .i64 (keyI l[n].1)) l = some l[n].2.1
  | [], _, _, n, hn => absurd hn (by simp)
  | e :: l, h1, h2, 0, _ => by simp only [List.getElem_cons_zero, blkF]; rw [if_pos (h2 e (by simp))]
  | e :: l, h1, h2, n + 1, hn => by
    simp only [keysF, List.map_cons, List.pairwise_cons] at h1
    simp only [List.getElem_cons_succ, blkF]
    have hn' : n < l.length := by simpa using hn
    have : keyI e.1 < keyI l[n].1 := h1.1 _ (List.mem_map_of_mem (f := fun e : Key × Nat × Rec => keyI e.1) (List.getElem_mem hn'))
    rw [if_neg (fun e1 => by rw [e1] at this; simp [keyI] at this)]
    exact blk_at h1.2 (fun x hx => h2 x (by simp [hx])) hn'
theorem rec_at : ∀ {l : FLs}, (l.map (·.2.1)).Nodup → ∀ {n : Nat} (hn : n < l.length), recF l[n].2.1 l = some l[n].2.2
  | [], _, n, hn => absurd hn (by simp)
  | e :: l, h1, 0, _ => by simp [recF]
  | e :: l, h1, n + 1, hn => by
    rw [List.map_cons, List.nodup_cons] at h1
    have hn' : n < l.length := by simpa using hn
    simp only [List.getElem_cons_succ, recF]
    rw [if_neg (fun e1 => h1.1 (by rw [e1]; exact List.mem_map_of_mem (f := fun x : Key × Nat × Rec => x.2.1) (List.getElem_mem hn')))]
    exact rec_at h1.2 hn'
theorem TabOk.blk {l : FLs} (h : TabOk l) {n : Nat} (hn : n < l.length) : blkF (.i .i64 (keyI l[n].1)) l = some l[n].2.1 :=
  blk_at h.ids.ord (fun e he => by obtain ⟨m, e1, _⟩ := h.ids.key e he; rw [e1]; rfl) hn
theorem sel_take {p : Rec → Bool} {l : FLs} {n : Nat} (hn : n < l.length) : selL p (l.take (n + 1)) = selL p (l.take n) ++ (if p l[n].2.2 = true then [rawD l[n]] else []) := by
  unfold selL
  rw [List.take_succ_eq_append_getElem hn, List.filter_append, List.map_append]
  congr 1
  by_cases h : p l[n].2.2 = true
  · simp [h]
  · simp [h]
theorem sel_len (p : Rec → Bool) (l : FLs) : (selL p l).length ≤ l.length := by
  unfold selL; rw [List.length_map]; exact List.length_filter_le _ _
theorem ints_len (l : FLs) : (intsD (keysF l)).length = l.length := by simp [intsD, keysF]
def pOn (c : Int) (r : Rec) : Bool := (r.i 4 == c) && !(r.i 4 == -1)
def EAlOn : REnt := fun al o q => ∃ l la mo le c, al = [.rf 0 0, clo 40] ∧ o = [tbo la mo le, fob l, .box [mkI .i64 c], .gh [.rf 0 0, .rf 2 0]] ∧ TabOk l ∧ ∀ es, es = selL (pOn c) l → q (.vw 4 es.length) [tbo la mo le, fob l, .box [mkI .i64 c], .gh [.rf 0 0, .rf 2 0], .row 1 es]
theorem cAlOn : RSound Tryd.prog 29 EAlOn := by
  refine ref_gen trimW trimW_ok (code_bsound (c := Tryd.b29) mixed KL_ok gA) KL_ok Tryd.func29 rfl rfl Tryd.call29 fun al o q ⟨l, la, mo, le, c, h1, h2, hT, hq⟩ => ?_
  subst h1 h2
  refine cast (rAlOn l la mo le c (trimW q)).symm ⟨hT.ids, fun hlim => ALoop.openT 5 1 (by omega) ?_⟩
  refine ALoop.introM [] (maskOf (stAl 40 (mkI .i64 c) l la mo le 0 [])) (fun n : Nat => stAl 40 (mkI .i64 c) l la mo le n (selL (pOn c) (l.take n))) (fun n => n ≤ l.length) (fun n => l.length - n) ⟨[], 0, by simp [S.le, sealAll, leL, leA, leO, jks, stAl, S.openT, selL, mkI, mkS, mkB, S.fits, fitsL, AV.fits, Ob.fits, fob, tbo, ints_len], Nat.zero_le _⟩ fun n hn => ?_
  refine cast (rAlOn_b _ _ _ n l la mo le c n (selL (pOn c) (l.take n)) (trimW q)).symm ?_
  rw [ints_len] at hlim
  have hl10 := hT.ids.len
  simp only [ints_len]
  have fin : ∀ s : S, s.le (stAl 40 (mkI .i64 c) l la mo le (n + 1 : Nat) (selL (pOn c) (l.take (n + 1)))) → n < l.length → FamNext (fun n : Nat => stAl 40 (mkI .i64 c) l la mo le n (selL (pOn c) (l.take n))) (fun n => n ≤ l.length) (fun n => l.length - n) n s := fun s hs hn => .mk [] (n + 1) (by simpa [sealAll] using hs) hn (by show l.length - (n + 1) < l.length - n; omega)
  refine bcase_dec (fun hlt => ?_) (fun hge => ?_)
  · have hlt : n < l.length := by omega
    obtain ⟨e1, e2⟩ := key_at hT hlt
    simp only [Int.toNat_natCast, e1]
    rw [wrap_succ hlt (by unfold LIM; omega)]
    have hw := sel_take (p := pOn c) hlt
    have hle := sel_len (pOn c) (l.take n)
    rw [List.length_take] at hle
    have no : pOn c l[n].2.2 = false → selL (pOn c) (l.take (n + 1)) = selL (pOn c) (l.take n) := fun h => by rw [hw, h]; simp
    have yes : pOn c l[n].2.2 = true → selL (pOn c) (l.take (n + 1)) = selL (pOn c) (l.take n) ++ [rawD l[n]] := fun h => by rw [hw, h]; simp
    have hb := hT.blk hlt
    have hr := rec_at hT.nd hlt
    refine ⟨⟨by omega, by omega⟩, rfl, Nat.le_refl 1, rfl, bcaseT (by simp only [hasF]; exact congrArg Option.isSome hb) ⟨l[n].2.1, hb, ?_⟩⟩
    refine ⟨l[n].2.2, hr, bcase_mk (fun h1 => ⟨l[n].2.2, hr, bcase_mk (fun h2 => ?_) (fun h2 => ?_)⟩) (fun h1 => ?_)⟩
    all_goals replace h1 : (l[n].2.2.i 4 == c) = _ := h1
    all_goals try replace h2 : (!(l[n].2.2.i 4 == -1)) = _ := h2
    · refine ⟨fun x hx => by simp at hx; simp [hx], by first | rfl | trivial, by unfold LIM; omega, fin _ ?_ hlt⟩
      rw [yes (by simp only [pOn, h1, h2]; rfl)]
      simp [S.le, leL, leA, leO, jks, stAl, mkI, mkS, mkB, S.fits, fitsL, AV.fits, Ob.fits, fob, tbo, ints_len]
    · refine fin _ ?_ hlt
      rw [no (by simp only [pOn, h1, h2]; rfl)]
      simp [S.le, leL, leA, leO, jks, stAl, mkI, mkS, mkB, S.fits, fitsL, AV.fits, Ob.fits, fob, tbo, ints_len]
    · refine fin _ ?_ hlt
      rw [no (by simp only [pOn, h1]; rfl)]
      simp [S.le, leL, leA, leO, jks, stAl, mkI, mkS, mkB, S.fits, fitsL, AV.fits, Ob.fits, fob, tbo, ints_len]
  · have : n = l.length := by omega
    subst this
    rw [List.take_length]
    exact ⟨_, _, weak_packG [some 0, some 1, some 2, some 3, some 6] rfl, hq _ rfl⟩
def pWi (c : ByteArray) (r : Rec) : Bool := decide (r.s 3 = c) && !decide (c = ⟨#[]⟩)
def EAlWi : REnt := fun al o q => ∃ l la mo le c, al = [.rf 0 0, clo 46] ∧ o = [tbo la mo le, fob l, .box [mkS c], .gh [.rf 0 0, .rf 2 0]] ∧ TabOk l ∧ ∀ es, es = selL (pWi c) l → q (.vw 4 es.length) [tbo la mo le, fob l, .box [mkS c], .gh [.rf 0 0, .rf 2 0], .row 1 es]
theorem cAlWi : RSound Tryd.prog 29 EAlWi := by
  refine ref_gen trimW trimW_ok (code_bsound (c := Tryd.b29) mixed KL_ok gA) KL_ok Tryd.func29 rfl rfl Tryd.call29 fun al o q ⟨l, la, mo, le, c, h1, h2, hT, hq⟩ => ?_
  subst h1 h2
  refine cast (rAlWi l la mo le c (trimW q)).symm ⟨hT.ids, fun hlim => ALoop.openT 5 1 (by omega) ?_⟩
  refine ALoop.introM [] (maskOf (stAl 46 (mkS c) l la mo le 0 [])) (fun n : Nat => stAl 46 (mkS c) l la mo le n (selL (pWi c) (l.take n))) (fun n => n ≤ l.length) (fun n => l.length - n) ⟨[], 0, by simp [S.le, sealAll, leL, leA, leO, jks, stAl, S.openT, selL, mkI, mkS, mkB, S.fits, fitsL, AV.fits, Ob.fits, fob, tbo, ints_len], Nat.zero_le _⟩ fun n hn => ?_
  refine cast (rAlWi_b _ _ _ n l la mo le c n (selL (pWi c) (l.take n)) (trimW q)).symm ?_
  rw [ints_len] at hlim
  have hl10 := hT.ids.len
  simp only [ints_len]
  have fin : ∀ s : S, s.le (stAl 46 (mkS c) l la mo le (n + 1 : Nat) (selL (pWi c) (l.take (n + 1)))) → n < l.length → FamNext (fun n : Nat => stAl 46 (mkS c) l la mo le n (selL (pWi c) (l.take n))) (fun n => n ≤ l.length) (fun n => l.length - n) n s := fun s hs hn => .mk [] (n + 1) (by simpa [sealAll] using hs) hn (by show l.length - (n + 1) < l.length - n; omega)
  refine bcase_dec (fun hlt => ?_) (fun hge => ?_)
  · have hlt : n < l.length := by omega
    obtain ⟨e1, e2⟩ := key_at hT hlt
    simp only [Int.toNat_natCast, e1]
    rw [wrap_succ hlt (by unfold LIM; omega)]
    have hw := sel_take (p := pWi c) hlt
    have hle := sel_len (pWi c) (l.take n)
    rw [List.length_take] at hle
    have no : pWi c l[n].2.2 = false → selL (pWi c) (l.take (n + 1)) = selL (pWi c) (l.take n) := fun h => by rw [hw, h]; simp
    have yes : pWi c l[n].2.2 = true → selL (pWi c) (l.take (n + 1)) = selL (pWi c) (l.take n) ++ [rawD l[n]] := fun h => by rw [hw, h]; simp
    have hb := hT.blk hlt
    have hr := rec_at hT.nd hlt
    refine ⟨⟨by omega, by omega⟩, rfl, Nat.le_refl 1, rfl, bcaseT (by simp only [hasF]; exact congrArg Option.isSome hb) ⟨l[n].2.1, hb, ?_⟩⟩
    refine ⟨l[n].2.2, hr, bcase_mk (fun h1 => bcase_mk (fun h2 => ?_) (fun h2 => ?_)) (fun h1 => ?_)⟩
    all_goals replace h1 : decide (l[n].2.2.s 3 = c) = _ := h1
    · refine ⟨fun x hx => by simp at hx; simp [hx], by first | rfl | trivial, by unfold LIM; omega, fin _ ?_ hlt⟩
      rw [yes (by simp only [pWi, h1, h2]; rfl)]
      simp [S.le, leL, leA, leO, jks, stAl, mkI, mkS, mkB, S.fits, fitsL, AV.fits, Ob.fits, fob, tbo, ints_len]
    · refine fin _ ?_ hlt
      rw [no (by simp only [pWi, h1, h2]; rfl)]
      simp [S.le, leL, leA, leO, jks, stAl, mkI, mkS, mkB, S.fits, fitsL, AV.fits, Ob.fits, fob, tbo, ints_len]
    · refine fin _ ?_ hlt
      rw [no (by simp only [pWi, h1]; rfl)]
      simp [S.le, leL, leA, leO, jks, stAl, mkI, mkS, mkB, S.fits, fitsL, AV.fits, Ob.fits, fob, tbo, ints_len]
  · have : n = l.length := by omega
    subst this
    rw [List.take_length]
    exact ⟨_, _, weak_packG [some 0, some 1, some 2, some 3, some 6] rfl, hq _ rfl⟩
def pVi (c : ByteArray) (r : Rec) : Bool := decide (r.s 1 = c)
def EAlVi : REnt := fun al o q => ∃ l la mo le c, al = [.rf 0 0, clo 41] ∧ o = [tbo la mo le, fob l, .box [mkS c], .gh [.rf 0 0, .rf 2 0]] ∧ TabOk l ∧ ∀ es, es = selL (pVi c) l → q (.vw 4 es.length) [tbo la mo le, fob l, .box [mkS c], .gh [.rf 0 0, .rf 2 0], .row 1 es]
theorem cAlVi : RSound Tryd.prog 29 EAlVi := by
  refine ref_gen trimW trimW_ok (code_bsound (c := Tryd.b29) mixed KL_ok gA) KL_ok Tryd.func29 rfl rfl Tryd.call29 fun al o q ⟨l, la, mo, le, c, h1, h2, hT, hq⟩ => ?_
  subst h1 h2
  refine cast (rAlVi l la mo le c (trimW q)).symm ⟨hT.ids, fun hlim => ALoop.openT 5 1 (by omega) ?_⟩
  refine ALoop.introM [] (maskOf (stAl 41 (mkS c) l la mo le 0 [])) (fun n : Nat => stAl 41 (mkS c) l la mo le n (selL (pVi c) (l.take n))) (fun n => n ≤ l.length) (fun n => l.length - n) ⟨[], 0, by simp [S.le, sealAll, leL, leA, leO, jks, stAl, S.openT, selL, mkI, mkS, mkB, S.fits, fitsL, AV.fits, Ob.fits, fob, tbo, ints_len], Nat.zero_le _⟩ fun n hn => ?_
  refine cast (rAlVi_b _ _ _ n l la mo le c n (selL (pVi c) (l.take n)) (trimW q)).symm ?_
  rw [ints_len] at hlim
  have hl10 := hT.ids.len
  simp only [ints_len]
  have fin : ∀ s : S, s.le (stAl 41 (mkS c) l la mo le (n + 1 : Nat) (selL (pVi c) (l.take (n + 1)))) → n < l.length → FamNext (fun n : Nat => stAl 41 (mkS c) l la mo le n (selL (pVi c) (l.take n))) (fun n => n ≤ l.length) (fun n => l.length - n) n s := fun s hs hn => .mk [] (n + 1) (by simpa [sealAll] using hs) hn (by show l.length - (n + 1) < l.length - n; omega)
  refine bcase_dec (fun hlt => ?_) (fun hge => ?_)
  · have hlt : n < l.length := by omega
    obtain ⟨e1, e2⟩ := key_at hT hlt
    simp only [Int.toNat_natCast, e1]
    rw [wrap_succ hlt (by unfold LIM; omega)]
    have hw := sel_take (p := pVi c) hlt
    have hle := sel_len (pVi c) (l.take n)
    rw [List.length_take] at hle
    have no : pVi c l[n].2.2 = false → selL (pVi c) (l.take (n + 1)) = selL (pVi c) (l.take n) := fun h => by rw [hw, h]; simp
    have yes : pVi c l[n].2.2 = true → selL (pVi c) (l.take (n + 1)) = selL (pVi c) (l.take n) ++ [rawD l[n]] := fun h => by rw [hw, h]; simp
    have hb := hT.blk hlt
    have hr := rec_at hT.nd hlt
    refine ⟨⟨by omega, by omega⟩, rfl, Nat.le_refl 1, rfl, bcaseT (by simp only [hasF]; exact congrArg Option.isSome hb) ⟨l[n].2.1, hb, ?_⟩⟩
    refine ⟨l[n].2.2, hr, bcase_mk (fun h1 => ?_) (fun h1 => ?_)⟩
    · refine ⟨fun x hx => by simp at hx; simp [hx], by first | rfl | trivial, by unfold LIM; omega, fin _ ?_ hlt⟩
      rw [yes h1]
      simp [S.le, leL, leA, leO, jks, stAl, mkI, mkS, mkB, S.fits, fitsL, AV.fits, Ob.fits, fob, tbo, ints_len]
    · refine fin _ ?_ hlt
      rw [no h1]
      simp [S.le, leL, leA, leO, jks, stAl, mkI, mkS, mkB, S.fits, fitsL, AV.fits, Ob.fits, fob, tbo, ints_len]
  · have : n = l.length := by omega
    subst this
    rw [List.take_length]
    exact ⟨_, _, weak_packG [some 0, some 1, some 2, some 3, some 6] rfl, hq _ rfl⟩
def pLa (c : Int) (r : Rec) : Bool := (r.i 4 == -1) && decide (r.i 5 ≤ c)
def EAlLa : REnt := fun al o q => ∃ l la mo le c, al = [.rf 0 0, clo 32] ∧ o = [tbo la mo le, fob l, .box [mkI .i64 c], .gh [.rf 0 0, .rf 2 0]] ∧ TabOk l ∧ ∀ es, es = selL (pLa c) l → q (.vw 4 es.length) [tbo la mo le, fob l, .box [mkI .i64 c], .gh [.rf 0 0, .rf 2 0], .row 1 es]
theorem cAlLa : RSound Tryd.prog 29 EAlLa := by
  refine ref_gen trimW trimW_ok (code_bsound (c := Tryd.b29) mixed KL_ok gA) KL_ok Tryd.func29 rfl rfl Tryd.call29 fun al o q ⟨l, la, mo, le, c, h1, h2, hT, hq⟩ => ?_
  subst h1 h2
  refine cast (rAlLa l la mo le c (trimW q)).symm ⟨hT.ids, fun hlim => ALoop.openT 5 1 (by omega) ?_⟩
  refine ALoop.introM [] (maskOf (stAl 32 (mkI .i64 c) l la mo le 0 [])) (fun n : Nat => stAl 32 (mkI .i64 c) l la mo le n (selL (pLa c) (l.take n))) (fun n => n ≤ l.length) (fun n => l.length - n) ⟨[], 0, by simp [S.le, sealAll, leL, leA, leO, jks, stAl, S.openT, selL, mkI, mkS, mkB, S.fits, fitsL, AV.fits, Ob.fits, fob, tbo, ints_len], Nat.zero_le _⟩ fun n hn => ?_
  refine cast (rAlLa_b _ _ _ n l la mo le c n (selL (pLa c) (l.take n)) (trimW q)).symm ?_
  rw [ints_len] at hlim
  have hl10 := hT.ids.len
  simp only [ints_len]
  have fin : ∀ s : S, s.le (stAl 32 (mkI .i64 c) l la mo le (n + 1 : Nat) (selL (pLa c) (l.take (n + 1)))) → n < l.length → FamNext (fun n : Nat => stAl 32 (mkI .i64 c) l la mo le n (selL (pLa c) (l.take n))) (fun n => n ≤ l.length) (fun n => l.length - n) n s := fun s hs hn => .mk [] (n + 1) (by simpa [sealAll] using hs) hn (by show l.length - (n + 1) < l.length - n; omega)
  refine bcase_dec (fun hlt => ?_) (fun hge => ?_)
  · have hlt : n < l.length := by omega
    obtain ⟨e1, e2⟩ := key_at hT hlt
    simp only [Int.toNat_natCast, e1]
    rw [wrap_succ hlt (by unfold LIM; omega)]
    have hw := sel_take (p := pLa c) hlt
    have hle := sel_len (pLa c) (l.take n)
    rw [List.length_take] at hle
    have no : pLa c l[n].2.2 = false → selL (pLa c) (l.take (n + 1)) = selL (pLa c) (l.take n) := fun h => by rw [hw, h]; simp
    have yes : pLa c l[n].2.2 = true → selL (pLa c) (l.take (n + 1)) = selL (pLa c) (l.take n) ++ [rawD l[n]] := fun h => by rw [hw, h]; simp
    have hb := hT.blk hlt
    have hr := rec_at hT.nd hlt
    refine ⟨⟨by omega, by omega⟩, rfl, Nat.le_refl 1, rfl, bcaseT (by simp only [hasF]; exact congrArg Option.isSome hb) ⟨l[n].2.1, hb, ?_⟩⟩
    refine ⟨l[n].2.2, hr, bcase_mk (fun h1 => ⟨l[n].2.2, hr, bcase_mk (fun h2 => ?_) (fun h2 => ?_)⟩) (fun h1 => ?_)⟩
    all_goals replace h1 : (l[n].2.2.i 4 == -1) = _ := h1
    all_goals try replace h2 : decide (l[n].2.2.i 5 ≤ c) = _ := h2
    · refine ⟨fun x hx => by simp at hx; simp [hx], by first | rfl | trivial, by unfold LIM; omega, fin _ ?_ hlt⟩
      rw [yes (by simp only [pLa, h1, h2]; rfl)]
      simp [S.le, leL, leA, leO, jks, stAl, mkI, mkS, mkB, S.fits, fitsL, AV.fits, Ob.fits, fob, tbo, ints_len]
    · refine fin _ ?_ hlt
      rw [no (by simp only [pLa, h1, h2]; rfl)]
      simp [S.le, leL, leA, leO, jks, stAl, mkI, mkS, mkB, S.fits, fitsL, AV.fits, Ob.fits, fob, tbo, ints_len]
    · refine fin _ ?_ hlt
      rw [no (by simp only [pLa, h1]; rfl)]
      simp [S.le, leL, leA, leO, jks, stAl, mkI, mkS, mkB, S.fits, fitsL, AV.fits, Ob.fits, fob, tbo, ints_len]
  · have : n = l.length := by omega
    subst this
    rw [List.take_length]
    exact ⟨_, _, weak_packG [some 0, some 1, some 2, some 3, some 6] rfl, hq _ rfl⟩
end Go.Proofs.YtepkbbkfcnejmaaDoor
