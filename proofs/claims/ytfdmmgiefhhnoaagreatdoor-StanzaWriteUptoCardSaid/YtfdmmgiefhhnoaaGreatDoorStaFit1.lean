import Derived.Test.YtfdmmgiefhhnoaaGreatDoorStaFn
set_option linter.unusedSimpArgs false
set_option linter.unusedVariables false
namespace Go.Proofs.YtfdmmgiefhhnoaaGreatDoor
open Go Go.AM Go.RowKit
attribute [local irreducible] aCode
def obsZ : List Ob := [.gh []]
noncomputable def rFZ_k0 (q : AV → (List Ob) → Prop) : Kont := kBlk (0 : Nat) (kSeq (aCode KS GF (cAt [1, 1, 1, 1] Tryz.b38) (kRetF KS (Array.toList (Func.results Tryz.f38)) q)) (kRetF KS (Array.toList (Func.results Tryz.f38)) q))
theorem rFZ (n : BA) (l : List At) (t : BA) (k : List El) (q : AV → List Ob → Prop) :
 (aCode KS GF Tryz.b38 (kRetF KS Tryz.f38.results.toList q) ⟨[.ag [nilM, nilM], .ag [mkS n, .d (.sl (atsD l)), mkS t, .d (.sl (ksD k))]] ++ List.replicate (Tryz.f38.ntmps - 2) .jk, obsZ⟩) = (
 ((List.length (atsD l)) ≤ LIM) →
 ALoop (aCode KS GF (cAt [1, 1, 1, 0, 1, 0, 0] Tryz.b38)) (rFZ_k0 q) ⟨[.ag [.d (D.v (.map Option.none)), .d (D.v (.map Option.none))], .ag [mkS n, .d (.sl (atsD l)), mkS t, .d (.sl (ksD k))], .rf 1 0, .rf 2 0, mkB false, mkI .i64 0, .mp 3, .jk, .jk, .jk, .jk, .rf 1 (0 + 0), .d (D.v (.map Option.none)), mkI .i64 0, .mp 3, .rf 2 (0 + 1), .d (.sl (atsD l)), mkI .i64 ((List.length (atsD l)) : Int), mkI .i64 0] ++ (jks 40), [.gh [], .box [.d (D.v (.map Option.none)), .d (D.v (.map Option.none))], .box [mkS n, .d (.sl (atsD l)), mkS t, .d (.sl (ksD k))], .map KK.ystr []]⟩) := by kernel_rfl
def stFZ (n : BA) (l : List At) (t : BA) (k : List El) (left i : Int) (se : List (Key × AV)) : S := ⟨[.ag [nilM, nilM], .ag [mkS n, .d (.sl (atsD l)), mkS t, .d (.sl (ksD k))], .rf 1 0, .rf 2 0, mkB false, mkI .i64 left, .mp 3] ++ jks 9 ++ [.d (.sl (atsD l)), mkI .i64 (atsD l).length, mkI .i64 i] ++ jks 40, obsZ ++ [.box [nilM, nilM], .box [mkS n, .d (.sl (atsD l)), mkS t, .d (.sl (ksD k))], .map .ystr se]⟩
theorem rFZ_b {ι : Type} (st : ι → S) (inv : ι → Prop) (μ : ι → Nat) (kk : ι) (n : BA) (l : List At) (t : BA) (k : List El) (left i : Int) (se : List (Key × AV)) (q : AV → List Ob → Prop) :
 (aCode KS GF (cAt [1, 1, 1, 0, 1, 0, 0] Tryz.b38) (kFamM [] (maskOf (stFZ n l t k left i se)) st inv μ kk (rFZ_k0 q)) (stFZ n l t k left i se)) = (
 bcase (decide (i < ((List.length (atsD l)) : Int))) (
 (((0 : Int) ≤ i) ∧ (i < ((List.length (atsD l)) : Int))) ∧
 ((List.length (List.getD (atsD l) (Int.toNat i) [])) = 2) ∧
 (2 ≤ (List.length (List.getD (atsD l) (Int.toNat i) []))) ∧
 (((List.getD (List.getD (atsD l) (Int.toNat i) []) 0 d0) = (D.v (.string (strD (List.getD (List.getD (atsD l) (Int.toNat i) []) 0 d0))))) ∧ (((List.getD (List.drop 1 (List.getD (atsD l) (Int.toNat i) [])) 0 d0) = (D.v (.string (strD (List.getD (List.drop 1 (List.getD (atsD l) (Int.toNat i) [])) 0 d0))))) ∧ True)) ∧
 q (mkB false) [Ob.gh [], Ob.box [AV.d (D.v (.map Option.none)), AV.d (D.v (.map Option.none))], Ob.box [mkS n, AV.d (.sl (atsD l)), mkS t, AV.d (.sl (ksD k))], Ob.map KK.ystr se, Ob.box [mkS (strD (List.getD (List.getD (atsD l) (Int.toNat i) []) 0 d0)), mkS (strD (List.getD (List.drop 1 (List.getD (atsD l) (Int.toNat i) [])) 0 d0))]]) (
 q (mkB (left == (0 : Int))) [Ob.gh [], Ob.box [AV.d (D.v (.map Option.none)), AV.d (D.v (.map Option.none))], Ob.box [mkS n, AV.d (.sl (atsD l)), mkS t, AV.d (.sl (ksD k))], Ob.map KK.ystr se])) := by kernel_rfl
def obsId : List Ob := [.map .str [(Key.s kId, fnV 40)], .gh []]
noncomputable def rFId_k0 (q : AV → (List Ob) → Prop) : Kont := kBlk (0 : Nat) (kSeq (aCode KS GF (cAt [1, 1, 1, 1] Tryz.b38) (kRetF KS (Array.toList (Func.results Tryz.f38)) q)) (kRetF KS (Array.toList (Func.results Tryz.f38)) q))
theorem rFId (n : BA) (l : List At) (t : BA) (k : List El) (q : AV → List Ob → Prop) :
 (aCode KS GF Tryz.b38 (kRetF KS Tryz.f38.results.toList q) ⟨[.ag [.mp 0, nilM], .ag [mkS n, .d (.sl (atsD l)), mkS t, .d (.sl (ksD k))]] ++ List.replicate (Tryz.f38.ntmps - 2) .jk, obsId⟩) = (
 ((List.length (atsD l)) ≤ LIM) →
 ALoop (aCode KS GF (cAt [1, 1, 1, 0, 1, 0, 0] Tryz.b38)) (rFId_k0 q) ⟨[.ag [.mp 0, .d (D.v (.map Option.none))], .ag [mkS n, .d (.sl (atsD l)), mkS t, .d (.sl (ksD k))], .rf 2 0, .rf 3 0, mkB false, mkI .i64 1, .mp 4, .jk, .jk, .jk, .jk, .rf 2 (0 + 0), .mp 0, mkI .i64 1, .mp 4, .rf 3 (0 + 1), .d (.sl (atsD l)), mkI .i64 ((List.length (atsD l)) : Int), mkI .i64 0] ++ (jks 40), [.map KK.str [(Key.s kId, .fn (Fn.func 40) [] [])], .gh [], .box [.mp 0, .d (D.v (.map Option.none))], .box [mkS n, .d (.sl (atsD l)), mkS t, .d (.sl (ksD k))], .map KK.ystr []]⟩) := by kernel_rfl
def stFId (n : BA) (l : List At) (t : BA) (k : List El) (left i : Int) (se : List (Key × AV)) : S := ⟨[.ag [.mp 0, nilM], .ag [mkS n, .d (.sl (atsD l)), mkS t, .d (.sl (ksD k))], .rf 2 0, .rf 3 0, mkB false, mkI .i64 left, .mp 4] ++ jks 9 ++ [.d (.sl (atsD l)), mkI .i64 (atsD l).length, mkI .i64 i] ++ jks 40, obsId ++ [.box [.mp 0, nilM], .box [mkS n, .d (.sl (atsD l)), mkS t, .d (.sl (ksD k))], .map .ystr se]⟩
theorem rFId_b {ι : Type} (st : ι → S) (inv : ι → Prop) (μ : ι → Nat) (kk : ι) (n : BA) (l : List At) (t : BA) (k : List El) (left i : Int) (se : List (Key × AV)) (q : AV → List Ob → Prop) :
 (aCode KS GF (cAt [1, 1, 1, 0, 1, 0, 0] Tryz.b38) (kFamM [] (maskOf (stFId n l t k left i se)) st inv μ kk (rFId_k0 q)) (stFId n l t k left i se)) = (
 bcase (decide (i < ((List.length (atsD l)) : Int))) (
 (((0 : Int) ≤ i) ∧ (i < ((List.length (atsD l)) : Int))) ∧
 ((List.length (List.getD (atsD l) (Int.toNat i) [])) = 2) ∧
 (2 ≤ (List.length (List.getD (atsD l) (Int.toNat i) []))) ∧
 (((List.getD (List.getD (atsD l) (Int.toNat i) []) 0 d0) = (D.v (.string (strD (List.getD (List.getD (atsD l) (Int.toNat i) []) 0 d0))))) ∧ (((List.getD (List.drop 1 (List.getD (atsD l) (Int.toNat i) [])) 0 d0) = (D.v (.string (strD (List.getD (List.drop 1 (List.getD (atsD l) (Int.toNat i) [])) 0 d0))))) ∧ True)) ∧
 bcase (decide (kId = (strD (List.getD (List.getD (atsD l) (Int.toNat i) []) 0 d0)))) (
 ((ByteArray.size (strD (List.getD (List.drop 1 (List.getD (atsD l) (Int.toNat i) [])) 0 d0))) ≤ LIM) ∧
 bcase (!(wordB (strD (List.getD (List.drop 1 (List.getD (atsD l) (Int.toNat i) [])) 0 d0)))) (
 q (mkB false) [Ob.map KK.str [(Key.s kId, AV.fn (Fn.func 40) [] [])], Ob.gh [], Ob.box [AV.mp 0, AV.d (D.v (.map Option.none))], Ob.box [mkS n, AV.d (.sl (atsD l)), mkS t, AV.d (.sl (ksD k))], Ob.map KK.ystr se, Ob.box [mkS (strD (List.getD (List.getD (atsD l) (Int.toNat i) []) 0 d0)), mkS (strD (List.getD (List.drop 1 (List.getD (atsD l) (Int.toNat i) [])) 0 d0))]]) (
 ∃ (b : Bool),
 ((getO (Key.s (strD (List.getD (List.getD (atsD l) (Int.toNat i) []) 0 d0))) se (mkB false)) = (mkB b)) ∧
 bcase b (
 q (mkB false) [Ob.map KK.str [(Key.s kId, AV.fn (Fn.func 40) [] [])], Ob.gh [], Ob.box [AV.mp 0, AV.d (D.v (.map Option.none))], Ob.box [mkS n, AV.d (.sl (atsD l)), mkS t, AV.d (.sl (ksD k))], Ob.map KK.ystr se, Ob.box [mkS (strD (List.getD (List.getD (atsD l) (Int.toNat i) []) 0 d0)), mkS (strD (List.getD (List.drop 1 (List.getD (atsD l) (Int.toNat i) [])) 0 d0))]]) (
 FamNext st inv μ kk ⟨[.ag [.mp 0, .d (D.v (.map Option.none))], .ag [mkS n, .d (.sl (atsD l)), mkS t, .d (.sl (ksD k))], .rf 2 0, .rf 3 0, mkB false, mkI .i64 (IntKind.wrap .i64 (left - (1 : Int))), .mp 4] ++ (jks 9 ++ ([.d (.sl (atsD l)), mkI .i64 ((List.length (atsD l)) : Int), mkI .i64 (IntKind.wrap .i64 (i + (1 : Int)))] ++ (jks 40))), [.map KK.str [(Key.s kId, .fn (Fn.func 40) [] [])], .gh [], .box [.mp 0, .d (D.v (.map Option.none))], .box [mkS n, .d (.sl (atsD l)), mkS t, .d (.sl (ksD k))], .map KK.ystr (setKeyA (Key.s (strD (List.getD (List.getD (atsD l) (Int.toNat i) []) 0 d0))) (mkB true) se), .box [mkS (strD (List.getD (List.getD (atsD l) (Int.toNat i) []) 0 d0)), mkS (strD (List.getD (List.drop 1 (List.getD (atsD l) (Int.toNat i) [])) 0 d0))]]⟩))) (
 q (mkB false) [Ob.map KK.str [(Key.s kId, AV.fn (Fn.func 40) [] [])], Ob.gh [], Ob.box [AV.mp 0, AV.d (D.v (.map Option.none))], Ob.box [mkS n, AV.d (.sl (atsD l)), mkS t, AV.d (.sl (ksD k))], Ob.map KK.ystr se, Ob.box [mkS (strD (List.getD (List.getD (atsD l) (Int.toNat i) []) 0 d0)), mkS (strD (List.getD (List.drop 1 (List.getD (atsD l) (Int.toNat i) [])) 0 d0))]])) (
 q (mkB (left == (0 : Int))) [Ob.map KK.str [(Key.s kId, AV.fn (Fn.func 40) [] [])], Ob.gh [], Ob.box [AV.mp 0, AV.d (D.v (.map Option.none))], Ob.box [mkS n, AV.d (.sl (atsD l)), mkS t, AV.d (.sl (ksD k))], Ob.map KK.ystr se])) := by kernel_rfl
def obsH : List Ob := [.map .str [(Key.s kH, fnV 42)], .gh []]
noncomputable def rFH_k0 (q : AV → (List Ob) → Prop) : Kont := kBlk (0 : Nat) (kSeq (aCode KS GF (cAt [1, 1, 1, 1] Tryz.b38) (kRetF KS (Array.toList (Func.results Tryz.f38)) q)) (kRetF KS (Array.toList (Func.results Tryz.f38)) q))
theorem rFH (n : BA) (l : List At) (t : BA) (k : List El) (q : AV → List Ob → Prop) :
 (aCode KS GF Tryz.b38 (kRetF KS Tryz.f38.results.toList q) ⟨[.ag [.mp 0, nilM], .ag [mkS n, .d (.sl (atsD l)), mkS t, .d (.sl (ksD k))]] ++ List.replicate (Tryz.f38.ntmps - 2) .jk, obsH⟩) = (
 ((List.length (atsD l)) ≤ LIM) →
 ALoop (aCode KS GF (cAt [1, 1, 1, 0, 1, 0, 0] Tryz.b38)) (rFH_k0 q) ⟨[.ag [.mp 0, .d (D.v (.map Option.none))], .ag [mkS n, .d (.sl (atsD l)), mkS t, .d (.sl (ksD k))], .rf 2 0, .rf 3 0, mkB false, mkI .i64 1, .mp 4, .jk, .jk, .jk, .jk, .rf 2 (0 + 0), .mp 0, mkI .i64 1, .mp 4, .rf 3 (0 + 1), .d (.sl (atsD l)), mkI .i64 ((List.length (atsD l)) : Int), mkI .i64 0] ++ (jks 40), [.map KK.str [(Key.s kH, .fn (Fn.func 42) [] [])], .gh [], .box [.mp 0, .d (D.v (.map Option.none))], .box [mkS n, .d (.sl (atsD l)), mkS t, .d (.sl (ksD k))], .map KK.ystr []]⟩) := by kernel_rfl
def stFH (n : BA) (l : List At) (t : BA) (k : List El) (left i : Int) (se : List (Key × AV)) : S := ⟨[.ag [.mp 0, nilM], .ag [mkS n, .d (.sl (atsD l)), mkS t, .d (.sl (ksD k))], .rf 2 0, .rf 3 0, mkB false, mkI .i64 left, .mp 4] ++ jks 9 ++ [.d (.sl (atsD l)), mkI .i64 (atsD l).length, mkI .i64 i] ++ jks 40, obsH ++ [.box [.mp 0, nilM], .box [mkS n, .d (.sl (atsD l)), mkS t, .d (.sl (ksD k))], .map .ystr se]⟩
theorem rFH_b {ι : Type} (st : ι → S) (inv : ι → Prop) (μ : ι → Nat) (kk : ι) (n : BA) (l : List At) (t : BA) (k : List El) (left i : Int) (se : List (Key × AV)) (q : AV → List Ob → Prop) :
 (aCode KS GF (cAt [1, 1, 1, 0, 1, 0, 0] Tryz.b38) (kFamM [] (maskOf (stFH n l t k left i se)) st inv μ kk (rFH_k0 q)) (stFH n l t k left i se)) = (
 bcase (decide (i < ((List.length (atsD l)) : Int))) (
 (((0 : Int) ≤ i) ∧ (i < ((List.length (atsD l)) : Int))) ∧
 ((List.length (List.getD (atsD l) (Int.toNat i) [])) = 2) ∧
 (2 ≤ (List.length (List.getD (atsD l) (Int.toNat i) []))) ∧
 (((List.getD (List.getD (atsD l) (Int.toNat i) []) 0 d0) = (D.v (.string (strD (List.getD (List.getD (atsD l) (Int.toNat i) []) 0 d0))))) ∧ (((List.getD (List.drop 1 (List.getD (atsD l) (Int.toNat i) [])) 0 d0) = (D.v (.string (strD (List.getD (List.drop 1 (List.getD (atsD l) (Int.toNat i) [])) 0 d0))))) ∧ True)) ∧
 bcase (decide (kH = (strD (List.getD (List.getD (atsD l) (Int.toNat i) []) 0 d0)))) (
 ((ByteArray.size (strD (List.getD (List.drop 1 (List.getD (atsD l) (Int.toNat i) [])) 0 d0))) ≤ LIM) ∧
 bcase (!(cntB (strD (List.getD (List.drop 1 (List.getD (atsD l) (Int.toNat i) [])) 0 d0)))) (
 q (mkB false) [Ob.map KK.str [(Key.s kH, AV.fn (Fn.func 42) [] [])], Ob.gh [], Ob.box [AV.mp 0, AV.d (D.v (.map Option.none))], Ob.box [mkS n, AV.d (.sl (atsD l)), mkS t, AV.d (.sl (ksD k))], Ob.map KK.ystr se, Ob.box [mkS (strD (List.getD (List.getD (atsD l) (Int.toNat i) []) 0 d0)), mkS (strD (List.getD (List.drop 1 (List.getD (atsD l) (Int.toNat i) [])) 0 d0))]]) (
 ∃ (b : Bool),
 ((getO (Key.s (strD (List.getD (List.getD (atsD l) (Int.toNat i) []) 0 d0))) se (mkB false)) = (mkB b)) ∧
 bcase b (
 q (mkB false) [Ob.map KK.str [(Key.s kH, AV.fn (Fn.func 42) [] [])], Ob.gh [], Ob.box [AV.mp 0, AV.d (D.v (.map Option.none))], Ob.box [mkS n, AV.d (.sl (atsD l)), mkS t, AV.d (.sl (ksD k))], Ob.map KK.ystr se, Ob.box [mkS (strD (List.getD (List.getD (atsD l) (Int.toNat i) []) 0 d0)), mkS (strD (List.getD (List.drop 1 (List.getD (atsD l) (Int.toNat i) [])) 0 d0))]]) (
 FamNext st inv μ kk ⟨[.ag [.mp 0, .d (D.v (.map Option.none))], .ag [mkS n, .d (.sl (atsD l)), mkS t, .d (.sl (ksD k))], .rf 2 0, .rf 3 0, mkB false, mkI .i64 (IntKind.wrap .i64 (left - (1 : Int))), .mp 4] ++ (jks 9 ++ ([.d (.sl (atsD l)), mkI .i64 ((List.length (atsD l)) : Int), mkI .i64 (IntKind.wrap .i64 (i + (1 : Int)))] ++ (jks 40))), [.map KK.str [(Key.s kH, .fn (Fn.func 42) [] [])], .gh [], .box [.mp 0, .d (D.v (.map Option.none))], .box [mkS n, .d (.sl (atsD l)), mkS t, .d (.sl (ksD k))], .map KK.ystr (setKeyA (Key.s (strD (List.getD (List.getD (atsD l) (Int.toNat i) []) 0 d0))) (mkB true) se), .box [mkS (strD (List.getD (List.getD (atsD l) (Int.toNat i) []) 0 d0)), mkS (strD (List.getD (List.drop 1 (List.getD (atsD l) (Int.toNat i) [])) 0 d0))]]⟩))) (
 q (mkB false) [Ob.map KK.str [(Key.s kH, AV.fn (Fn.func 42) [] [])], Ob.gh [], Ob.box [AV.mp 0, AV.d (D.v (.map Option.none))], Ob.box [mkS n, AV.d (.sl (atsD l)), mkS t, AV.d (.sl (ksD k))], Ob.map KK.ystr se, Ob.box [mkS (strD (List.getD (List.getD (atsD l) (Int.toNat i) []) 0 d0)), mkS (strD (List.getD (List.drop 1 (List.getD (atsD l) (Int.toNat i) [])) 0 d0))]])) (
 q (mkB (left == (0 : Int))) [Ob.map KK.str [(Key.s kH, AV.fn (Fn.func 42) [] [])], Ob.gh [], Ob.box [AV.mp 0, AV.d (D.v (.map Option.none))], Ob.box [mkS n, AV.d (.sl (atsD l)), mkS t, AV.d (.sl (ksD k))], Ob.map KK.ystr se])) := by kernel_rfl
def obsBoth : List Ob := [.map .str [(Key.s kH, fnV 42), (Key.s kPrev, fnV 40)], .gh []]
noncomputable def rFBoth_k0 (q : AV → (List Ob) → Prop) : Kont := kBlk (0 : Nat) (kSeq (aCode KS GF (cAt [1, 1, 1, 1] Tryz.b38) (kRetF KS (Array.toList (Func.results Tryz.f38)) q)) (kRetF KS (Array.toList (Func.results Tryz.f38)) q))
theorem rFBoth (n : BA) (l : List At) (t : BA) (k : List El) (q : AV → List Ob → Prop) :
 (aCode KS GF Tryz.b38 (kRetF KS Tryz.f38.results.toList q) ⟨[.ag [.mp 0, nilM], .ag [mkS n, .d (.sl (atsD l)), mkS t, .d (.sl (ksD k))]] ++ List.replicate (Tryz.f38.ntmps - 2) .jk, obsBoth⟩) = (
 ((List.length (atsD l)) ≤ LIM) →
 ALoop (aCode KS GF (cAt [1, 1, 1, 0, 1, 0, 0] Tryz.b38)) (rFBoth_k0 q) ⟨[.ag [.mp 0, .d (D.v (.map Option.none))], .ag [mkS n, .d (.sl (atsD l)), mkS t, .d (.sl (ksD k))], .rf 2 0, .rf 3 0, mkB false, mkI .i64 2, .mp 4, .jk, .jk, .jk, .jk, .rf 2 (0 + 0), .mp 0, mkI .i64 2, .mp 4, .rf 3 (0 + 1), .d (.sl (atsD l)), mkI .i64 ((List.length (atsD l)) : Int), mkI .i64 0] ++ (jks 40), [.map KK.str [(Key.s kH, .fn (Fn.func 42) [] []), (Key.s kPrev, .fn (Fn.func 40) [] [])], .gh [], .box [.mp 0, .d (D.v (.map Option.none))], .box [mkS n, .d (.sl (atsD l)), mkS t, .d (.sl (ksD k))], .map KK.ystr []]⟩) := by kernel_rfl
def stFBoth (n : BA) (l : List At) (t : BA) (k : List El) (left i : Int) (se : List (Key × AV)) : S := ⟨[.ag [.mp 0, nilM], .ag [mkS n, .d (.sl (atsD l)), mkS t, .d (.sl (ksD k))], .rf 2 0, .rf 3 0, mkB false, mkI .i64 left, .mp 4] ++ jks 9 ++ [.d (.sl (atsD l)), mkI .i64 (atsD l).length, mkI .i64 i] ++ jks 40, obsBoth ++ [.box [.mp 0, nilM], .box [mkS n, .d (.sl (atsD l)), mkS t, .d (.sl (ksD k))], .map .ystr se]⟩
theorem rFBoth_b {ι : Type} (st : ι → S) (inv : ι → Prop) (μ : ι → Nat) (kk : ι) (n : BA) (l : List At) (t : BA) (k : List El) (left i : Int) (se : List (Key × AV)) (q : AV → List Ob → Prop) :
 (aCode KS GF (cAt [1, 1, 1, 0, 1, 0, 0] Tryz.b38) (kFamM [] (maskOf (stFBoth n l t k left i se)) st inv μ kk (rFBoth_k0 q)) (stFBoth n l t k left i se)) = (
 bcase (decide (i < ((List.length (atsD l)) : Int))) (
 (((0 : Int) ≤ i) ∧ (i < ((List.length (atsD l)) : Int))) ∧
 ((List.length (List.getD (atsD l) (Int.toNat i) [])) = 2) ∧
 (2 ≤ (List.length (List.getD (atsD l) (Int.toNat i) []))) ∧
 (((List.getD (List.getD (atsD l) (Int.toNat i) []) 0 d0) = (D.v (.string (strD (List.getD (List.getD (atsD l) (Int.toNat i) []) 0 d0))))) ∧ (((List.getD (List.drop 1 (List.getD (atsD l) (Int.toNat i) [])) 0 d0) = (D.v (.string (strD (List.getD (List.drop 1 (List.getD (atsD l) (Int.toNat i) [])) 0 d0))))) ∧ True)) ∧
 bcase (decide (kH = (strD (List.getD (List.getD (atsD l) (Int.toNat i) []) 0 d0)))) (
 ((ByteArray.size (strD (List.getD (List.drop 1 (List.getD (atsD l) (Int.toNat i) [])) 0 d0))) ≤ LIM) ∧
 bcase (!(cntB (strD (List.getD (List.drop 1 (List.getD (atsD l) (Int.toNat i) [])) 0 d0)))) (
 q (mkB false) [Ob.map KK.str [(Key.s kH, AV.fn (Fn.func 42) [] []), (Key.s kPrev, AV.fn (Fn.func 40) [] [])], Ob.gh [], Ob.box [AV.mp 0, AV.d (D.v (.map Option.none))], Ob.box [mkS n, AV.d (.sl (atsD l)), mkS t, AV.d (.sl (ksD k))], Ob.map KK.ystr se, Ob.box [mkS (strD (List.getD (List.getD (atsD l) (Int.toNat i) []) 0 d0)), mkS (strD (List.getD (List.drop 1 (List.getD (atsD l) (Int.toNat i) [])) 0 d0))]]) (
 ∃ (b : Bool),
 ((getO (Key.s (strD (List.getD (List.getD (atsD l) (Int.toNat i) []) 0 d0))) se (mkB false)) = (mkB b)) ∧
 bcase b (
 q (mkB false) [Ob.map KK.str [(Key.s kH, AV.fn (Fn.func 42) [] []), (Key.s kPrev, AV.fn (Fn.func 40) [] [])], Ob.gh [], Ob.box [AV.mp 0, AV.d (D.v (.map Option.none))], Ob.box [mkS n, AV.d (.sl (atsD l)), mkS t, AV.d (.sl (ksD k))], Ob.map KK.ystr se, Ob.box [mkS (strD (List.getD (List.getD (atsD l) (Int.toNat i) []) 0 d0)), mkS (strD (List.getD (List.drop 1 (List.getD (atsD l) (Int.toNat i) [])) 0 d0))]]) (
 FamNext st inv μ kk ⟨[.ag [.mp 0, .d (D.v (.map Option.none))], .ag [mkS n, .d (.sl (atsD l)), mkS t, .d (.sl (ksD k))], .rf 2 0, .rf 3 0, mkB false, mkI .i64 (IntKind.wrap .i64 (left - (1 : Int))), .mp 4] ++ (jks 9 ++ ([.d (.sl (atsD l)), mkI .i64 ((List.length (atsD l)) : Int), mkI .i64 (IntKind.wrap .i64 (i + (1 : Int)))] ++ (jks 40))), [.map KK.str [(Key.s kH, .fn (Fn.func 42) [] []), (Key.s kPrev, .fn (Fn.func 40) [] [])], .gh [], .box [.mp 0, .d (D.v (.map Option.none))], .box [mkS n, .d (.sl (atsD l)), mkS t, .d (.sl (ksD k))], .map KK.ystr (setKeyA (Key.s (strD (List.getD (List.getD (atsD l) (Int.toNat i) []) 0 d0))) (mkB true) se), .box [mkS (strD (List.getD (List.getD (atsD l) (Int.toNat i) []) 0 d0)), mkS (strD (List.getD (List.drop 1 (List.getD (atsD l) (Int.toNat i) [])) 0 d0))]]⟩))) (
 bcase (decide (kPrev = (strD (List.getD (List.getD (atsD l) (Int.toNat i) []) 0 d0)))) (
 ((ByteArray.size (strD (List.getD (List.drop 1 (List.getD (atsD l) (Int.toNat i) [])) 0 d0))) ≤ LIM) ∧
 bcase (!(wordB (strD (List.getD (List.drop 1 (List.getD (atsD l) (Int.toNat i) [])) 0 d0)))) (
 q (mkB false) [Ob.map KK.str [(Key.s kH, AV.fn (Fn.func 42) [] []), (Key.s kPrev, AV.fn (Fn.func 40) [] [])], Ob.gh [], Ob.box [AV.mp 0, AV.d (D.v (.map Option.none))], Ob.box [mkS n, AV.d (.sl (atsD l)), mkS t, AV.d (.sl (ksD k))], Ob.map KK.ystr se, Ob.box [mkS (strD (List.getD (List.getD (atsD l) (Int.toNat i) []) 0 d0)), mkS (strD (List.getD (List.drop 1 (List.getD (atsD l) (Int.toNat i) [])) 0 d0))]]) (
 ∃ (b : Bool),
 ((getO (Key.s (strD (List.getD (List.getD (atsD l) (Int.toNat i) []) 0 d0))) se (mkB false)) = (mkB b)) ∧
 bcase b (
 q (mkB false) [Ob.map KK.str [(Key.s kH, AV.fn (Fn.func 42) [] []), (Key.s kPrev, AV.fn (Fn.func 40) [] [])], Ob.gh [], Ob.box [AV.mp 0, AV.d (D.v (.map Option.none))], Ob.box [mkS n, AV.d (.sl (atsD l)), mkS t, AV.d (.sl (ksD k))], Ob.map KK.ystr se, Ob.box [mkS (strD (List.getD (List.getD (atsD l) (Int.toNat i) []) 0 d0)), mkS (strD (List.getD (List.drop 1 (List.getD (atsD l) (Int.toNat i) [])) 0 d0))]]) (
 FamNext st inv μ kk ⟨[.ag [.mp 0, .d (D.v (.map Option.none))], .ag [mkS n, .d (.sl (atsD l)), mkS t, .d (.sl (ksD k))], .rf 2 0, .rf 3 0, mkB false, mkI .i64 (IntKind.wrap .i64 (left - (1 : Int))), .mp 4] ++ (jks 9 ++ ([.d (.sl (atsD l)), mkI .i64 ((List.length (atsD l)) : Int), mkI .i64 (IntKind.wrap .i64 (i + (1 : Int)))] ++ (jks 40))), [.map KK.str [(Key.s kH, .fn (Fn.func 42) [] []), (Key.s kPrev, .fn (Fn.func 40) [] [])], .gh [], .box [.mp 0, .d (D.v (.map Option.none))], .box [mkS n, .d (.sl (atsD l)), mkS t, .d (.sl (ksD k))], .map KK.ystr (setKeyA (Key.s (strD (List.getD (List.getD (atsD l) (Int.toNat i) []) 0 d0))) (mkB true) se), .box [mkS (strD (List.getD (List.getD (atsD l) (Int.toNat i) []) 0 d0)), mkS (strD (List.getD (List.drop 1 (List.getD (atsD l) (Int.toNat i) [])) 0 d0))]]⟩))) (
 q (mkB false) [Ob.map KK.str [(Key.s kH, AV.fn (Fn.func 42) [] []), (Key.s kPrev, AV.fn (Fn.func 40) [] [])], Ob.gh [], Ob.box [AV.mp 0, AV.d (D.v (.map Option.none))], Ob.box [mkS n, AV.d (.sl (atsD l)), mkS t, AV.d (.sl (ksD k))], Ob.map KK.ystr se, Ob.box [mkS (strD (List.getD (List.getD (atsD l) (Int.toNat i) []) 0 d0)), mkS (strD (List.getD (List.drop 1 (List.getD (atsD l) (Int.toNat i) [])) 0 d0))]]))) (
 q (mkB (left == (0 : Int))) [Ob.map KK.str [(Key.s kH, AV.fn (Fn.func 42) [] []), (Key.s kPrev, AV.fn (Fn.func 40) [] [])], Ob.gh [], Ob.box [AV.mp 0, AV.d (D.v (.map Option.none))], Ob.box [mkS n, AV.d (.sl (atsD l)), mkS t, AV.d (.sl (ksD k))], Ob.map KK.ystr se])) := by kernel_rfl
def obsIq : List Ob := [.map .str [(Key.s kType, fnV 40), (Key.s kId, fnV 40)], .gh []]
noncomputable def rFIq_k0 (q : AV → (List Ob) → Prop) : Kont := kBlk (0 : Nat) (kSeq (aCode KS GF (cAt [1, 1, 1, 1] Tryz.b38) (kRetF KS (Array.toList (Func.results Tryz.f38)) q)) (kRetF KS (Array.toList (Func.results Tryz.f38)) q))
theorem rFIq (n : BA) (l : List At) (t : BA) (k : List El) (q : AV → List Ob → Prop) :
 (aCode KS GF Tryz.b38 (kRetF KS Tryz.f38.results.toList q) ⟨[.ag [.mp 0, nilM], .ag [mkS n, .d (.sl (atsD l)), mkS t, .d (.sl (ksD k))]] ++ List.replicate (Tryz.f38.ntmps - 2) .jk, obsIq⟩) = (
 ((List.length (atsD l)) ≤ LIM) →
 ALoop (aCode KS GF (cAt [1, 1, 1, 0, 1, 0, 0] Tryz.b38)) (rFIq_k0 q) ⟨[.ag [.mp 0, .d (D.v (.map Option.none))], .ag [mkS n, .d (.sl (atsD l)), mkS t, .d (.sl (ksD k))], .rf 2 0, .rf 3 0, mkB false, mkI .i64 2, .mp 4, .jk, .jk, .jk, .jk, .rf 2 (0 + 0), .mp 0, mkI .i64 2, .mp 4, .rf 3 (0 + 1), .d (.sl (atsD l)), mkI .i64 ((List.length (atsD l)) : Int), mkI .i64 0] ++ (jks 40), [.map KK.str [(Key.s kType, .fn (Fn.func 40) [] []), (Key.s kId, .fn (Fn.func 40) [] [])], .gh [], .box [.mp 0, .d (D.v (.map Option.none))], .box [mkS n, .d (.sl (atsD l)), mkS t, .d (.sl (ksD k))], .map KK.ystr []]⟩) := by kernel_rfl
def stFIq (n : BA) (l : List At) (t : BA) (k : List El) (left i : Int) (se : List (Key × AV)) : S := ⟨[.ag [.mp 0, nilM], .ag [mkS n, .d (.sl (atsD l)), mkS t, .d (.sl (ksD k))], .rf 2 0, .rf 3 0, mkB false, mkI .i64 left, .mp 4] ++ jks 9 ++ [.d (.sl (atsD l)), mkI .i64 (atsD l).length, mkI .i64 i] ++ jks 40, obsIq ++ [.box [.mp 0, nilM], .box [mkS n, .d (.sl (atsD l)), mkS t, .d (.sl (ksD k))], .map .ystr se]⟩
theorem rFIq_b {ι : Type} (st : ι → S) (inv : ι → Prop) (μ : ι → Nat) (kk : ι) (n : BA) (l : List At) (t : BA) (k : List El) (left i : Int) (se : List (Key × AV)) (q : AV → List Ob → Prop) :
 (aCode KS GF (cAt [1, 1, 1, 0, 1, 0, 0] Tryz.b38) (kFamM [] (maskOf (stFIq n l t k left i se)) st inv μ kk (rFIq_k0 q)) (stFIq n l t k left i se)) = (
 bcase (decide (i < ((List.length (atsD l)) : Int))) (
 (((0 : Int) ≤ i) ∧ (i < ((List.length (atsD l)) : Int))) ∧
 ((List.length (List.getD (atsD l) (Int.toNat i) [])) = 2) ∧
 (2 ≤ (List.length (List.getD (atsD l) (Int.toNat i) []))) ∧
 (((List.getD (List.getD (atsD l) (Int.toNat i) []) 0 d0) = (D.v (.string (strD (List.getD (List.getD (atsD l) (Int.toNat i) []) 0 d0))))) ∧ (((List.getD (List.drop 1 (List.getD (atsD l) (Int.toNat i) [])) 0 d0) = (D.v (.string (strD (List.getD (List.drop 1 (List.getD (atsD l) (Int.toNat i) [])) 0 d0))))) ∧ True)) ∧
 bcase (decide (kType = (strD (List.getD (List.getD (atsD l) (Int.toNat i) []) 0 d0)))) (
 ((ByteArray.size (strD (List.getD (List.drop 1 (List.getD (atsD l) (Int.toNat i) [])) 0 d0))) ≤ LIM) ∧
 bcase (!(wordB (strD (List.getD (List.drop 1 (List.getD (atsD l) (Int.toNat i) [])) 0 d0)))) (
 q (mkB false) [Ob.map KK.str [(Key.s kType, AV.fn (Fn.func 40) [] []), (Key.s kId, AV.fn (Fn.func 40) [] [])], Ob.gh [], Ob.box [AV.mp 0, AV.d (D.v (.map Option.none))], Ob.box [mkS n, AV.d (.sl (atsD l)), mkS t, AV.d (.sl (ksD k))], Ob.map KK.ystr se, Ob.box [mkS (strD (List.getD (List.getD (atsD l) (Int.toNat i) []) 0 d0)), mkS (strD (List.getD (List.drop 1 (List.getD (atsD l) (Int.toNat i) [])) 0 d0))]]) (
 ∃ (b : Bool),
 ((getO (Key.s (strD (List.getD (List.getD (atsD l) (Int.toNat i) []) 0 d0))) se (mkB false)) = (mkB b)) ∧
 bcase b (
 q (mkB false) [Ob.map KK.str [(Key.s kType, AV.fn (Fn.func 40) [] []), (Key.s kId, AV.fn (Fn.func 40) [] [])], Ob.gh [], Ob.box [AV.mp 0, AV.d (D.v (.map Option.none))], Ob.box [mkS n, AV.d (.sl (atsD l)), mkS t, AV.d (.sl (ksD k))], Ob.map KK.ystr se, Ob.box [mkS (strD (List.getD (List.getD (atsD l) (Int.toNat i) []) 0 d0)), mkS (strD (List.getD (List.drop 1 (List.getD (atsD l) (Int.toNat i) [])) 0 d0))]]) (
 FamNext st inv μ kk ⟨[.ag [.mp 0, .d (D.v (.map Option.none))], .ag [mkS n, .d (.sl (atsD l)), mkS t, .d (.sl (ksD k))], .rf 2 0, .rf 3 0, mkB false, mkI .i64 (IntKind.wrap .i64 (left - (1 : Int))), .mp 4] ++ (jks 9 ++ ([.d (.sl (atsD l)), mkI .i64 ((List.length (atsD l)) : Int), mkI .i64 (IntKind.wrap .i64 (i + (1 : Int)))] ++ (jks 40))), [.map KK.str [(Key.s kType, .fn (Fn.func 40) [] []), (Key.s kId, .fn (Fn.func 40) [] [])], .gh [], .box [.mp 0, .d (D.v (.map Option.none))], .box [mkS n, .d (.sl (atsD l)), mkS t, .d (.sl (ksD k))], .map KK.ystr (setKeyA (Key.s (strD (List.getD (List.getD (atsD l) (Int.toNat i) []) 0 d0))) (mkB true) se), .box [mkS (strD (List.getD (List.getD (atsD l) (Int.toNat i) []) 0 d0)), mkS (strD (List.getD (List.drop 1 (List.getD (atsD l) (Int.toNat i) [])) 0 d0))]]⟩))) (
 bcase (decide (kId = (strD (List.getD (List.getD (atsD l) (Int.toNat i) []) 0 d0)))) (
 ((ByteArray.size (strD (List.getD (List.drop 1 (List.getD (atsD l) (Int.toNat i) [])) 0 d0))) ≤ LIM) ∧
 bcase (!(wordB (strD (List.getD (List.drop 1 (List.getD (atsD l) (Int.toNat i) [])) 0 d0)))) (
 q (mkB false) [Ob.map KK.str [(Key.s kType, AV.fn (Fn.func 40) [] []), (Key.s kId, AV.fn (Fn.func 40) [] [])], Ob.gh [], Ob.box [AV.mp 0, AV.d (D.v (.map Option.none))], Ob.box [mkS n, AV.d (.sl (atsD l)), mkS t, AV.d (.sl (ksD k))], Ob.map KK.ystr se, Ob.box [mkS (strD (List.getD (List.getD (atsD l) (Int.toNat i) []) 0 d0)), mkS (strD (List.getD (List.drop 1 (List.getD (atsD l) (Int.toNat i) [])) 0 d0))]]) (
 ∃ (b : Bool),
 ((getO (Key.s (strD (List.getD (List.getD (atsD l) (Int.toNat i) []) 0 d0))) se (mkB false)) = (mkB b)) ∧
 bcase b (
 q (mkB false) [Ob.map KK.str [(Key.s kType, AV.fn (Fn.func 40) [] []), (Key.s kId, AV.fn (Fn.func 40) [] [])], Ob.gh [], Ob.box [AV.mp 0, AV.d (D.v (.map Option.none))], Ob.box [mkS n, AV.d (.sl (atsD l)), mkS t, AV.d (.sl (ksD k))], Ob.map KK.ystr se, Ob.box [mkS (strD (List.getD (List.getD (atsD l) (Int.toNat i) []) 0 d0)), mkS (strD (List.getD (List.drop 1 (List.getD (atsD l) (Int.toNat i) [])) 0 d0))]]) (
 FamNext st inv μ kk ⟨[.ag [.mp 0, .d (D.v (.map Option.none))], .ag [mkS n, .d (.sl (atsD l)), mkS t, .d (.sl (ksD k))], .rf 2 0, .rf 3 0, mkB false, mkI .i64 (IntKind.wrap .i64 (left - (1 : Int))), .mp 4] ++ (jks 9 ++ ([.d (.sl (atsD l)), mkI .i64 ((List.length (atsD l)) : Int), mkI .i64 (IntKind.wrap .i64 (i + (1 : Int)))] ++ (jks 40))), [.map KK.str [(Key.s kType, .fn (Fn.func 40) [] []), (Key.s kId, .fn (Fn.func 40) [] [])], .gh [], .box [.mp 0, .d (D.v (.map Option.none))], .box [mkS n, .d (.sl (atsD l)), mkS t, .d (.sl (ksD k))], .map KK.ystr (setKeyA (Key.s (strD (List.getD (List.getD (atsD l) (Int.toNat i) []) 0 d0))) (mkB true) se), .box [mkS (strD (List.getD (List.getD (atsD l) (Int.toNat i) []) 0 d0)), mkS (strD (List.getD (List.drop 1 (List.getD (atsD l) (Int.toNat i) [])) 0 d0))]]⟩))) (
 q (mkB false) [Ob.map KK.str [(Key.s kType, AV.fn (Fn.func 40) [] []), (Key.s kId, AV.fn (Fn.func 40) [] [])], Ob.gh [], Ob.box [AV.mp 0, AV.d (D.v (.map Option.none))], Ob.box [mkS n, AV.d (.sl (atsD l)), mkS t, AV.d (.sl (ksD k))], Ob.map KK.ystr se, Ob.box [mkS (strD (List.getD (List.getD (atsD l) (Int.toNat i) []) 0 d0)), mkS (strD (List.getD (List.drop 1 (List.getD (atsD l) (Int.toNat i) [])) 0 d0))]]))) (
 q (mkB (left == (0 : Int))) [Ob.map KK.str [(Key.s kType, AV.fn (Fn.func 40) [] []), (Key.s kId, AV.fn (Fn.func 40) [] [])], Ob.gh [], Ob.box [AV.mp 0, AV.d (D.v (.map Option.none))], Ob.box [mkS n, AV.d (.sl (atsD l)), mkS t, AV.d (.sl (ksD k))], Ob.map KK.ystr se])) := by kernel_rfl
def obsQuery : List Ob := [.map .str [(Key.s kVer, fnV 63)], .gh []]
noncomputable def rFQuery_k0 (q : AV → (List Ob) → Prop) : Kont := kBlk (0 : Nat) (kSeq (aCode KS GF (cAt [1, 1, 1, 1] Tryz.b38) (kRetF KS (Array.toList (Func.results Tryz.f38)) q)) (kRetF KS (Array.toList (Func.results Tryz.f38)) q))
theorem rFQuery (n : BA) (l : List At) (t : BA) (k : List El) (q : AV → List Ob → Prop) :
 (aCode KS GF Tryz.b38 (kRetF KS Tryz.f38.results.toList q) ⟨[.ag [nilM, .mp 0], .ag [mkS n, .d (.sl (atsD l)), mkS t, .d (.sl (ksD k))]] ++ List.replicate (Tryz.f38.ntmps - 2) .jk, obsQuery⟩) = (
 ((List.length (atsD l)) ≤ LIM) →
 ALoop (aCode KS GF (cAt [1, 1, 1, 0, 1, 0, 0] Tryz.b38)) (rFQuery_k0 q) ⟨[.ag [.d (D.v (.map Option.none)), .mp 0], .ag [mkS n, .d (.sl (atsD l)), mkS t, .d (.sl (ksD k))], .rf 2 0, .rf 3 0, mkB false, mkI .i64 0, .mp 4, .jk, .jk, .jk, .jk, .rf 2 (0 + 0), .d (D.v (.map Option.none)), mkI .i64 0, .mp 4, .rf 3 (0 + 1), .d (.sl (atsD l)), mkI .i64 ((List.length (atsD l)) : Int), mkI .i64 0] ++ (jks 40), [.map KK.str [(Key.s kVer, .fn (Fn.func 63) [] [])], .gh [], .box [.d (D.v (.map Option.none)), .mp 0], .box [mkS n, .d (.sl (atsD l)), mkS t, .d (.sl (ksD k))], .map KK.ystr []]⟩) := by kernel_rfl
def stFQuery (n : BA) (l : List At) (t : BA) (k : List El) (left i : Int) (se : List (Key × AV)) : S := ⟨[.ag [nilM, .mp 0], .ag [mkS n, .d (.sl (atsD l)), mkS t, .d (.sl (ksD k))], .rf 2 0, .rf 3 0, mkB false, mkI .i64 left, .mp 4] ++ jks 9 ++ [.d (.sl (atsD l)), mkI .i64 (atsD l).length, mkI .i64 i] ++ jks 40, obsQuery ++ [.box [nilM, .mp 0], .box [mkS n, .d (.sl (atsD l)), mkS t, .d (.sl (ksD k))], .map .ystr se]⟩
theorem rFQuery_b {ι : Type} (st : ι → S) (inv : ι → Prop) (μ : ι → Nat) (kk : ι) (n : BA) (l : List At) (t : BA) (k : List El) (left i : Int) (se : List (Key × AV)) (q : AV → List Ob → Prop) :
 (aCode KS GF (cAt [1, 1, 1, 0, 1, 0, 0] Tryz.b38) (kFamM [] (maskOf (stFQuery n l t k left i se)) st inv μ kk (rFQuery_k0 q)) (stFQuery n l t k left i se)) = (
 bcase (decide (i < ((List.length (atsD l)) : Int))) (
 (((0 : Int) ≤ i) ∧ (i < ((List.length (atsD l)) : Int))) ∧
 ((List.length (List.getD (atsD l) (Int.toNat i) [])) = 2) ∧
 (2 ≤ (List.length (List.getD (atsD l) (Int.toNat i) []))) ∧
 (((List.getD (List.getD (atsD l) (Int.toNat i) []) 0 d0) = (D.v (.string (strD (List.getD (List.getD (atsD l) (Int.toNat i) []) 0 d0))))) ∧ (((List.getD (List.drop 1 (List.getD (atsD l) (Int.toNat i) [])) 0 d0) = (D.v (.string (strD (List.getD (List.drop 1 (List.getD (atsD l) (Int.toNat i) [])) 0 d0))))) ∧ True)) ∧
 bcase (decide (kVer = (strD (List.getD (List.getD (atsD l) (Int.toNat i) []) 0 d0)))) (
 ((ByteArray.size (strD (List.getD (List.drop 1 (List.getD (atsD l) (Int.toNat i) [])) 0 d0))) ≤ LIM) ∧
 bcase (!(numB (strD (List.getD (List.drop 1 (List.getD (atsD l) (Int.toNat i) [])) 0 d0)))) (
 q (mkB false) [Ob.map KK.str [(Key.s kVer, AV.fn (Fn.func 63) [] [])], Ob.gh [], Ob.box [AV.d (D.v (.map Option.none)), AV.mp 0], Ob.box [mkS n, AV.d (.sl (atsD l)), mkS t, AV.d (.sl (ksD k))], Ob.map KK.ystr se, Ob.box [mkS (strD (List.getD (List.getD (atsD l) (Int.toNat i) []) 0 d0)), mkS (strD (List.getD (List.drop 1 (List.getD (atsD l) (Int.toNat i) [])) 0 d0))]]) (
 ∃ (b : Bool),
 ((getO (Key.s (strD (List.getD (List.getD (atsD l) (Int.toNat i) []) 0 d0))) se (mkB false)) = (mkB b)) ∧
 bcase b (
 q (mkB false) [Ob.map KK.str [(Key.s kVer, AV.fn (Fn.func 63) [] [])], Ob.gh [], Ob.box [AV.d (D.v (.map Option.none)), AV.mp 0], Ob.box [mkS n, AV.d (.sl (atsD l)), mkS t, AV.d (.sl (ksD k))], Ob.map KK.ystr se, Ob.box [mkS (strD (List.getD (List.getD (atsD l) (Int.toNat i) []) 0 d0)), mkS (strD (List.getD (List.drop 1 (List.getD (atsD l) (Int.toNat i) [])) 0 d0))]]) (
 FamNext st inv μ kk ⟨[.ag [.d (D.v (.map Option.none)), .mp 0], .ag [mkS n, .d (.sl (atsD l)), mkS t, .d (.sl (ksD k))], .rf 2 0, .rf 3 0, mkB false, mkI .i64 left, .mp 4] ++ (jks 9 ++ ([.d (.sl (atsD l)), mkI .i64 ((List.length (atsD l)) : Int), mkI .i64 (IntKind.wrap .i64 (i + (1 : Int)))] ++ (jks 40))), [.map KK.str [(Key.s kVer, .fn (Fn.func 63) [] [])], .gh [], .box [.d (D.v (.map Option.none)), .mp 0], .box [mkS n, .d (.sl (atsD l)), mkS t, .d (.sl (ksD k))], .map KK.ystr (setKeyA (Key.s (strD (List.getD (List.getD (atsD l) (Int.toNat i) []) 0 d0))) (mkB true) se), .box [mkS (strD (List.getD (List.getD (atsD l) (Int.toNat i) []) 0 d0)), mkS (strD (List.getD (List.drop 1 (List.getD (atsD l) (Int.toNat i) [])) 0 d0))]]⟩))) (
 q (mkB false) [Ob.map KK.str [(Key.s kVer, AV.fn (Fn.func 63) [] [])], Ob.gh [], Ob.box [AV.d (D.v (.map Option.none)), AV.mp 0], Ob.box [mkS n, AV.d (.sl (atsD l)), mkS t, AV.d (.sl (ksD k))], Ob.map KK.ystr se, Ob.box [mkS (strD (List.getD (List.getD (atsD l) (Int.toNat i) []) 0 d0)), mkS (strD (List.getD (List.drop 1 (List.getD (atsD l) (Int.toNat i) [])) 0 d0))]])) (
 q (mkB (left == (0 : Int))) [Ob.map KK.str [(Key.s kVer, AV.fn (Fn.func 63) [] [])], Ob.gh [], Ob.box [AV.d (D.v (.map Option.none)), AV.mp 0], Ob.box [mkS n, AV.d (.sl (atsD l)), mkS t, AV.d (.sl (ksD k))], Ob.map KK.ystr se])) := by kernel_rfl
def EFZ : REnt := fun al o q => ∃ n l t k, al = [.ag [nilM, nilM], .ag [mkS n, .d (.sl (atsD l)), mkS t, .d (.sl (ksD k))]] ∧ o = obsZ ∧ (l.length ≤ LIM ∧ atsFit l) ∧ q (mkB (fitsM [] [] l)) obsZ
theorem cFZ : RSound Tryz.prog 38 EFZ := by
  refine ref_gen trimN trimN_ok (code_bsound (c := Tryz.b38) mixed KS_ok gf_ok) KS_ok Tryz.func38 rfl rfl Tryz.call38 fun al o q ⟨n, l, t, k, h1, h2, ⟨hll, hfit⟩, hq⟩ => ?_
  subst h1 h2
  have fin : ∀ o : List Ob, trimN q (mkB (fitsM [] [] l)) (obsZ ++ o) := fun o => ⟨_, _, LeN.refl _, by simp [leO, obsZ], by rfl, hq⟩
  generalize hA : fitsM [] [] l = ANS at fin
  clear hq
  refine cast (rFZ n l t k (trimN q)).symm fun _ => ?_
  refine ALoop.introM [] (maskOf (stFZ n l t k (leftN [] l 0) 0 (seenE (l.take 0)))) (fun j : Nat => stFZ n l t k (leftN [] l j) j (seenE (l.take j))) (fun j => FI [] [] l j) (fun j => l.length - j) ⟨[], 0, ?_, fi_zero _ _ _⟩ fun j hI => ?_
  · simp [S.le, sealAll, leL, leA, leO, jks, stFZ, obsZ, leftN, seenE, mkB, mkI, mkS, nilM, fnV, S.fits, fitsL, AV.fits, Ob.fits, KK.isSy, firmL, mkSS, shId, shH, shBoth, shIq, shQuery, shPres, shItem, shJid]
  · have hj := hI.le
    refine cast (rFZ_b _ _ _ j n l t k (leftN [] l j) j (seenE (l.take j)) (trimN q)).symm (bcase_dec (fun hlt => ?_) (fun hge => ?_))
    · rw [atsD_len] at hlt
      have hlt : j < l.length := by omega
      have hgd := atsD_getD l j hlt
      obtain ⟨z1, z2⟩ := hfit _ (List.getElem_mem hlt)
      have nx : ∀ (lf : Int) (se : List (Key × AV)) (o : List Ob), lf = leftN [] l (j + 1) → se = seenE (l.take (j + 1)) → FI [] [] l (j + 1) → FamNext (fun j : Nat => stFZ n l t k (leftN [] l j) j (seenE (l.take j))) (fun j => FI [] [] l j) (fun j => l.length - j) j ⟨(stFZ n l t k lf (IntKind.wrap .i64 ((j : Int) + 1)) se).t, (stFZ n l t k lf 0 se).o ++ o⟩ := fun lf se o e1 e2 e3 => by
        refine .mk [] (j + 1) ?_ e3 (by omega)
        subst e1 e2
        rw [wrap_succ hlt (Nat.le_trans hll (by decide))]
        simp [S.le, sealAll, leL, leA, leO, jks, stFZ, obsZ, S.fits, fitsL, AV.fits, Ob.fits, KK.isSy, mkSS, mkS, mkI, mkB, nilM, fnV, firmL]
      simp only [Int.toNat_natCast, hgd, atD, List.getD_cons_zero, List.drop_succ_cons, List.drop_zero, strD]
      refine ⟨⟨by omega, by rw [atsD_len]; omega⟩, rfl, Nat.le_refl _, ⟨by trivial, by trivial, trivial⟩, ?_⟩
      have bad : atOk [] [] l[j] = false → ANS = false := fun h => by rw [← hA]; exact f_bad hlt h
      have dup : l[j].1 ∈ (l.take j).map Prod.fst → ANS = false := fun h => by rw [← hA]; exact f_dup hlt h
      generalize hat : l[j] = a at bad dup z1 z2
      have e : ANS = false := bad (by simp [atOk, lkT, shId, shH, shBoth, shIq, shQuery, shPres, shItem, shJid])
      subst e; exact fin _
    · rw [atsD_len] at hge
      have e : j = l.length := by omega
      subst e
      rw [f_end hI] at hA
      rw [hA]
      exact fin _
def EFId : REnt := fun al o q => ∃ n l t k, al = [.ag [.mp 0, nilM], .ag [mkS n, .d (.sl (atsD l)), mkS t, .d (.sl (ksD k))]] ∧ o = obsId ∧ (l.length ≤ LIM ∧ atsFit l) ∧ q (mkB (fitsM shId [] l)) obsId
theorem cFId : RSound Tryz.prog 38 EFId := by
  refine ref_gen trimN trimN_ok (code_bsound (c := Tryz.b38) mixed KS_ok gf_ok) KS_ok Tryz.func38 rfl rfl Tryz.call38 fun al o q ⟨n, l, t, k, h1, h2, ⟨hll, hfit⟩, hq⟩ => ?_
  subst h1 h2
  have fin : ∀ o : List Ob, trimN q (mkB (fitsM shId [] l)) (obsId ++ o) := fun o => ⟨_, _, LeN.refl _, by simp [leO, obsId], by rfl, hq⟩
  generalize hA : fitsM shId [] l = ANS at fin
  clear hq
  refine cast (rFId n l t k (trimN q)).symm fun _ => ?_
  refine ALoop.introM [] (maskOf (stFId n l t k (leftN shId l 0) 0 (seenE (l.take 0)))) (fun j : Nat => stFId n l t k (leftN shId l j) j (seenE (l.take j))) (fun j => FI shId [] l j) (fun j => l.length - j) ⟨[], 0, ?_, fi_zero _ _ _⟩ fun j hI => ?_
  · simp [S.le, sealAll, leL, leA, leO, jks, stFId, obsId, leftN, seenE, mkB, mkI, mkS, nilM, fnV, S.fits, fitsL, AV.fits, Ob.fits, KK.isSy, firmL, mkSS, shId, shH, shBoth, shIq, shQuery, shPres, shItem, shJid]
  · have hj := hI.le
    refine cast (rFId_b _ _ _ j n l t k (leftN shId l j) j (seenE (l.take j)) (trimN q)).symm (bcase_dec (fun hlt => ?_) (fun hge => ?_))
    · rw [atsD_len] at hlt
      have hlt : j < l.length := by omega
      have hgd := atsD_getD l j hlt
      obtain ⟨z1, z2⟩ := hfit _ (List.getElem_mem hlt)
      have nx : ∀ (lf : Int) (se : List (Key × AV)) (o : List Ob), lf = leftN shId l (j + 1) → se = seenE (l.take (j + 1)) → FI shId [] l (j + 1) → FamNext (fun j : Nat => stFId n l t k (leftN shId l j) j (seenE (l.take j))) (fun j => FI shId [] l j) (fun j => l.length - j) j ⟨(stFId n l t k lf (IntKind.wrap .i64 ((j : Int) + 1)) se).t, (stFId n l t k lf 0 se).o ++ o⟩ := fun lf se o e1 e2 e3 => by
        refine .mk [] (j + 1) ?_ e3 (by omega)
        subst e1 e2
        rw [wrap_succ hlt (Nat.le_trans hll (by decide))]
        simp [S.le, sealAll, leL, leA, leO, jks, stFId, obsId, S.fits, fitsL, AV.fits, Ob.fits, KK.isSy, mkSS, mkS, mkI, mkB, nilM, fnV, firmL]
      simp only [Int.toNat_natCast, hgd, atD, List.getD_cons_zero, List.drop_succ_cons, List.drop_zero, strD]
      refine ⟨⟨by omega, by rw [atsD_len]; omega⟩, rfl, Nat.le_refl _, ⟨by trivial, by trivial, trivial⟩, ?_⟩
      have bad : atOk shId [] l[j] = false → ANS = false := fun h => by rw [← hA]; exact f_bad hlt h
      have dup : l[j].1 ∈ (l.take j).map Prod.fst → ANS = false := fun h => by rw [← hA]; exact f_dup hlt h
      generalize hat : l[j] = a at bad dup z1 z2
      have hatk : ∀ {x : Tst}, inM x l[j] = inM x a := fun {x} => by rw [hat]
      refine bcase_mk (fun h0 => ?_) (fun h0 => ?_)
      · simp only [decide_eq_true_eq] at h0
        have at0 : atOk shId [] a = (wordB) a.2 := by simp [atOk, lkT, shId, shH, shBoth, shIq, shQuery, shPres, shItem, shJid, statesB, typesB, h0]
        have in0 : inM shId a = true := by simp [inM, lkT, shId, shH, shBoth, shIq, shQuery, shPres, shItem, shJid, h0]
        refine ⟨z2, bcase_mk (fun h7 => ?_) (fun h7 => ⟨_, seen_get _ _, bcase_mk (fun h8 => ?_) (fun h8 => ?_)⟩)⟩
        · have e : ANS = false := bad (by rw [at0]; simpa using h7)
          subst e; exact fin _
        · have e : ANS = false := dup ((memB_iff _ _).1 h8)
          subst e; exact fin _
        · exact nx _ _ _ (left_hit hlt (by rw [hat]; exact in0) hll (by decide)) (by rw [take_snoc hlt, hat]; exact seen_set (not_mem_of h8)) (fi_next hI hlt (by rw [hat, at0]; simpa using h7) (by rw [hat]; exact not_mem_of h8))
      · simp only [decide_eq_false_iff_not] at h0
        have e : ANS = false := bad (by simp [atOk, lkT, shId, shH, shBoth, shIq, shQuery, shPres, shItem, shJid, h0])
        subst e; exact fin _
    · rw [atsD_len] at hge
      have e : j = l.length := by omega
      subst e
      rw [f_end hI] at hA
      rw [hA]
      exact fin _
def EFH : REnt := fun al o q => ∃ n l t k, al = [.ag [.mp 0, nilM], .ag [mkS n, .d (.sl (atsD l)), mkS t, .d (.sl (ksD k))]] ∧ o = obsH ∧ (l.length ≤ LIM ∧ atsFit l) ∧ q (mkB (fitsM shH [] l)) obsH
theorem cFH : RSound Tryz.prog 38 EFH := by
  refine ref_gen trimN trimN_ok (code_bsound (c := Tryz.b38) mixed KS_ok gf_ok) KS_ok Tryz.func38 rfl rfl Tryz.call38 fun al o q ⟨n, l, t, k, h1, h2, ⟨hll, hfit⟩, hq⟩ => ?_
  subst h1 h2
  have fin : ∀ o : List Ob, trimN q (mkB (fitsM shH [] l)) (obsH ++ o) := fun o => ⟨_, _, LeN.refl _, by simp [leO, obsH], by rfl, hq⟩
  generalize hA : fitsM shH [] l = ANS at fin
  clear hq
  refine cast (rFH n l t k (trimN q)).symm fun _ => ?_
  refine ALoop.introM [] (maskOf (stFH n l t k (leftN shH l 0) 0 (seenE (l.take 0)))) (fun j : Nat => stFH n l t k (leftN shH l j) j (seenE (l.take j))) (fun j => FI shH [] l j) (fun j => l.length - j) ⟨[], 0, ?_, fi_zero _ _ _⟩ fun j hI => ?_
  · simp [S.le, sealAll, leL, leA, leO, jks, stFH, obsH, leftN, seenE, mkB, mkI, mkS, nilM, fnV, S.fits, fitsL, AV.fits, Ob.fits, KK.isSy, firmL, mkSS, shId, shH, shBoth, shIq, shQuery, shPres, shItem, shJid]
  · have hj := hI.le
    refine cast (rFH_b _ _ _ j n l t k (leftN shH l j) j (seenE (l.take j)) (trimN q)).symm (bcase_dec (fun hlt => ?_) (fun hge => ?_))
    · rw [atsD_len] at hlt
      have hlt : j < l.length := by omega
      have hgd := atsD_getD l j hlt
      obtain ⟨z1, z2⟩ := hfit _ (List.getElem_mem hlt)
      have nx : ∀ (lf : Int) (se : List (Key × AV)) (o : List Ob), lf = leftN shH l (j + 1) → se = seenE (l.take (j + 1)) → FI shH [] l (j + 1) → FamNext (fun j : Nat => stFH n l t k (leftN shH l j) j (seenE (l.take j))) (fun j => FI shH [] l j) (fun j => l.length - j) j ⟨(stFH n l t k lf (IntKind.wrap .i64 ((j : Int) + 1)) se).t, (stFH n l t k lf 0 se).o ++ o⟩ := fun lf se o e1 e2 e3 => by
        refine .mk [] (j + 1) ?_ e3 (by omega)
        subst e1 e2
        rw [wrap_succ hlt (Nat.le_trans hll (by decide))]
        simp [S.le, sealAll, leL, leA, leO, jks, stFH, obsH, S.fits, fitsL, AV.fits, Ob.fits, KK.isSy, mkSS, mkS, mkI, mkB, nilM, fnV, firmL]
      simp only [Int.toNat_natCast, hgd, atD, List.getD_cons_zero, List.drop_succ_cons, List.drop_zero, strD]
      refine ⟨⟨by omega, by rw [atsD_len]; omega⟩, rfl, Nat.le_refl _, ⟨by trivial, by trivial, trivial⟩, ?_⟩
      have bad : atOk shH [] l[j] = false → ANS = false := fun h => by rw [← hA]; exact f_bad hlt h
      have dup : l[j].1 ∈ (l.take j).map Prod.fst → ANS = false := fun h => by rw [← hA]; exact f_dup hlt h
      generalize hat : l[j] = a at bad dup z1 z2
      have hatk : ∀ {x : Tst}, inM x l[j] = inM x a := fun {x} => by rw [hat]
      refine bcase_mk (fun h0 => ?_) (fun h0 => ?_)
      · simp only [decide_eq_true_eq] at h0
        have at0 : atOk shH [] a = (cntB) a.2 := by simp [atOk, lkT, shId, shH, shBoth, shIq, shQuery, shPres, shItem, shJid, statesB, typesB, h0]
        have in0 : inM shH a = true := by simp [inM, lkT, shId, shH, shBoth, shIq, shQuery, shPres, shItem, shJid, h0]
        refine ⟨z2, bcase_mk (fun h7 => ?_) (fun h7 => ⟨_, seen_get _ _, bcase_mk (fun h8 => ?_) (fun h8 => ?_)⟩)⟩
        · have e : ANS = false := bad (by rw [at0]; simpa using h7)
          subst e; exact fin _
        · have e : ANS = false := dup ((memB_iff _ _).1 h8)
          subst e; exact fin _
        · exact nx _ _ _ (left_hit hlt (by rw [hat]; exact in0) hll (by decide)) (by rw [take_snoc hlt, hat]; exact seen_set (not_mem_of h8)) (fi_next hI hlt (by rw [hat, at0]; simpa using h7) (by rw [hat]; exact not_mem_of h8))
      · simp only [decide_eq_false_iff_not] at h0
        have e : ANS = false := bad (by simp [atOk, lkT, shId, shH, shBoth, shIq, shQuery, shPres, shItem, shJid, h0])
        subst e; exact fin _
    · rw [atsD_len] at hge
      have e : j = l.length := by omega
      subst e
      rw [f_end hI] at hA
      rw [hA]
      exact fin _
def EFBoth : REnt := fun al o q => ∃ n l t k, al = [.ag [.mp 0, nilM], .ag [mkS n, .d (.sl (atsD l)), mkS t, .d (.sl (ksD k))]] ∧ o = obsBoth ∧ (l.length ≤ LIM ∧ atsFit l) ∧ q (mkB (fitsM shBoth [] l)) obsBoth
theorem cFBoth : RSound Tryz.prog 38 EFBoth := by
  refine ref_gen trimN trimN_ok (code_bsound (c := Tryz.b38) mixed KS_ok gf_ok) KS_ok Tryz.func38 rfl rfl Tryz.call38 fun al o q ⟨n, l, t, k, h1, h2, ⟨hll, hfit⟩, hq⟩ => ?_
  subst h1 h2
  have fin : ∀ o : List Ob, trimN q (mkB (fitsM shBoth [] l)) (obsBoth ++ o) := fun o => ⟨_, _, LeN.refl _, by simp [leO, obsBoth], by rfl, hq⟩
  generalize hA : fitsM shBoth [] l = ANS at fin
  clear hq
  refine cast (rFBoth n l t k (trimN q)).symm fun _ => ?_
  refine ALoop.introM [] (maskOf (stFBoth n l t k (leftN shBoth l 0) 0 (seenE (l.take 0)))) (fun j : Nat => stFBoth n l t k (leftN shBoth l j) j (seenE (l.take j))) (fun j => FI shBoth [] l j) (fun j => l.length - j) ⟨[], 0, ?_, fi_zero _ _ _⟩ fun j hI => ?_
  · simp [S.le, sealAll, leL, leA, leO, jks, stFBoth, obsBoth, leftN, seenE, mkB, mkI, mkS, nilM, fnV, S.fits, fitsL, AV.fits, Ob.fits, KK.isSy, firmL, mkSS, shId, shH, shBoth, shIq, shQuery, shPres, shItem, shJid]
  · have hj := hI.le
    refine cast (rFBoth_b _ _ _ j n l t k (leftN shBoth l j) j (seenE (l.take j)) (trimN q)).symm (bcase_dec (fun hlt => ?_) (fun hge => ?_))
    · rw [atsD_len] at hlt
      have hlt : j < l.length := by omega
      have hgd := atsD_getD l j hlt
      obtain ⟨z1, z2⟩ := hfit _ (List.getElem_mem hlt)
      have nx : ∀ (lf : Int) (se : List (Key × AV)) (o : List Ob), lf = leftN shBoth l (j + 1) → se = seenE (l.take (j + 1)) → FI shBoth [] l (j + 1) → FamNext (fun j : Nat => stFBoth n l t k (leftN shBoth l j) j (seenE (l.take j))) (fun j => FI shBoth [] l j) (fun j => l.length - j) j ⟨(stFBoth n l t k lf (IntKind.wrap .i64 ((j : Int) + 1)) se).t, (stFBoth n l t k lf 0 se).o ++ o⟩ := fun lf se o e1 e2 e3 => by
        refine .mk [] (j + 1) ?_ e3 (by omega)
        subst e1 e2
        rw [wrap_succ hlt (Nat.le_trans hll (by decide))]
        simp [S.le, sealAll, leL, leA, leO, jks, stFBoth, obsBoth, S.fits, fitsL, AV.fits, Ob.fits, KK.isSy, mkSS, mkS, mkI, mkB, nilM, fnV, firmL]
      simp only [Int.toNat_natCast, hgd, atD, List.getD_cons_zero, List.drop_succ_cons, List.drop_zero, strD]
      refine ⟨⟨by omega, by rw [atsD_len]; omega⟩, rfl, Nat.le_refl _, ⟨by trivial, by trivial, trivial⟩, ?_⟩
      have bad : atOk shBoth [] l[j] = false → ANS = false := fun h => by rw [← hA]; exact f_bad hlt h
      have dup : l[j].1 ∈ (l.take j).map Prod.fst → ANS = false := fun h => by rw [← hA]; exact f_dup hlt h
      generalize hat : l[j] = a at bad dup z1 z2
      have hatk : ∀ {x : Tst}, inM x l[j] = inM x a := fun {x} => by rw [hat]
      refine bcase_mk (fun h0 => ?_) (fun h0 => ?_)
      · simp only [decide_eq_true_eq] at h0
        have at0 : atOk shBoth [] a = (cntB) a.2 := by simp [atOk, lkT, shId, shH, shBoth, shIq, shQuery, shPres, shItem, shJid, statesB, typesB, h0]
        have in0 : inM shBoth a = true := by simp [inM, lkT, shId, shH, shBoth, shIq, shQuery, shPres, shItem, shJid, h0]
        refine ⟨z2, bcase_mk (fun h7 => ?_) (fun h7 => ⟨_, seen_get _ _, bcase_mk (fun h8 => ?_) (fun h8 => ?_)⟩)⟩
        · have e : ANS = false := bad (by rw [at0]; simpa using h7)
          subst e; exact fin _
        · have e : ANS = false := dup ((memB_iff _ _).1 h8)
          subst e; exact fin _
        · exact nx _ _ _ (left_hit hlt (by rw [hat]; exact in0) hll (by decide)) (by rw [take_snoc hlt, hat]; exact seen_set (not_mem_of h8)) (fi_next hI hlt (by rw [hat, at0]; simpa using h7) (by rw [hat]; exact not_mem_of h8))
      · simp only [decide_eq_false_iff_not] at h0
        refine bcase_mk (fun h1 => ?_) (fun h1 => ?_)
        · simp only [decide_eq_true_eq] at h1
          have at0 : atOk shBoth [] a = (wordB) a.2 := by simp [atOk, lkT, shId, shH, shBoth, shIq, shQuery, shPres, shItem, shJid, statesB, typesB, h0, h1]
          have in0 : inM shBoth a = true := by simp [inM, lkT, shId, shH, shBoth, shIq, shQuery, shPres, shItem, shJid, h0, h1]
          refine ⟨z2, bcase_mk (fun h7 => ?_) (fun h7 => ⟨_, seen_get _ _, bcase_mk (fun h8 => ?_) (fun h8 => ?_)⟩)⟩
          · have e : ANS = false := bad (by rw [at0]; simpa using h7)
            subst e; exact fin _
          · have e : ANS = false := dup ((memB_iff _ _).1 h8)
            subst e; exact fin _
          · exact nx _ _ _ (left_hit hlt (by rw [hat]; exact in0) hll (by decide)) (by rw [take_snoc hlt, hat]; exact seen_set (not_mem_of h8)) (fi_next hI hlt (by rw [hat, at0]; simpa using h7) (by rw [hat]; exact not_mem_of h8))
        · simp only [decide_eq_false_iff_not] at h1
          have e : ANS = false := bad (by simp [atOk, lkT, shId, shH, shBoth, shIq, shQuery, shPres, shItem, shJid, h0, h1])
          subst e; exact fin _
    · rw [atsD_len] at hge
      have e : j = l.length := by omega
      subst e
      rw [f_end hI] at hA
      rw [hA]
      exact fin _
def EFIq : REnt := fun al o q => ∃ n l t k, al = [.ag [.mp 0, nilM], .ag [mkS n, .d (.sl (atsD l)), mkS t, .d (.sl (ksD k))]] ∧ o = obsIq ∧ (l.length ≤ LIM ∧ atsFit l) ∧ q (mkB (fitsM shIq [] l)) obsIq
theorem cFIq : RSound Tryz.prog 38 EFIq := by
  refine ref_gen trimN trimN_ok (code_bsound (c := Tryz.b38) mixed KS_ok gf_ok) KS_ok Tryz.func38 rfl rfl Tryz.call38 fun al o q ⟨n, l, t, k, h1, h2, ⟨hll, hfit⟩, hq⟩ => ?_
  subst h1 h2
  have fin : ∀ o : List Ob, trimN q (mkB (fitsM shIq [] l)) (obsIq ++ o) := fun o => ⟨_, _, LeN.refl _, by simp [leO, obsIq], by rfl, hq⟩
  generalize hA : fitsM shIq [] l = ANS at fin
  clear hq
  refine cast (rFIq n l t k (trimN q)).symm fun _ => ?_
  refine ALoop.introM [] (maskOf (stFIq n l t k (leftN shIq l 0) 0 (seenE (l.take 0)))) (fun j : Nat => stFIq n l t k (leftN shIq l j) j (seenE (l.take j))) (fun j => FI shIq [] l j) (fun j => l.length - j) ⟨[], 0, ?_, fi_zero _ _ _⟩ fun j hI => ?_
  · simp [S.le, sealAll, leL, leA, leO, jks, stFIq, obsIq, leftN, seenE, mkB, mkI, mkS, nilM, fnV, S.fits, fitsL, AV.fits, Ob.fits, KK.isSy, firmL, mkSS, shId, shH, shBoth, shIq, shQuery, shPres, shItem, shJid]
  · have hj := hI.le
    refine cast (rFIq_b _ _ _ j n l t k (leftN shIq l j) j (seenE (l.take j)) (trimN q)).symm (bcase_dec (fun hlt => ?_) (fun hge => ?_))
    · rw [atsD_len] at hlt
      have hlt : j < l.length := by omega
      have hgd := atsD_getD l j hlt
      obtain ⟨z1, z2⟩ := hfit _ (List.getElem_mem hlt)
      have nx : ∀ (lf : Int) (se : List (Key × AV)) (o : List Ob), lf = leftN shIq l (j + 1) → se = seenE (l.take (j + 1)) → FI shIq [] l (j + 1) → FamNext (fun j : Nat => stFIq n l t k (leftN shIq l j) j (seenE (l.take j))) (fun j => FI shIq [] l j) (fun j => l.length - j) j ⟨(stFIq n l t k lf (IntKind.wrap .i64 ((j : Int) + 1)) se).t, (stFIq n l t k lf 0 se).o ++ o⟩ := fun lf se o e1 e2 e3 => by
        refine .mk [] (j + 1) ?_ e3 (by omega)
        subst e1 e2
        rw [wrap_succ hlt (Nat.le_trans hll (by decide))]
        simp [S.le, sealAll, leL, leA, leO, jks, stFIq, obsIq, S.fits, fitsL, AV.fits, Ob.fits, KK.isSy, mkSS, mkS, mkI, mkB, nilM, fnV, firmL]
      simp only [Int.toNat_natCast, hgd, atD, List.getD_cons_zero, List.drop_succ_cons, List.drop_zero, strD]
      refine ⟨⟨by omega, by rw [atsD_len]; omega⟩, rfl, Nat.le_refl _, ⟨by trivial, by trivial, trivial⟩, ?_⟩
      have bad : atOk shIq [] l[j] = false → ANS = false := fun h => by rw [← hA]; exact f_bad hlt h
      have dup : l[j].1 ∈ (l.take j).map Prod.fst → ANS = false := fun h => by rw [← hA]; exact f_dup hlt h
      generalize hat : l[j] = a at bad dup z1 z2
      have hatk : ∀ {x : Tst}, inM x l[j] = inM x a := fun {x} => by rw [hat]
      refine bcase_mk (fun h0 => ?_) (fun h0 => ?_)
      · simp only [decide_eq_true_eq] at h0
        have at0 : atOk shIq [] a = (wordB) a.2 := by simp [atOk, lkT, shId, shH, shBoth, shIq, shQuery, shPres, shItem, shJid, statesB, typesB, h0]
        have in0 : inM shIq a = true := by simp [inM, lkT, shId, shH, shBoth, shIq, shQuery, shPres, shItem, shJid, h0]
        refine ⟨z2, bcase_mk (fun h7 => ?_) (fun h7 => ⟨_, seen_get _ _, bcase_mk (fun h8 => ?_) (fun h8 => ?_)⟩)⟩
        · have e : ANS = false := bad (by rw [at0]; simpa using h7)
          subst e; exact fin _
        · have e : ANS = false := dup ((memB_iff _ _).1 h8)
          subst e; exact fin _
        · exact nx _ _ _ (left_hit hlt (by rw [hat]; exact in0) hll (by decide)) (by rw [take_snoc hlt, hat]; exact seen_set (not_mem_of h8)) (fi_next hI hlt (by rw [hat, at0]; simpa using h7) (by rw [hat]; exact not_mem_of h8))
      · simp only [decide_eq_false_iff_not] at h0
        refine bcase_mk (fun h1 => ?_) (fun h1 => ?_)
        · simp only [decide_eq_true_eq] at h1
          have at0 : atOk shIq [] a = (wordB) a.2 := by simp [atOk, lkT, shId, shH, shBoth, shIq, shQuery, shPres, shItem, shJid, statesB, typesB, h0, h1]
          have in0 : inM shIq a = true := by simp [inM, lkT, shId, shH, shBoth, shIq, shQuery, shPres, shItem, shJid, h0, h1]
          refine ⟨z2, bcase_mk (fun h7 => ?_) (fun h7 => ⟨_, seen_get _ _, bcase_mk (fun h8 => ?_) (fun h8 => ?_)⟩)⟩
          · have e : ANS = false := bad (by rw [at0]; simpa using h7)
            subst e; exact fin _
          · have e : ANS = false := dup ((memB_iff _ _).1 h8)
            subst e; exact fin _
          · exact nx _ _ _ (left_hit hlt (by rw [hat]; exact in0) hll (by decide)) (by rw [take_snoc hlt, hat]; exact seen_set (not_mem_of h8)) (fi_next hI hlt (by rw [hat, at0]; simpa using h7) (by rw [hat]; exact not_mem_of h8))
        · simp only [decide_eq_false_iff_not] at h1
          have e : ANS = false := bad (by simp [atOk, lkT, shId, shH, shBoth, shIq, shQuery, shPres, shItem, shJid, h0, h1])
          subst e; exact fin _
    · rw [atsD_len] at hge
      have e : j = l.length := by omega
      subst e
      rw [f_end hI] at hA
      rw [hA]
      exact fin _
def EFQuery : REnt := fun al o q => ∃ n l t k, al = [.ag [nilM, .mp 0], .ag [mkS n, .d (.sl (atsD l)), mkS t, .d (.sl (ksD k))]] ∧ o = obsQuery ∧ (l.length ≤ LIM ∧ atsFit l) ∧ q (mkB (fitsM [] shQuery l)) obsQuery
theorem cFQuery : RSound Tryz.prog 38 EFQuery := by
  refine ref_gen trimN trimN_ok (code_bsound (c := Tryz.b38) mixed KS_ok gf_ok) KS_ok Tryz.func38 rfl rfl Tryz.call38 fun al o q ⟨n, l, t, k, h1, h2, ⟨hll, hfit⟩, hq⟩ => ?_
  subst h1 h2
  have fin : ∀ o : List Ob, trimN q (mkB (fitsM [] shQuery l)) (obsQuery ++ o) := fun o => ⟨_, _, LeN.refl _, by simp [leO, obsQuery], by rfl, hq⟩
  generalize hA : fitsM [] shQuery l = ANS at fin
  clear hq
  refine cast (rFQuery n l t k (trimN q)).symm fun _ => ?_
  refine ALoop.introM [] (maskOf (stFQuery n l t k (leftN [] l 0) 0 (seenE (l.take 0)))) (fun j : Nat => stFQuery n l t k (leftN [] l j) j (seenE (l.take j))) (fun j => FI [] shQuery l j) (fun j => l.length - j) ⟨[], 0, ?_, fi_zero _ _ _⟩ fun j hI => ?_
  · simp [S.le, sealAll, leL, leA, leO, jks, stFQuery, obsQuery, leftN, seenE, mkB, mkI, mkS, nilM, fnV, S.fits, fitsL, AV.fits, Ob.fits, KK.isSy, firmL, mkSS, shId, shH, shBoth, shIq, shQuery, shPres, shItem, shJid]
  · have hj := hI.le
    refine cast (rFQuery_b _ _ _ j n l t k (leftN [] l j) j (seenE (l.take j)) (trimN q)).symm (bcase_dec (fun hlt => ?_) (fun hge => ?_))
    · rw [atsD_len] at hlt
      have hlt : j < l.length := by omega
      have hgd := atsD_getD l j hlt
      obtain ⟨z1, z2⟩ := hfit _ (List.getElem_mem hlt)
      have nx : ∀ (lf : Int) (se : List (Key × AV)) (o : List Ob), lf = leftN [] l (j + 1) → se = seenE (l.take (j + 1)) → FI [] shQuery l (j + 1) → FamNext (fun j : Nat => stFQuery n l t k (leftN [] l j) j (seenE (l.take j))) (fun j => FI [] shQuery l j) (fun j => l.length - j) j ⟨(stFQuery n l t k lf (IntKind.wrap .i64 ((j : Int) + 1)) se).t, (stFQuery n l t k lf 0 se).o ++ o⟩ := fun lf se o e1 e2 e3 => by
        refine .mk [] (j + 1) ?_ e3 (by omega)
        subst e1 e2
        rw [wrap_succ hlt (Nat.le_trans hll (by decide))]
        simp [S.le, sealAll, leL, leA, leO, jks, stFQuery, obsQuery, S.fits, fitsL, AV.fits, Ob.fits, KK.isSy, mkSS, mkS, mkI, mkB, nilM, fnV, firmL]
      simp only [Int.toNat_natCast, hgd, atD, List.getD_cons_zero, List.drop_succ_cons, List.drop_zero, strD]
      refine ⟨⟨by omega, by rw [atsD_len]; omega⟩, rfl, Nat.le_refl _, ⟨by trivial, by trivial, trivial⟩, ?_⟩
      have bad : atOk [] shQuery l[j] = false → ANS = false := fun h => by rw [← hA]; exact f_bad hlt h
      have dup : l[j].1 ∈ (l.take j).map Prod.fst → ANS = false := fun h => by rw [← hA]; exact f_dup hlt h
      generalize hat : l[j] = a at bad dup z1 z2
      have hatk : ∀ {x : Tst}, inM x l[j] = inM x a := fun {x} => by rw [hat]
      refine bcase_mk (fun h0 => ?_) (fun h0 => ?_)
      · simp only [decide_eq_true_eq] at h0
        have at0 : atOk [] shQuery a = (numB) a.2 := by simp [atOk, lkT, shId, shH, shBoth, shIq, shQuery, shPres, shItem, shJid, statesB, typesB, h0]
        have in0 : inM [] a = false := by simp [inM, lkT, shId, shH, shBoth, shIq, shQuery, shPres, shItem, shJid, h0]
        refine ⟨z2, bcase_mk (fun h7 => ?_) (fun h7 => ⟨_, seen_get _ _, bcase_mk (fun h8 => ?_) (fun h8 => ?_)⟩)⟩
        · have e : ANS = false := bad (by rw [at0]; simpa using h7)
          subst e; exact fin _
        · have e : ANS = false := dup ((memB_iff _ _).1 h8)
          subst e; exact fin _
        · exact nx _ _ _ (left_miss hlt (by rw [hat]; exact in0)) (by rw [take_snoc hlt, hat]; exact seen_set (not_mem_of h8)) (fi_next hI hlt (by rw [hat, at0]; simpa using h7) (by rw [hat]; exact not_mem_of h8))
      · simp only [decide_eq_false_iff_not] at h0
        have e : ANS = false := bad (by simp [atOk, lkT, shId, shH, shBoth, shIq, shQuery, shPres, shItem, shJid, h0])
        subst e; exact fin _
    · rw [atsD_len] at hge
      have e : j = l.length := by omega
      subst e
      rw [f_end hI] at hA
      rw [hA]
      exact fin _
end Go.Proofs.YtfdmmgiefhhnoaaGreatDoor
