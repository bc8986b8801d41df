import Derived.Test.YtfdmmgiefhhnoaaGreatDoorStaFn
set_option linter.unusedSimpArgs false
set_option linter.unusedVariables false
namespace Go.Proofs.YtfdmmgiefhhnoaaGreatDoor
open Go Go.AM Go.RowKit
attribute [local irreducible] aCode
def obsPres : List Ob := [.map .str [(Key.s kType, .fn (.func 58) [] [.rf 1 0]), (Key.s kFrom, fnV 36), (Key.s kTo, fnV 36)], .box [mkSS [sUnav, sSubscribe, sSubscribed, sUnsub, sUnsubd]], .gh []]
noncomputable def rFPres_k0 (q : AV → (List Ob) → Prop) : Kont := kBlk (0 : Nat) (kSeq (aCode KS GF (cAt [1, 1, 1, 1] Tryz.b38) (kRetF KS (Array.toList (Func.results Tryz.f38)) q)) (kRetF KS (Array.toList (Func.results Tryz.f38)) q))
theorem rFPres (n : BA) (l : List At) (t : BA) (k : List El) (q : AV → List Ob → Prop) :
 (aCode KS GF Tryz.b38 (kRetF KS Tryz.f38.results.toList q) ⟨[.ag [nilM, .mp 0], .ag [mkS n, .d (.sl (atsD l)), mkS t, .d (.sl (ksD k))]] ++ List.replicate (Tryz.f38.ntmps - 2) .jk, obsPres⟩) = (
 ((List.length (atsD l)) ≤ LIM) →
 ALoop (aCode KS GF (cAt [1, 1, 1, 0, 1, 0, 0] Tryz.b38)) (rFPres_k0 q) ⟨[.ag [.d (D.v (.map Option.none)), .mp 0], .ag [mkS n, .d (.sl (atsD l)), mkS t, .d (.sl (ksD k))], .rf 3 0, .rf 4 0, mkB false, mkI .i64 0, .mp 5, .jk, .jk, .jk, .jk, .rf 3 (0 + 0), .d (D.v (.map Option.none)), mkI .i64 0, .mp 5, .rf 4 (0 + 1), .d (.sl (atsD l)), mkI .i64 ((List.length (atsD l)) : Int), mkI .i64 0] ++ (jks 40), [.map KK.str [(Key.s kType, .fn (Fn.func 58) [] [.rf 1 0]), (Key.s kFrom, .fn (Fn.func 36) [] []), (Key.s kTo, .fn (Fn.func 36) [] [])], .box [mkSS [sUnav, sSubscribe, sSubscribed, sUnsub, sUnsubd]], .gh [], .box [.d (D.v (.map Option.none)), .mp 0], .box [mkS n, .d (.sl (atsD l)), mkS t, .d (.sl (ksD k))], .map KK.ystr []]⟩) := by kernel_rfl
def stFPres (n : BA) (l : List At) (t : BA) (k : List El) (left i : Int) (se : List (Key × AV)) : S := ⟨[.ag [nilM, .mp 0], .ag [mkS n, .d (.sl (atsD l)), mkS t, .d (.sl (ksD k))], .rf 3 0, .rf 4 0, mkB false, mkI .i64 left, .mp 5] ++ jks 9 ++ [.d (.sl (atsD l)), mkI .i64 (atsD l).length, mkI .i64 i] ++ jks 40, obsPres ++ [.box [nilM, .mp 0], .box [mkS n, .d (.sl (atsD l)), mkS t, .d (.sl (ksD k))], .map .ystr se]⟩
theorem rFPres_b {ι : Type} (st : ι → S) (inv : ι → Prop) (μ : ι → Nat) (kk : ι) (n : BA) (l : List At) (t : BA) (k : List El) (left i : Int) (se : List (Key × AV)) (q : AV → List Ob → Prop) :
 (aCode KS GF (cAt [1, 1, 1, 0, 1, 0, 0] Tryz.b38) (kFamM [] (maskOf (stFPres n l t k left i se)) st inv μ kk (rFPres_k0 q)) (stFPres n l t k left i se)) = (
 bcase (decide (i < ((List.length (atsD l)) : Int))) (
 (((0 : Int) ≤ i) ∧ (i < ((List.length (atsD l)) : Int))) ∧
 ((List.length (List.getD (atsD l) (Int.toNat i) [])) = 2) ∧
 (2 ≤ (List.length (List.getD (atsD l) (Int.toNat i) []))) ∧
 (((List.getD (List.getD (atsD l) (Int.toNat i) []) 0 d0) = (D.v (.string (strD (List.getD (List.getD (atsD l) (Int.toNat i) []) 0 d0))))) ∧ (((List.getD (List.drop 1 (List.getD (atsD l) (Int.toNat i) [])) 0 d0) = (D.v (.string (strD (List.getD (List.drop 1 (List.getD (atsD l) (Int.toNat i) [])) 0 d0))))) ∧ True)) ∧
 bcase (decide (kType = (strD (List.getD (List.getD (atsD l) (Int.toNat i) []) 0 d0)))) (
 ∃ (l_1 : List ByteArray),
 ∃ (x : ByteArray),
 ([mkS (strD (List.getD (List.drop 1 (List.getD (atsD l) (Int.toNat i) [])) 0 d0)), AV.rf 0 0] = [mkS x, AV.rf 0 0]) ∧
 ([Ob.box [AV.d (.sl (strsD [sUnav, sSubscribe, sSubscribed, sUnsub, sUnsubd]))], Ob.gh [AV.rf 0 0]] = [Ob.box [mkSS l_1], Ob.gh [AV.rf 0 0]]) ∧
 ((ByteArray.size x) ≤ LIM) ∧
 ((Option.some (Ob.gh [AV.rf 0 0])) = (Option.some (Ob.gh [AV.rf 0 0]))) ∧
 bcase (!(oneB l_1 x)) (
 q (mkB false) [Ob.map KK.str [(Key.s kType, AV.fn (Fn.func 58) [] [AV.rf 1 0]), (Key.s kFrom, AV.fn (Fn.func 36) [] []), (Key.s kTo, AV.fn (Fn.func 36) [] [])], Ob.box [AV.d (.sl (strsD [sUnav, sSubscribe, sSubscribed, sUnsub, sUnsubd]))], Ob.gh [], Ob.box [AV.d (D.v (.map Option.none)), AV.mp 0], Ob.box [mkS n, AV.d (.sl (atsD l)), mkS t, AV.d (.sl (ksD k))], Ob.map KK.ystr se, Ob.box [mkS (strD (List.getD (List.getD (atsD l) (Int.toNat i) []) 0 d0)), mkS (strD (List.getD (List.drop 1 (List.getD (atsD l) (Int.toNat i) [])) 0 d0))], Ob.gone, Ob.gone]) (
 ∃ (b : Bool),
 ((getO (Key.s (strD (List.getD (List.getD (atsD l) (Int.toNat i) []) 0 d0))) se (mkB false)) = (mkB b)) ∧
 bcase b (
 q (mkB false) [Ob.map KK.str [(Key.s kType, AV.fn (Fn.func 58) [] [AV.rf 1 0]), (Key.s kFrom, AV.fn (Fn.func 36) [] []), (Key.s kTo, AV.fn (Fn.func 36) [] [])], Ob.box [AV.d (.sl (strsD [sUnav, sSubscribe, sSubscribed, sUnsub, sUnsubd]))], Ob.gh [], Ob.box [AV.d (D.v (.map Option.none)), AV.mp 0], Ob.box [mkS n, AV.d (.sl (atsD l)), mkS t, AV.d (.sl (ksD k))], Ob.map KK.ystr se, Ob.box [mkS (strD (List.getD (List.getD (atsD l) (Int.toNat i) []) 0 d0)), mkS (strD (List.getD (List.drop 1 (List.getD (atsD l) (Int.toNat i) [])) 0 d0))], Ob.gone, Ob.gone]) (
 FamNext st inv μ kk ⟨[.ag [.d (D.v (.map Option.none)), .mp 0], .ag [mkS n, .d (.sl (atsD l)), mkS t, .d (.sl (ksD k))], .rf 3 0, .rf 4 0, mkB false, mkI .i64 left, .mp 5] ++ (jks 9 ++ ([.d (.sl (atsD l)), mkI .i64 ((List.length (atsD l)) : Int), mkI .i64 (IntKind.wrap .i64 (i + (1 : Int)))] ++ (jks 40))), [.map KK.str [(Key.s kType, .fn (Fn.func 58) [] [.rf 1 0]), (Key.s kFrom, .fn (Fn.func 36) [] []), (Key.s kTo, .fn (Fn.func 36) [] [])], .box [.d (.sl (strsD [sUnav, sSubscribe, sSubscribed, sUnsub, sUnsubd]))], .gh [], .box [.d (D.v (.map Option.none)), .mp 0], .box [mkS n, .d (.sl (atsD l)), mkS t, .d (.sl (ksD k))], .map KK.ystr (setKeyA (Key.s (strD (List.getD (List.getD (atsD l) (Int.toNat i) []) 0 d0))) (mkB true) se), .box [mkS (strD (List.getD (List.getD (atsD l) (Int.toNat i) []) 0 d0)), mkS (strD (List.getD (List.drop 1 (List.getD (atsD l) (Int.toNat i) [])) 0 d0))], .gone, .gone]⟩))) (
 bcase (decide (kFrom = (strD (List.getD (List.getD (atsD l) (Int.toNat i) []) 0 d0)))) (
 ((ByteArray.size (strD (List.getD (List.drop 1 (List.getD (atsD l) (Int.toNat i) [])) 0 d0))) ≤ LIM) ∧
 bcase (!(placeB (strD (List.getD (List.drop 1 (List.getD (atsD l) (Int.toNat i) [])) 0 d0)))) (
 q (mkB false) [Ob.map KK.str [(Key.s kType, AV.fn (Fn.func 58) [] [AV.rf 1 0]), (Key.s kFrom, AV.fn (Fn.func 36) [] []), (Key.s kTo, AV.fn (Fn.func 36) [] [])], Ob.box [mkSS [sUnav, sSubscribe, sSubscribed, sUnsub, sUnsubd]], Ob.gh [], Ob.box [AV.d (D.v (.map Option.none)), AV.mp 0], Ob.box [mkS n, AV.d (.sl (atsD l)), mkS t, AV.d (.sl (ksD k))], Ob.map KK.ystr se, Ob.box [mkS (strD (List.getD (List.getD (atsD l) (Int.toNat i) []) 0 d0)), mkS (strD (List.getD (List.drop 1 (List.getD (atsD l) (Int.toNat i) [])) 0 d0))]]) (
 ∃ (b : Bool),
 ((getO (Key.s (strD (List.getD (List.getD (atsD l) (Int.toNat i) []) 0 d0))) se (mkB false)) = (mkB b)) ∧
 bcase b (
 q (mkB false) [Ob.map KK.str [(Key.s kType, AV.fn (Fn.func 58) [] [AV.rf 1 0]), (Key.s kFrom, AV.fn (Fn.func 36) [] []), (Key.s kTo, AV.fn (Fn.func 36) [] [])], Ob.box [mkSS [sUnav, sSubscribe, sSubscribed, sUnsub, sUnsubd]], Ob.gh [], Ob.box [AV.d (D.v (.map Option.none)), AV.mp 0], Ob.box [mkS n, AV.d (.sl (atsD l)), mkS t, AV.d (.sl (ksD k))], Ob.map KK.ystr se, Ob.box [mkS (strD (List.getD (List.getD (atsD l) (Int.toNat i) []) 0 d0)), mkS (strD (List.getD (List.drop 1 (List.getD (atsD l) (Int.toNat i) [])) 0 d0))]]) (
 FamNext st inv μ kk ⟨[.ag [.d (D.v (.map Option.none)), .mp 0], .ag [mkS n, .d (.sl (atsD l)), mkS t, .d (.sl (ksD k))], .rf 3 0, .rf 4 0, mkB false, mkI .i64 left, .mp 5] ++ (jks 9 ++ ([.d (.sl (atsD l)), mkI .i64 ((List.length (atsD l)) : Int), mkI .i64 (IntKind.wrap .i64 (i + (1 : Int)))] ++ (jks 40))), [.map KK.str [(Key.s kType, .fn (Fn.func 58) [] [.rf 1 0]), (Key.s kFrom, .fn (Fn.func 36) [] []), (Key.s kTo, .fn (Fn.func 36) [] [])], .box [mkSS [sUnav, sSubscribe, sSubscribed, sUnsub, sUnsubd]], .gh [], .box [.d (D.v (.map Option.none)), .mp 0], .box [mkS n, .d (.sl (atsD l)), mkS t, .d (.sl (ksD k))], .map KK.ystr (setKeyA (Key.s (strD (List.getD (List.getD (atsD l) (Int.toNat i) []) 0 d0))) (mkB true) se), .box [mkS (strD (List.getD (List.getD (atsD l) (Int.toNat i) []) 0 d0)), mkS (strD (List.getD (List.drop 1 (List.getD (atsD l) (Int.toNat i) [])) 0 d0))]]⟩))) (
 bcase (decide (kTo = (strD (List.getD (List.getD (atsD l) (Int.toNat i) []) 0 d0)))) (
 ((ByteArray.size (strD (List.getD (List.drop 1 (List.getD (atsD l) (Int.toNat i) [])) 0 d0))) ≤ LIM) ∧
 bcase (!(placeB (strD (List.getD (List.drop 1 (List.getD (atsD l) (Int.toNat i) [])) 0 d0)))) (
 q (mkB false) [Ob.map KK.str [(Key.s kType, AV.fn (Fn.func 58) [] [AV.rf 1 0]), (Key.s kFrom, AV.fn (Fn.func 36) [] []), (Key.s kTo, AV.fn (Fn.func 36) [] [])], Ob.box [mkSS [sUnav, sSubscribe, sSubscribed, sUnsub, sUnsubd]], Ob.gh [], Ob.box [AV.d (D.v (.map Option.none)), AV.mp 0], Ob.box [mkS n, AV.d (.sl (atsD l)), mkS t, AV.d (.sl (ksD k))], Ob.map KK.ystr se, Ob.box [mkS (strD (List.getD (List.getD (atsD l) (Int.toNat i) []) 0 d0)), mkS (strD (List.getD (List.drop 1 (List.getD (atsD l) (Int.toNat i) [])) 0 d0))]]) (
 ∃ (b : Bool),
 ((getO (Key.s (strD (List.getD (List.getD (atsD l) (Int.toNat i) []) 0 d0))) se (mkB false)) = (mkB b)) ∧
 bcase b (
 q (mkB false) [Ob.map KK.str [(Key.s kType, AV.fn (Fn.func 58) [] [AV.rf 1 0]), (Key.s kFrom, AV.fn (Fn.func 36) [] []), (Key.s kTo, AV.fn (Fn.func 36) [] [])], Ob.box [mkSS [sUnav, sSubscribe, sSubscribed, sUnsub, sUnsubd]], Ob.gh [], Ob.box [AV.d (D.v (.map Option.none)), AV.mp 0], Ob.box [mkS n, AV.d (.sl (atsD l)), mkS t, AV.d (.sl (ksD k))], Ob.map KK.ystr se, Ob.box [mkS (strD (List.getD (List.getD (atsD l) (Int.toNat i) []) 0 d0)), mkS (strD (List.getD (List.drop 1 (List.getD (atsD l) (Int.toNat i) [])) 0 d0))]]) (
 FamNext st inv μ kk ⟨[.ag [.d (D.v (.map Option.none)), .mp 0], .ag [mkS n, .d (.sl (atsD l)), mkS t, .d (.sl (ksD k))], .rf 3 0, .rf 4 0, mkB false, mkI .i64 left, .mp 5] ++ (jks 9 ++ ([.d (.sl (atsD l)), mkI .i64 ((List.length (atsD l)) : Int), mkI .i64 (IntKind.wrap .i64 (i + (1 : Int)))] ++ (jks 40))), [.map KK.str [(Key.s kType, .fn (Fn.func 58) [] [.rf 1 0]), (Key.s kFrom, .fn (Fn.func 36) [] []), (Key.s kTo, .fn (Fn.func 36) [] [])], .box [mkSS [sUnav, sSubscribe, sSubscribed, sUnsub, sUnsubd]], .gh [], .box [.d (D.v (.map Option.none)), .mp 0], .box [mkS n, .d (.sl (atsD l)), mkS t, .d (.sl (ksD k))], .map KK.ystr (setKeyA (Key.s (strD (List.getD (List.getD (atsD l) (Int.toNat i) []) 0 d0))) (mkB true) se), .box [mkS (strD (List.getD (List.getD (atsD l) (Int.toNat i) []) 0 d0)), mkS (strD (List.getD (List.drop 1 (List.getD (atsD l) (Int.toNat i) [])) 0 d0))]]⟩))) (
 q (mkB false) [Ob.map KK.str [(Key.s kType, AV.fn (Fn.func 58) [] [AV.rf 1 0]), (Key.s kFrom, AV.fn (Fn.func 36) [] []), (Key.s kTo, AV.fn (Fn.func 36) [] [])], Ob.box [mkSS [sUnav, sSubscribe, sSubscribed, sUnsub, sUnsubd]], Ob.gh [], Ob.box [AV.d (D.v (.map Option.none)), AV.mp 0], Ob.box [mkS n, AV.d (.sl (atsD l)), mkS t, AV.d (.sl (ksD k))], Ob.map KK.ystr se, Ob.box [mkS (strD (List.getD (List.getD (atsD l) (Int.toNat i) []) 0 d0)), mkS (strD (List.getD (List.drop 1 (List.getD (atsD l) (Int.toNat i) [])) 0 d0))]])))) (
 q (mkB (left == (0 : Int))) [Ob.map KK.str [(Key.s kType, AV.fn (Fn.func 58) [] [AV.rf 1 0]), (Key.s kFrom, AV.fn (Fn.func 36) [] []), (Key.s kTo, AV.fn (Fn.func 36) [] [])], Ob.box [mkSS [sUnav, sSubscribe, sSubscribed, sUnsub, sUnsubd]], Ob.gh [], Ob.box [AV.d (D.v (.map Option.none)), AV.mp 0], Ob.box [mkS n, AV.d (.sl (atsD l)), mkS t, AV.d (.sl (ksD k))], Ob.map KK.ystr se])) := by kernel_rfl
def obsItemS : List Ob := [.map .str [(Key.s kJid, fnV 12)], .map .str [(Key.s kName, fnV 40), (Key.s kSub, .fn (.func 58) [] [.rf 2 0]), (Key.s kAsk, .fn (.func 58) [] [.rf 3 0])], .box [mkSS [kTo, kFrom, sBoth, sRemove]], .box [mkSS [sSubscribe]], .gh []]
noncomputable def rFItemS_k0 (q : AV → (List Ob) → Prop) : Kont := kBlk (0 : Nat) (kSeq (aCode KS GF (cAt [1, 1, 1, 1] Tryz.b38) (kRetF KS (Array.toList (Func.results Tryz.f38)) q)) (kRetF KS (Array.toList (Func.results Tryz.f38)) q))
theorem rFItemS (n : BA) (l : List At) (t : BA) (k : List El) (q : AV → List Ob → Prop) :
 (aCode KS GF Tryz.b38 (kRetF KS Tryz.f38.results.toList q) ⟨[.ag [.mp 0, .mp 1], .ag [mkS n, .d (.sl (atsD l)), mkS t, .d (.sl (ksD k))]] ++ List.replicate (Tryz.f38.ntmps - 2) .jk, obsItemS⟩) = (
 ((List.length (atsD l)) ≤ LIM) →
 ALoop (aCode KS GF (cAt [1, 1, 1, 0, 1, 0, 0] Tryz.b38)) (rFItemS_k0 q) ⟨[.ag [.mp 0, .mp 1], .ag [mkS n, .d (.sl (atsD l)), mkS t, .d (.sl (ksD k))], .rf 5 0, .rf 6 0, mkB false, mkI .i64 1, .mp 7, .jk, .jk, .jk, .jk, .rf 5 (0 + 0), .mp 0, mkI .i64 1, .mp 7, .rf 6 (0 + 1), .d (.sl (atsD l)), mkI .i64 ((List.length (atsD l)) : Int), mkI .i64 0] ++ (jks 40), [.map KK.str [(Key.s kJid, .fn (Fn.func 12) [] [])], .map KK.str [(Key.s kName, .fn (Fn.func 40) [] []), (Key.s kSub, .fn (Fn.func 58) [] [.rf 2 0]), (Key.s kAsk, .fn (Fn.func 58) [] [.rf 3 0])], .box [mkSS [kTo, kFrom, sBoth, sRemove]], .box [mkSS [sSubscribe]], .gh [], .box [.mp 0, .mp 1], .box [mkS n, .d (.sl (atsD l)), mkS t, .d (.sl (ksD k))], .map KK.ystr []]⟩) := by kernel_rfl
def stFItemS (n : BA) (l : List At) (t : BA) (k : List El) (left i : Int) (se : List (Key × AV)) : S := ⟨[.ag [.mp 0, .mp 1], .ag [mkS n, .d (.sl (atsD l)), mkS t, .d (.sl (ksD k))], .rf 5 0, .rf 6 0, mkB false, mkI .i64 left, .mp 7] ++ jks 9 ++ [.d (.sl (atsD l)), mkI .i64 (atsD l).length, mkI .i64 i] ++ jks 40, obsItemS ++ [.box [.mp 0, .mp 1], .box [mkS n, .d (.sl (atsD l)), mkS t, .d (.sl (ksD k))], .map .ystr se]⟩
theorem rFItemS_b {ι : Type} (st : ι → S) (inv : ι → Prop) (μ : ι → Nat) (kk : ι) (n : BA) (l : List At) (t : BA) (k : List El) (left i : Int) (se : List (Key × AV)) (q : AV → List Ob → Prop) :
 (aCode KS GF (cAt [1, 1, 1, 0, 1, 0, 0] Tryz.b38) (kFamM [] (maskOf (stFItemS n l t k left i se)) st inv μ kk (rFItemS_k0 q)) (stFItemS n l t k left i se)) = (
 bcase (decide (i < ((List.length (atsD l)) : Int))) (
 (((0 : Int) ≤ i) ∧ (i < ((List.length (atsD l)) : Int))) ∧
 ((List.length (List.getD (atsD l) (Int.toNat i) [])) = 2) ∧
 (2 ≤ (List.length (List.getD (atsD l) (Int.toNat i) []))) ∧
 (((List.getD (List.getD (atsD l) (Int.toNat i) []) 0 d0) = (D.v (.string (strD (List.getD (List.getD (atsD l) (Int.toNat i) []) 0 d0))))) ∧ (((List.getD (List.drop 1 (List.getD (atsD l) (Int.toNat i) [])) 0 d0) = (D.v (.string (strD (List.getD (List.drop 1 (List.getD (atsD l) (Int.toNat i) [])) 0 d0))))) ∧ True)) ∧
 bcase (decide (kJid = (strD (List.getD (List.getD (atsD l) (Int.toNat i) []) 0 d0)))) (
 ((ByteArray.size (strD (List.getD (List.drop 1 (List.getD (atsD l) (Int.toNat i) [])) 0 d0))) ≤ LIM) ∧
 bcase (!(userB (strD (List.getD (List.drop 1 (List.getD (atsD l) (Int.toNat i) [])) 0 d0)))) (
 q (mkB false) [Ob.map KK.str [(Key.s kJid, AV.fn (Fn.func 12) [] [])], Ob.map KK.str [(Key.s kName, AV.fn (Fn.func 40) [] []), (Key.s kSub, AV.fn (Fn.func 58) [] [AV.rf 2 0]), (Key.s kAsk, AV.fn (Fn.func 58) [] [AV.rf 3 0])], Ob.box [mkSS [kTo, kFrom, sBoth, sRemove]], Ob.box [mkSS [sSubscribe]], Ob.gh [], Ob.box [AV.mp 0, AV.mp 1], Ob.box [mkS n, AV.d (.sl (atsD l)), mkS t, AV.d (.sl (ksD k))], Ob.map KK.ystr se, Ob.box [mkS (strD (List.getD (List.getD (atsD l) (Int.toNat i) []) 0 d0)), mkS (strD (List.getD (List.drop 1 (List.getD (atsD l) (Int.toNat i) [])) 0 d0))]]) (
 ∃ (b : Bool),
 ((getO (Key.s (strD (List.getD (List.getD (atsD l) (Int.toNat i) []) 0 d0))) se (mkB false)) = (mkB b)) ∧
 bcase b (
 q (mkB false) [Ob.map KK.str [(Key.s kJid, AV.fn (Fn.func 12) [] [])], Ob.map KK.str [(Key.s kName, AV.fn (Fn.func 40) [] []), (Key.s kSub, AV.fn (Fn.func 58) [] [AV.rf 2 0]), (Key.s kAsk, AV.fn (Fn.func 58) [] [AV.rf 3 0])], Ob.box [mkSS [kTo, kFrom, sBoth, sRemove]], Ob.box [mkSS [sSubscribe]], Ob.gh [], Ob.box [AV.mp 0, AV.mp 1], Ob.box [mkS n, AV.d (.sl (atsD l)), mkS t, AV.d (.sl (ksD k))], Ob.map KK.ystr se, Ob.box [mkS (strD (List.getD (List.getD (atsD l) (Int.toNat i) []) 0 d0)), mkS (strD (List.getD (List.drop 1 (List.getD (atsD l) (Int.toNat i) [])) 0 d0))]]) (
 FamNext st inv μ kk ⟨[.ag [.mp 0, .mp 1], .ag [mkS n, .d (.sl (atsD l)), mkS t, .d (.sl (ksD k))], .rf 5 0, .rf 6 0, mkB false, mkI .i64 (IntKind.wrap .i64 (left - (1 : Int))), .mp 7] ++ (jks 9 ++ ([.d (.sl (atsD l)), mkI .i64 ((List.length (atsD l)) : Int), mkI .i64 (IntKind.wrap .i64 (i + (1 : Int)))] ++ (jks 40))), [.map KK.str [(Key.s kJid, .fn (Fn.func 12) [] [])], .map KK.str [(Key.s kName, .fn (Fn.func 40) [] []), (Key.s kSub, .fn (Fn.func 58) [] [.rf 2 0]), (Key.s kAsk, .fn (Fn.func 58) [] [.rf 3 0])], .box [mkSS [kTo, kFrom, sBoth, sRemove]], .box [mkSS [sSubscribe]], .gh [], .box [.mp 0, .mp 1], .box [mkS n, .d (.sl (atsD l)), mkS t, .d (.sl (ksD k))], .map KK.ystr (setKeyA (Key.s (strD (List.getD (List.getD (atsD l) (Int.toNat i) []) 0 d0))) (mkB true) se), .box [mkS (strD (List.getD (List.getD (atsD l) (Int.toNat i) []) 0 d0)), mkS (strD (List.getD (List.drop 1 (List.getD (atsD l) (Int.toNat i) [])) 0 d0))]]⟩))) (
 bcase (decide (kName = (strD (List.getD (List.getD (atsD l) (Int.toNat i) []) 0 d0)))) (
 ((ByteArray.size (strD (List.getD (List.drop 1 (List.getD (atsD l) (Int.toNat i) [])) 0 d0))) ≤ LIM) ∧
 bcase (!(wordB (strD (List.getD (List.drop 1 (List.getD (atsD l) (Int.toNat i) [])) 0 d0)))) (
 q (mkB false) [Ob.map KK.str [(Key.s kJid, AV.fn (Fn.func 12) [] [])], Ob.map KK.str [(Key.s kName, AV.fn (Fn.func 40) [] []), (Key.s kSub, AV.fn (Fn.func 58) [] [AV.rf 2 0]), (Key.s kAsk, AV.fn (Fn.func 58) [] [AV.rf 3 0])], Ob.box [mkSS [kTo, kFrom, sBoth, sRemove]], Ob.box [mkSS [sSubscribe]], Ob.gh [], Ob.box [AV.mp 0, AV.mp 1], Ob.box [mkS n, AV.d (.sl (atsD l)), mkS t, AV.d (.sl (ksD k))], Ob.map KK.ystr se, Ob.box [mkS (strD (List.getD (List.getD (atsD l) (Int.toNat i) []) 0 d0)), mkS (strD (List.getD (List.drop 1 (List.getD (atsD l) (Int.toNat i) [])) 0 d0))]]) (
 ∃ (b : Bool),
 ((getO (Key.s (strD (List.getD (List.getD (atsD l) (Int.toNat i) []) 0 d0))) se (mkB false)) = (mkB b)) ∧
 bcase b (
 q (mkB false) [Ob.map KK.str [(Key.s kJid, AV.fn (Fn.func 12) [] [])], Ob.map KK.str [(Key.s kName, AV.fn (Fn.func 40) [] []), (Key.s kSub, AV.fn (Fn.func 58) [] [AV.rf 2 0]), (Key.s kAsk, AV.fn (Fn.func 58) [] [AV.rf 3 0])], Ob.box [mkSS [kTo, kFrom, sBoth, sRemove]], Ob.box [mkSS [sSubscribe]], Ob.gh [], Ob.box [AV.mp 0, AV.mp 1], Ob.box [mkS n, AV.d (.sl (atsD l)), mkS t, AV.d (.sl (ksD k))], Ob.map KK.ystr se, Ob.box [mkS (strD (List.getD (List.getD (atsD l) (Int.toNat i) []) 0 d0)), mkS (strD (List.getD (List.drop 1 (List.getD (atsD l) (Int.toNat i) [])) 0 d0))]]) (
 FamNext st inv μ kk ⟨[.ag [.mp 0, .mp 1], .ag [mkS n, .d (.sl (atsD l)), mkS t, .d (.sl (ksD k))], .rf 5 0, .rf 6 0, mkB false, mkI .i64 left, .mp 7] ++ (jks 9 ++ ([.d (.sl (atsD l)), mkI .i64 ((List.length (atsD l)) : Int), mkI .i64 (IntKind.wrap .i64 (i + (1 : Int)))] ++ (jks 40))), [.map KK.str [(Key.s kJid, .fn (Fn.func 12) [] [])], .map KK.str [(Key.s kName, .fn (Fn.func 40) [] []), (Key.s kSub, .fn (Fn.func 58) [] [.rf 2 0]), (Key.s kAsk, .fn (Fn.func 58) [] [.rf 3 0])], .box [mkSS [kTo, kFrom, sBoth, sRemove]], .box [mkSS [sSubscribe]], .gh [], .box [.mp 0, .mp 1], .box [mkS n, .d (.sl (atsD l)), mkS t, .d (.sl (ksD k))], .map KK.ystr (setKeyA (Key.s (strD (List.getD (List.getD (atsD l) (Int.toNat i) []) 0 d0))) (mkB true) se), .box [mkS (strD (List.getD (List.getD (atsD l) (Int.toNat i) []) 0 d0)), mkS (strD (List.getD (List.drop 1 (List.getD (atsD l) (Int.toNat i) [])) 0 d0))]]⟩))) (
 bcase (decide (kSub = (strD (List.getD (List.getD (atsD l) (Int.toNat i) []) 0 d0)))) (
 ∃ (l_1 : List ByteArray),
 ∃ (x : ByteArray),
 ([mkS (strD (List.getD (List.drop 1 (List.getD (atsD l) (Int.toNat i) [])) 0 d0)), AV.rf 0 0] = [mkS x, AV.rf 0 0]) ∧
 ([Ob.box [AV.d (.sl (strsD [kTo, kFrom, sBoth, sRemove]))], Ob.gh [AV.rf 0 0]] = [Ob.box [mkSS l_1], Ob.gh [AV.rf 0 0]]) ∧
 ((ByteArray.size x) ≤ LIM) ∧
 ((Option.some (Ob.gh [AV.rf 0 0])) = (Option.some (Ob.gh [AV.rf 0 0]))) ∧
 bcase (!(oneB l_1 x)) (
 q (mkB false) [Ob.map KK.str [(Key.s kJid, AV.fn (Fn.func 12) [] [])], Ob.map KK.str [(Key.s kName, AV.fn (Fn.func 40) [] []), (Key.s kSub, AV.fn (Fn.func 58) [] [AV.rf 2 0]), (Key.s kAsk, AV.fn (Fn.func 58) [] [AV.rf 3 0])], Ob.box [AV.d (.sl (strsD [kTo, kFrom, sBoth, sRemove]))], Ob.box [AV.d (.sl (strsD [sSubscribe]))], Ob.gh [], Ob.box [AV.mp 0, AV.mp 1], Ob.box [mkS n, AV.d (.sl (atsD l)), mkS t, AV.d (.sl (ksD k))], Ob.map KK.ystr se, Ob.box [mkS (strD (List.getD (List.getD (atsD l) (Int.toNat i) []) 0 d0)), mkS (strD (List.getD (List.drop 1 (List.getD (atsD l) (Int.toNat i) [])) 0 d0))], Ob.gone, Ob.gone]) (
 ∃ (b : Bool),
 ((getO (Key.s (strD (List.getD (List.getD (atsD l) (Int.toNat i) []) 0 d0))) se (mkB false)) = (mkB b)) ∧
 bcase b (
 q (mkB false) [Ob.map KK.str [(Key.s kJid, AV.fn (Fn.func 12) [] [])], Ob.map KK.str [(Key.s kName, AV.fn (Fn.func 40) [] []), (Key.s kSub, AV.fn (Fn.func 58) [] [AV.rf 2 0]), (Key.s kAsk, AV.fn (Fn.func 58) [] [AV.rf 3 0])], Ob.box [AV.d (.sl (strsD [kTo, kFrom, sBoth, sRemove]))], Ob.box [AV.d (.sl (strsD [sSubscribe]))], Ob.gh [], Ob.box [AV.mp 0, AV.mp 1], Ob.box [mkS n, AV.d (.sl (atsD l)), mkS t, AV.d (.sl (ksD k))], Ob.map KK.ystr se, Ob.box [mkS (strD (List.getD (List.getD (atsD l) (Int.toNat i) []) 0 d0)), mkS (strD (List.getD (List.drop 1 (List.getD (atsD l) (Int.toNat i) [])) 0 d0))], Ob.gone, Ob.gone]) (
 FamNext st inv μ kk ⟨[.ag [.mp 0, .mp 1], .ag [mkS n, .d (.sl (atsD l)), mkS t, .d (.sl (ksD k))], .rf 5 0, .rf 6 0, mkB false, mkI .i64 left, .mp 7] ++ (jks 9 ++ ([.d (.sl (atsD l)), mkI .i64 ((List.length (atsD l)) : Int), mkI .i64 (IntKind.wrap .i64 (i + (1 : Int)))] ++ (jks 40))), [.map KK.str [(Key.s kJid, .fn (Fn.func 12) [] [])], .map KK.str [(Key.s kName, .fn (Fn.func 40) [] []), (Key.s kSub, .fn (Fn.func 58) [] [.rf 2 0]), (Key.s kAsk, .fn (Fn.func 58) [] [.rf 3 0])], .box [.d (.sl (strsD [kTo, kFrom, sBoth, sRemove]))], .box [.d (.sl (strsD [sSubscribe]))], .gh [], .box [.mp 0, .mp 1], .box [mkS n, .d (.sl (atsD l)), mkS t, .d (.sl (ksD k))], .map KK.ystr (setKeyA (Key.s (strD (List.getD (List.getD (atsD l) (Int.toNat i) []) 0 d0))) (mkB true) se), .box [mkS (strD (List.getD (List.getD (atsD l) (Int.toNat i) []) 0 d0)), mkS (strD (List.getD (List.drop 1 (List.getD (atsD l) (Int.toNat i) [])) 0 d0))], .gone, .gone]⟩))) (
 bcase (decide (kAsk = (strD (List.getD (List.getD (atsD l) (Int.toNat i) []) 0 d0)))) (
 ∃ (l_1 : List ByteArray),
 ∃ (x : ByteArray),
 ([mkS (strD (List.getD (List.drop 1 (List.getD (atsD l) (Int.toNat i) [])) 0 d0)), AV.rf 0 0] = [mkS x, AV.rf 0 0]) ∧
 ([Ob.box [AV.d (.sl (strsD [sSubscribe]))], Ob.gh [AV.rf 0 0]] = [Ob.box [mkSS l_1], Ob.gh [AV.rf 0 0]]) ∧
 ((ByteArray.size x) ≤ LIM) ∧
 ((Option.some (Ob.gh [AV.rf 0 0])) = (Option.some (Ob.gh [AV.rf 0 0]))) ∧
 bcase (!(oneB l_1 x)) (
 q (mkB false) [Ob.map KK.str [(Key.s kJid, AV.fn (Fn.func 12) [] [])], Ob.map KK.str [(Key.s kName, AV.fn (Fn.func 40) [] []), (Key.s kSub, AV.fn (Fn.func 58) [] [AV.rf 2 0]), (Key.s kAsk, AV.fn (Fn.func 58) [] [AV.rf 3 0])], Ob.box [AV.d (.sl (strsD [kTo, kFrom, sBoth, sRemove]))], Ob.box [AV.d (.sl (strsD [sSubscribe]))], Ob.gh [], Ob.box [AV.mp 0, AV.mp 1], Ob.box [mkS n, AV.d (.sl (atsD l)), mkS t, AV.d (.sl (ksD k))], Ob.map KK.ystr se, Ob.box [mkS (strD (List.getD (List.getD (atsD l) (Int.toNat i) []) 0 d0)), mkS (strD (List.getD (List.drop 1 (List.getD (atsD l) (Int.toNat i) [])) 0 d0))], Ob.gone, Ob.gone]) (
 ∃ (b : Bool),
 ((getO (Key.s (strD (List.getD (List.getD (atsD l) (Int.toNat i) []) 0 d0))) se (mkB false)) = (mkB b)) ∧
 bcase b (
 q (mkB false) [Ob.map KK.str [(Key.s kJid, AV.fn (Fn.func 12) [] [])], Ob.map KK.str [(Key.s kName, AV.fn (Fn.func 40) [] []), (Key.s kSub, AV.fn (Fn.func 58) [] [AV.rf 2 0]), (Key.s kAsk, AV.fn (Fn.func 58) [] [AV.rf 3 0])], Ob.box [AV.d (.sl (strsD [kTo, kFrom, sBoth, sRemove]))], Ob.box [AV.d (.sl (strsD [sSubscribe]))], Ob.gh [], Ob.box [AV.mp 0, AV.mp 1], Ob.box [mkS n, AV.d (.sl (atsD l)), mkS t, AV.d (.sl (ksD k))], Ob.map KK.ystr se, Ob.box [mkS (strD (List.getD (List.getD (atsD l) (Int.toNat i) []) 0 d0)), mkS (strD (List.getD (List.drop 1 (List.getD (atsD l) (Int.toNat i) [])) 0 d0))], Ob.gone, Ob.gone]) (
 FamNext st inv μ kk ⟨[.ag [.mp 0, .mp 1], .ag [mkS n, .d (.sl (atsD l)), mkS t, .d (.sl (ksD k))], .rf 5 0, .rf 6 0, mkB false, mkI .i64 left, .mp 7] ++ (jks 9 ++ ([.d (.sl (atsD l)), mkI .i64 ((List.length (atsD l)) : Int), mkI .i64 (IntKind.wrap .i64 (i + (1 : Int)))] ++ (jks 40))), [.map KK.str [(Key.s kJid, .fn (Fn.func 12) [] [])], .map KK.str [(Key.s kName, .fn (Fn.func 40) [] []), (Key.s kSub, .fn (Fn.func 58) [] [.rf 2 0]), (Key.s kAsk, .fn (Fn.func 58) [] [.rf 3 0])], .box [.d (.sl (strsD [kTo, kFrom, sBoth, sRemove]))], .box [.d (.sl (strsD [sSubscribe]))], .gh [], .box [.mp 0, .mp 1], .box [mkS n, .d (.sl (atsD l)), mkS t, .d (.sl (ksD k))], .map KK.ystr (setKeyA (Key.s (strD (List.getD (List.getD (atsD l) (Int.toNat i) []) 0 d0))) (mkB true) se), .box [mkS (strD (List.getD (List.getD (atsD l) (Int.toNat i) []) 0 d0)), mkS (strD (List.getD (List.drop 1 (List.getD (atsD l) (Int.toNat i) [])) 0 d0))], .gone, .gone]⟩))) (
 q (mkB false) [Ob.map KK.str [(Key.s kJid, AV.fn (Fn.func 12) [] [])], Ob.map KK.str [(Key.s kName, AV.fn (Fn.func 40) [] []), (Key.s kSub, AV.fn (Fn.func 58) [] [AV.rf 2 0]), (Key.s kAsk, AV.fn (Fn.func 58) [] [AV.rf 3 0])], Ob.box [mkSS [kTo, kFrom, sBoth, sRemove]], Ob.box [mkSS [sSubscribe]], Ob.gh [], Ob.box [AV.mp 0, AV.mp 1], Ob.box [mkS n, AV.d (.sl (atsD l)), mkS t, AV.d (.sl (ksD k))], Ob.map KK.ystr se, Ob.box [mkS (strD (List.getD (List.getD (atsD l) (Int.toNat i) []) 0 d0)), mkS (strD (List.getD (List.drop 1 (List.getD (atsD l) (Int.toNat i) [])) 0 d0))]]))))) (
 q (mkB (left == (0 : Int))) [Ob.map KK.str [(Key.s kJid, AV.fn (Fn.func 12) [] [])], Ob.map KK.str [(Key.s kName, AV.fn (Fn.func 40) [] []), (Key.s kSub, AV.fn (Fn.func 58) [] [AV.rf 2 0]), (Key.s kAsk, AV.fn (Fn.func 58) [] [AV.rf 3 0])], Ob.box [mkSS [kTo, kFrom, sBoth, sRemove]], Ob.box [mkSS [sSubscribe]], Ob.gh [], Ob.box [AV.mp 0, AV.mp 1], Ob.box [mkS n, AV.d (.sl (atsD l)), mkS t, AV.d (.sl (ksD k))], Ob.map KK.ystr se])) := by kernel_rfl
def obsItemG : List Ob := [.map .str [(Key.s kJid, fnV 12)], .map .str [(Key.s kName, fnV 40), (Key.s kSub, .fn (.func 58) [] [.rf 2 0]), (Key.s kAsk, .fn (.func 58) [] [.rf 3 0])], .box [mkSS [kTo, kFrom, sBoth]], .box [mkSS [sSubscribe]], .gh []]
noncomputable def rFItemG_k0 (q : AV → (List Ob) → Prop) : Kont := kBlk (0 : Nat) (kSeq (aCode KS GF (cAt [1, 1, 1, 1] Tryz.b38) (kRetF KS (Array.toList (Func.results Tryz.f38)) q)) (kRetF KS (Array.toList (Func.results Tryz.f38)) q))
theorem rFItemG (n : BA) (l : List At) (t : BA) (k : List El) (q : AV → List Ob → Prop) :
 (aCode KS GF Tryz.b38 (kRetF KS Tryz.f38.results.toList q) ⟨[.ag [.mp 0, .mp 1], .ag [mkS n, .d (.sl (atsD l)), mkS t, .d (.sl (ksD k))]] ++ List.replicate (Tryz.f38.ntmps - 2) .jk, obsItemG⟩) = (
 ((List.length (atsD l)) ≤ LIM) →
 ALoop (aCode KS GF (cAt [1, 1, 1, 0, 1, 0, 0] Tryz.b38)) (rFItemG_k0 q) ⟨[.ag [.mp 0, .mp 1], .ag [mkS n, .d (.sl (atsD l)), mkS t, .d (.sl (ksD k))], .rf 5 0, .rf 6 0, mkB false, mkI .i64 1, .mp 7, .jk, .jk, .jk, .jk, .rf 5 (0 + 0), .mp 0, mkI .i64 1, .mp 7, .rf 6 (0 + 1), .d (.sl (atsD l)), mkI .i64 ((List.length (atsD l)) : Int), mkI .i64 0] ++ (jks 40), [.map KK.str [(Key.s kJid, .fn (Fn.func 12) [] [])], .map KK.str [(Key.s kName, .fn (Fn.func 40) [] []), (Key.s kSub, .fn (Fn.func 58) [] [.rf 2 0]), (Key.s kAsk, .fn (Fn.func 58) [] [.rf 3 0])], .box [mkSS [kTo, kFrom, sBoth]], .box [mkSS [sSubscribe]], .gh [], .box [.mp 0, .mp 1], .box [mkS n, .d (.sl (atsD l)), mkS t, .d (.sl (ksD k))], .map KK.ystr []]⟩) := by kernel_rfl
def stFItemG (n : BA) (l : List At) (t : BA) (k : List El) (left i : Int) (se : List (Key × AV)) : S := ⟨[.ag [.mp 0, .mp 1], .ag [mkS n, .d (.sl (atsD l)), mkS t, .d (.sl (ksD k))], .rf 5 0, .rf 6 0, mkB false, mkI .i64 left, .mp 7] ++ jks 9 ++ [.d (.sl (atsD l)), mkI .i64 (atsD l).length, mkI .i64 i] ++ jks 40, obsItemG ++ [.box [.mp 0, .mp 1], .box [mkS n, .d (.sl (atsD l)), mkS t, .d (.sl (ksD k))], .map .ystr se]⟩
theorem rFItemG_b {ι : Type} (st : ι → S) (inv : ι → Prop) (μ : ι → Nat) (kk : ι) (n : BA) (l : List At) (t : BA) (k : List El) (left i : Int) (se : List (Key × AV)) (q : AV → List Ob → Prop) :
 (aCode KS GF (cAt [1, 1, 1, 0, 1, 0, 0] Tryz.b38) (kFamM [] (maskOf (stFItemG n l t k left i se)) st inv μ kk (rFItemG_k0 q)) (stFItemG n l t k left i se)) = (
 bcase (decide (i < ((List.length (atsD l)) : Int))) (
 (((0 : Int) ≤ i) ∧ (i < ((List.length (atsD l)) : Int))) ∧
 ((List.length (List.getD (atsD l) (Int.toNat i) [])) = 2) ∧
 (2 ≤ (List.length (List.getD (atsD l) (Int.toNat i) []))) ∧
 (((List.getD (List.getD (atsD l) (Int.toNat i) []) 0 d0) = (D.v (.string (strD (List.getD (List.getD (atsD l) (Int.toNat i) []) 0 d0))))) ∧ (((List.getD (List.drop 1 (List.getD (atsD l) (Int.toNat i) [])) 0 d0) = (D.v (.string (strD (List.getD (List.drop 1 (List.getD (atsD l) (Int.toNat i) [])) 0 d0))))) ∧ True)) ∧
 bcase (decide (kJid = (strD (List.getD (List.getD (atsD l) (Int.toNat i) []) 0 d0)))) (
 ((ByteArray.size (strD (List.getD (List.drop 1 (List.getD (atsD l) (Int.toNat i) [])) 0 d0))) ≤ LIM) ∧
 bcase (!(userB (strD (List.getD (List.drop 1 (List.getD (atsD l) (Int.toNat i) [])) 0 d0)))) (
 q (mkB false) [Ob.map KK.str [(Key.s kJid, AV.fn (Fn.func 12) [] [])], Ob.map KK.str [(Key.s kName, AV.fn (Fn.func 40) [] []), (Key.s kSub, AV.fn (Fn.func 58) [] [AV.rf 2 0]), (Key.s kAsk, AV.fn (Fn.func 58) [] [AV.rf 3 0])], Ob.box [mkSS [kTo, kFrom, sBoth]], Ob.box [mkSS [sSubscribe]], Ob.gh [], Ob.box [AV.mp 0, AV.mp 1], Ob.box [mkS n, AV.d (.sl (atsD l)), mkS t, AV.d (.sl (ksD k))], Ob.map KK.ystr se, Ob.box [mkS (strD (List.getD (List.getD (atsD l) (Int.toNat i) []) 0 d0)), mkS (strD (List.getD (List.drop 1 (List.getD (atsD l) (Int.toNat i) [])) 0 d0))]]) (
 ∃ (b : Bool),
 ((getO (Key.s (strD (List.getD (List.getD (atsD l) (Int.toNat i) []) 0 d0))) se (mkB false)) = (mkB b)) ∧
 bcase b (
 q (mkB false) [Ob.map KK.str [(Key.s kJid, AV.fn (Fn.func 12) [] [])], Ob.map KK.str [(Key.s kName, AV.fn (Fn.func 40) [] []), (Key.s kSub, AV.fn (Fn.func 58) [] [AV.rf 2 0]), (Key.s kAsk, AV.fn (Fn.func 58) [] [AV.rf 3 0])], Ob.box [mkSS [kTo, kFrom, sBoth]], Ob.box [mkSS [sSubscribe]], Ob.gh [], Ob.box [AV.mp 0, AV.mp 1], Ob.box [mkS n, AV.d (.sl (atsD l)), mkS t, AV.d (.sl (ksD k))], Ob.map KK.ystr se, Ob.box [mkS (strD (List.getD (List.getD (atsD l) (Int.toNat i) []) 0 d0)), mkS (strD (List.getD (List.drop 1 (List.getD (atsD l) (Int.toNat i) [])) 0 d0))]]) (
 FamNext st inv μ kk ⟨[.ag [.mp 0, .mp 1], .ag [mkS n, .d (.sl (atsD l)), mkS t, .d (.sl (ksD k))], .rf 5 0, .rf 6 0, mkB false, mkI .i64 (IntKind.wrap .i64 (left - (1 : Int))), .mp 7] ++ (jks 9 ++ ([.d (.sl (atsD l)), mkI .i64 ((List.length (atsD l)) : Int), mkI .i64 (IntKind.wrap .i64 (i + (1 : Int)))] ++ (jks 40))), [.map KK.str [(Key.s kJid, .fn (Fn.func 12) [] [])], .map KK.str [(Key.s kName, .fn (Fn.func 40) [] []), (Key.s kSub, .fn (Fn.func 58) [] [.rf 2 0]), (Key.s kAsk, .fn (Fn.func 58) [] [.rf 3 0])], .box [mkSS [kTo, kFrom, sBoth]], .box [mkSS [sSubscribe]], .gh [], .box [.mp 0, .mp 1], .box [mkS n, .d (.sl (atsD l)), mkS t, .d (.sl (ksD k))], .map KK.ystr (setKeyA (Key.s (strD (List.getD (List.getD (atsD l) (Int.toNat i) []) 0 d0))) (mkB true) se), .box [mkS (strD (List.getD (List.getD (atsD l) (Int.toNat i) []) 0 d0)), mkS (strD (List.getD (List.drop 1 (List.getD (atsD l) (Int.toNat i) [])) 0 d0))]]⟩))) (
 bcase (decide (kName = (strD (List.getD (List.getD (atsD l) (Int.toNat i) []) 0 d0)))) (
 ((ByteArray.size (strD (List.getD (List.drop 1 (List.getD (atsD l) (Int.toNat i) [])) 0 d0))) ≤ LIM) ∧
 bcase (!(wordB (strD (List.getD (List.drop 1 (List.getD (atsD l) (Int.toNat i) [])) 0 d0)))) (
 q (mkB false) [Ob.map KK.str [(Key.s kJid, AV.fn (Fn.func 12) [] [])], Ob.map KK.str [(Key.s kName, AV.fn (Fn.func 40) [] []), (Key.s kSub, AV.fn (Fn.func 58) [] [AV.rf 2 0]), (Key.s kAsk, AV.fn (Fn.func 58) [] [AV.rf 3 0])], Ob.box [mkSS [kTo, kFrom, sBoth]], Ob.box [mkSS [sSubscribe]], Ob.gh [], Ob.box [AV.mp 0, AV.mp 1], Ob.box [mkS n, AV.d (.sl (atsD l)), mkS t, AV.d (.sl (ksD k))], Ob.map KK.ystr se, Ob.box [mkS (strD (List.getD (List.getD (atsD l) (Int.toNat i) []) 0 d0)), mkS (strD (List.getD (List.drop 1 (List.getD (atsD l) (Int.toNat i) [])) 0 d0))]]) (
 ∃ (b : Bool),
 ((getO (Key.s (strD (List.getD (List.getD (atsD l) (Int.toNat i) []) 0 d0))) se (mkB false)) = (mkB b)) ∧
 bcase b (
 q (mkB false) [Ob.map KK.str [(Key.s kJid, AV.fn (Fn.func 12) [] [])], Ob.map KK.str [(Key.s kName, AV.fn (Fn.func 40) [] []), (Key.s kSub, AV.fn (Fn.func 58) [] [AV.rf 2 0]), (Key.s kAsk, AV.fn (Fn.func 58) [] [AV.rf 3 0])], Ob.box [mkSS [kTo, kFrom, sBoth]], Ob.box [mkSS [sSubscribe]], Ob.gh [], Ob.box [AV.mp 0, AV.mp 1], Ob.box [mkS n, AV.d (.sl (atsD l)), mkS t, AV.d (.sl (ksD k))], Ob.map KK.ystr se, Ob.box [mkS (strD (List.getD (List.getD (atsD l) (Int.toNat i) []) 0 d0)), mkS (strD (List.getD (List.drop 1 (List.getD (atsD l) (Int.toNat i) [])) 0 d0))]]) (
 FamNext st inv μ kk ⟨[.ag [.mp 0, .mp 1], .ag [mkS n, .d (.sl (atsD l)), mkS t, .d (.sl (ksD k))], .rf 5 0, .rf 6 0, mkB false, mkI .i64 left, .mp 7] ++ (jks 9 ++ ([.d (.sl (atsD l)), mkI .i64 ((List.length (atsD l)) : Int), mkI .i64 (IntKind.wrap .i64 (i + (1 : Int)))] ++ (jks 40))), [.map KK.str [(Key.s kJid, .fn (Fn.func 12) [] [])], .map KK.str [(Key.s kName, .fn (Fn.func 40) [] []), (Key.s kSub, .fn (Fn.func 58) [] [.rf 2 0]), (Key.s kAsk, .fn (Fn.func 58) [] [.rf 3 0])], .box [mkSS [kTo, kFrom, sBoth]], .box [mkSS [sSubscribe]], .gh [], .box [.mp 0, .mp 1], .box [mkS n, .d (.sl (atsD l)), mkS t, .d (.sl (ksD k))], .map KK.ystr (setKeyA (Key.s (strD (List.getD (List.getD (atsD l) (Int.toNat i) []) 0 d0))) (mkB true) se), .box [mkS (strD (List.getD (List.getD (atsD l) (Int.toNat i) []) 0 d0)), mkS (strD (List.getD (List.drop 1 (List.getD (atsD l) (Int.toNat i) [])) 0 d0))]]⟩))) (
 bcase (decide (kSub = (strD (List.getD (List.getD (atsD l) (Int.toNat i) []) 0 d0)))) (
 ∃ (l_1 : List ByteArray),
 ∃ (x : ByteArray),
 ([mkS (strD (List.getD (List.drop 1 (List.getD (atsD l) (Int.toNat i) [])) 0 d0)), AV.rf 0 0] = [mkS x, AV.rf 0 0]) ∧
 ([Ob.box [AV.d (.sl (strsD [kTo, kFrom, sBoth]))], Ob.gh [AV.rf 0 0]] = [Ob.box [mkSS l_1], Ob.gh [AV.rf 0 0]]) ∧
 ((ByteArray.size x) ≤ LIM) ∧
 ((Option.some (Ob.gh [AV.rf 0 0])) = (Option.some (Ob.gh [AV.rf 0 0]))) ∧
 bcase (!(oneB l_1 x)) (
 q (mkB false) [Ob.map KK.str [(Key.s kJid, AV.fn (Fn.func 12) [] [])], Ob.map KK.str [(Key.s kName, AV.fn (Fn.func 40) [] []), (Key.s kSub, AV.fn (Fn.func 58) [] [AV.rf 2 0]), (Key.s kAsk, AV.fn (Fn.func 58) [] [AV.rf 3 0])], Ob.box [AV.d (.sl (strsD [kTo, kFrom, sBoth]))], Ob.box [AV.d (.sl (strsD [sSubscribe]))], Ob.gh [], Ob.box [AV.mp 0, AV.mp 1], Ob.box [mkS n, AV.d (.sl (atsD l)), mkS t, AV.d (.sl (ksD k))], Ob.map KK.ystr se, Ob.box [mkS (strD (List.getD (List.getD (atsD l) (Int.toNat i) []) 0 d0)), mkS (strD (List.getD (List.drop 1 (List.getD (atsD l) (Int.toNat i) [])) 0 d0))], Ob.gone, Ob.gone]) (
 ∃ (b : Bool),
 ((getO (Key.s (strD (List.getD (List.getD (atsD l) (Int.toNat i) []) 0 d0))) se (mkB false)) = (mkB b)) ∧
 bcase b (
 q (mkB false) [Ob.map KK.str [(Key.s kJid, AV.fn (Fn.func 12) [] [])], Ob.map KK.str [(Key.s kName, AV.fn (Fn.func 40) [] []), (Key.s kSub, AV.fn (Fn.func 58) [] [AV.rf 2 0]), (Key.s kAsk, AV.fn (Fn.func 58) [] [AV.rf 3 0])], Ob.box [AV.d (.sl (strsD [kTo, kFrom, sBoth]))], Ob.box [AV.d (.sl (strsD [sSubscribe]))], Ob.gh [], Ob.box [AV.mp 0, AV.mp 1], Ob.box [mkS n, AV.d (.sl (atsD l)), mkS t, AV.d (.sl (ksD k))], Ob.map KK.ystr se, Ob.box [mkS (strD (List.getD (List.getD (atsD l) (Int.toNat i) []) 0 d0)), mkS (strD (List.getD (List.drop 1 (List.getD (atsD l) (Int.toNat i) [])) 0 d0))], Ob.gone, Ob.gone]) (
 FamNext st inv μ kk ⟨[.ag [.mp 0, .mp 1], .ag [mkS n, .d (.sl (atsD l)), mkS t, .d (.sl (ksD k))], .rf 5 0, .rf 6 0, mkB false, mkI .i64 left, .mp 7] ++ (jks 9 ++ ([.d (.sl (atsD l)), mkI .i64 ((List.length (atsD l)) : Int), mkI .i64 (IntKind.wrap .i64 (i + (1 : Int)))] ++ (jks 40))), [.map KK.str [(Key.s kJid, .fn (Fn.func 12) [] [])], .map KK.str [(Key.s kName, .fn (Fn.func 40) [] []), (Key.s kSub, .fn (Fn.func 58) [] [.rf 2 0]), (Key.s kAsk, .fn (Fn.func 58) [] [.rf 3 0])], .box [.d (.sl (strsD [kTo, kFrom, sBoth]))], .box [.d (.sl (strsD [sSubscribe]))], .gh [], .box [.mp 0, .mp 1], .box [mkS n, .d (.sl (atsD l)), mkS t, .d (.sl (ksD k))], .map KK.ystr (setKeyA (Key.s (strD (List.getD (List.getD (atsD l) (Int.toNat i) []) 0 d0))) (mkB true) se), .box [mkS (strD (List.getD (List.getD (atsD l) (Int.toNat i) []) 0 d0)), mkS (strD (List.getD (List.drop 1 (List.getD (atsD l) (Int.toNat i) [])) 0 d0))], .gone, .gone]⟩))) (
 bcase (decide (kAsk = (strD (List.getD (List.getD (atsD l) (Int.toNat i) []) 0 d0)))) (
 ∃ (l_1 : List ByteArray),
 ∃ (x : ByteArray),
 ([mkS (strD (List.getD (List.drop 1 (List.getD (atsD l) (Int.toNat i) [])) 0 d0)), AV.rf 0 0] = [mkS x, AV.rf 0 0]) ∧
 ([Ob.box [AV.d (.sl (strsD [sSubscribe]))], Ob.gh [AV.rf 0 0]] = [Ob.box [mkSS l_1], Ob.gh [AV.rf 0 0]]) ∧
 ((ByteArray.size x) ≤ LIM) ∧
 ((Option.some (Ob.gh [AV.rf 0 0])) = (Option.some (Ob.gh [AV.rf 0 0]))) ∧
 bcase (!(oneB l_1 x)) (
 q (mkB false) [Ob.map KK.str [(Key.s kJid, AV.fn (Fn.func 12) [] [])], Ob.map KK.str [(Key.s kName, AV.fn (Fn.func 40) [] []), (Key.s kSub, AV.fn (Fn.func 58) [] [AV.rf 2 0]), (Key.s kAsk, AV.fn (Fn.func 58) [] [AV.rf 3 0])], Ob.box [AV.d (.sl (strsD [kTo, kFrom, sBoth]))], Ob.box [AV.d (.sl (strsD [sSubscribe]))], Ob.gh [], Ob.box [AV.mp 0, AV.mp 1], Ob.box [mkS n, AV.d (.sl (atsD l)), mkS t, AV.d (.sl (ksD k))], Ob.map KK.ystr se, Ob.box [mkS (strD (List.getD (List.getD (atsD l) (Int.toNat i) []) 0 d0)), mkS (strD (List.getD (List.drop 1 (List.getD (atsD l) (Int.toNat i) [])) 0 d0))], Ob.gone, Ob.gone]) (
 ∃ (b : Bool),
 ((getO (Key.s (strD (List.getD (List.getD (atsD l) (Int.toNat i) []) 0 d0))) se (mkB false)) = (mkB b)) ∧
 bcase b (
 q (mkB false) [Ob.map KK.str [(Key.s kJid, AV.fn (Fn.func 12) [] [])], Ob.map KK.str [(Key.s kName, AV.fn (Fn.func 40) [] []), (Key.s kSub, AV.fn (Fn.func 58) [] [AV.rf 2 0]), (Key.s kAsk, AV.fn (Fn.func 58) [] [AV.rf 3 0])], Ob.box [AV.d (.sl (strsD [kTo, kFrom, sBoth]))], Ob.box [AV.d (.sl (strsD [sSubscribe]))], Ob.gh [], Ob.box [AV.mp 0, AV.mp 1], Ob.box [mkS n, AV.d (.sl (atsD l)), mkS t, AV.d (.sl (ksD k))], Ob.map KK.ystr se, Ob.box [mkS (strD (List.getD (List.getD (atsD l) (Int.toNat i) []) 0 d0)), mkS (strD (List.getD (List.drop 1 (List.getD (atsD l) (Int.toNat i) [])) 0 d0))], Ob.gone, Ob.gone]) (
 FamNext st inv μ kk ⟨[.ag [.mp 0, .mp 1], .ag [mkS n, .d (.sl (atsD l)), mkS t, .d (.sl (ksD k))], .rf 5 0, .rf 6 0, mkB false, mkI .i64 left, .mp 7] ++ (jks 9 ++ ([.d (.sl (atsD l)), mkI .i64 ((List.length (atsD l)) : Int), mkI .i64 (IntKind.wrap .i64 (i + (1 : Int)))] ++ (jks 40))), [.map KK.str [(Key.s kJid, .fn (Fn.func 12) [] [])], .map KK.str [(Key.s kName, .fn (Fn.func 40) [] []), (Key.s kSub, .fn (Fn.func 58) [] [.rf 2 0]), (Key.s kAsk, .fn (Fn.func 58) [] [.rf 3 0])], .box [.d (.sl (strsD [kTo, kFrom, sBoth]))], .box [.d (.sl (strsD [sSubscribe]))], .gh [], .box [.mp 0, .mp 1], .box [mkS n, .d (.sl (atsD l)), mkS t, .d (.sl (ksD k))], .map KK.ystr (setKeyA (Key.s (strD (List.getD (List.getD (atsD l) (Int.toNat i) []) 0 d0))) (mkB true) se), .box [mkS (strD (List.getD (List.getD (atsD l) (Int.toNat i) []) 0 d0)), mkS (strD (List.getD (List.drop 1 (List.getD (atsD l) (Int.toNat i) [])) 0 d0))], .gone, .gone]⟩))) (
 q (mkB false) [Ob.map KK.str [(Key.s kJid, AV.fn (Fn.func 12) [] [])], Ob.map KK.str [(Key.s kName, AV.fn (Fn.func 40) [] []), (Key.s kSub, AV.fn (Fn.func 58) [] [AV.rf 2 0]), (Key.s kAsk, AV.fn (Fn.func 58) [] [AV.rf 3 0])], Ob.box [mkSS [kTo, kFrom, sBoth]], Ob.box [mkSS [sSubscribe]], Ob.gh [], Ob.box [AV.mp 0, AV.mp 1], Ob.box [mkS n, AV.d (.sl (atsD l)), mkS t, AV.d (.sl (ksD k))], Ob.map KK.ystr se, Ob.box [mkS (strD (List.getD (List.getD (atsD l) (Int.toNat i) []) 0 d0)), mkS (strD (List.getD (List.drop 1 (List.getD (atsD l) (Int.toNat i) [])) 0 d0))]]))))) (
 q (mkB (left == (0 : Int))) [Ob.map KK.str [(Key.s kJid, AV.fn (Fn.func 12) [] [])], Ob.map KK.str [(Key.s kName, AV.fn (Fn.func 40) [] []), (Key.s kSub, AV.fn (Fn.func 58) [] [AV.rf 2 0]), (Key.s kAsk, AV.fn (Fn.func 58) [] [AV.rf 3 0])], Ob.box [mkSS [kTo, kFrom, sBoth]], Ob.box [mkSS [sSubscribe]], Ob.gh [], Ob.box [AV.mp 0, AV.mp 1], Ob.box [mkS n, AV.d (.sl (atsD l)), mkS t, AV.d (.sl (ksD k))], Ob.map KK.ystr se])) := by kernel_rfl
def EFPres : REnt := fun al o q => ∃ n l t k, al = [.ag [nilM, .mp 0], .ag [mkS n, .d (.sl (atsD l)), mkS t, .d (.sl (ksD k))]] ∧ o = obsPres ∧ (l.length ≤ LIM ∧ atsFit l) ∧ q (mkB (fitsM [] shPres l)) obsPres
theorem cFPres : RSound Tryz.prog 38 EFPres := by
  refine ref_gen trimN trimN_ok (code_bsound (c := Tryz.b38) mixed KS_ok gf_ok) KS_ok Tryz.func38 rfl rfl Tryz.call38 fun al o q ⟨n, l, t, k, h1, h2, ⟨hll, hfit⟩, hq⟩ => ?_
  subst h1 h2
  have fin : ∀ o : List Ob, trimN q (mkB (fitsM [] shPres l)) (obsPres ++ o) := fun o => ⟨_, _, LeN.refl _, by simp [leO, obsPres], by rfl, hq⟩
  generalize hA : fitsM [] shPres l = ANS at fin
  clear hq
  refine cast (rFPres n l t k (trimN q)).symm fun _ => ?_
  refine ALoop.introM [] (maskOf (stFPres n l t k (leftN [] l 0) 0 (seenE (l.take 0)))) (fun j : Nat => stFPres n l t k (leftN [] l j) j (seenE (l.take j))) (fun j => FI [] shPres l j) (fun j => l.length - j) ⟨[], 0, ?_, fi_zero _ _ _⟩ fun j hI => ?_
  · simp [S.le, sealAll, leL, leA, leO, jks, stFPres, obsPres, leftN, seenE, mkB, mkI, mkS, nilM, fnV, S.fits, fitsL, AV.fits, Ob.fits, KK.isSy, firmL, mkSS, shId, shH, shBoth, shIq, shQuery, shPres, shItem, shJid]
  · have hj := hI.le
    refine cast (rFPres_b _ _ _ j n l t k (leftN [] l j) j (seenE (l.take j)) (trimN q)).symm (bcase_dec (fun hlt => ?_) (fun hge => ?_))
    · rw [atsD_len] at hlt
      have hlt : j < l.length := by omega
      have hgd := atsD_getD l j hlt
      obtain ⟨z1, z2⟩ := hfit _ (List.getElem_mem hlt)
      have nx : ∀ (lf : Int) (se : List (Key × AV)) (o : List Ob), lf = leftN [] l (j + 1) → se = seenE (l.take (j + 1)) → FI [] shPres l (j + 1) → FamNext (fun j : Nat => stFPres n l t k (leftN [] l j) j (seenE (l.take j))) (fun j => FI [] shPres l j) (fun j => l.length - j) j ⟨(stFPres n l t k lf (IntKind.wrap .i64 ((j : Int) + 1)) se).t, (stFPres n l t k lf 0 se).o ++ o⟩ := fun lf se o e1 e2 e3 => by
        refine .mk [] (j + 1) ?_ e3 (by omega)
        subst e1 e2
        rw [wrap_succ hlt (Nat.le_trans hll (by decide))]
        simp [S.le, sealAll, leL, leA, leO, jks, stFPres, obsPres, S.fits, fitsL, AV.fits, Ob.fits, KK.isSy, mkSS, mkS, mkI, mkB, nilM, fnV, firmL]
      simp only [Int.toNat_natCast, hgd, atD, List.getD_cons_zero, List.drop_succ_cons, List.drop_zero, strD]
      refine ⟨⟨by omega, by rw [atsD_len]; omega⟩, rfl, Nat.le_refl _, ⟨by trivial, by trivial, trivial⟩, ?_⟩
      have bad : atOk [] shPres l[j] = false → ANS = false := fun h => by rw [← hA]; exact f_bad hlt h
      have dup : l[j].1 ∈ (l.take j).map Prod.fst → ANS = false := fun h => by rw [← hA]; exact f_dup hlt h
      generalize hat : l[j] = a at bad dup z1 z2
      have hatk : ∀ {x : Tst}, inM x l[j] = inM x a := fun {x} => by rw [hat]
      refine bcase_mk (fun h0 => ?_) (fun h0 => ?_)
      · simp only [decide_eq_true_eq] at h0
        have at0 : atOk [] shPres a = (oneB [sUnav, sSubscribe, sSubscribed, sUnsub, sUnsubd]) a.2 := by simp [atOk, lkT, shId, shH, shBoth, shIq, shQuery, shPres, shItem, shJid, statesB, typesB, h0]
        have in0 : inM [] a = false := by simp [inM, lkT, shId, shH, shBoth, shIq, shQuery, shPres, shItem, shJid, h0]
        refine ⟨_, _, rfl, rfl, z2, trivial, bcase_mk (fun h7 => ?_) (fun h7 => ⟨_, seen_get _ _, bcase_mk (fun h8 => ?_) (fun h8 => ?_)⟩)⟩
        · have e : ANS = false := bad (by rw [at0]; simpa using h7)
          subst e; exact fin _
        · have e : ANS = false := dup ((memB_iff _ _).1 h8)
          subst e; exact fin _
        · exact nx _ _ _ (left_miss hlt (by rw [hat]; exact in0)) (by rw [take_snoc hlt, hat]; exact seen_set (not_mem_of h8)) (fi_next hI hlt (by rw [hat, at0]; simpa using h7) (by rw [hat]; exact not_mem_of h8))
      · simp only [decide_eq_false_iff_not] at h0
        refine bcase_mk (fun h1 => ?_) (fun h1 => ?_)
        · simp only [decide_eq_true_eq] at h1
          have at0 : atOk [] shPres a = (placeB) a.2 := by simp [atOk, lkT, shId, shH, shBoth, shIq, shQuery, shPres, shItem, shJid, statesB, typesB, h0, h1]
          have in0 : inM [] a = false := by simp [inM, lkT, shId, shH, shBoth, shIq, shQuery, shPres, shItem, shJid, h0, h1]
          refine ⟨z2, bcase_mk (fun h7 => ?_) (fun h7 => ⟨_, seen_get _ _, bcase_mk (fun h8 => ?_) (fun h8 => ?_)⟩)⟩
          · have e : ANS = false := bad (by rw [at0]; simpa using h7)
            subst e; exact fin _
          · have e : ANS = false := dup ((memB_iff _ _).1 h8)
            subst e; exact fin _
          · exact nx _ _ _ (left_miss hlt (by rw [hat]; exact in0)) (by rw [take_snoc hlt, hat]; exact seen_set (not_mem_of h8)) (fi_next hI hlt (by rw [hat, at0]; simpa using h7) (by rw [hat]; exact not_mem_of h8))
        · simp only [decide_eq_false_iff_not] at h1
          refine bcase_mk (fun h2 => ?_) (fun h2 => ?_)
          · simp only [decide_eq_true_eq] at h2
            have at0 : atOk [] shPres a = (placeB) a.2 := by simp [atOk, lkT, shId, shH, shBoth, shIq, shQuery, shPres, shItem, shJid, statesB, typesB, h0, h1, h2]
            have in0 : inM [] a = false := by simp [inM, lkT, shId, shH, shBoth, shIq, shQuery, shPres, shItem, shJid, h0, h1, h2]
            refine ⟨z2, bcase_mk (fun h7 => ?_) (fun h7 => ⟨_, seen_get _ _, bcase_mk (fun h8 => ?_) (fun h8 => ?_)⟩)⟩
            · have e : ANS = false := bad (by rw [at0]; simpa using h7)
              subst e; exact fin _
            · have e : ANS = false := dup ((memB_iff _ _).1 h8)
              subst e; exact fin _
            · exact nx _ _ _ (left_miss hlt (by rw [hat]; exact in0)) (by rw [take_snoc hlt, hat]; exact seen_set (not_mem_of h8)) (fi_next hI hlt (by rw [hat, at0]; simpa using h7) (by rw [hat]; exact not_mem_of h8))
          · simp only [decide_eq_false_iff_not] at h2
            have e : ANS = false := bad (by simp [atOk, lkT, shId, shH, shBoth, shIq, shQuery, shPres, shItem, shJid, h0, h1, h2])
            subst e; exact fin _
    · rw [atsD_len] at hge
      have e : j = l.length := by omega
      subst e
      rw [f_end hI] at hA
      rw [hA]
      exact fin _
def EFItemS : REnt := fun al o q => ∃ n l t k, al = [.ag [.mp 0, .mp 1], .ag [mkS n, .d (.sl (atsD l)), mkS t, .d (.sl (ksD k))]] ∧ o = obsItemS ∧ (l.length ≤ LIM ∧ atsFit l) ∧ q (mkB (fitsM shJid (shItem true) l)) obsItemS
theorem cFItemS : RSound Tryz.prog 38 EFItemS := by
  refine ref_gen trimN trimN_ok (code_bsound (c := Tryz.b38) mixed KS_ok gf_ok) KS_ok Tryz.func38 rfl rfl Tryz.call38 fun al o q ⟨n, l, t, k, h1, h2, ⟨hll, hfit⟩, hq⟩ => ?_
  subst h1 h2
  have fin : ∀ o : List Ob, trimN q (mkB (fitsM shJid (shItem true) l)) (obsItemS ++ o) := fun o => ⟨_, _, LeN.refl _, by simp [leO, obsItemS], by rfl, hq⟩
  generalize hA : fitsM shJid (shItem true) l = ANS at fin
  clear hq
  refine cast (rFItemS n l t k (trimN q)).symm fun _ => ?_
  refine ALoop.introM [] (maskOf (stFItemS n l t k (leftN shJid l 0) 0 (seenE (l.take 0)))) (fun j : Nat => stFItemS n l t k (leftN shJid l j) j (seenE (l.take j))) (fun j => FI shJid (shItem true) l j) (fun j => l.length - j) ⟨[], 0, ?_, fi_zero _ _ _⟩ fun j hI => ?_
  · simp [S.le, sealAll, leL, leA, leO, jks, stFItemS, obsItemS, leftN, seenE, mkB, mkI, mkS, nilM, fnV, S.fits, fitsL, AV.fits, Ob.fits, KK.isSy, firmL, mkSS, shId, shH, shBoth, shIq, shQuery, shPres, shItem, shJid]
  · have hj := hI.le
    refine cast (rFItemS_b _ _ _ j n l t k (leftN shJid l j) j (seenE (l.take j)) (trimN q)).symm (bcase_dec (fun hlt => ?_) (fun hge => ?_))
    · rw [atsD_len] at hlt
      have hlt : j < l.length := by omega
      have hgd := atsD_getD l j hlt
      obtain ⟨z1, z2⟩ := hfit _ (List.getElem_mem hlt)
      have nx : ∀ (lf : Int) (se : List (Key × AV)) (o : List Ob), lf = leftN shJid l (j + 1) → se = seenE (l.take (j + 1)) → FI shJid (shItem true) l (j + 1) → FamNext (fun j : Nat => stFItemS n l t k (leftN shJid l j) j (seenE (l.take j))) (fun j => FI shJid (shItem true) l j) (fun j => l.length - j) j ⟨(stFItemS n l t k lf (IntKind.wrap .i64 ((j : Int) + 1)) se).t, (stFItemS n l t k lf 0 se).o ++ o⟩ := fun lf se o e1 e2 e3 => by
        refine .mk [] (j + 1) ?_ e3 (by omega)
        subst e1 e2
        rw [wrap_succ hlt (Nat.le_trans hll (by decide))]
        simp [S.le, sealAll, leL, leA, leO, jks, stFItemS, obsItemS, S.fits, fitsL, AV.fits, Ob.fits, KK.isSy, mkSS, mkS, mkI, mkB, nilM, fnV, firmL]
      simp only [Int.toNat_natCast, hgd, atD, List.getD_cons_zero, List.drop_succ_cons, List.drop_zero, strD]
      refine ⟨⟨by omega, by rw [atsD_len]; omega⟩, rfl, Nat.le_refl _, ⟨by trivial, by trivial, trivial⟩, ?_⟩
      have bad : atOk shJid (shItem true) l[j] = false → ANS = false := fun h => by rw [← hA]; exact f_bad hlt h
      have dup : l[j].1 ∈ (l.take j).map Prod.fst → ANS = false := fun h => by rw [← hA]; exact f_dup hlt h
      generalize hat : l[j] = a at bad dup z1 z2
      have hatk : ∀ {x : Tst}, inM x l[j] = inM x a := fun {x} => by rw [hat]
      refine bcase_mk (fun h0 => ?_) (fun h0 => ?_)
      · simp only [decide_eq_true_eq] at h0
        have at0 : atOk shJid (shItem true) a = (userB) a.2 := by simp [atOk, lkT, shId, shH, shBoth, shIq, shQuery, shPres, shItem, shJid, statesB, typesB, h0]
        have in0 : inM shJid a = true := by simp [inM, lkT, shId, shH, shBoth, shIq, shQuery, shPres, shItem, shJid, h0]
        refine ⟨z2, bcase_mk (fun h7 => ?_) (fun h7 => ⟨_, seen_get _ _, bcase_mk (fun h8 => ?_) (fun h8 => ?_)⟩)⟩
        · have e : ANS = false := bad (by rw [at0]; simpa using h7)
          subst e; exact fin _
        · have e : ANS = false := dup ((memB_iff _ _).1 h8)
          subst e; exact fin _
        · exact nx _ _ _ (left_hit hlt (by rw [hat]; exact in0) hll (by decide)) (by rw [take_snoc hlt, hat]; exact seen_set (not_mem_of h8)) (fi_next hI hlt (by rw [hat, at0]; simpa using h7) (by rw [hat]; exact not_mem_of h8))
      · simp only [decide_eq_false_iff_not] at h0
        refine bcase_mk (fun h1 => ?_) (fun h1 => ?_)
        · simp only [decide_eq_true_eq] at h1
          have at0 : atOk shJid (shItem true) a = (wordB) a.2 := by simp [atOk, lkT, shId, shH, shBoth, shIq, shQuery, shPres, shItem, shJid, statesB, typesB, h0, h1]
          have in0 : inM shJid a = false := by simp [inM, lkT, shId, shH, shBoth, shIq, shQuery, shPres, shItem, shJid, h0, h1]
          refine ⟨z2, bcase_mk (fun h7 => ?_) (fun h7 => ⟨_, seen_get _ _, bcase_mk (fun h8 => ?_) (fun h8 => ?_)⟩)⟩
          · have e : ANS = false := bad (by rw [at0]; simpa using h7)
            subst e; exact fin _
          · have e : ANS = false := dup ((memB_iff _ _).1 h8)
            subst e; exact fin _
          · exact nx _ _ _ (left_miss hlt (by rw [hat]; exact in0)) (by rw [take_snoc hlt, hat]; exact seen_set (not_mem_of h8)) (fi_next hI hlt (by rw [hat, at0]; simpa using h7) (by rw [hat]; exact not_mem_of h8))
        · simp only [decide_eq_false_iff_not] at h1
          refine bcase_mk (fun h2 => ?_) (fun h2 => ?_)
          · simp only [decide_eq_true_eq] at h2
            have at0 : atOk shJid (shItem true) a = (oneB [kTo, kFrom, sBoth, sRemove]) a.2 := by simp [atOk, lkT, shId, shH, shBoth, shIq, shQuery, shPres, shItem, shJid, statesB, typesB, h0, h1, h2]
            have in0 : inM shJid a = false := by simp [inM, lkT, shId, shH, shBoth, shIq, shQuery, shPres, shItem, shJid, h0, h1, h2]
            refine ⟨_, _, rfl, rfl, z2, trivial, bcase_mk (fun h7 => ?_) (fun h7 => ⟨_, seen_get _ _, bcase_mk (fun h8 => ?_) (fun h8 => ?_)⟩)⟩
            · have e : ANS = false := bad (by rw [at0]; simpa using h7)
              subst e; exact fin _
            · have e : ANS = false := dup ((memB_iff _ _).1 h8)
              subst e; exact fin _
            · exact nx _ _ _ (left_miss hlt (by rw [hat]; exact in0)) (by rw [take_snoc hlt, hat]; exact seen_set (not_mem_of h8)) (fi_next hI hlt (by rw [hat, at0]; simpa using h7) (by rw [hat]; exact not_mem_of h8))
          · simp only [decide_eq_false_iff_not] at h2
            refine bcase_mk (fun h3 => ?_) (fun h3 => ?_)
            · simp only [decide_eq_true_eq] at h3
              have at0 : atOk shJid (shItem true) a = (oneB [sSubscribe]) a.2 := by simp [atOk, lkT, shId, shH, shBoth, shIq, shQuery, shPres, shItem, shJid, statesB, typesB, h0, h1, h2, h3]
              have in0 : inM shJid a = false := by simp [inM, lkT, shId, shH, shBoth, shIq, shQuery, shPres, shItem, shJid, h0, h1, h2, h3]
              refine ⟨_, _, rfl, rfl, z2, trivial, bcase_mk (fun h7 => ?_) (fun h7 => ⟨_, seen_get _ _, bcase_mk (fun h8 => ?_) (fun h8 => ?_)⟩)⟩
              · have e : ANS = false := bad (by rw [at0]; simpa using h7)
                subst e; exact fin _
              · have e : ANS = false := dup ((memB_iff _ _).1 h8)
                subst e; exact fin _
              · exact nx _ _ _ (left_miss hlt (by rw [hat]; exact in0)) (by rw [take_snoc hlt, hat]; exact seen_set (not_mem_of h8)) (fi_next hI hlt (by rw [hat, at0]; simpa using h7) (by rw [hat]; exact not_mem_of h8))
            · simp only [decide_eq_false_iff_not] at h3
              have e : ANS = false := bad (by simp [atOk, lkT, shId, shH, shBoth, shIq, shQuery, shPres, shItem, shJid, h0, h1, h2, h3])
              subst e; exact fin _
    · rw [atsD_len] at hge
      have e : j = l.length := by omega
      subst e
      rw [f_end hI] at hA
      rw [hA]
      exact fin _
def EFItemG : REnt := fun al o q => ∃ n l t k, al = [.ag [.mp 0, .mp 1], .ag [mkS n, .d (.sl (atsD l)), mkS t, .d (.sl (ksD k))]] ∧ o = obsItemG ∧ (l.length ≤ LIM ∧ atsFit l) ∧ q (mkB (fitsM shJid (shItem false) l)) obsItemG
theorem cFItemG : RSound Tryz.prog 38 EFItemG := by
  refine ref_gen trimN trimN_ok (code_bsound (c := Tryz.b38) mixed KS_ok gf_ok) KS_ok Tryz.func38 rfl rfl Tryz.call38 fun al o q ⟨n, l, t, k, h1, h2, ⟨hll, hfit⟩, hq⟩ => ?_
  subst h1 h2
  have fin : ∀ o : List Ob, trimN q (mkB (fitsM shJid (shItem false) l)) (obsItemG ++ o) := fun o => ⟨_, _, LeN.refl _, by simp [leO, obsItemG], by rfl, hq⟩
  generalize hA : fitsM shJid (shItem false) l = ANS at fin
  clear hq
  refine cast (rFItemG n l t k (trimN q)).symm fun _ => ?_
  refine ALoop.introM [] (maskOf (stFItemG n l t k (leftN shJid l 0) 0 (seenE (l.take 0)))) (fun j : Nat => stFItemG n l t k (leftN shJid l j) j (seenE (l.take j))) (fun j => FI shJid (shItem false) l j) (fun j => l.length - j) ⟨[], 0, ?_, fi_zero _ _ _⟩ fun j hI => ?_
  · simp [S.le, sealAll, leL, leA, leO, jks, stFItemG, obsItemG, leftN, seenE, mkB, mkI, mkS, nilM, fnV, S.fits, fitsL, AV.fits, Ob.fits, KK.isSy, firmL, mkSS, shId, shH, shBoth, shIq, shQuery, shPres, shItem, shJid]
  · have hj := hI.le
    refine cast (rFItemG_b _ _ _ j n l t k (leftN shJid l j) j (seenE (l.take j)) (trimN q)).symm (bcase_dec (fun hlt => ?_) (fun hge => ?_))
    · rw [atsD_len] at hlt
      have hlt : j < l.length := by omega
      have hgd := atsD_getD l j hlt
      obtain ⟨z1, z2⟩ := hfit _ (List.getElem_mem hlt)
      have nx : ∀ (lf : Int) (se : List (Key × AV)) (o : List Ob), lf = leftN shJid l (j + 1) → se = seenE (l.take (j + 1)) → FI shJid (shItem false) l (j + 1) → FamNext (fun j : Nat => stFItemG n l t k (leftN shJid l j) j (seenE (l.take j))) (fun j => FI shJid (shItem false) l j) (fun j => l.length - j) j ⟨(stFItemG n l t k lf (IntKind.wrap .i64 ((j : Int) + 1)) se).t, (stFItemG n l t k lf 0 se).o ++ o⟩ := fun lf se o e1 e2 e3 => by
        refine .mk [] (j + 1) ?_ e3 (by omega)
        subst e1 e2
        rw [wrap_succ hlt (Nat.le_trans hll (by decide))]
        simp [S.le, sealAll, leL, leA, leO, jks, stFItemG, obsItemG, S.fits, fitsL, AV.fits, Ob.fits, KK.isSy, mkSS, mkS, mkI, mkB, nilM, fnV, firmL]
      simp only [Int.toNat_natCast, hgd, atD, List.getD_cons_zero, List.drop_succ_cons, List.drop_zero, strD]
      refine ⟨⟨by omega, by rw [atsD_len]; omega⟩, rfl, Nat.le_refl _, ⟨by trivial, by trivial, trivial⟩, ?_⟩
      have bad : atOk shJid (shItem false) l[j] = false → ANS = false := fun h => by rw [← hA]; exact f_bad hlt h
      have dup : l[j].1 ∈ (l.take j).map Prod.fst → ANS = false := fun h => by rw [← hA]; exact f_dup hlt h
      generalize hat : l[j] = a at bad dup z1 z2
      have hatk : ∀ {x : Tst}, inM x l[j] = inM x a := fun {x} => by rw [hat]
      refine bcase_mk (fun h0 => ?_) (fun h0 => ?_)
      · simp only [decide_eq_true_eq] at h0
        have at0 : atOk shJid (shItem false) a = (userB) a.2 := by simp [atOk, lkT, shId, shH, shBoth, shIq, shQuery, shPres, shItem, shJid, statesB, typesB, h0]
        have in0 : inM shJid a = true := by simp [inM, lkT, shId, shH, shBoth, shIq, shQuery, shPres, shItem, shJid, h0]
        refine ⟨z2, bcase_mk (fun h7 => ?_) (fun h7 => ⟨_, seen_get _ _, bcase_mk (fun h8 => ?_) (fun h8 => ?_)⟩)⟩
        · have e : ANS = false := bad (by rw [at0]; simpa using h7)
          subst e; exact fin _
        · have e : ANS = false := dup ((memB_iff _ _).1 h8)
          subst e; exact fin _
        · exact nx _ _ _ (left_hit hlt (by rw [hat]; exact in0) hll (by decide)) (by rw [take_snoc hlt, hat]; exact seen_set (not_mem_of h8)) (fi_next hI hlt (by rw [hat, at0]; simpa using h7) (by rw [hat]; exact not_mem_of h8))
      · simp only [decide_eq_false_iff_not] at h0
        refine bcase_mk (fun h1 => ?_) (fun h1 => ?_)
        · simp only [decide_eq_true_eq] at h1
          have at0 : atOk shJid (shItem false) a = (wordB) a.2 := by simp [atOk, lkT, shId, shH, shBoth, shIq, shQuery, shPres, shItem, shJid, statesB, typesB, h0, h1]
          have in0 : inM shJid a = false := by simp [inM, lkT, shId, shH, shBoth, shIq, shQuery, shPres, shItem, shJid, h0, h1]
          refine ⟨z2, bcase_mk (fun h7 => ?_) (fun h7 => ⟨_, seen_get _ _, bcase_mk (fun h8 => ?_) (fun h8 => ?_)⟩)⟩
          · have e : ANS = false := bad (by rw [at0]; simpa using h7)
            subst e; exact fin _
          · have e : ANS = false := dup ((memB_iff _ _).1 h8)
            subst e; exact fin _
          · exact nx _ _ _ (left_miss hlt (by rw [hat]; exact in0)) (by rw [take_snoc hlt, hat]; exact seen_set (not_mem_of h8)) (fi_next hI hlt (by rw [hat, at0]; simpa using h7) (by rw [hat]; exact not_mem_of h8))
        · simp only [decide_eq_false_iff_not] at h1
          refine bcase_mk (fun h2 => ?_) (fun h2 => ?_)
          · simp only [decide_eq_true_eq] at h2
            have at0 : atOk shJid (shItem false) a = (oneB [kTo, kFrom, sBoth]) a.2 := by simp [atOk, lkT, shId, shH, shBoth, shIq, shQuery, shPres, shItem, shJid, statesB, typesB, h0, h1, h2]
            have in0 : inM shJid a = false := by simp [inM, lkT, shId, shH, shBoth, shIq, shQuery, shPres, shItem, shJid, h0, h1, h2]
            refine ⟨_, _, rfl, rfl, z2, trivial, bcase_mk (fun h7 => ?_) (fun h7 => ⟨_, seen_get _ _, bcase_mk (fun h8 => ?_) (fun h8 => ?_)⟩)⟩
            · have e : ANS = false := bad (by rw [at0]; simpa using h7)
              subst e; exact fin _
            · have e : ANS = false := dup ((memB_iff _ _).1 h8)
              subst e; exact fin _
            · exact nx _ _ _ (left_miss hlt (by rw [hat]; exact in0)) (by rw [take_snoc hlt, hat]; exact seen_set (not_mem_of h8)) (fi_next hI hlt (by rw [hat, at0]; simpa using h7) (by rw [hat]; exact not_mem_of h8))
          · simp only [decide_eq_false_iff_not] at h2
            refine bcase_mk (fun h3 => ?_) (fun h3 => ?_)
            · simp only [decide_eq_true_eq] at h3
              have at0 : atOk shJid (shItem false) a = (oneB [sSubscribe]) a.2 := by simp [atOk, lkT, shId, shH, shBoth, shIq, shQuery, shPres, shItem, shJid, statesB, typesB, h0, h1, h2, h3]
              have in0 : inM shJid a = false := by simp [inM, lkT, shId, shH, shBoth, shIq, shQuery, shPres, shItem, shJid, h0, h1, h2, h3]
              refine ⟨_, _, rfl, rfl, z2, trivial, bcase_mk (fun h7 => ?_) (fun h7 => ⟨_, seen_get _ _, bcase_mk (fun h8 => ?_) (fun h8 => ?_)⟩)⟩
              · have e : ANS = false := bad (by rw [at0]; simpa using h7)
                subst e; exact fin _
              · have e : ANS = false := dup ((memB_iff _ _).1 h8)
                subst e; exact fin _
              · exact nx _ _ _ (left_miss hlt (by rw [hat]; exact in0)) (by rw [take_snoc hlt, hat]; exact seen_set (not_mem_of h8)) (fi_next hI hlt (by rw [hat, at0]; simpa using h7) (by rw [hat]; exact not_mem_of h8))
            · simp only [decide_eq_false_iff_not] at h3
              have e : ANS = false := bad (by simp [atOk, lkT, shId, shH, shBoth, shIq, shQuery, shPres, shItem, shJid, h0, h1, h2, h3])
              subst e; exact fin _
    · rw [atsD_len] at hge
      have e : j = l.length := by omega
      subst e
      rw [f_end hI] at hA
      rw [hA]
      exact fin _
end Go.Proofs.YtfdmmgiefhhnoaaGreatDoor
