import Derived.Test.YtfdmmgiefhhnoaaGreatDoorStaWrM
import Derived.Test.YtfdmmgiefhhnoaaGreatDoorStaSgn
import Derived.Test.YtfdmmgiefhhnoaaGreatDoorBindRef
set_option linter.unusedSimpArgs false
set_option linter.unusedVariables false
namespace Go.Proofs.YtfdmmgiefhhnoaaGreatDoor
open Go Go.AM Go.RowKit
attribute [local irreducible] aCode
def sNone : BA := ⟨#[110, 111, 110, 101]⟩
noncomputable abbrev GWd : List (FuncId × En) := [(34, .det TF23)]
theorem rWd (s : BA) (q : AV → Prop) :
 (aCode KS GWd Tryz.b17 (kRet KS Tryz.f17.results.toList q) ⟨[mkS s] ++ List.replicate (Tryz.f17.ntmps - 1) .jk, []⟩) = (
 ((ByteArray.size s) ≤ LIM) →
 bcase (decide (((ByteArray.size s) : Int) ≥ (1 : Int))) (
 ((ByteArray.size s) ≤ LIM) →
 bcase (decide (((ByteArray.size s) : Int) ≤ (40 : Int))) (
 True ∧
 q (mkB ((if (rightB s) = true then (0 : Int) else (2 : Int)) == (0 : Int)))) (
 q (mkB false))) (
 q (mkB false))) := by kernel_rfl
noncomputable abbrev GAd : List (FuncId × En) := [(54, .det F25)]
theorem rAd (s : BA) (q : AV → Prop) :
 (aCode KS GAd Tryz.b32 (kRet KS Tryz.f32.results.toList q) ⟨[mkS s] ++ List.replicate (Tryz.f32.ntmps - 1) .jk, []⟩) = (
 ((ByteArray.size s) ≤ LIM) ∧
 bcase (decide (s = ⟨#[]⟩)) (
 q (mkB true)) (
 q (mkB (addrB s)))) := by kernel_rfl
theorem rSbs (q : AV → Prop) :
 (aCode KS [] Tryz.b76 (kRet KS Tryz.f76.results.toList q) ⟨List.replicate (Tryz.f76.ntmps) .jk, []⟩) = (
 q (AV.ag [mkS sNone, mkS kTo, mkS kFrom, mkS sBoth])) := by kernel_rfl
noncomputable def rAm_k0 (q : AV → Prop) : Kont := kBlk (0 : Nat) (kSeq (aCode KS [] (cAt [1, 1] Tryz.b31) (kRet KS (Array.toList (Func.results Tryz.f31)) q)) (kRet KS (Array.toList (Func.results Tryz.f31)) q))
theorem rAm (x : BA) (l : List BA) (q : AV → Prop) :
 (aCode KS [] Tryz.b31 (kRet KS Tryz.f31.results.toList q) ⟨[mkS x, mkSS l] ++ List.replicate (Tryz.f31.ntmps - 2) .jk, []⟩) = (
 ALoop (aCode KS [] (cAt [1, 0, 1, 0, 0] Tryz.b31)) (rAm_k0 q) ⟨[mkS x, mkSS l, .jk, .jk, mkB false, mkI .i64 0] ++ (jks 12), []⟩) := by kernel_rfl
def stAm (x : BA) (l : List BA) (i : Int) : S := ⟨[mkS x, mkSS l, .jk, .jk, mkB false, mkI .i64 i] ++ jks 12, []⟩
theorem rAm_b {ι : Type} (st : ι → S) (inv : ι → Prop) (μ : ι → Nat) (kk : ι) (x : BA) (l : List BA) (i : Int) (q : AV → Prop) :
 (aCode KS [] (cAt [1, 0, 1, 0, 0] Tryz.b31) (kFamM [] (maskOf (stAm x l i)) st inv μ kk (rAm_k0 q)) (stAm x l i)) = (
 ((List.length (strsD l)) ≤ LIM) →
 bcase (decide (i < ((List.length (strsD l)) : Int))) (
 (((0 : Int) ≤ i) ∧ (i < ((List.length (strsD l)) : Int))) ∧
 ((List.length (List.getD (strsD l) (Int.toNat i) [])) = 1) ∧
 ((1 : Nat) ≤ (List.length (List.getD (strsD l) (Int.toNat i) []))) ∧
 ((List.getD (List.getD (strsD l) (Int.toNat i) []) 0 d0) = (D.v (.string (strD (List.getD (List.getD (strsD l) (Int.toNat i) []) 0 d0))))) ∧
 bcase (decide ((strD (List.getD (List.getD (strsD l) (Int.toNat i) []) 0 d0)) = x)) (
 q (mkB true)) (
 FamNext st inv μ kk ⟨[mkS x, mkSS l, .jk, .jk, mkB false, mkI .i64 (IntKind.wrap .i64 (i + (1 : Int)))] ++ (jks 12), []⟩)) (
 q (mkB false))) := by kernel_rfl
noncomputable abbrev ETx (N : Nat) : List AV → (AV → Prop) → Prop := fun al q => ∃ n : Int, al = [mkI .u32 n] ∧ (0 ≤ n ∧ n ≤ 4294967295) ∧ n.toNat < N ∧ q (mkS (decS n.toNat))
noncomputable abbrev GTx (N : Nat) : List (FuncId × En) := [(18, .pure (ETx N))]
theorem rTx (N : Nat) (n : Int) (q : AV → Prop) :
 (aCode KS (GTx N) Tryz.b18 (kRet KS Tryz.f18.results.toList q) ⟨[mkI .u32 n] ++ List.replicate (Tryz.f18.ntmps - 1) .jk, []⟩) = (
 bcase (decide (n < (10 : Int))) (
 ([[D.v (.int IntKind.u8 (IntKind.wrap .u8 (IntKind.wrap .u32 ((48 : Int) + n))))]] = (bytesD (unB [[D.v (.int IntKind.u8 (IntKind.wrap .u8 (IntKind.wrap .u32 ((48 : Int) + n))))]]))) ∧
 q (mkS (unB [[D.v (.int IntKind.u8 (IntKind.wrap .u8 (IntKind.wrap .u32 ((48 : Int) + n))))]]))) (
 (((10 : Int) = (0 : Int)) → False) ∧
 (((10 : Int) = (0 : Int)) → False) ∧
 (∃ (n_1 : Int), ([mkI .u32 (IntKind.wrap .u32 (Int.tdiv n (10 : Int)))] = [mkI .u32 n_1]) ∧ ((((0 : Int) ≤ n_1) ∧ (n_1 ≤ (4294967295 : Int))) ∧ (((Int.toNat n_1) < N) ∧ (([[D.v (.int IntKind.u8 (IntKind.wrap .u8 (IntKind.wrap .u32 ((48 : Int) + (Int.tmod n (10 : Int))))))]] = (bytesD (unB [[D.v (.int IntKind.u8 (IntKind.wrap .u8 (IntKind.wrap .u32 ((48 : Int) + (Int.tmod n (10 : Int))))))]]))) ∧ ((((ByteArray.size (decS (Int.toNat n_1))) + (ByteArray.size (unB [[D.v (.int IntKind.u8 (IntKind.wrap .u8 (IntKind.wrap .u32 ((48 : Int) + (Int.tmod n (10 : Int))))))]]))) ≤ LIM) ∧ (q (mkS ((decS (Int.toNat n_1)) ++ (unB [[D.v (.int IntKind.u8 (IntKind.wrap .u8 (IntKind.wrap .u32 ((48 : Int) + (Int.tmod n (10 : Int))))))]]))))))))) ∧
 ([[D.v (.int IntKind.u8 (IntKind.wrap .u8 (IntKind.wrap .u32 ((48 : Int) + (Int.tmod n (10 : Int))))))]] = (bytesD (unB [[D.v (.int IntKind.u8 (IntKind.wrap .u8 (IntKind.wrap .u32 ((48 : Int) + (Int.tmod n (10 : Int))))))]]))) ∧ (
 ∃ (n_1 : Int),
 ([mkI .u32 (IntKind.wrap .u32 (Int.tdiv n (10 : Int)))] = [mkI .u32 n_1]) ∧
 (((0 : Int) ≤ n_1) ∧ (n_1 ≤ (4294967295 : Int))) ∧
 ((Int.toNat n_1) < N) ∧
 (((ByteArray.size (decS (Int.toNat n_1))) + (ByteArray.size (unB [[D.v (.int IntKind.u8 (IntKind.wrap .u8 (IntKind.wrap .u32 ((48 : Int) + (Int.tmod n (10 : Int))))))]]))) ≤ LIM) ∧
 q (mkS ((decS (Int.toNat n_1)) ++ (unB [[D.v (.int IntKind.u8 (IntKind.wrap .u8 (IntKind.wrap .u32 ((48 : Int) + (Int.tmod n (10 : Int))))))]])))))) := by kernel_rfl
def FSbs : List AV → Option (Prop × AV) := fun al => match al with
  | [] => some (True, .ag [mkS sNone, mkS kTo, mkS kFrom, mkS sBoth])
  | _ => none
noncomputable abbrev GItm : List (FuncId × En) := [(75, .det F19), (17, .det (strF wordB)), (76, .det FSbs)]
noncomputable abbrev KI : TypeId → Option TK := cutK KS [4, 8, 10]
theorem KI_ok : KOk Tryz.prog KI := cutK_ok KS_ok _
noncomputable def rI0_k0 (q : AV → Prop) : Kont := kSeq (aCode KI GItm (cAt [1, 1, 1, 1] Tryz.b55) (kRet KI (Array.toList (Func.results Tryz.f55)) q)) (kRet KI (Array.toList (Func.results Tryz.f55)) q)
theorem rI0 (c n : BA) (z : Int) (a r : Bool) (q : AV → Prop) :
 (aCode KI GItm Tryz.b55 (kRet KI Tryz.f55.results.toList q) ⟨[.ag [mkS c, mkS n, mkI .i64 z, mkB a], mkB r] ++ List.replicate (Tryz.f55.ntmps - 2) .jk, []⟩) = (
 True ∧
 bcase (!(userB c)) (
 q (AV.tp [AV.ag [mkS sItem, AV.d (.sl [[D.v (.string kJid), D.v (.string c)]]), mkS ⟨#[]⟩, AV.d (.sl [])], mkB false])) (
 bcase (!(decide (n = ⟨#[]⟩))) (
 ((ByteArray.size n) ≤ LIM) ∧
 bcase (!(wordB n)) (
 q (AV.tp [AV.ag [mkS sItem, AV.d (.sl [[D.v (.string kJid), D.v (.string c)]]), mkS ⟨#[]⟩, AV.d (.sl [])], mkB false])) (
 bcase (decide (z < (0 : Int))) (
 q (AV.tp [AV.ag [mkS sItem, AV.d (.sl [[D.v (.string kJid), D.v (.string c)]]), mkS ⟨#[]⟩, AV.d (.sl [])], mkB false])) (
 bcase (decide (z > (3 : Int))) (
 q (AV.tp [AV.ag [mkS sItem, AV.d (.sl [[D.v (.string kJid), D.v (.string c)]]), mkS ⟨#[]⟩, AV.d (.sl [])], mkB false])) (
 bcase r (
 bcase (z != (0 : Int)) (
 q (AV.tp [AV.ag [mkS sItem, AV.d (.sl [[D.v (.string kJid), D.v (.string c)]]), mkS ⟨#[]⟩, AV.d (.sl [])], mkB false])) (
 ACut (aCode KI GItm (cAt [1, 1, 1, 0, 1] Tryz.b55)) (rI0_k0 q) ⟨[.ag [mkS c, mkS n, mkI .i64 z, mkB a], mkB r, .rf 0 0, .jk, .rf 1 0, mkB false, .rf 3 0, .rf 0 (0 + 0), mkS c, .ag [mkS kJid, mkS c], .vw 2 1, .ag [mkS sItem, .vw 2 1, mkS ⟨#[]⟩, .nl], .rf 0 (0 + 0), mkS c, mkB (userB c), mkB (!(userB c)), mkB false, .rf 0 (0 + 1), mkS n, mkB (!(decide (n = ⟨#[]⟩))), mkB true, .rf 0 (0 + 1), mkS n, mkB (wordB n), mkB (!(wordB n)), mkB (!(wordB n)), mkB (!(wordB n)), mkB false, .rf 0 (0 + 2), mkI .i64 z, mkB (decide (z < (0 : Int))), mkB (decide (z < (0 : Int))), mkB false, .rf 0 (0 + 2), mkI .i64 z, mkB (decide (z > (3 : Int))), mkB (decide (z > (3 : Int))), mkB false, mkB r, mkB true, .rf 0 (0 + 2), mkI .i64 z, mkB (z != (0 : Int)), mkB (z != (0 : Int)), mkB false, .jk, .rf 0 (0 + 1), mkS n, mkB (!(decide (n = ⟨#[]⟩)))] ++ (jks 37), [.box [mkS c, mkS n, mkI .i64 z, mkB a], .box [mkS ⟨#[]⟩, .nl, mkS ⟨#[]⟩, .nl], .row 2 [[D.v (.string kJid), D.v (.string c)]], .box [mkS sItem, .vw 2 1, mkS ⟨#[]⟩, .nl]]⟩)) (
 ACut (aCode KI GItm (cAt [1, 1, 1, 0, 1] Tryz.b55)) (rI0_k0 q) ⟨[.ag [mkS c, mkS n, mkI .i64 z, mkB a], mkB r, .rf 0 0, .jk, .rf 1 0, mkB false, .rf 3 0, .rf 0 (0 + 0), mkS c, .ag [mkS kJid, mkS c], .vw 2 1, .ag [mkS sItem, .vw 2 1, mkS ⟨#[]⟩, .nl], .rf 0 (0 + 0), mkS c, mkB (userB c), mkB (!(userB c)), mkB false, .rf 0 (0 + 1), mkS n, mkB (!(decide (n = ⟨#[]⟩))), mkB true, .rf 0 (0 + 1), mkS n, mkB (wordB n), mkB (!(wordB n)), mkB (!(wordB n)), mkB (!(wordB n)), mkB false, .rf 0 (0 + 2), mkI .i64 z, mkB (decide (z < (0 : Int))), mkB (decide (z < (0 : Int))), mkB false, .rf 0 (0 + 2), mkI .i64 z, mkB (decide (z > (3 : Int))), mkB (decide (z > (3 : Int))), mkB false, mkB r, mkB false, .tp [], .tp [], .tp [], mkB false, mkB false, .jk, .rf 0 (0 + 1), mkS n, mkB (!(decide (n = ⟨#[]⟩)))] ++ (jks 37), [.box [mkS c, mkS n, mkI .i64 z, mkB a], .box [mkS ⟨#[]⟩, .nl, mkS ⟨#[]⟩, .nl], .row 2 [[D.v (.string kJid), D.v (.string c)]], .box [mkS sItem, .vw 2 1, mkS ⟨#[]⟩, .nl]]⟩))))) (
 bcase (decide (z < (0 : Int))) (
 q (AV.tp [AV.ag [mkS sItem, AV.d (.sl [[D.v (.string kJid), D.v (.string c)]]), mkS ⟨#[]⟩, AV.d (.sl [])], mkB false])) (
 bcase (decide (z > (3 : Int))) (
 q (AV.tp [AV.ag [mkS sItem, AV.d (.sl [[D.v (.string kJid), D.v (.string c)]]), mkS ⟨#[]⟩, AV.d (.sl [])], mkB false])) (
 bcase r (
 bcase (z != (0 : Int)) (
 q (AV.tp [AV.ag [mkS sItem, AV.d (.sl [[D.v (.string kJid), D.v (.string c)]]), mkS ⟨#[]⟩, AV.d (.sl [])], mkB false])) (
 ACut (aCode KI GItm (cAt [1, 1, 1, 0, 1] Tryz.b55)) (rI0_k0 q) ⟨[.ag [mkS c, mkS n, mkI .i64 z, mkB a], mkB r, .rf 0 0, .jk, .rf 1 0, mkB false, .rf 3 0, .rf 0 (0 + 0), mkS c, .ag [mkS kJid, mkS c], .vw 2 1, .ag [mkS sItem, .vw 2 1, mkS ⟨#[]⟩, .nl], .rf 0 (0 + 0), mkS c, mkB (userB c), mkB (!(userB c)), mkB false, .rf 0 (0 + 1), mkS n, mkB (!(decide (n = ⟨#[]⟩))), mkB false, .tp [], .tp [], .tp [], .tp [], mkB false, mkB false, mkB false, .rf 0 (0 + 2), mkI .i64 z, mkB (decide (z < (0 : Int))), mkB (decide (z < (0 : Int))), mkB false, .rf 0 (0 + 2), mkI .i64 z, mkB (decide (z > (3 : Int))), mkB (decide (z > (3 : Int))), mkB false, mkB r, mkB true, .rf 0 (0 + 2), mkI .i64 z, mkB (z != (0 : Int)), mkB (z != (0 : Int)), mkB false, .jk, .rf 0 (0 + 1), mkS n, mkB (!(decide (n = ⟨#[]⟩)))] ++ (jks 37), [.box [mkS c, mkS n, mkI .i64 z, mkB a], .box [mkS ⟨#[]⟩, .nl, mkS ⟨#[]⟩, .nl], .row 2 [[D.v (.string kJid), D.v (.string c)]], .box [mkS sItem, .vw 2 1, mkS ⟨#[]⟩, .nl]]⟩)) (
 ACut (aCode KI GItm (cAt [1, 1, 1, 0, 1] Tryz.b55)) (rI0_k0 q) ⟨[.ag [mkS c, mkS n, mkI .i64 z, mkB a], mkB r, .rf 0 0, .jk, .rf 1 0, mkB false, .rf 3 0, .rf 0 (0 + 0), mkS c, .ag [mkS kJid, mkS c], .vw 2 1, .ag [mkS sItem, .vw 2 1, mkS ⟨#[]⟩, .nl], .rf 0 (0 + 0), mkS c, mkB (userB c), mkB (!(userB c)), mkB false, .rf 0 (0 + 1), mkS n, mkB (!(decide (n = ⟨#[]⟩))), mkB false, .tp [], .tp [], .tp [], .tp [], mkB false, mkB false, mkB false, .rf 0 (0 + 2), mkI .i64 z, mkB (decide (z < (0 : Int))), mkB (decide (z < (0 : Int))), mkB false, .rf 0 (0 + 2), mkI .i64 z, mkB (decide (z > (3 : Int))), mkB (decide (z > (3 : Int))), mkB false, mkB r, mkB false, .tp [], .tp [], .tp [], mkB false, mkB false, .jk, .rf 0 (0 + 1), mkS n, mkB (!(decide (n = ⟨#[]⟩)))] ++ (jks 37), [.box [mkS c, mkS n, mkI .i64 z, mkB a], .box [mkS ⟨#[]⟩, .nl, mkS ⟨#[]⟩, .nl], .row 2 [[D.v (.string kJid), D.v (.string c)]], .box [mkS sItem, .vw 2 1, mkS ⟨#[]⟩, .nl]]⟩)))))) := by kernel_rfl
def stI (c n : BA) (z : Int) (a r : Bool) (va : List At) (i : Nat) (b : Bool) : S := ⟨[.jk, mkB r, .rf 0 0, .jk, .rf 1 0, mkB false, .rf 3 0] ++ jks (i - 7) ++ [mkB b] ++ jks (85 - i), [.box [mkS c, mkS n, mkI .i64 z, mkB a], .box [mkS ⟨#[]⟩, .nl, mkS ⟨#[]⟩, .nl], .row 2 (atsD va), .box [mkS sItem, .vw 2 (atsD va).length, mkS ⟨#[]⟩, .nl]]⟩
noncomputable def rI1_k0 (q : AV → Prop) : Kont := kSeq (aCode KI GItm (cAt [1, 1, 1, 1, 1, 1] Tryz.b55) (kRet KI (Array.toList (Func.results Tryz.f55)) q)) (kRet KI (Array.toList (Func.results Tryz.f55)) q)
theorem rI1 (c n : BA) (z : Int) (a r : Bool) (va : List At) (b : Bool) (q : AV → Prop) :
 (aCode KI GItm (cAt [1, 1, 1, 0, 1] Tryz.b55) (rI0_k0 q) (stI c n z a r va 48 b)) = (
 bcase b (
 (∀ (c_1 : List D), (c_1 ∈ [[D.v (.string kName), D.v (.string n)]]) → (List.length c_1) = 2) ∧
 ((List.length (atsD va)) = (List.length (atsD va))) ∧
 (((List.length (atsD va)) + 1) ≤ LIM) ∧
 bcase r (
 (∀ (c_1 : List D), (c_1 ∈ [[D.v (.string kSub), D.v (.string sRemove)]]) → (List.length c_1) = 2) ∧
 (((List.length (atsD va)) + 1) = (List.length ((atsD va) ++ [[D.v (.string kName), D.v (.string n)]]))) ∧
 (((List.length ((atsD va) ++ [[D.v (.string kName), D.v (.string n)]])) + 1) ≤ LIM) ∧
 ACut (aCode KI GItm (cAt [1, 1, 1, 1, 1, 0, 1] Tryz.b55)) (rI1_k0 q) ⟨[.jk, mkB r, .rf 0 0, .jk, .rf 1 0, mkB false, .rf 3 0] ++ (jks 41 ++ ([mkB true, .rf 3 (0 + 1), .jk, .rf 0 (0 + 1), mkS n, .ag [mkS kName, mkS n], .vw 4 1, .jk, .rf 3 (0 + 1), mkB true, .rf 3 (0 + 1), .jk, .ag [mkS kSub, mkS sRemove], .vw 5 1, .vw 2 ((List.length ((atsD va) ++ [[D.v (.string kName), D.v (.string n)]])) + 1), .rf 3 (0 + 1), .rf 0 (0 + 2), mkI .i64 z, mkB (decide (z > (0 : Int)))] ++ (jks 19))), [.box [mkS c, mkS n, mkI .i64 z, mkB a], .box [mkS ⟨#[]⟩, .nl, mkS ⟨#[]⟩, .nl], .row 2 (((atsD va) ++ [[D.v (.string kName), D.v (.string n)]]) ++ [[D.v (.string kSub), D.v (.string sRemove)]]), .box [mkS sItem, .vw 2 ((List.length ((atsD va) ++ [[D.v (.string kName), D.v (.string n)]])) + 1), mkS ⟨#[]⟩, .nl], .row 2 [[D.v (.string kName), D.v (.string n)]], .row 2 [[D.v (.string kSub), D.v (.string sRemove)]]]⟩) (
 ACut (aCode KI GItm (cAt [1, 1, 1, 1, 1, 0, 1] Tryz.b55)) (rI1_k0 q) ⟨[.jk, mkB r, .rf 0 0, .jk, .rf 1 0, mkB false, .rf 3 0] ++ (jks 41 ++ ([mkB true, .rf 3 (0 + 1), .jk, .rf 0 (0 + 1), mkS n, .ag [mkS kName, mkS n], .vw 4 1, .vw 2 ((List.length (atsD va)) + 1), .rf 3 (0 + 1), mkB false, .jk, .jk, .jk, .jk, .jk, .jk, .rf 0 (0 + 2), mkI .i64 z, mkB (decide (z > (0 : Int)))] ++ (jks 19))), [.box [mkS c, mkS n, mkI .i64 z, mkB a], .box [mkS ⟨#[]⟩, .nl, mkS ⟨#[]⟩, .nl], .row 2 ((atsD va) ++ [[D.v (.string kName), D.v (.string n)]]), .box [mkS sItem, .vw 2 ((List.length (atsD va)) + 1), mkS ⟨#[]⟩, .nl], .row 2 [[D.v (.string kName), D.v (.string n)]]]⟩)) (
 bcase r (
 (∀ (c_1 : List D), (c_1 ∈ [[D.v (.string kSub), D.v (.string sRemove)]]) → (List.length c_1) = 2) ∧
 ((List.length (atsD va)) = (List.length (atsD va))) ∧
 (((List.length (atsD va)) + 1) ≤ LIM) ∧
 ACut (aCode KI GItm (cAt [1, 1, 1, 1, 1, 0, 1] Tryz.b55)) (rI1_k0 q) ⟨[.jk, mkB r, .rf 0 0, .jk, .rf 1 0, mkB false, .rf 3 0] ++ (jks 41 ++ ([mkB false] ++ (jks 8 ++ ([mkB true, .rf 3 (0 + 1), .jk, .ag [mkS kSub, mkS sRemove], .vw 4 1, .vw 2 ((List.length (atsD va)) + 1), .rf 3 (0 + 1), .rf 0 (0 + 2), mkI .i64 z, mkB (decide (z > (0 : Int)))] ++ (jks 19))))), [.box [mkS c, mkS n, mkI .i64 z, mkB a], .box [mkS ⟨#[]⟩, .nl, mkS ⟨#[]⟩, .nl], .row 2 ((atsD va) ++ [[D.v (.string kSub), D.v (.string sRemove)]]), .box [mkS sItem, .vw 2 ((List.length (atsD va)) + 1), mkS ⟨#[]⟩, .nl], .row 2 [[D.v (.string kSub), D.v (.string sRemove)]]]⟩) (
 ACut (aCode KI GItm (cAt [1, 1, 1, 1, 1, 0, 1] Tryz.b55)) (rI1_k0 q) ⟨[.jk, mkB r, .rf 0 0, .jk, .rf 1 0, mkB false, .rf 3 0] ++ (jks 41 ++ ([mkB false] ++ (jks 8 ++ ([mkB false, .jk, .jk, .jk, .jk, .jk, .jk, .rf 0 (0 + 2), mkI .i64 z, mkB (decide (z > (0 : Int)))] ++ (jks 19))))), [.box [mkS c, mkS n, mkI .i64 z, mkB a], .box [mkS ⟨#[]⟩, .nl, mkS ⟨#[]⟩, .nl], .row 2 (atsD va), .box [mkS sItem, .vw 2 (List.length (atsD va)), mkS ⟨#[]⟩, .nl]]⟩))) := by kernel_rfl
noncomputable def rI2_k0 (q : AV → Prop) : Kont := kSeq (aCode KI GItm (cAt [1, 1, 1, 1, 1, 1, 1] Tryz.b55) (kRet KI (Array.toList (Func.results Tryz.f55)) q)) (kRet KI (Array.toList (Func.results Tryz.f55)) q)
noncomputable abbrev rI2_e0 (c : BA) (n : BA) (z : Int) (a : Bool) (r : Bool) (va : List At) (q : AV → Prop) : Prop := ((∀ (c_1 : List D), (c_1 ∈ [[D.v (.string kSub), D.v (.string (strA (List.getD [mkS sNone, mkS kTo, mkS kFrom, mkS sBoth] (Int.toNat z) AV.jk)))]]) → (List.length c_1) = 2) ∧ (((List.length (atsD va)) = (List.length (atsD va))) ∧ ((((List.length (atsD va)) + 1) ≤ LIM) ∧ (ACut (aCode KI GItm (cAt [1, 1, 1, 1, 1, 1, 0, 1] Tryz.b55)) (rI2_k0 q) ⟨[.jk, mkB r, .rf 0 0, .jk, .rf 1 0, mkB false, .rf 3 0] ++ (jks 59 ++ ([mkB true, .rf 3 (0 + 1), .jk, .ag [mkS sNone, mkS kTo, mkS kFrom, mkS sBoth], .rf 0 (0 + 2), mkI .i64 z, mkS (strA (List.getD [mkS sNone, mkS kTo, mkS kFrom, mkS sBoth] (Int.toNat z) .jk)), .ag [mkS kSub, mkS (strA (List.getD [mkS sNone, mkS kTo, mkS kFrom, mkS sBoth] (Int.toNat z) .jk))], .vw 4 1, .vw 2 ((List.length (atsD va)) + 1), .rf 3 (0 + 1), .rf 0 (0 + 3), mkB a, .jk, .jk, .jk, .jk, .jk, .jk, .jk])), [.box [mkS c, mkS n, mkI .i64 z, mkB a], .box [mkS ⟨#[]⟩, .nl, mkS ⟨#[]⟩, .nl], .row 2 ((atsD va) ++ [[D.v (.string kSub), D.v (.string (strA (List.getD [mkS sNone, mkS kTo, mkS kFrom, mkS sBoth] (Int.toNat z) .jk)))]]), .box [mkS sItem, .vw 2 ((List.length (atsD va)) + 1), mkS ⟨#[]⟩, .nl], .row 2 [[D.v (.string kSub), D.v (.string (strA (List.getD [mkS sNone, mkS kTo, mkS kFrom, mkS sBoth] (Int.toNat z) .jk)))]]]⟩))))
theorem rI2 (c n : BA) (z : Int) (a r : Bool) (va : List At) (b : Bool) (q : AV → Prop) :
 (aCode KI GItm (cAt [1, 1, 1, 1, 1, 0, 1] Tryz.b55) (rI1_k0 q) (stI c n z a r va 66 b)) = (
 bcase b (
 (True ∧ ((((0 : Int) ≤ z) ∧ (z < ((4 : Nat) : Int))) ∧ (rI2_e0 c n z a r va q))) ∧
 True ∧
 (((0 : Int) ≤ z) ∧ (z < ((4 : Nat) : Int))) ∧
 (rI2_e0 c n z a r va q) ∧
 (rI2_e0 c n z a r va q) ∧
 (∀ (c_1 : List D), (c_1 ∈ [[D.v (.string kSub), D.v (.string (strA (List.getD [mkS sNone, mkS kTo, mkS kFrom, mkS sBoth] (Int.toNat z) AV.jk)))]]) → (List.length c_1) = 2) ∧
 ((List.length (atsD va)) = (List.length (atsD va))) ∧
 (((List.length (atsD va)) + 1) ≤ LIM) ∧
 ACut (aCode KI GItm (cAt [1, 1, 1, 1, 1, 1, 0, 1] Tryz.b55)) (rI2_k0 q) ⟨[.jk, mkB r, .rf 0 0, .jk, .rf 1 0, mkB false, .rf 3 0] ++ (jks 59 ++ ([mkB true, .rf 3 (0 + 1), .jk, .ag [mkS sNone, mkS kTo, mkS kFrom, mkS sBoth], .rf 0 (0 + 2), mkI .i64 z, mkS (strA (List.getD [mkS sNone, mkS kTo, mkS kFrom, mkS sBoth] (Int.toNat z) .jk)), .ag [mkS kSub, mkS (strA (List.getD [mkS sNone, mkS kTo, mkS kFrom, mkS sBoth] (Int.toNat z) .jk))], .vw 4 1, .vw 2 ((List.length (atsD va)) + 1), .rf 3 (0 + 1), .rf 0 (0 + 3), mkB a, .jk, .jk, .jk, .jk, .jk, .jk, .jk])), [.box [mkS c, mkS n, mkI .i64 z, mkB a], .box [mkS ⟨#[]⟩, .nl, mkS ⟨#[]⟩, .nl], .row 2 ((atsD va) ++ [[D.v (.string kSub), D.v (.string (strA (List.getD [mkS sNone, mkS kTo, mkS kFrom, mkS sBoth] (Int.toNat z) .jk)))]]), .box [mkS sItem, .vw 2 ((List.length (atsD va)) + 1), mkS ⟨#[]⟩, .nl], .row 2 [[D.v (.string kSub), D.v (.string (strA (List.getD [mkS sNone, mkS kTo, mkS kFrom, mkS sBoth] (Int.toNat z) .jk)))]]]⟩) (
 ACut (aCode KI GItm (cAt [1, 1, 1, 1, 1, 1, 0, 1] Tryz.b55)) (rI2_k0 q) ⟨[.jk, mkB r, .rf 0 0, .jk, .rf 1 0, mkB false, .rf 3 0] ++ (jks 59 ++ ([mkB false] ++ (jks 10 ++ ([.rf 0 (0 + 3), mkB a, .jk, .jk, .jk, .jk, .jk, .jk, .jk])))), [.box [mkS c, mkS n, mkI .i64 z, mkB a], .box [mkS ⟨#[]⟩, .nl, mkS ⟨#[]⟩, .nl], .row 2 (atsD va), .box [mkS sItem, .vw 2 (List.length (atsD va)), mkS ⟨#[]⟩, .nl]]⟩)) := by kernel_rfl
theorem rI3 (c n : BA) (z : Int) (a r : Bool) (va : List At) (b : Bool) (q : AV → Prop) :
 (aCode KI GItm (cAt [1, 1, 1, 1, 1, 1, 0, 1] Tryz.b55) (rI2_k0 q) (stI c n z a r va 78 b)) = (
 bcase b (
 (∀ (c_1 : List D), (c_1 ∈ [[D.v (.string kAsk), D.v (.string sSubscribe)]]) → (List.length c_1) = 2) ∧
 ((List.length (atsD va)) = (List.length (atsD va))) ∧
 (((List.length (atsD va)) + 1) ≤ LIM) ∧
 q (AV.tp [AV.ag [mkS sItem, AV.d (.sl (List.take ((List.length (atsD va)) + 1) ((atsD va) ++ [[D.v (.string kAsk), D.v (.string sSubscribe)]]))), mkS ⟨#[]⟩, AV.d (.sl [])], mkB true])) (
 q (AV.tp [AV.ag [mkS sItem, AV.d (.sl (List.take (List.length (atsD va)) (atsD va))), mkS ⟨#[]⟩, AV.d (.sl [])], mkB true]))) := by kernel_rfl
theorem cWd : PSound Tryz.prog 17 (detE (strF wordB)) := by
  refine det_fn (c := Tryz.b17) mixed KS_ok (gsound_det Tc23 gsound_nil) Tryz.func17 rfl rfl Tryz.call17 fun al p r q hF hp hq => ?_
  unfold strF at hF; split at hF <;> cases hF
  rename_i s
  refine cast (rWd s q).symm (fun _ => bcase_dec (fun h1 _ => bcase_dec (fun h2 => ⟨trivial, ?_⟩) (fun h2 => ?_)) (fun h1 => ?_))
  · have e : wordB s = ((if rightB s = true then (0 : Int) else 2) == 0) := by
      have h1 : 1 ≤ s.size := by omega
      have h2 : s.size ≤ 40 := by omega
      unfold wordB; simp only [h1, h2, decide_true, Bool.true_and]; cases rightB s <;> rfl
    rw [← e]; exact hq
  · have e : wordB s = false := by
      have : ¬ s.size ≤ 40 := by omega
      simp [wordB, this]
    rw [← e]; exact hq
  · have e : wordB s = false := by
      have : ¬ 1 ≤ s.size := by omega
      simp [wordB, this]
    rw [← e]; exact hq
theorem cAd : PSound Tryz.prog 32 (detE (strF addrE)) := by
  refine det_fn (c := Tryz.b32) mixed KS_ok (gsound_det c18 gsound_nil) Tryz.func32 rfl rfl Tryz.call32 fun al p r q hF hp hq => ?_
  unfold strF at hF; split at hF <;> cases hF
  rename_i s
  refine cast (rAd s q).symm ⟨hp, bcase_mk (fun h => ?_) (fun h => ?_)⟩
  · have e : addrE s = true := by unfold addrE; rw [h]; rfl
    rw [← e]; exact hq
  · have e : addrE s = addrB s := by unfold addrE; rw [h]; rfl
    rw [← e]; exact hq
theorem cSbs : PSound Tryz.prog 76 (detE FSbs) := by
  refine det_fn (c := Tryz.b76) mixed KS_ok gsound_nil Tryz.func76 rfl rfl Tryz.call76 fun al p r q hF hp hq => ?_
  unfold FSbs at hF; split at hF <;> cases hF
  exact cast (rSbs q).symm hq
def FAm : List AV → Option (Prop × AV) := fun al => match al with
  | [.d (.v (.string x)), .d (.sl es)] => some (es = strsD (unSS es), mkB (memB x (unSS es)))
  | _ => none
theorem cAm : PSound Tryz.prog 31 (detE FAm) := by
  refine det_fn (c := Tryz.b31) mixed KS_ok gsound_nil Tryz.func31 rfl rfl Tryz.call31 fun al p r q hF hp hq => ?_
  unfold FAm at hF; split at hF <;> cases hF
  rename_i x es
  generalize unSS es = l at hp hq
  subst hp
  refine cast (rAm x l q).symm ?_
  refine ALoop.introM [] (maskOf (stAm x l 0)) (fun n : Nat => stAm x l n) (fun n => n ≤ l.length ∧ ∀ k, k < n → l.getD k ⟨#[]⟩ ≠ x) (fun n => l.length - n) ⟨[], 0, by simp [S.le, sealAll, leL, jks, stAm], by simp⟩ fun n ⟨hn, hall⟩ => ?_
  refine cast (rAm_b _ _ _ n x l n q).symm ?_
  simp only [strsD_len]
  intro hlim
  refine bcase_dec (fun hlt => ?_) (fun hge => ?_)
  · have hlt : n < l.length := by omega
    rw [wrap_succ hlt hlim]
    simp only [Int.toNat_natCast]
    simp only [strsD_getD l _ hlt]
    refine ⟨⟨by omega, by omega⟩, rfl, by simp, rfl, bcase_dec (fun h1 => ?_) (fun h1 => ?_)⟩
    · have h1 : l.getD n ⟨#[]⟩ = x := h1
      have : memB x l = true := by
        rw [memB_iff, ← h1, List.getD_eq_getElem?_getD, List.getElem?_eq_getElem hlt]; exact List.getElem_mem _
      rw [this] at hq; exact hq
    · have h1 : ¬ l.getD n ⟨#[]⟩ = x := h1
      exact .mk [] (n + 1) (by simp [S.le, sealAll, leL, jks, stAm]) ⟨hlt, fun k hk => by
        by_cases e : k = n
        · subst e; exact h1
        · exact hall k (by omega)⟩ (show l.length - (n + 1) < l.length - n by omega)
  · have : memB x l = false := by
      cases hm : memB x l
      · rfl
      · rw [memB_iff] at hm
        obtain ⟨k, hk, e⟩ := List.mem_iff_getElem.1 hm
        exact absurd (by rw [List.getD_eq_getElem?_getD, List.getElem?_eq_getElem hk]; exact e) (hall k (by omega))
    rw [this] at hq; exact hq
theorem one_byte (n : Int) (h : 0 ≤ n ∧ n < 10) : unB [[D.v (Value.int IntKind.u8 (IntKind.wrap IntKind.u8 (IntKind.wrap IntKind.u32 (48 + n))))]] = decS n.toNat ∧ [[D.v (Value.int IntKind.u8 (IntKind.wrap IntKind.u8 (IntKind.wrap IntKind.u32 (48 + n))))]] = bytesD (decS n.toNat) := by
  rw [IntWalk.u32_in _ (by omega), IntWalk.u8_in _ (by omega)]
  obtain ⟨m, rfl⟩ : ∃ m : Nat, n = m := ⟨n.toNat, by omega⟩
  have hm : m < 10 := by omega
  have hd : decS (m : Int).toNat = ⟨#[UInt8.ofNat (48 + m)]⟩ := by
    unfold decS; rw [Int.toNat_natCast, Lib.decDigits_one hm]
  rw [hd]
  have : m = 0 ∨ m = 1 ∨ m = 2 ∨ m = 3 ∨ m = 4 ∨ m = 5 ∨ m = 6 ∨ m = 7 ∨ m = 8 ∨ m = 9 := by omega
  rcases this with rfl | rfl | rfl | rfl | rfl | rfl | rfl | rfl | rfl | rfl <;> exact ⟨rfl, rfl⟩
theorem cTxN : ∀ N, PSound Tryz.prog 18 (ETx N) := by
  intro N
  induction N with
  | zero => exact pure_fn (c := Tryz.b18) mixed KS_ok gsound_nil Tryz.func18 rfl rfl Tryz.call18 fun al q ⟨n, _, _, h, _⟩ => absurd h (by omega)
  | succ N ih =>
    refine pure_fn (c := Tryz.b18) mixed KS_ok (gsound_pure ih gsound_nil) Tryz.func18 rfl rfl Tryz.call18 fun al q ⟨n, h1, hn, hN, hq⟩ => ?_
    subst h1
    refine cast (rTx N n q).symm (bcase_dec (fun h => ?_) (fun h => ?_))
    · obtain ⟨e1, e2⟩ := one_byte n ⟨hn.1, h⟩
      rw [e1]
      exact ⟨e2, hq⟩
    · have ht : Int.tmod n 10 = n % 10 := Int.tmod_eq_emod_of_nonneg hn.1
      have hd : Int.tdiv n 10 = n / 10 := Int.tdiv_eq_ediv_of_nonneg hn.1
      obtain ⟨e1, e2⟩ := one_byte (n % 10) (by omega)
      rw [ht, hd, e1, IntWalk.u32_in (n / 10) (by omega)]
      have hdn : (n / 10).toNat = n.toNat / 10 := by omega
      have hmn : (n % 10).toNat = n.toNat % 10 := by omega
      have e3 : decS (n / 10).toNat ++ decS (n % 10).toNat = decS n.toNat := by
        have hx : ¬ n.toNat < 10 := by omega
        apply ba_ext
        rw [ByteArray.toList_data_append, hdn, hmn]
        unfold decS
        rw [Lib.decDigits_one (i := n.toNat % 10) (by omega)]
        conv => rhs; rw [Lib.decDigits]
        rw [dif_neg hx]
      have hl1 := decS_size (n / 10).toNat (by omega)
      have hz : (decS (n / 10).toNat).size + (decS (n % 10).toNat).size ≤ LIM := by
        rw [← ByteArray.size_append, e3]; exact decS_size _ (by omega)
      rw [← e3] at hq
      exact ⟨fun h => by omega, fun h => by omega, ⟨n / 10, rfl, ⟨by omega, by omega⟩, by omega, e2, hz, hq⟩, e2, n / 10, rfl, ⟨by omega, by omega⟩, by omega, hz, hq⟩
theorem PSound.exA {P : Program} {f : FuncId} {ι : Type} [Inhabited ι] {E : ι → List AV → (AV → Prop) → Prop} (h : ∀ i, PSound P f (E i)) : PSound P f (fun al q => ∃ i, E i al q) :=
  ⟨(h default).enter, fun ext w ar vs q hext hT hlen hrel ⟨i, hq⟩ => (h i).call ext w ar vs q hext hT hlen hrel hq⟩
def ETxA : List AV → (AV → Prop) → Prop := fun al q => ∃ n : Int, al = [mkI .u32 n] ∧ (0 ≤ n ∧ n ≤ 4294967295) ∧ q (mkS (decS n.toNat))
theorem cTxA : PSound Tryz.prog 18 ETxA := (PSound.exA cTxN).mono fun al q ⟨n, h1, h2, h3⟩ => ⟨n.toNat + 1, n, h1, h2, by omega, h3⟩
abbrev IsEl (n : BA) (L : List (List D)) (t : BA) (K : List (List D)) (e : El) : Prop := n = e.n ∧ L = atsD e.ats ∧ t = e.t ∧ K = ksD e.ks
def EItm : List AV → (AV → Prop) → Prop := fun al q => ∃ c n z a r, al = [.ag [mkS c, mkS n, mkI .i64 z, mkB a], mkB r] ∧ n.size ≤ LIM ∧ ∀ n' L t K b, b = itOk r ⟨c, n, z, a⟩ → (b = true → IsEl n' L t K (itemE r ⟨c, n, z, a⟩)) → q (.tp [.ag [mkS n', .d (.sl L), mkS t, .d (.sl K)], mkB b])
def itV1 (c n : BA) : List At := if n = ⟨#[]⟩ then [(kJid, c)] else [(kJid, c), (kName, n)]
def itV2 (c n : BA) (r : Bool) : List At := if r then itV1 c n ++ [(kSub, sRemove)] else itV1 c n
def itV3 (c n : BA) (r : Bool) (z : Int) : List At := if z > 0 then itV2 c n r ++ [(kSub, subW z false)] else itV2 c n r
def itV4 (c n : BA) (r : Bool) (z : Int) (a : Bool) : List At := if a then itV3 c n r z ++ [(kAsk, sSubscribe)] else itV3 c n r z
theorem sub_at (z : Int) (h : 0 < z ∧ z ≤ 3) : strA (List.getD [mkS sNone, mkS kTo, mkS kFrom, mkS sBoth] z.toNat .jk) = subW z false ∧ subW z false ≠ ⟨#[]⟩ := by
  have : z = 1 ∨ z = 2 ∨ z = 3 := by omega
  rcases this with rfl | rfl | rfl <;> exact ⟨by decide +kernel, by decide +kernel⟩
theorem itOk_iff {r : Bool} {c n : BA} {z : Int} {a : Bool} : itOk r ⟨c, n, z, a⟩ = true ↔ userB c = true ∧ (n = ⟨#[]⟩ ∨ wordB n = true) ∧ 0 ≤ z ∧ z ≤ 3 ∧ (r = false ∨ z = 0) := by
  simp [itOk, and_assoc]
theorem itV_ok {r : Bool} {c n : BA} {z : Int} {a : Bool} (h : itOk r ⟨c, n, z, a⟩ = true) : itV4 c n r z a = (itemE r ⟨c, n, z, a⟩).ats := by
  obtain ⟨h1, h2, h3, h4, h5⟩ := itOk_iff.1 h
  have hc := user_ne h1
  have hs : itV3 c n r z = withL (withL (withL [] kJid c) kName n) kSub (subW z r) := by
    have e1 : itV1 c n = withL (withL [] kJid c) kName n := by
      unfold itV1 withL
      rw [if_neg hc]
      split <;> rfl
    unfold itV3 itV2
    rw [e1]
    rcases h5 with rfl | rfl
    · by_cases hz : z > 0
      · rw [if_pos hz]
        exact (if_neg (sub_at z ⟨hz, h4⟩).2).symm
      · have : z = 0 := by omega
        subst this
        rfl
    · cases r <;> rfl
  rw [itemE_mk]
  unfold itV4
  rw [hs]
  cases a <;> rfl
theorem atsD_snoc (l : List At) (x : At) : atsD (l ++ [x]) = atsD l ++ [[D.v (.string x.1), D.v (.string x.2)]] := by simp [atsD, atD]
theorem cItm : PSound Tryz.prog 55 EItm := by
  refine pure_fn (c := Tryz.b55) mixed KI_ok (gsound_det c17 (gsound_det cWd (gsound_det cSbs gsound_nil))) Tryz.func55 rfl rfl Tryz.call55 fun al q ⟨c, n, z, a, r, h1, hn, hq⟩ => ?_
  subst h1
  have no : ¬ itOk r ⟨c, n, z, a⟩ = true → q (.tp [.ag [mkS sItem, .d (.sl [[.v (.string kJid), .v (.string c)]]), mkS ⟨#[]⟩, .d (.sl [])], mkB false]) := fun h => hq _ _ _ _ false (by simpa using h) (by simp)
  have lim : ∀ va : List At, va.length ≤ 8 → (atsD va).length + 1 ≤ LIM := fun va h => by rw [atsD_len]; unfold LIM; omega
  have sn : ∀ (va : List At) (k v : BA), atsD va ++ [[.v (.string k), .v (.string v)]] = atsD (va ++ [(k, v)]) := fun va k v => by simp [atsD, atD]
  have l1 : (itV1 c n).length ≤ 2 := by unfold itV1; split <;> simp
  have l2 : (itV2 c n r).length ≤ 3 := by unfold itV2; split <;> (try simp) <;> omega
  have l3 : (itV3 c n r z).length ≤ 4 := by unfold itV3; split <;> (try simp) <;> omega
  have le : ∀ (va : List At) (i : Nat) (b : Bool) (s0 : S), S.le s0 (stI c n z a r va i b) → Weak s0 (stI c n z a r va i b) := fun va i b s0 h => weak_le h
  have s3 : itOk r ⟨c, n, z, a⟩ = true → aCode KI GItm (cAt [1, 1, 1, 1, 1, 1, 0, 1] Tryz.b55) (rI2_k0 q) (stI c n z a r (itV3 c n r z) 78 a) := fun ho => by
    have he := itV_ok ho
    refine cast (rI3 c n z a r (itV3 c n r z) a q).symm (bcase_mk (fun h => ⟨by simp, rfl, lim _ (by omega), ?_⟩) (fun h => ?_))
    · refine hq _ _ _ _ true ho.symm fun _ => ⟨rfl, ?_, rfl, rfl⟩
      rw [sn, ← he]
      unfold itV4
      rw [if_pos h]
      exact List.take_of_length_le (by simp [atsD])
    · refine hq _ _ _ _ true ho.symm fun _ => ⟨rfl, ?_, rfl, rfl⟩
      rw [List.take_length, ← he]
      unfold itV4
      rw [if_neg (by rw [h]; simp)]
  have s2 : itOk r ⟨c, n, z, a⟩ = true → aCode KI GItm (cAt [1, 1, 1, 1, 1, 0, 1] Tryz.b55) (rI1_k0 q) (stI c n z a r (itV2 c n r) 66 (decide (z > 0))) := fun ho => by
    obtain ⟨_, _, h3, h4, _⟩ := itOk_iff.1 ho
    refine cast (rI2 c n z a r (itV2 c n r) (decide (z > 0)) q).symm (bcase_dec (fun hz => ?_) (fun hz => ?_))
    · have ez : itV3 c n r z = itV2 c n r ++ [(kSub, subW z false)] := if_pos hz
      have ea := (sub_at z ⟨hz, h4⟩).1
      have fin : ∀ s0, S.le s0 (stI c n z a r (itV2 c n r ++ [(kSub, subW z false)]) 78 a) → ACut (aCode KI GItm (cAt [1, 1, 1, 1, 1, 1, 0, 1] Tryz.b55)) (rI2_k0 q) s0 := fun s0 h => .wk [] _ h (by have := s3 ho; rw [ez] at this; exact this)
      have e0 : rI2_e0 c n z a r (itV2 c n r) q := by
        unfold rI2_e0
        rw [ea]
        refine ⟨by simp, rfl, lim _ (by omega), fin _ ?_⟩
        simp [S.le, sealAll, leL, leA, leO, jks, stI, S.fits, fitsL, AV.fits, Ob.fits, mkS, mkI, mkB, atsD_snoc, kSub]
      have hzz : 0 ≤ z ∧ z < ((4 : Nat) : Int) := ⟨h3, by omega⟩
      exact ⟨⟨trivial, hzz, e0⟩, trivial, hzz, e0, e0, e0⟩
    · have ez : itV3 c n r z = itV2 c n r := if_neg hz
      have := s3 ho
      rw [ez] at this
      refine .wk [] _ ?_ this
      simp [S.le, sealAll, leL, leA, leO, jks, stI, S.fits, fitsL, AV.fits, Ob.fits, mkS, mkI, mkB]
  have s1 : itOk r ⟨c, n, z, a⟩ = true → aCode KI GItm (cAt [1, 1, 1, 0, 1] Tryz.b55) (rI0_k0 q) (stI c n z a r [(kJid, c)] 48 (!decide (n = ⟨#[]⟩))) := fun ho => by
    have fin : ∀ (va : List At) (s0 : S), itV2 c n r = va → S.le s0 (stI c n z a r va 66 (decide (z > 0))) → ACut (aCode KI GItm (cAt [1, 1, 1, 1, 1, 0, 1] Tryz.b55)) (rI1_k0 q) s0 := fun va s0 e h => .wk [] _ h (by rw [← e]; exact s2 ho)
    have sub : itV2 c n r = if r then itV1 c n ++ [(kSub, sRemove)] else itV1 c n := rfl
    refine cast (rI1 c n z a r [(kJid, c)] (!decide (n = ⟨#[]⟩)) q).symm (bcase_mk (fun h => ?_) (fun h => ?_))
    · have h : ¬ n = ⟨#[]⟩ := by simpa using h
      have e1 : itV1 c n = [(kJid, c)] ++ [(kName, n)] := if_neg h
      refine ⟨by simp, rfl, lim _ (by simp), bcase_mk (fun hr => ⟨by simp, by simp, by simp [atsD]; unfold LIM; omega, fin ([(kJid, c)] ++ [(kName, n)] ++ [(kSub, sRemove)]) _ (by rw [sub, hr, e1]; rfl) ?_⟩) (fun hr => fin ([(kJid, c)] ++ [(kName, n)]) _ (by rw [sub, hr, e1]; rfl) ?_)⟩
      · simp [S.le, sealAll, leL, leA, leO, jks, stI, S.fits, fitsL, AV.fits, Ob.fits, mkS, mkI, mkB, atsD, atD, kSub, kName, sRemove]
      · simp [S.le, sealAll, leL, leA, leO, jks, stI, S.fits, fitsL, AV.fits, Ob.fits, mkS, mkI, mkB, atsD, atD, kName]
    · have h : n = ⟨#[]⟩ := by simpa using h
      have e1 : itV1 c n = [(kJid, c)] := if_pos h
      refine bcase_mk (fun hr => ⟨by simp, by simp, lim _ (by simp), fin ([(kJid, c)] ++ [(kSub, sRemove)]) _ (by rw [sub, hr, e1]; rfl) ?_⟩) (fun hr => fin [(kJid, c)] _ (by rw [sub, hr, e1]; rfl) ?_)
      · simp [S.le, sealAll, leL, leA, leO, jks, stI, S.fits, fitsL, AV.fits, Ob.fits, mkS, mkI, mkB, atsD, atD, kSub, sRemove]
      · simp [S.le, sealAll, leL, leA, leO, jks, stI, S.fits, fitsL, AV.fits, Ob.fits, mkS, mkI, mkB, atsD, atD]
  have fin : itOk r ⟨c, n, z, a⟩ = true → ∀ s0, Weak s0 (stI c n z a r [(kJid, c)] 48 (!decide (n = ⟨#[]⟩))) → ACut (aCode KI GItm (cAt [1, 1, 1, 0, 1] Tryz.b55)) (rI0_k0 q) s0 := fun ho s0 h => .wW _ h (s1 ho)
  have bad : ¬ itOk r ⟨c, n, z, a⟩ = true ↔ ¬ (userB c = true ∧ (n = ⟨#[]⟩ ∨ wordB n = true) ∧ 0 ≤ z ∧ z ≤ 3 ∧ (r = false ∨ z = 0)) := not_congr itOk_iff
  refine cast (rI0 c n z a r q).symm ⟨trivial, bcase_mk (fun h1 => no (bad.2 fun g => ?_)) (fun h1 => bcase_mk (fun h2 => ⟨hn, bcase_mk (fun h3 => no (bad.2 fun g => ?_)) (fun h3 => ?_)⟩) (fun h2 => ?_))⟩
  · rw [g.1] at h1; cases h1
  · rcases g.2.1 with e | e
    · rw [e] at h2; simp at h2
    · rw [e] at h3; cases h3
  all_goals
    have hu : userB c = true := by simpa using h1
    have hw : n = ⟨#[]⟩ ∨ wordB n = true := by first | exact .inr (by simpa using h3) | exact .inl (by simpa using h2)
    refine bcase_dec (fun h4 => no (bad.2 fun g => by omega)) (fun h4 => bcase_dec (fun h5 => no (bad.2 fun g => by omega)) (fun h5 => bcase_mk (fun h6 => bcase_mk (fun h7 => no (bad.2 fun g => ?_)) (fun h7 => ?_)) (fun h6 => ?_)))
    · rcases g.2.2.2.2 with e | e
      · rw [e] at h6; cases h6
      · rw [e] at h7; simp at h7
    · have ho : itOk r ⟨c, n, z, a⟩ = true := itOk_iff.2 ⟨hu, hw, by omega, by omega, .inr (by simpa using h7)⟩
      refine fin ho _ (weak_le ?_)
      simp [S.le, sealAll, leL, leA, leO, jks, stI, S.fits, fitsL, AV.fits, Ob.fits, mkS, mkI, mkB, atsD, atD, sItem, kJid]
    · have ho : itOk r ⟨c, n, z, a⟩ = true := itOk_iff.2 ⟨hu, hw, by omega, by omega, .inl h6⟩
      refine fin ho _ (weak_le ?_)
      simp [S.le, sealAll, leL, leA, leO, jks, stI, S.fits, fitsL, AV.fits, Ob.fits, mkS, mkI, mkB, atsD, atD, sItem, kJid]
end Go.Proofs.YtfdmmgiefhhnoaaGreatDoor
