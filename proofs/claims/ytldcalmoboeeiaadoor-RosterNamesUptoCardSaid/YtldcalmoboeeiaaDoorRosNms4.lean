import Derived.Test.YtldcalmoboeeiaaDoorRosVers
import Derived.Test.YtldcalmoboeeiaaDoorRosNmsM
set_option linter.unusedSimpArgs false
set_option linter.unusedVariables false
namespace Go.Proofs.YtldcalmoboeeiaaDoor
open Go Go.AM Go.RowKit
attribute [local irreducible] aCode aUnr aUnS aOut
noncomputable abbrev KR : TypeId → Option TK := runK Tryd.K
theorem KR_ok : KOk Tryd.prog KR := runK_ok Tryd.K_ok
noncomputable abbrev GNs : List (FuncId × En) := [(12, .ref (frameX ELives)), (13, .ref (frameX EBegin5)), (14, .det FEarly), (16, .ref (frameX EDoes)), (21, .ref (frameX ENameO)), (15, .ref (frameX EItemsQ)), (23, .ref (frameX ESideQ))]
noncomputable def rNs_k0 (q : AV → Prop) : Kont := kBlk (0 : Nat) (kSeq (aCode KR GNs (cAt [1, 1, 1, 1, 1] Tryd.b6) (kRet KR (Array.toList (Func.results Tryd.f6)) q)) (kRet KR (Array.toList (Func.results Tryd.f6)) q))
theorem rNs (l : List Op) (a c : Int) (x : BA) (q : AV → Prop) :
  (aCode KR GNs Tryd.b6 (kRet KR Tryd.f6.results.toList q) ⟨[.d (.sl (opsD l)), .ag [mkI .i64 a, mkI .i64 c], mkS x] ++ List.replicate (Tryd.f6.ntmps - 3) .jk, []⟩) = (
  (([] : List AV) = []) ∧
  ([Ob.gh []] = [Ob.gh []]) ∧
  ((Option.some (Ob.gh [])) = (Option.some (Ob.gh []))) ∧
  ([mkI .i64 (5 : Int)] = [mkI .i64 (5 : Int)]) ∧
  ([Ob.gh []] = [Ob.gh []]) ∧
  ((Option.some (Ob.gh [])) = (Option.some (Ob.gh []))) ∧
  ((opsD l) = (opsD (unOps (opsD l)))) ∧
  ALoop (aCode KR GNs (cAt [1, 1, 1, 1, 0, 1, 0, 0] Tryd.b6)) (rNs_k0 q) ⟨[AV.d (.sl (opsD (List.take (80 : Nat) (unOps (opsD l))))), AV.ag [mkI .i64 a, mkI .i64 c], mkS x, AV.jk, AV.rf 0 0, AV.jk, mkB false, AV.rf (if 14 < 0 then 0 else 4 + (14 - 0)) 0, AV.d (.sl (strsD u5)), mkI .i64 (0 : Int)] ++ (jks 13 ++ ([mkB true, mkB false, AV.tp [AV.rf (if 14 < 0 then 0 else 4 + (14 - 0)) 0, AV.d (.sl (strsD u5))], AV.tp [AV.rf (if 14 < 0 then 0 else 4 + (14 - 0)) 0, AV.d (.sl (strsD u5))], AV.rf (if 14 < 0 then 0 else 4 + (14 - 0)) 0, AV.d (.sl (strsD u5)), AV.d (.sl (opsD l)), AV.d (.sl (opsD (List.take (80 : Nat) (unOps (opsD l)))))] ++ (jks 135))), [Ob.box [mkI .i64 a, mkI .i64 c], Ob.gone, Ob.gone, Ob.gone, Ob.gone, Ob.gone, Ob.gone, Ob.gone, Ob.gone, Ob.gone, Ob.gone, Ob.gone, Ob.gone, Ob.gone, Ob.gone, Ob.map (KK.ystrs 2) [], Ob.map (KK.ystrs 2) [], Ob.map KK.ystr [(Key.s (⟨#[(97 : UInt8), (110 : UInt8), (110 : UInt8)]⟩ : ByteArray), mkI .i64 (1 : Int)), (Key.s (⟨#[(98 : UInt8), (111 : UInt8), (98 : UInt8)]⟩ : ByteArray), mkI .i64 (1 : Int)), (Key.s (⟨#[(99 : UInt8), (121 : UInt8)]⟩ : ByteArray), mkI .i64 (1 : Int)), (Key.s (⟨#[(100 : UInt8), (101 : UInt8), (101 : UInt8)]⟩ : ByteArray), mkI .i64 (1 : Int)), (Key.s (⟨#[(101 : UInt8), (118 : UInt8), (101 : UInt8)]⟩ : ByteArray), mkI .i64 (1 : Int))], Ob.box [AV.d (.sl (strsD u5)), AV.mp (if 11 < 0 then 0 else 4 + (11 - 0)), AV.mp (if 12 < 0 then 0 else 4 + (12 - 0)), AV.mp (if 13 < 0 then 0 else 4 + (13 - 0))]]⟩) := by kernel_rfl
def lawN (a c : Int) (us : List BA) (sd : Sds) (nm : Nms) (vs : Vss) : List Ob := .box [mkI .i64 a, mkI .i64 c] :: (List.replicate 14 .gone ++ [.map (.ystrs 2) (sdE sd), .map (.ystrs 2) (nmE nm), .map .ystr (vsE vs), .box [mkSS us, .mp 15, .mp 16, .mp 17]])
def stNs (l : List Op) (a c : Int) (x : BA) (i : Int) (sd : Sds) (nm : Nms) (vs : Vss) : S := ⟨[.d (.sl (opsD l)), .jk, mkS x, .jk, .rf 0 0, .jk, mkB false, .rf 18 0, mkSS u5, mkI .i64 i] ++ jks 156, lawN a c u5 sd nm vs⟩
noncomputable def rNs_b_k0 (q : AV → Prop) : Kont := kBlk (2 : Nat) (kSeq (aCode KR GNs (cAt [1, 1, 1, 1, 1, 1, 1, 1, 1, 1, 1, 1, 1] Tryd.b6) (kRet KR (Array.toList (Func.results Tryd.f6)) q)) (kRet KR (Array.toList (Func.results Tryd.f6)) q))
theorem rNs_b {ι : Type} (st : ι → S) (inv : ι → Prop) (μ : ι → Nat) (k : ι) (l : List Op) (a c : Int) (x : BA) (i : Int) (sd : Sds) (nm : Nms) (vs : Vss) (q : AV → Prop) :
  (aCode KR GNs (cAt [1, 1, 1, 1, 0, 1, 0, 0] Tryd.b6) (kFamM [] (maskOf (stNs l a c x i sd nm vs)) st inv μ k (rNs_k0 q)) (stNs l a c x i sd nm vs)) = (
  ((List.length (opsD l)) ≤ LIM) →
  bcase (decide (i < ((List.length (opsD l)) : Int))) (
   (((0 : Int) ≤ i) ∧ (i < ((List.length (opsD l)) : Int))) ∧
   ((List.length (List.getD (opsD l) (Int.toNat i) [])) = 5) ∧
   (5 ≤ (List.length (List.getD (opsD l) (Int.toNat i) []))) ∧
   (((List.getD (List.getD (opsD l) (Int.toNat i) []) (0 : Nat) d0) = (D.v (.int .i64 (intD (List.getD (List.getD (opsD l) (Int.toNat i) []) (0 : Nat) d0))))) ∧ (((List.getD (List.drop (1 : Nat) (List.getD (opsD l) (Int.toNat i) [])) (0 : Nat) d0) = (D.v (.int .i64 (intD (List.getD (List.drop (1 : Nat) (List.getD (opsD l) (Int.toNat i) [])) (0 : Nat) d0))))) ∧ (((List.getD (List.drop (1 : Nat) (List.drop (1 : Nat) (List.getD (opsD l) (Int.toNat i) []))) (0 : Nat) d0) = (D.v (.int .i64 (intD (List.getD (List.drop (1 : Nat) (List.drop (1 : Nat) (List.getD (opsD l) (Int.toNat i) []))) (0 : Nat) d0))))) ∧ (((List.getD (List.drop (1 : Nat) (List.drop (1 : Nat) (List.drop (1 : Nat) (List.getD (opsD l) (Int.toNat i) [])))) (0 : Nat) d0) = (D.v (.int .i64 (intD (List.getD (List.drop (1 : Nat) (List.drop (1 : Nat) (List.drop (1 : Nat) (List.getD (opsD l) (Int.toNat i) [])))) (0 : Nat) d0))))) ∧ (((List.getD (List.drop (1 : Nat) (List.drop (1 : Nat) (List.drop (1 : Nat) (List.drop (1 : Nat) (List.getD (opsD l) (Int.toNat i) []))))) (0 : Nat) d0) = (D.v (.string (strD (List.getD (List.drop (1 : Nat) (List.drop (1 : Nat) (List.drop (1 : Nat) (List.drop (1 : Nat) (List.getD (opsD l) (Int.toNat i) []))))) (0 : Nat) d0))))) ∧ True))))) ∧ (
    ∃ (us : List BA),
    ∃ (sd_1 : Sds),
    ∃ (nm_1 : Nms),
    ∃ (vs_1 : Vss),
    ∃ (ul : List ByteArray),
    ∃ (k_1 : Int),
    ∃ (a_1 : Int),
    ∃ (b : Int),
    ∃ (c_1 : Int),
    ∃ (x_1 : ByteArray),
    ([AV.rf 0 0, AV.d (.sl (strsD u5)), AV.ag [mkI .i64 (intD (List.getD (List.getD (opsD l) (Int.toNat i) []) (0 : Nat) d0)), mkI .i64 (intD (List.getD (List.drop (1 : Nat) (List.getD (opsD l) (Int.toNat i) [])) (0 : Nat) d0)), mkI .i64 (intD (List.getD (List.drop (1 : Nat) (List.drop (1 : Nat) (List.getD (opsD l) (Int.toNat i) []))) (0 : Nat) d0)), mkI .i64 (intD (List.getD (List.drop (1 : Nat) (List.drop (1 : Nat) (List.drop (1 : Nat) (List.getD (opsD l) (Int.toNat i) [])))) (0 : Nat) d0)), mkS (strD (List.getD (List.drop (1 : Nat) (List.drop (1 : Nat) (List.drop (1 : Nat) (List.drop (1 : Nat) (List.getD (opsD l) (Int.toNat i) []))))) (0 : Nat) d0))]] = [AV.rf 0 0, mkSS ul, AV.ag [mkI .i64 k_1, mkI .i64 a_1, mkI .i64 b, mkI .i64 c_1, mkS x_1]]) ∧
    ([Ob.box [AV.d (.sl (strsD u5)), AV.mp (0 + 1), AV.mp ((0 + 1) + 1), AV.mp (((0 + 1) + 1) + 1)], Ob.map (KK.ystrs 2) (sdE sd), Ob.map (KK.ystrs 2) (nmE nm), Ob.map KK.ystr (vsE vs), Ob.gh [AV.rf 0 0, AV.mp (0 + 1), AV.mp ((0 + 1) + 1), AV.mp (((0 + 1) + 1) + 1)]] = [Ob.box [mkSS us, AV.mp 1, AV.mp 2, AV.mp 3], Ob.map (KK.ystrs 2) (sdE sd_1), Ob.map (KK.ystrs 2) (nmE nm_1), Ob.map KK.ystr (vsE vs_1), Ob.gh [AV.rf 0 0, AV.mp 1, AV.mp 2, AV.mp 3]]) ∧
    (((List.length ul) ≤ (1000 : Nat)) ∧ (∀ (s : ByteArray), (s ∈ ul) → (ByteArray.size s) ≤ (1000 : Nat))) ∧ (
     ∀ (r : Out),
     ((doesO us sd_1 nm_1 vs_1 ul k_1 a_1 b c_1 x_1) = r) →
     ((Option.some (Ob.gh [AV.rf 0 0, AV.mp 1, AV.mp 2, AV.mp 3])) = (Option.some (Ob.gh [AV.rf 0 0, AV.mp (0 + 1), AV.mp ((0 + 1) + 1), AV.mp (((0 + 1) + 1) + 1)]))) ∧
     FamNext st inv μ k ⟨[AV.d (.sl (opsD l)), AV.jk, mkS x, AV.jk, AV.rf 0 0, AV.jk, mkB false, AV.rf 18 0, AV.d (.sl (strsD u5)), mkI .i64 (IntKind.wrap .i64 (i + (1 : Int)))] ++ (jks 156), [Ob.box [mkI .i64 a, mkI .i64 c], Ob.gone, Ob.gone, Ob.gone, Ob.gone, Ob.gone, Ob.gone, Ob.gone, Ob.gone, Ob.gone, Ob.gone, Ob.gone, Ob.gone, Ob.gone, Ob.gone, Ob.map (KK.ystrs 2) (sdE (Out.sd r)), Ob.map (KK.ystrs 2) (nmE (Out.nm r)), Ob.map KK.ystr (vsE (Out.vs r)), Ob.box [AV.d (.sl (strsD us)), AV.mp (if 1 < 4 then 15 else 20 + (1 - 4)), AV.mp (if 2 < 4 then 16 else 20 + (2 - 4)), AV.mp (if 3 < 4 then 17 else 20 + (3 - 4))], Ob.gone, Ob.gone]⟩))) (
   (((0 : Int) ≤ (0 : Int)) ∧ ((0 : Int) < ((2 : Nat) : Int))) ∧
   (((5 : Int) = (0 : Int)) → False) ∧
   (((0 : Int) ≤ (IntKind.wrap .i64 (Int.tmod (IntKind.wrap .u64 a) (5 : Int)))) ∧ ((IntKind.wrap .i64 (Int.tmod (IntKind.wrap .u64 a) (5 : Int))) < (5 : Int))) ∧
   ((List.length (List.getD (strsD u5) (Int.toNat (IntKind.wrap .i64 (Int.tmod (IntKind.wrap .u64 a) (5 : Int)))) [])) = 1) ∧
   ((1 : Nat) ≤ (List.length (List.getD (strsD u5) (Int.toNat (IntKind.wrap .i64 (Int.tmod (IntKind.wrap .u64 a) (5 : Int)))) []))) ∧
   ((List.getD (List.getD (strsD u5) (Int.toNat (IntKind.wrap .i64 (Int.tmod (IntKind.wrap .u64 a) (5 : Int)))) []) (0 : Nat) d0) = (D.v (.string (strD (List.getD (List.getD (strsD u5) (Int.toNat (IntKind.wrap .i64 (Int.tmod (IntKind.wrap .u64 a) (5 : Int)))) []) (0 : Nat) d0))))) ∧
   (((0 : Int) ≤ (1 : Int)) ∧ ((1 : Int) < ((2 : Nat) : Int))) ∧
   (((5 : Int) = (0 : Int)) → False) ∧
   (((0 : Int) ≤ (IntKind.wrap .i64 (Int.tmod (IntKind.wrap .u64 c) (5 : Int)))) ∧ ((IntKind.wrap .i64 (Int.tmod (IntKind.wrap .u64 c) (5 : Int))) < (5 : Int))) ∧
   ((List.length (List.getD (strsD u5) (Int.toNat (IntKind.wrap .i64 (Int.tmod (IntKind.wrap .u64 c) (5 : Int)))) [])) = 1) ∧
   ((1 : Nat) ≤ (List.length (List.getD (strsD u5) (Int.toNat (IntKind.wrap .i64 (Int.tmod (IntKind.wrap .u64 c) (5 : Int)))) []))) ∧
   ((List.getD (List.getD (strsD u5) (Int.toNat (IntKind.wrap .i64 (Int.tmod (IntKind.wrap .u64 c) (5 : Int)))) []) (0 : Nat) d0) = (D.v (.string (strD (List.getD (List.getD (strsD u5) (Int.toNat (IntKind.wrap .i64 (Int.tmod (IntKind.wrap .u64 c) (5 : Int)))) []) (0 : Nat) d0))))) ∧ (
    ∃ (us : List BA),
    ∃ (sd_1 : Sds),
    ∃ (nm_1 : Nms),
    ∃ (vs_1 : Vss),
    ∃ (u : ByteArray),
    ∃ (c_1 : ByteArray),
    ([AV.rf 0 0, mkS (strD (List.getD (List.getD (strsD u5) (Int.toNat (IntKind.wrap .i64 (Int.tmod (IntKind.wrap .u64 a) (5 : Int)))) []) (0 : Nat) d0)), mkS (strD (List.getD (List.getD (strsD u5) (Int.toNat (IntKind.wrap .i64 (Int.tmod (IntKind.wrap .u64 c) (5 : Int)))) []) (0 : Nat) d0))] = [AV.rf 0 0, mkS u, mkS c_1]) ∧
    ([Ob.box [AV.d (.sl (strsD u5)), AV.mp (0 + 1), AV.mp ((0 + 1) + 1), AV.mp (((0 + 1) + 1) + 1)], Ob.map (KK.ystrs 2) (sdE sd), Ob.map (KK.ystrs 2) (nmE nm), Ob.map KK.ystr (vsE vs), Ob.gh [AV.rf 0 0, AV.mp (0 + 1), AV.mp ((0 + 1) + 1), AV.mp (((0 + 1) + 1) + 1)]] = [Ob.box [mkSS us, AV.mp 1, AV.mp 2, AV.mp 3], Ob.map (KK.ystrs 2) (sdE sd_1), Ob.map (KK.ystrs 2) (nmE nm_1), Ob.map KK.ystr (vsE vs_1), Ob.gh [AV.rf 0 0, AV.mp 1, AV.mp 2, AV.mp 3]]) ∧ (
     ∀ (s : Sd),
     ((sideOf sd_1 u c_1) = s) →
     ((Option.some (Ob.gh [AV.rf 0 0, AV.mp 1, AV.mp 2, AV.mp 3])) = (Option.some (Ob.gh [AV.rf 0 0, AV.mp (0 + 1), AV.mp ((0 + 1) + 1), AV.mp (((0 + 1) + 1) + 1)]))) ∧ (
      ∃ (us_1 : List BA),
      ∃ (sd_2 : Sds),
      ∃ (nm_2 : Nms),
      ∃ (vs_2 : Vss),
      ∃ (u_1 : ByteArray),
      ∃ (c_2 : ByteArray),
      ([AV.rf 0 0, mkS (strD (List.getD (List.getD (strsD u5) (Int.toNat (IntKind.wrap .i64 (Int.tmod (IntKind.wrap .u64 c) (5 : Int)))) []) (0 : Nat) d0)), mkS (strD (List.getD (List.getD (strsD u5) (Int.toNat (IntKind.wrap .i64 (Int.tmod (IntKind.wrap .u64 a) (5 : Int)))) []) (0 : Nat) d0))] = [AV.rf 0 0, mkS u_1, mkS c_2]) ∧
      ([Ob.box [AV.d (.sl (strsD us)), AV.mp (0 + 1), AV.mp ((0 + 1) + 1), AV.mp (((0 + 1) + 1) + 1)], Ob.map (KK.ystrs 2) (sdE sd_1), Ob.map (KK.ystrs 2) (nmE nm_1), Ob.map KK.ystr (vsE vs_1), Ob.gh [AV.rf 0 0, AV.mp (0 + 1), AV.mp ((0 + 1) + 1), AV.mp (((0 + 1) + 1) + 1)]] = [Ob.box [mkSS us_1, AV.mp 1, AV.mp 2, AV.mp 3], Ob.map (KK.ystrs 2) (sdE sd_2), Ob.map (KK.ystrs 2) (nmE nm_2), Ob.map KK.ystr (vsE vs_2), Ob.gh [AV.rf 0 0, AV.mp 1, AV.mp 2, AV.mp 3]]) ∧ (
       ∀ (s_1 : Sd),
       ((sideOf sd_2 u_1 c_2) = s_1) →
       ((Option.some (Ob.gh [AV.rf 0 0, AV.mp 1, AV.mp 2, AV.mp 3])) = (Option.some (Ob.gh [AV.rf 0 0, AV.mp (0 + 1), AV.mp ((0 + 1) + 1), AV.mp (((0 + 1) + 1) + 1)]))) ∧ (
        ∃ (us_2 : List BA),
        ∃ (sd_3 : Sds),
        ∃ (nm_3 : Nms),
        ∃ (vs_3 : Vss),
        ∃ (u_2 : ByteArray),
        ∃ (c_3 : ByteArray),
        ∃ (x_1 : ByteArray),
        ([AV.rf 0 0, mkS (strD (List.getD (List.getD (strsD u5) (Int.toNat (IntKind.wrap .i64 (Int.tmod (IntKind.wrap .u64 a) (5 : Int)))) []) (0 : Nat) d0)), mkS (strD (List.getD (List.getD (strsD u5) (Int.toNat (IntKind.wrap .i64 (Int.tmod (IntKind.wrap .u64 c) (5 : Int)))) []) (0 : Nat) d0)), mkS x] = [AV.rf 0 0, mkS u_2, mkS c_3, mkS x_1]) ∧
        ([Ob.box [AV.d (.sl (strsD us_1)), AV.mp (0 + 1), AV.mp ((0 + 1) + 1), AV.mp (((0 + 1) + 1) + 1)], Ob.map (KK.ystrs 2) (sdE sd_2), Ob.map (KK.ystrs 2) (nmE nm_2), Ob.map KK.ystr (vsE vs_2), Ob.gh [AV.rf 0 0, AV.mp (0 + 1), AV.mp ((0 + 1) + 1), AV.mp (((0 + 1) + 1) + 1)]] = [Ob.box [mkSS us_2, AV.mp 1, AV.mp 2, AV.mp 3], Ob.map (KK.ystrs 2) (sdE sd_3), Ob.map (KK.ystrs 2) (nmE nm_3), Ob.map KK.ystr (vsE vs_3), Ob.gh [AV.rf 0 0, AV.mp 1, AV.mp 2, AV.mp 3]]) ∧ (
         ∀ (r : Out),
         ((nameO us_2 sd_3 nm_3 vs_3 u_2 c_3 x_1) = r) →
         ((Option.some (Ob.gh [AV.rf 0 0, AV.mp 1, AV.mp 2, AV.mp 3])) = (Option.some (Ob.gh [AV.rf 0 0, AV.mp (0 + 1), AV.mp ((0 + 1) + 1), AV.mp (((0 + 1) + 1) + 1)]))) ∧ (
          ∃ (us_3 : List BA),
          ∃ (sd_4 : Sds),
          ∃ (nm_4 : Nms),
          ∃ (vs_4 : Vss),
          ∃ (u_3 : ByteArray),
          ∃ (c_4 : ByteArray),
          ∃ (x_2 : ByteArray),
          ([AV.rf 0 0, mkS (strD (List.getD (List.getD (strsD u5) (Int.toNat (IntKind.wrap .i64 (Int.tmod (IntKind.wrap .u64 a) (5 : Int)))) []) (0 : Nat) d0)), mkS (strD (List.getD (List.getD (strsD u5) (Int.toNat (IntKind.wrap .i64 (Int.tmod (IntKind.wrap .u64 c) (5 : Int)))) []) (0 : Nat) d0)), mkS x] = [AV.rf 0 0, mkS u_3, mkS c_4, mkS x_2]) ∧
          ([Ob.box [AV.d (.sl (strsD us_2)), AV.mp (0 + 1), AV.mp ((0 + 1) + 1), AV.mp (((0 + 1) + 1) + 1)], Ob.map (KK.ystrs 2) (sdE (Out.sd r)), Ob.map (KK.ystrs 2) (nmE (Out.nm r)), Ob.map KK.ystr (vsE (Out.vs r)), Ob.gh [AV.rf 0 0, AV.mp (0 + 1), AV.mp ((0 + 1) + 1), AV.mp (((0 + 1) + 1) + 1)]] = [Ob.box [mkSS us_3, AV.mp 1, AV.mp 2, AV.mp 3], Ob.map (KK.ystrs 2) (sdE sd_4), Ob.map (KK.ystrs 2) (nmE nm_4), Ob.map KK.ystr (vsE vs_4), Ob.gh [AV.rf 0 0, AV.mp 1, AV.mp 2, AV.mp 3]]) ∧ (
           ∀ (r_1 : Out),
           ((nameO us_3 sd_4 nm_4 vs_4 u_3 c_4 x_2) = r_1) →
           ((Option.some (Ob.gh [AV.rf 0 0, AV.mp 1, AV.mp 2, AV.mp 3])) = (Option.some (Ob.gh [AV.rf 0 0, AV.mp (0 + 1), AV.mp ((0 + 1) + 1), AV.mp (((0 + 1) + 1) + 1)]))) ∧
           bcase ((Out.e r) != (0 : Int)) (
            bcase ((Out.e r_1) == (Out.e r)) (
             ((List.length (strsD (Out.p r))) ≤ LIM) →
             q (mkB (((List.length (strsD (Out.p r))) : Int) == (0 : Int)))) (
             q (mkB false))) (
            ∃ (us_4 : List BA),
            ∃ (sd_5 : Sds),
            ∃ (nm_5 : Nms),
            ∃ (vs_5 : Vss),
            ∃ (u_4 : ByteArray),
            ([AV.rf 0 0, mkS (strD (List.getD (List.getD (strsD u5) (Int.toNat (IntKind.wrap .i64 (Int.tmod (IntKind.wrap .u64 a) (5 : Int)))) []) (0 : Nat) d0))] = [AV.rf 0 0, mkS u_4]) ∧
            ([Ob.box [AV.d (.sl (strsD us_3)), AV.mp (0 + 1), AV.mp ((0 + 1) + 1), AV.mp (((0 + 1) + 1) + 1)], Ob.map (KK.ystrs 2) (sdE (Out.sd r_1)), Ob.map (KK.ystrs 2) (nmE (Out.nm r_1)), Ob.map KK.ystr (vsE (Out.vs r_1)), Ob.gh [AV.rf 0 0, AV.mp (0 + 1), AV.mp ((0 + 1) + 1), AV.mp (((0 + 1) + 1) + 1)]] = [Ob.box [mkSS us_4, AV.mp 1, AV.mp 2, AV.mp 3], Ob.map (KK.ystrs 2) (sdE sd_5), Ob.map (KK.ystrs 2) (nmE nm_5), Ob.map KK.ystr (vsE vs_5), Ob.gh [AV.rf 0 0, AV.mp 1, AV.mp 2, AV.mp 3]]) ∧
            ((memB u_4 us_4) = true) ∧ (
             ∀ (l_1 : List It),
             ∀ (n : Int),
             ((itemsM us_4 sd_5 nm_5 u_4) = l_1) →
             ((verOf vs_5 u_4) = n) →
             ((Option.some (Ob.gh [AV.rf 0 0, AV.mp 1, AV.mp 2, AV.mp 3])) = (Option.some (Ob.gh [AV.rf 0 0, AV.mp (0 + 1), AV.mp ((0 + 1) + 1), AV.mp (((0 + 1) + 1) + 1)]))) ∧
             ALoop (aCode KR GNs (cAt [1, 1, 1, 1, 1, 1, 1, 1, 1, 1, 1, 1, 0, 1, 0, 0] Tryd.b6)) (rNs_b_k0 q) ⟨[AV.d (.sl (opsD l)), AV.jk, mkS x, AV.jk, AV.rf 0 0, AV.jk, mkB false, AV.rf 18 0, AV.d (.sl (strsD u5)), mkI .i64 i, mkS (strD (List.getD (List.getD (strsD u5) (Int.toNat (IntKind.wrap .i64 (Int.tmod (IntKind.wrap .u64 a) (5 : Int)))) []) (0 : Nat) d0)), mkS (strD (List.getD (List.getD (strsD u5) (Int.toNat (IntKind.wrap .i64 (Int.tmod (IntKind.wrap .u64 c) (5 : Int)))) []) (0 : Nat) d0)), AV.rf 23 0, AV.rf 24 0, AV.rf 27 0, mkI .i64 (Out.e r), AV.rf 30 0, mkI .i64 (Out.e r_1), AV.d (.sl (itsD l_1)), mkI .i64 n, mkI .i64 (0 : Int), mkB false, mkI .i64 (0 : Int)] ++ (jks 8 ++ ([mkI .i64 i, AV.d (.sl (opsD l)), mkI .i64 ((List.length (opsD l)) : Int), mkB false] ++ (jks 9 ++ ([AV.d (.sl (strsD u5)), AV.rf 0 (0 + ((Int.toNat (0 : Int)) * 1)), mkI .i64 a, mkI IntKind.u64 (IntKind.wrap .u64 a), mkI IntKind.u64 (Int.tmod (IntKind.wrap .u64 a) (5 : Int)), mkI .i64 (IntKind.wrap .i64 (Int.tmod (IntKind.wrap .u64 a) (5 : Int))), AV.ep (List.getD (strsD u5) (Int.toNat (IntKind.wrap .i64 (Int.tmod (IntKind.wrap .u64 a) (5 : Int)))) []), mkS (strD (List.getD (List.getD (strsD u5) (Int.toNat (IntKind.wrap .i64 (Int.tmod (IntKind.wrap .u64 a) (5 : Int)))) []) (0 : Nat) d0)), AV.d (.sl (strsD u5)), AV.rf 0 (0 + ((Int.toNat (1 : Int)) * 1)), mkI .i64 c, mkI IntKind.u64 (IntKind.wrap .u64 c), mkI IntKind.u64 (Int.tmod (IntKind.wrap .u64 c) (5 : Int)), mkI .i64 (IntKind.wrap .i64 (Int.tmod (IntKind.wrap .u64 c) (5 : Int))), AV.ep (List.getD (strsD u5) (Int.toNat (IntKind.wrap .i64 (Int.tmod (IntKind.wrap .u64 c) (5 : Int)))) []), mkS (strD (List.getD (List.getD (strsD u5) (Int.toNat (IntKind.wrap .i64 (Int.tmod (IntKind.wrap .u64 c) (5 : Int)))) []) (0 : Nat) d0)), AV.rf 18 0, mkS (strD (List.getD (List.getD (strsD u5) (Int.toNat (IntKind.wrap .i64 (Int.tmod (IntKind.wrap .u64 a) (5 : Int)))) []) (0 : Nat) d0)), mkS (strD (List.getD (List.getD (strsD u5) (Int.toNat (IntKind.wrap .i64 (Int.tmod (IntKind.wrap .u64 c) (5 : Int)))) []) (0 : Nat) d0)), AV.ag [mkI .i64 (Sd.sub s), mkB (Sd.a s), mkB (Sd.w s)], AV.rf 18 0, mkS (strD (List.getD (List.getD (strsD u5) (Int.toNat (IntKind.wrap .i64 (Int.tmod (IntKind.wrap .u64 c) (5 : Int)))) []) (0 : Nat) d0)), mkS (strD (List.getD (List.getD (strsD u5) (Int.toNat (IntKind.wrap .i64 (Int.tmod (IntKind.wrap .u64 a) (5 : Int)))) []) (0 : Nat) d0)), AV.ag [mkI .i64 (Sd.sub s_1), mkB (Sd.a s_1), mkB (Sd.w s_1)], AV.tp [AV.ag [AV.d (.sl (strsD (Out.p r))), AV.d (.sl (tdD (Out.t r)))], mkI .i64 (Out.e r)], AV.rf 18 0, mkS (strD (List.getD (List.getD (strsD u5) (Int.toNat (IntKind.wrap .i64 (Int.tmod (IntKind.wrap .u64 a) (5 : Int)))) []) (0 : Nat) d0)), mkS (strD (List.getD (List.getD (strsD u5) (Int.toNat (IntKind.wrap .i64 (Int.tmod (IntKind.wrap .u64 c) (5 : Int)))) []) (0 : Nat) d0)), mkS x, AV.tp [AV.ag [AV.d (.sl (strsD (Out.p r))), AV.d (.sl (tdD (Out.t r)))], mkI .i64 (Out.e r)], AV.ag [AV.d (.sl (strsD (Out.p r))), AV.d (.sl (tdD (Out.t r)))], mkI .i64 (Out.e r), AV.tp [AV.ag [AV.d (.sl (strsD (Out.p r_1))), AV.d (.sl (tdD (Out.t r_1)))], mkI .i64 (Out.e r_1)], AV.rf 18 0, mkS (strD (List.getD (List.getD (strsD u5) (Int.toNat (IntKind.wrap .i64 (Int.tmod (IntKind.wrap .u64 a) (5 : Int)))) []) (0 : Nat) d0)), mkS (strD (List.getD (List.getD (strsD u5) (Int.toNat (IntKind.wrap .i64 (Int.tmod (IntKind.wrap .u64 c) (5 : Int)))) []) (0 : Nat) d0)), mkS x, AV.tp [AV.ag [AV.d (.sl (strsD (Out.p r_1))), AV.d (.sl (tdD (Out.t r_1)))], mkI .i64 (Out.e r_1)], AV.ag [AV.d (.sl (strsD (Out.p r_1))), AV.d (.sl (tdD (Out.t r_1)))], mkI .i64 (Out.e r_1), mkI .i64 (Out.e r), mkB false] ++ (jks 9 ++ ([AV.tp [AV.d (.sl (itsD l_1)), mkI .i64 n, mkI .i64 (0 : Int)], AV.rf 18 0, mkS (strD (List.getD (List.getD (strsD u5) (Int.toNat (IntKind.wrap .i64 (Int.tmod (IntKind.wrap .u64 a) (5 : Int)))) []) (0 : Nat) d0)), AV.tp [AV.d (.sl (itsD l_1)), mkI .i64 n, mkI .i64 (0 : Int)], AV.d (.sl (itsD l_1)), mkI .i64 n, mkI .i64 (0 : Int)] ++ (jks 64))))))), [Ob.box [mkI .i64 a, mkI .i64 c], Ob.gone, Ob.gone, Ob.gone, Ob.gone, Ob.gone, Ob.gone, Ob.gone, Ob.gone, Ob.gone, Ob.gone, Ob.gone, Ob.gone, Ob.gone, Ob.gone, Ob.map (KK.ystrs 2) (sdE sd_5), Ob.map (KK.ystrs 2) (nmE nm_5), Ob.map KK.ystr (vsE vs_5), Ob.box [AV.d (.sl (strsD us_4)), AV.mp (if 1 < 4 then 15 else 32 + (1 - 4)), AV.mp (if 2 < 4 then 16 else 32 + (2 - 4)), AV.mp (if 3 < 4 then 17 else 32 + (3 - 4))], Ob.gone, Ob.gone, Ob.gone, Ob.gone, Ob.box [mkI .i64 (Sd.sub s), mkB (Sd.a s), mkB (Sd.w s)], Ob.box [mkI .i64 (Sd.sub s_1), mkB (Sd.a s_1), mkB (Sd.w s_1)], Ob.gone, Ob.gone, Ob.box [AV.d (.sl (strsD (Out.p r))), AV.d (.sl (tdD (Out.t r)))], Ob.gone, Ob.gone, Ob.box [AV.d (.sl (strsD (Out.p r_1))), AV.d (.sl (tdD (Out.t r_1)))], Ob.gone, Ob.gone]⟩)))))))))))) := by kernel_rfl
def stNi (a c : Int) (x u w : BA) (s t : Sd) (r r2 : Out) (f : Int) (l : List It) (b : Bool) (i : Int) (sd : Sds) (nm : Nms) (vs : Vss) : S := ⟨[.jk, .jk, mkS x, .jk, .jk, .jk, mkB false, .rf 18 0, .jk, .jk, mkS u, mkS w, .rf 23 0, .rf 24 0, .rf 27 0, .jk, .rf 30 0, mkI .i64 f, .d (.sl (itsD l)), .jk, .jk, mkB b, mkI .i64 i] ++ jks 143,
  lawN a c u5 sd nm vs ++ [.gone, .gone, .gone, .gone, .box [mkI .i64 s.sub, mkB s.a, mkB s.w], .box [mkI .i64 t.sub, mkB t.a, mkB t.w], .gone, .gone, .box [.d (.sl (strsD r.p)), .d (.sl (tdD r.t))], .gone, .gone, .box [.d (.sl (strsD r2.p)), .d (.sl (tdD r2.t))]]⟩
theorem rNiA {ι : Type} (st : ι → S) (inv : ι → Prop) (μ : ι → Nat) (k : ι) (a c : Int) (x u w : BA) (s t : Sd) (r r2 : Out) (f : Int) (l : List It) (b : Bool) (i : Int) (sd : Sds) (nm : Nms) (vs : Vss) (q : AV → Prop) :
  (aCode KR GNs (cAt [1, 1, 1, 1, 1, 1, 1, 1, 1, 1, 1, 1, 0, 1, 0, 0] Tryd.b6) (kFamM [] (maskOf (stNi a c x u w s t r r2 f l b i sd nm vs)) st inv μ k (rNs_b_k0 q)) (stNi a c x u w s t r r2 f l b i sd nm vs)) = (
  ((List.length (itsD l)) ≤ LIM) →
  bcase (decide (i < ((List.length (itsD l)) : Int))) (
   bcase b (
    FamNext st inv μ k ⟨[AV.jk, AV.jk, mkS x, AV.jk, AV.jk, AV.jk, mkB false, AV.rf 18 0, AV.jk, AV.jk, mkS u, mkS w, AV.rf 23 0, AV.rf 24 0, AV.rf 27 0, AV.jk, AV.rf 30 0, mkI .i64 f, AV.d (.sl (itsD l)), AV.jk, AV.jk, mkB true, mkI .i64 (IntKind.wrap .i64 (i + (1 : Int)))] ++ (jks 143), [Ob.box [mkI .i64 a, mkI .i64 c], Ob.gone, Ob.gone, Ob.gone, Ob.gone, Ob.gone, Ob.gone, Ob.gone, Ob.gone, Ob.gone, Ob.gone, Ob.gone, Ob.gone, Ob.gone, Ob.gone, Ob.map (KK.ystrs 2) (sdE sd), Ob.map (KK.ystrs 2) (nmE nm), Ob.map KK.ystr (vsE vs), Ob.box [mkSS u5, AV.mp 15, AV.mp 16, AV.mp 17], Ob.gone, Ob.gone, Ob.gone, Ob.gone, Ob.box [mkI .i64 (Sd.sub s), mkB (Sd.a s), mkB (Sd.w s)], Ob.box [mkI .i64 (Sd.sub t), mkB (Sd.a t), mkB (Sd.w t)], Ob.gone, Ob.gone, Ob.box [AV.d (.sl (strsD (Out.p r))), AV.d (.sl (tdD (Out.t r)))], Ob.gone, Ob.gone, Ob.box [AV.d (.sl (strsD (Out.p r2))), AV.d (.sl (tdD (Out.t r2)))]]⟩) (
    (((0 : Int) ≤ i) ∧ (i < ((List.length (itsD l)) : Int))) ∧
    ((List.length (List.getD (itsD l) (Int.toNat i) [])) = 4) ∧
    ((1 : Nat) ≤ (List.length (List.drop (0 : Nat) (List.getD (itsD l) (Int.toNat i) [])))) ∧
    ((List.getD (List.drop (0 : Nat) (List.getD (itsD l) (Int.toNat i) [])) (0 : Nat) d0) = (D.v (.string (strD (List.getD (List.drop (0 : Nat) (List.getD (itsD l) (Int.toNat i) [])) (0 : Nat) d0))))) ∧
    bcase (decide ((strD (List.getD (List.drop (0 : Nat) (List.getD (itsD l) (Int.toNat i) [])) (0 : Nat) d0)) = w)) (
     (((0 : Int) ≤ i) ∧ (i < ((List.length (itsD l)) : Int))) ∧
     ((List.length (List.getD (itsD l) (Int.toNat i) [])) = 4) ∧
     ((1 : Nat) ≤ (List.length (List.drop (1 : Nat) (List.getD (itsD l) (Int.toNat i) [])))) ∧
     ((List.getD (List.drop (1 : Nat) (List.getD (itsD l) (Int.toNat i) [])) (0 : Nat) d0) = (D.v (.string (strD (List.getD (List.drop (1 : Nat) (List.getD (itsD l) (Int.toNat i) [])) (0 : Nat) d0))))) ∧
     FamNext st inv μ k ⟨[AV.jk, AV.jk, mkS x, AV.jk, AV.jk, AV.jk, mkB false, AV.rf 18 0, AV.jk, AV.jk, mkS u, mkS w, AV.rf 23 0, AV.rf 24 0, AV.rf 27 0, AV.jk, AV.rf 30 0, mkI .i64 f, AV.d (.sl (itsD l)), AV.jk, AV.jk, mkB (decide ((strD (List.getD (List.drop (1 : Nat) (List.getD (itsD l) (Int.toNat i) [])) (0 : Nat) d0)) = x)), mkI .i64 (IntKind.wrap .i64 (i + (1 : Int)))] ++ (jks 143), [Ob.box [mkI .i64 a, mkI .i64 c], Ob.gone, Ob.gone, Ob.gone, Ob.gone, Ob.gone, Ob.gone, Ob.gone, Ob.gone, Ob.gone, Ob.gone, Ob.gone, Ob.gone, Ob.gone, Ob.gone, Ob.map (KK.ystrs 2) (sdE sd), Ob.map (KK.ystrs 2) (nmE nm), Ob.map KK.ystr (vsE vs), Ob.box [mkSS u5, AV.mp 15, AV.mp 16, AV.mp 17], Ob.gone, Ob.gone, Ob.gone, Ob.gone, Ob.box [mkI .i64 (Sd.sub s), mkB (Sd.a s), mkB (Sd.w s)], Ob.box [mkI .i64 (Sd.sub t), mkB (Sd.a t), mkB (Sd.w t)], Ob.gone, Ob.gone, Ob.box [AV.d (.sl (strsD (Out.p r))), AV.d (.sl (tdD (Out.t r)))], Ob.gone, Ob.gone, Ob.box [AV.d (.sl (strsD (Out.p r2))), AV.d (.sl (tdD (Out.t r2)))]]⟩) (
     FamNext st inv μ k ⟨[AV.jk, AV.jk, mkS x, AV.jk, AV.jk, AV.jk, mkB false, AV.rf 18 0, AV.jk, AV.jk, mkS u, mkS w, AV.rf 23 0, AV.rf 24 0, AV.rf 27 0, AV.jk, AV.rf 30 0, mkI .i64 f, AV.d (.sl (itsD l)), AV.jk, AV.jk, mkB false, mkI .i64 (IntKind.wrap .i64 (i + (1 : Int)))] ++ (jks 143), [Ob.box [mkI .i64 a, mkI .i64 c], Ob.gone, Ob.gone, Ob.gone, Ob.gone, Ob.gone, Ob.gone, Ob.gone, Ob.gone, Ob.gone, Ob.gone, Ob.gone, Ob.gone, Ob.gone, Ob.gone, Ob.map (KK.ystrs 2) (sdE sd), Ob.map (KK.ystrs 2) (nmE nm), Ob.map KK.ystr (vsE vs), Ob.box [mkSS u5, AV.mp 15, AV.mp 16, AV.mp 17], Ob.gone, Ob.gone, Ob.gone, Ob.gone, Ob.box [mkI .i64 (Sd.sub s), mkB (Sd.a s), mkB (Sd.w s)], Ob.box [mkI .i64 (Sd.sub t), mkB (Sd.a t), mkB (Sd.w t)], Ob.gone, Ob.gone, Ob.box [AV.d (.sl (strsD (Out.p r))), AV.d (.sl (tdD (Out.t r)))], Ob.gone, Ob.gone, Ob.box [AV.d (.sl (strsD (Out.p r2))), AV.d (.sl (tdD (Out.t r2)))]]⟩))) (
   bcase (f == (0 : Int)) (
    bcase b (
     (True ∧ (True ∧ (True ∧ True))) ∧ (
      ∃ (us : List BA),
      ∃ (sd_1 : Sds),
      ∃ (nm_1 : Nms),
      ∃ (vs_1 : Vss),
      ∃ (u_1 : ByteArray),
      ∃ (c_1 : ByteArray),
      ([AV.rf 0 0, mkS u, mkS w] = [AV.rf 0 0, mkS u_1, mkS c_1]) ∧
      ([Ob.box [AV.d (.sl (strsD u5)), AV.mp (0 + 1), AV.mp ((0 + 1) + 1), AV.mp (((0 + 1) + 1) + 1)], Ob.map (KK.ystrs 2) (sdE sd), Ob.map (KK.ystrs 2) (nmE nm), Ob.map KK.ystr (vsE vs), Ob.gh [AV.rf 0 0, AV.mp (0 + 1), AV.mp ((0 + 1) + 1), AV.mp (((0 + 1) + 1) + 1)]] = [Ob.box [mkSS us, AV.mp 1, AV.mp 2, AV.mp 3], Ob.map (KK.ystrs 2) (sdE sd_1), Ob.map (KK.ystrs 2) (nmE nm_1), Ob.map KK.ystr (vsE vs_1), Ob.gh [AV.rf 0 0, AV.mp 1, AV.mp 2, AV.mp 3]]) ∧ (
       ∀ (s_1 : Sd),
       ((sideOf sd_1 u_1 c_1) = s_1) →
       ((Option.some (Ob.gh [AV.rf 0 0, AV.mp 1, AV.mp 2, AV.mp 3])) = (Option.some (Ob.gh [AV.rf 0 0, AV.mp (0 + 1), AV.mp ((0 + 1) + 1), AV.mp (((0 + 1) + 1) + 1)]))) ∧
       ((AV.ag [mkI .i64 (Sd.sub s), mkB (Sd.a s), mkB (Sd.w s)]) = (AV.ag [mkI .i64 (Sd.sub s), mkB (Sd.a s), mkB (Sd.w s)])) ∧
       bcase (Bool.and ((Sd.sub s_1) == (Sd.sub s)) (Bool.and ((Sd.a s_1) == (Sd.a s)) (Bool.and ((Sd.w s_1) == (Sd.w s)) true))) (
        (True ∧ (True ∧ (True ∧ True))) ∧ (
         ∃ (us_1 : List BA),
         ∃ (sd_2 : Sds),
         ∃ (nm_2 : Nms),
         ∃ (vs_2 : Vss),
         ∃ (u_2 : ByteArray),
         ∃ (c_2 : ByteArray),
         ([AV.rf 0 0, mkS w, mkS u] = [AV.rf 0 0, mkS u_2, mkS c_2]) ∧
         ([Ob.box [AV.d (.sl (strsD us)), AV.mp (0 + 1), AV.mp ((0 + 1) + 1), AV.mp (((0 + 1) + 1) + 1)], Ob.map (KK.ystrs 2) (sdE sd_1), Ob.map (KK.ystrs 2) (nmE nm_1), Ob.map KK.ystr (vsE vs_1), Ob.gh [AV.rf 0 0, AV.mp (0 + 1), AV.mp ((0 + 1) + 1), AV.mp (((0 + 1) + 1) + 1)]] = [Ob.box [mkSS us_1, AV.mp 1, AV.mp 2, AV.mp 3], Ob.map (KK.ystrs 2) (sdE sd_2), Ob.map (KK.ystrs 2) (nmE nm_2), Ob.map KK.ystr (vsE vs_2), Ob.gh [AV.rf 0 0, AV.mp 1, AV.mp 2, AV.mp 3]]) ∧ (
          ∀ (s_2 : Sd),
          ((sideOf sd_2 u_2 c_2) = s_2) →
          ((Option.some (Ob.gh [AV.rf 0 0, AV.mp 1, AV.mp 2, AV.mp 3])) = (Option.some (Ob.gh [AV.rf 0 0, AV.mp (0 + 1), AV.mp ((0 + 1) + 1), AV.mp (((0 + 1) + 1) + 1)]))) ∧
          ((AV.ag [mkI .i64 (Sd.sub t), mkB (Sd.a t), mkB (Sd.w t)]) = (AV.ag [mkI .i64 (Sd.sub t), mkB (Sd.a t), mkB (Sd.w t)])) ∧
          ((AV.ag [mkI .i64 (Sd.sub s), mkB (Sd.a s), mkB (Sd.w s)]) = (AV.ag [mkI .i64 (Sd.sub s), mkB (Sd.a s), mkB (Sd.w s)])) ∧
          bcase (Bool.and ((Sd.sub s_2) == (Sd.sub t)) (Bool.and ((Sd.a s_2) == (Sd.a t)) (Bool.and ((Sd.w s_2) == (Sd.w t)) true))) (
           ((List.length (strsD (Out.p r))) ≤ LIM) →
           bcase (decide (((List.length (strsD (Out.p r))) : Int) ≤ (1 : Int))) (
            ((List.length (strsD (Out.p r2))) ≤ LIM) →
            bcase (((List.length (strsD (Out.p r2))) : Int) == (0 : Int)) (
             ((List.length (tdD (Out.t r))) ≤ LIM) →
             q (mkB (((List.length (tdD (Out.t r))) : Int) == (0 : Int)))) (
             q (mkB false))) (
            q (mkB false))) (
           q (mkB false))))) (
        q (mkB false))))) (
     q (mkB false))) (
    q (mkB false)))) := by kernel_rfl
end Go.Proofs.YtldcalmoboeeiaaDoor

namespace Go.Proofs.YtldcalmoboeeiaaDoor
open Go Go.AM Go.RowKit
attribute [local irreducible] aCode aUnr aUnS aOut
theorem gns_ok : GSound Tryd.prog GNs := gsound_ref (RSound.frameX cLives) (gsound_ref (RSound.frameX cBegin5) (gsound_det cEarly (gsound_ref (RSound.frameX cDoes) (gsound_ref (RSound.frameX cNameO) (gsound_ref (RSound.frameX cItemsQ) (gsound_ref (RSound.frameX cSideQ) gsound_nil))))))
def FNs : List AV → Option (Prop × AV) := fun al => match al with
  | [.d (.sl es), .ag [.d (.v (.int .i64 a)), .d (.v (.int .i64 c))], .d (.v (.string x))] => some (es = opsD (unOps es), mkB true)
  | _ => none
theorem side_same (s t : Sd) (h : s = t) : Bool.and (s.sub == t.sub) (Bool.and (s.a == t.a) (Bool.and (s.w == t.w) true)) = true := by subst h; simp
set_option maxRecDepth 20000 in
theorem cNs : PSound Tryd.prog 6 (detE FNs) := by
  refine det_fn (c := Tryd.b6) mixed KR_ok gns_ok Tryd.func6 rfl rfl Tryd.call6 fun al p r q hF hp hq => ?_
  unfold FNs at hF; split at hF <;> cases hF
  rename_i es a c x
  generalize unOps es = l0 at hp
  subst hp
  refine cast (rNs l0 a c x q).symm ⟨rfl, rfl, rfl, rfl, rfl, rfl, by rw [unOps_ops], ?_⟩
  rw [unOps_ops]
  generalize l0.take 80 = l
  refine ALoop.introM [] (maskOf (stNs l a c x 0 [] [] (v0 u5))) (fun s : Nat × Sds × Nms × Vss => stNs l a c x s.1 s.2.1 s.2.2.1 s.2.2.2) (fun s => s.1 ≤ l.length ∧ Good u5 s.2.1 s.2.2.1) (fun s => l.length - s.1) ⟨[], (0, [], [], v0 u5), ?_, ⟨Nat.zero_le _, good_new u5⟩⟩ ?_
  · simp [S.le, sealAll, leL, leA, leO, jks, stNs, lawN, S.fits, fitsL, AV.fits, Ob.fits, KK.isSy, mkSS, mkS, mkI, mkB, sdE, nmE, encM, vsE, v0, u5, sK, nAnn, nBob, nCy, nDee, nEve, nFlo, nGus, nHal]
  · rintro ⟨i, sd, nm, vs⟩ ⟨hil, hG⟩
    have hil : i ≤ l.length := hil
    have hG : Good u5 sd nm := hG
    refine cast (rNs_b _ _ _ _ l a c x i sd nm vs q).symm fun hl => (bcase_dec (fun hlt => ?_) (fun hge => ?_))
    · rw [opsD_len] at hl hlt
      have hlt : i < l.length := by omega
      have hgd := opsD_getD l i hlt
      have hw := wrap_succ hlt hl
      simp only [Int.toNat_natCast, hgd]
      refine ⟨⟨by omega, by rw [opsD_len]; omega⟩, rfl, Nat.le_refl _, ⟨rfl, rfl, rfl, rfl, rfl, trivial⟩, u5, sd, nm, vs, u5, l[i].k, l[i].a, l[i].b, l[i].c, l[i].x, rfl, rfl, u5_ok, fun r hr => ⟨by trivial, ?_⟩⟩
      refine .mk [] (i + 1, r.sd, r.nm, r.vs) ?_ ⟨by show i + 1 ≤ l.length; omega, ?_⟩ (by show l.length - (i + 1) < l.length - i; omega)
      · rw [hw]
        simp [S.le, sealAll, leL, leA, leO, jks, stNs, lawN, S.fits, fitsL, AV.fits, Ob.fits, KK.isSy, mkSS, mkS, mkI, mkB]
      · have := good_does u5_nodup hG vs u5 l[i].k l[i].a l[i].b l[i].c l[i].x
        rw [hr] at this
        exact this
    · obtain ⟨m, hm, em⟩ := modK_nat (n := 5) (by decide) a
      obtain ⟨n, hn, en⟩ := modK_nat (n := 5) (by decide) c
      have em : IntKind.wrap .i64 (Int.tmod (IntKind.wrap .u64 a) 5) = (m : Int) := em
      have en : IntKind.wrap .i64 (Int.tmod (IntKind.wrap .u64 c) 5) = (n : Int) := en
      have gm := strsD_getD u5 m hm
      have gn := strsD_getD u5 n hn
      obtain ⟨xi, xm⟩ := u5_in hm
      obtain ⟨yi, ym⟩ := u5_in hn
      have ex : strD (.v (.string (u5.getD m ⟨#[]⟩))) = u5.getD m ⟨#[]⟩ := rfl
      have ey : strD (.v (.string (u5.getD n ⟨#[]⟩))) = u5.getD n ⟨#[]⟩ := rfl
      simp only [em, en, Int.toNat_natCast, gm, gn, List.getD_cons_zero, ex, ey]
      generalize u5.getD m ⟨#[]⟩ = u at xi xm
      generalize u5.getD n ⟨#[]⟩ = w at yi ym
      refine ⟨by decide, by decide, ⟨by omega, by omega⟩, by trivial, Nat.le_refl _, by trivial, by decide, by decide, ⟨by omega, by omega⟩, by trivial, Nat.le_refl _, by trivial, u5, sd, nm, vs, u, w, rfl, rfl, fun s hs => ⟨by trivial, u5, sd, nm, vs, w, u, rfl, rfl, fun t ht => ⟨by trivial, u5, sd, nm, vs, u, w, x, rfl, rfl, fun r hr => ⟨by trivial, u5, r.sd, r.nm, r.vs, u, w, x, rfl, rfl, fun r2 hr2 => ⟨by trivial, ?_⟩⟩⟩⟩⟩
      obtain ⟨n1, n2, n3⟩ := name_twice yi hr hr2
      refine bcase_mk (fun he => ?_) (fun he => ?_)
      · obtain ⟨e1, e2⟩ := n2 (by simpa using he)
        rw [e1, beq_self_eq_true, e2]
        exact fun _ => hq
      · have he : r.e = 0 := by simpa using he
        obtain ⟨e1, e2, e3, e4, e5⟩ := n3 he
        refine ⟨u5, r2.sd, r2.nm, r2.vs, u, rfl, rfl, xm, fun l1 n0 hl1 hn0 => ⟨by trivial, ?_⟩⟩
        rw [hl1] at e5
        refine ALoop.introM [] (maskOf (stNi a c x u w s t r r2 r2.e l1 false 0 r2.sd r2.nm r2.vs)) (fun k : Nat => stNi a c x u w s t r r2 r2.e l1 ((l1.take k).any fun it => decide (it.c = w) && decide (it.n = x)) k r2.sd r2.nm r2.vs) (fun k => k ≤ l1.length) (fun k => l1.length - k) ⟨[], 0, ?_, Nat.zero_le _⟩ fun k hk => ?_
        · simp [S.le, sealAll, leL, leA, leO, jks, stNi, lawN, S.fits, fitsL, AV.fits, Ob.fits, KK.isSy, mkSS, mkS, mkI, mkB]
        · refine cast (rNiA (fun k : Nat => stNi a c x u w s t r r2 r2.e l1 ((l1.take k).any fun it => decide (it.c = w) && decide (it.n = x)) k r2.sd r2.nm r2.vs) (fun k => k ≤ l1.length) (fun k => l1.length - k) k a c x u w s t r r2 r2.e l1 ((l1.take k).any fun it => decide (it.c = w) && decide (it.n = x)) k r2.sd r2.nm r2.vs q).symm fun hll => (bcase_dec (fun hlt => ?_) (fun hge2 => ?_))
          · rw [itsD_len] at hll hlt
            have hlt : k < l1.length := by omega
            have hgd := itsD_getD l1 k hlt
            have hw := wrap_succ hlt hll
            have nx : ∀ b : Bool, b = ((l1.take (k + 1)).any fun it => decide (it.c = w) && decide (it.n = x)) → FamNext (fun k : Nat => stNi a c x u w s t r r2 r2.e l1 ((l1.take k).any fun it => decide (it.c = w) && decide (it.n = x)) k r2.sd r2.nm r2.vs) (fun k => k ≤ l1.length) (fun k => l1.length - k) k (stNi a c x u w s t r r2 r2.e l1 b (IntKind.wrap .i64 ((k : Int) + 1)) r2.sd r2.nm r2.vs) := fun b hb => by
              refine .mk [] (k + 1) ?_ (by omega) (by omega)
              rw [hw, hb]
              simp [S.le, sealAll, leL, leA, leO, jks, stNi, lawN, S.fits, fitsL, AV.fits, Ob.fits, KK.isSy, mkSS, mkS, mkI, mkB]
            have e1 : ((l1.take (k + 1)).any fun it => decide (it.c = w) && decide (it.n = x)) = (((l1.take k).any fun it => decide (it.c = w) && decide (it.n = x)) || (decide (l1[k].c = w) && decide (l1[k].n = x))) := by
              rw [List.take_add_one, List.any_append, List.getElem?_eq_getElem hlt]
              simp
            simp only [Int.toNat_natCast, hgd]
            refine bcase_mk (fun hb => nx true (by rw [e1, hb]; rfl)) (fun hb => ⟨⟨by omega, by rw [itsD_len]; omega⟩, rfl, (show 1 ≤ 4 by decide), rfl, bcase_mk (fun h => ⟨⟨by omega, by rw [itsD_len]; omega⟩, rfl, (show 1 ≤ 3 by decide), rfl, nx _ ?_⟩) (fun h => nx false ?_)⟩)
            · have h : decide (l1[k].c = w) = true := h
              rw [e1, hb, h]; rfl
            · have h : decide (l1[k].c = w) = false := h
              rw [e1, hb, h]; rfl
          · rw [itsD_len] at hge2
            have ek : k = l1.length := by omega
            subst ek
            rw [List.take_length, e5, e1]
            refine ⟨⟨trivial, trivial, trivial, trivial⟩, u5, r2.sd, r2.nm, r2.vs, u, w, rfl, rfl, fun s2 hs2 => ⟨rfl, rfl, ?_⟩⟩
            rw [n1, hs] at hs2
            rw [side_same s2 s hs2.symm]
            refine ⟨⟨trivial, trivial, trivial, trivial⟩, u5, r2.sd, r2.nm, r2.vs, w, u, rfl, rfl, fun t2 ht2 => ⟨rfl, rfl, rfl, ?_⟩⟩
            rw [n1, ht] at ht2
            rw [side_same t2 t ht2.symm]
            refine fun _ => bcase_dec (fun _ => fun _ => ?_) (fun hc => ?_)
            · rw [e2, e4]
              exact fun _ => hq
            · rw [strsD_length] at hc
              omega
theorem arg_ii {P : Program} {t i : TypeId} {a : AV} (hu : P.underlying t = some (.array 2 i)) (hi : P.underlying i = some (.int .i64)) (hg : aggB P t = true) (h : ∃ ds, Ty P 12 t ds ∧ a = argAV (aggB P t) ds) : ∃ x y, a = .ag [mkI .i64 x, mkI .i64 y] := by
  obtain ⟨ds, h1, rfl⟩ := h
  unfold Ty at h1
  rw [hu] at h1
  obtain ⟨a1, b1, rfl, p1, a2, b2, rfl, p2, rfl⟩ := h1
  unfold Ty at p1 p2
  rw [hi] at p1 p2
  obtain ⟨i1, rfl, _⟩ := p1
  obtain ⟨i2, rfl, _⟩ := p2
  rw [hg]
  exact ⟨i1, i2, rfl⟩
theorem hNs : ∀ al, TyArgs Tryd.prog Tryd.f6.params.toList al → ∃ p, FNs al = some (p, mkB true) ∧ p := by
  intro al h
  rw [Tryd.params6] at h
  obtain ⟨a, b, c, rfl, ha, hb, hc⟩ := ty_args3 h
  obtain ⟨l, rfl⟩ := arg_ops Tryd.underlying22 Tryd.underlying41 rfl Tryd.underlying3 Tryd.underlying9 ha
  obtain ⟨i, j, rfl⟩ := arg_ii Tryd.underlying60 Tryd.underlying3 (by kernel_rfl) hb
  obtain ⟨x, rfl, _⟩ := arg_str Tryd.underlying9 hc
  exact ⟨_, rfl, by rw [unOps_ops]⟩
end Go.Proofs.YtldcalmoboeeiaaDoor
