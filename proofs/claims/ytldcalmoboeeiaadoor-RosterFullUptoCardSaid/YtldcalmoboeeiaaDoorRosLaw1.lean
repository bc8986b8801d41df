import Derived.Test.YtldcalmoboeeiaaDoorRosLives
set_option linter.unusedSimpArgs false
set_option linter.unusedVariables false
namespace Go.Proofs.YtldcalmoboeeiaaDoor
open Go Go.AM Go.RowKit
attribute [local irreducible] aCode aUnr aUnS aOut
def EItemsQ : REnt := fun al o q => ∃ us sd nm vs u, al = [.rf 0 0, mkS u] ∧ o = bkO us sd nm vs ∧ memB u us = true ∧ ∀ l n, itemsM us sd nm u = l → verOf vs u = n → q (.tp [.d (.sl (itsD l)), mkI .i64 n, mkI .i64 0]) (bkO us sd nm vs)
theorem cItemsQ : RSound Tryd.prog 15 EItemsQ := cItems.mono fun al o q ⟨us, sd, nm, vs, u, h1, h2, hm, h⟩ => ⟨us, sd, nm, vs, u, h1, h2, by simp only [hm, if_true]; exact h _ _ rfl rfl⟩
noncomputable abbrev GFull : List (FuncId × En) := [(12, .ref (frameX ELives)), (13, .ref (frameX EBegin8)), (21, .ref (frameX ENameO)), (20, .ref (frameX EActO)), (22, .ref (frameX ERemO)), (15, .ref (frameX EItemsQ))]
theorem gfull_ok : GSound Tryd.prog GFull := gsound_ref (RSound.frameX cLives) (gsound_ref (RSound.frameX cBegin8) (gsound_ref (RSound.frameX cNameO) (gsound_ref (RSound.frameX cActO) (gsound_ref (RSound.frameX cRemO) (gsound_ref (RSound.frameX cItemsQ) gsound_nil)))))
def boolsD (l : List Bool) : List (List D) := l.map fun b => [.v (.bool b)]
noncomputable def rFull_k0 (q : AV → Prop) : Kont := kBlk (0 : Nat) (kSeq (aCode Tryd.K GFull (cAt [1, 1, 1, 1] Tryd.b4) (kRet Tryd.K (Array.toList (Func.results Tryd.f4)) q)) (kRet Tryd.K (Array.toList (Func.results Tryd.f4)) q))
theorem rFull (l : List Bool) (g : Int) (q : AV → Prop) :
  (aCode Tryd.K GFull Tryd.b4 (kRet Tryd.K Tryd.f4.results.toList q) ⟨[.d (.sl (boolsD l)), mkI .i64 g] ++ List.replicate (Tryd.f4.ntmps - 2) .jk, []⟩) = (
  (([] : List AV) = []) ∧
  ([Ob.gh []] = [Ob.gh []]) ∧
  ((Option.some (Ob.gh [])) = (Option.some (Ob.gh []))) ∧
  ([mkI IntKind.i64 (8 : Int)] = [mkI IntKind.i64 (8 : Int)]) ∧
  ([Ob.gh []] = [Ob.gh []]) ∧
  ((Option.some (Ob.gh [])) = (Option.some (Ob.gh []))) ∧
  ALoop (aCode Tryd.K GFull (cAt [1, 1, 1, 0, 1, 0, 0] Tryd.b4)) (rFull_k0 q) ⟨[AV.d (D.sl (boolsD l)), mkI IntKind.i64 g, AV.jk, AV.jk, mkB false, AV.rf (if 14 < 0 then 0 else 3 + (14 - 0)) 0, AV.d (D.sl (strsD u8)), mkI IntKind.i64 (1 : Int), AV.jk, AV.jk, AV.jk, AV.jk, AV.jk, AV.jk, AV.jk, AV.jk, mkB true, mkB false, AV.tp [AV.rf (if 14 < 0 then 0 else 3 + (14 - 0)) 0, AV.d (D.sl (strsD u8))], AV.tp [AV.rf (if 14 < 0 then 0 else 3 + (14 - 0)) 0, AV.d (D.sl (strsD u8))], AV.rf (if 14 < 0 then 0 else 3 + (14 - 0)) 0, AV.d (D.sl (strsD u8)), AV.jk, AV.jk, AV.jk, AV.jk, AV.jk, AV.jk, AV.jk, AV.jk, AV.jk, AV.jk, AV.jk, AV.jk, AV.jk, AV.jk, AV.jk, AV.jk, AV.jk, AV.jk, AV.jk, AV.jk, AV.jk, AV.jk, AV.jk, AV.jk, AV.jk, AV.jk, AV.jk, AV.jk, AV.jk, AV.jk, AV.jk, AV.jk, AV.jk, AV.jk, AV.jk, AV.jk, AV.jk, AV.jk, AV.jk, AV.jk, AV.jk, AV.jk, AV.jk, AV.jk, AV.jk, AV.jk, AV.jk, AV.jk, AV.jk, AV.jk, AV.jk, AV.jk, AV.jk, AV.jk, AV.jk, AV.jk, AV.jk, AV.jk, AV.jk, AV.jk, AV.jk, AV.jk, AV.jk, AV.jk, AV.jk, AV.jk, AV.jk, AV.jk, AV.jk, AV.jk, AV.jk, AV.jk, AV.jk, AV.jk, AV.jk, AV.jk, AV.jk, AV.jk, AV.jk, AV.jk, AV.jk, AV.jk, AV.jk], [Ob.gone, Ob.gone, Ob.gone, Ob.gone, Ob.gone, Ob.gone, Ob.gone, Ob.gone, Ob.gone, Ob.gone, Ob.gone, Ob.gone, Ob.gone, Ob.gone, Ob.map (KK.ystrs 2) [], Ob.map (KK.ystrs 2) [], Ob.map KK.ystr [(Key.s (⟨#[(97 : UInt8), (110 : UInt8), (110 : UInt8)]⟩ : ByteArray), mkI IntKind.i64 (1 : Int)), (Key.s (⟨#[(98 : UInt8), (111 : UInt8), (98 : UInt8)]⟩ : ByteArray), mkI IntKind.i64 (1 : Int)), (Key.s (⟨#[(99 : UInt8), (121 : UInt8)]⟩ : ByteArray), mkI IntKind.i64 (1 : Int)), (Key.s (⟨#[(100 : UInt8), (101 : UInt8), (101 : UInt8)]⟩ : ByteArray), mkI IntKind.i64 (1 : Int)), (Key.s (⟨#[(101 : UInt8), (118 : UInt8), (101 : UInt8)]⟩ : ByteArray), mkI IntKind.i64 (1 : Int)), (Key.s (⟨#[(102 : UInt8), (108 : UInt8), (111 : UInt8)]⟩ : ByteArray), mkI IntKind.i64 (1 : Int)), (Key.s (⟨#[(103 : UInt8), (117 : UInt8), (115 : UInt8)]⟩ : ByteArray), mkI IntKind.i64 (1 : Int)), (Key.s (⟨#[(104 : UInt8), (97 : UInt8), (108 : UInt8)]⟩ : ByteArray), mkI IntKind.i64 (1 : Int))], Ob.box [AV.d (D.sl (strsD u8)), AV.mp (if 11 < 0 then 0 else 3 + (11 - 0)), AV.mp (if 12 < 0 then 0 else 3 + (12 - 0)), AV.mp (if 13 < 0 then 0 else 3 + (13 - 0))]]⟩) := by kernel_rfl
/-- What a law owns behind begin. -/
def lawO (us : List BA) (sd : Sds) (nm : Nms) (vs : Vss) : List Ob := List.replicate 14 .gone ++ [.map (.ystrs 2) (sdE sd), .map (.ystrs 2) (nmE nm), .map .ystr (vsE vs), .box [mkSS us, .mp 14, .mp 15, .mp 16]]
def stF (l : List Bool) (g i : Int) (sd : Sds) (nm : Nms) (vs : Vss) : S := ⟨[.d (.sl (boolsD l)), mkI .i64 g, .jk, .jk, mkB false, .rf 17 0, mkSS u8, mkI .i64 i] ++ jks 97, lawO u8 sd nm vs⟩
theorem rFull_b {ι : Type} (st : ι → S) (inv : ι → Prop) (μ : ι → Nat) (k : ι) (l : List Bool) (g i : Int) (sd : Sds) (nm : Nms) (vs : Vss) (q : AV → Prop) :
  (aCode Tryd.K GFull (cAt [1, 1, 1, 0, 1, 0, 0] Tryd.b4) (kFamM [] (maskOf (stF l g i sd nm vs)) st inv μ k (rFull_k0 q)) (stF l g i sd nm vs)) = (
  bcase (decide (i < (8 : Int))) (
   ((List.length (boolsD l)) ≤ LIM) →
   bcase (decide (i < ((List.length (boolsD l)) : Int))) (
    (((0 : Int) ≤ i) ∧ (i < ((List.length (boolsD l)) : Int))) ∧
    ((List.length (List.getD (boolsD l) (Int.toNat i) [])) = 1) ∧
    ((1 : Nat) ≤ (List.length (List.getD (boolsD l) (Int.toNat i) []))) ∧
    ((List.getD (List.getD (boolsD l) (Int.toNat i) []) (0 : Nat) d0) = (D.v (Value.bool (boolD (List.getD (List.getD (boolsD l) (Int.toNat i) []) (0 : Nat) d0))))) ∧
    bcase (boolD (List.getD (List.getD (boolsD l) (Int.toNat i) []) (0 : Nat) d0)) (
     (((0 : Int) ≤ i) ∧ (i < (8 : Int))) ∧
     ((List.length (List.getD (strsD u8) (Int.toNat i) [])) = 1) ∧
     ((1 : Nat) ≤ (List.length (List.getD (strsD u8) (Int.toNat i) []))) ∧
     ((List.getD (List.getD (strsD u8) (Int.toNat i) []) (0 : Nat) d0) = (D.v (Value.string (strD (List.getD (List.getD (strsD u8) (Int.toNat i) []) (0 : Nat) d0))))) ∧ (
      ∃ (us : List BA),
      ∃ (sd_1 : Sds),
      ∃ (nm_1 : Nms),
      ∃ (vs_1 : Vss),
      ∃ (u : ByteArray),
      ∃ (c : ByteArray),
      ∃ (act : Int),
      ([AV.rf 0 0, mkS (⟨#[(97 : UInt8), (110 : UInt8), (110 : UInt8)]⟩ : ByteArray), mkS (strD (List.getD (List.getD (strsD u8) (Int.toNat i) []) (0 : Nat) d0)), mkI IntKind.i64 (1 : Int)] = [AV.rf 0 0, mkS u, mkS c, mkI IntKind.i64 act]) ∧
      ([Ob.box [AV.d (D.sl (strsD u8)), AV.mp (0 + 1), AV.mp ((0 + 1) + 1), AV.mp (((0 + 1) + 1) + 1)], Ob.map (KK.ystrs 2) (sdE sd), Ob.map (KK.ystrs 2) (nmE nm), Ob.map KK.ystr (vsE vs), Ob.gh [AV.rf 0 0, AV.mp (0 + 1), AV.mp ((0 + 1) + 1), AV.mp (((0 + 1) + 1) + 1)]] = [Ob.box [mkSS us, AV.mp 1, AV.mp 2, AV.mp 3], Ob.map (KK.ystrs 2) (sdE sd_1), Ob.map (KK.ystrs 2) (nmE nm_1), Ob.map KK.ystr (vsE vs_1), Ob.gh [AV.rf 0 0, AV.mp 1, AV.mp 2, AV.mp 3]]) ∧ (
       ∀ (r : Out),
       ((actO us sd_1 nm_1 vs_1 u c act) = r) →
       ((Option.some (Ob.gh [AV.rf 0 0, AV.mp 1, AV.mp 2, AV.mp 3])) = (Option.some (Ob.gh [AV.rf 0 0, AV.mp (0 + 1), AV.mp ((0 + 1) + 1), AV.mp (((0 + 1) + 1) + 1)]))) ∧
       bcase (!(((Out.e r) == (0 : Int)) == (decide (i ≤ (6 : Int))))) (
        q (mkB false)) (
        bcase (decide (i > (6 : Int))) (
         bcase ((Out.e r) != (9 : Int)) (
          q (mkB false)) (
          FamNext st inv μ k ⟨[AV.d (D.sl (boolsD l)), mkI IntKind.i64 g, AV.jk, AV.jk, mkB false, AV.rf 17 0, AV.d (D.sl (strsD u8)), mkI IntKind.i64 (IntKind.wrap IntKind.i64 (i + (1 : Int))), AV.jk, AV.jk, AV.jk, AV.jk, AV.jk, AV.jk, AV.jk, AV.jk, AV.jk, AV.jk, AV.jk, AV.jk, AV.jk, AV.jk, AV.jk, AV.jk, AV.jk, AV.jk, AV.jk, AV.jk, AV.jk, AV.jk, AV.jk, AV.jk, AV.jk, AV.jk, AV.jk, AV.jk, AV.jk, AV.jk, AV.jk, AV.jk, AV.jk, AV.jk, AV.jk, AV.jk, AV.jk, AV.jk, AV.jk, AV.jk, AV.jk, AV.jk, AV.jk, AV.jk, AV.jk, AV.jk, AV.jk, AV.jk, AV.jk, AV.jk, AV.jk, AV.jk, AV.jk, AV.jk, AV.jk, AV.jk, AV.jk, AV.jk, AV.jk, AV.jk, AV.jk, AV.jk, AV.jk, AV.jk, AV.jk, AV.jk, AV.jk, AV.jk, AV.jk, AV.jk, AV.jk, AV.jk, AV.jk, AV.jk, AV.jk, AV.jk, AV.jk, AV.jk, AV.jk, AV.jk, AV.jk, AV.jk, AV.jk, AV.jk, AV.jk, AV.jk, AV.jk, AV.jk, AV.jk, AV.jk, AV.jk, AV.jk, AV.jk, AV.jk, AV.jk, AV.jk, AV.jk], [Ob.gone, Ob.gone, Ob.gone, Ob.gone, Ob.gone, Ob.gone, Ob.gone, Ob.gone, Ob.gone, Ob.gone, Ob.gone, Ob.gone, Ob.gone, Ob.gone, Ob.map (KK.ystrs 2) (sdE (Out.sd r)), Ob.map (KK.ystrs 2) (nmE (Out.nm r)), Ob.map KK.ystr (vsE (Out.vs r)), Ob.box [AV.d (D.sl (strsD us)), AV.mp (if 1 < 4 then 14 else 19 + (1 - 4)), AV.mp (if 2 < 4 then 15 else 19 + (2 - 4)), AV.mp (if 3 < 4 then 16 else 19 + (3 - 4))], Ob.gone, Ob.gone]⟩)) (
         FamNext st inv μ k ⟨[AV.d (D.sl (boolsD l)), mkI IntKind.i64 g, AV.jk, AV.jk, mkB false, AV.rf 17 0, AV.d (D.sl (strsD u8)), mkI IntKind.i64 (IntKind.wrap IntKind.i64 (i + (1 : Int))), AV.jk, AV.jk, AV.jk, AV.jk, AV.jk, AV.jk, AV.jk, AV.jk, AV.jk, AV.jk, AV.jk, AV.jk, AV.jk, AV.jk, AV.jk, AV.jk, AV.jk, AV.jk, AV.jk, AV.jk, AV.jk, AV.jk, AV.jk, AV.jk, AV.jk, AV.jk, AV.jk, AV.jk, AV.jk, AV.jk, AV.jk, AV.jk, AV.jk, AV.jk, AV.jk, AV.jk, AV.jk, AV.jk, AV.jk, AV.jk, AV.jk, AV.jk, AV.jk, AV.jk, AV.jk, AV.jk, AV.jk, AV.jk, AV.jk, AV.jk, AV.jk, AV.jk, AV.jk, AV.jk, AV.jk, AV.jk, AV.jk, AV.jk, AV.jk, AV.jk, AV.jk, AV.jk, AV.jk, AV.jk, AV.jk, AV.jk, AV.jk, AV.jk, AV.jk, AV.jk, AV.jk, AV.jk, AV.jk, AV.jk, AV.jk, AV.jk, AV.jk, AV.jk, AV.jk, AV.jk, AV.jk, AV.jk, AV.jk, AV.jk, AV.jk, AV.jk, AV.jk, AV.jk, AV.jk, AV.jk, AV.jk, AV.jk, AV.jk, AV.jk, AV.jk, AV.jk, AV.jk], [Ob.gone, Ob.gone, Ob.gone, Ob.gone, Ob.gone, Ob.gone, Ob.gone, Ob.gone, Ob.gone, Ob.gone, Ob.gone, Ob.gone, Ob.gone, Ob.gone, Ob.map (KK.ystrs 2) (sdE (Out.sd r)), Ob.map (KK.ystrs 2) (nmE (Out.nm r)), Ob.map KK.ystr (vsE (Out.vs r)), Ob.box [AV.d (D.sl (strsD us)), AV.mp (if 1 < 4 then 14 else 19 + (1 - 4)), AV.mp (if 2 < 4 then 15 else 19 + (2 - 4)), AV.mp (if 3 < 4 then 16 else 19 + (3 - 4))], Ob.gone, Ob.gone]⟩))))) (
     (((0 : Int) ≤ i) ∧ (i < (8 : Int))) ∧
     ((List.length (List.getD (strsD u8) (Int.toNat i) [])) = 1) ∧
     ((1 : Nat) ≤ (List.length (List.getD (strsD u8) (Int.toNat i) []))) ∧
     ((List.getD (List.getD (strsD u8) (Int.toNat i) []) (0 : Nat) d0) = (D.v (Value.string (strD (List.getD (List.getD (strsD u8) (Int.toNat i) []) (0 : Nat) d0))))) ∧ (
      ∃ (us : List BA),
      ∃ (sd_1 : Sds),
      ∃ (nm_1 : Nms),
      ∃ (vs_1 : Vss),
      ∃ (u : ByteArray),
      ∃ (c : ByteArray),
      ∃ (x : ByteArray),
      ([AV.rf 0 0, mkS (⟨#[(97 : UInt8), (110 : UInt8), (110 : UInt8)]⟩ : ByteArray), mkS (strD (List.getD (List.getD (strsD u8) (Int.toNat i) []) (0 : Nat) d0)), mkS (⟨#[(120 : UInt8)]⟩ : ByteArray)] = [AV.rf 0 0, mkS u, mkS c, mkS x]) ∧
      ([Ob.box [AV.d (D.sl (strsD u8)), AV.mp (0 + 1), AV.mp ((0 + 1) + 1), AV.mp (((0 + 1) + 1) + 1)], Ob.map (KK.ystrs 2) (sdE sd), Ob.map (KK.ystrs 2) (nmE nm), Ob.map KK.ystr (vsE vs), Ob.gh [AV.rf 0 0, AV.mp (0 + 1), AV.mp ((0 + 1) + 1), AV.mp (((0 + 1) + 1) + 1)]] = [Ob.box [mkSS us, AV.mp 1, AV.mp 2, AV.mp 3], Ob.map (KK.ystrs 2) (sdE sd_1), Ob.map (KK.ystrs 2) (nmE nm_1), Ob.map KK.ystr (vsE vs_1), Ob.gh [AV.rf 0 0, AV.mp 1, AV.mp 2, AV.mp 3]]) ∧ (
       ∀ (r : Out),
       ((nameO us sd_1 nm_1 vs_1 u c x) = r) →
       ((Option.some (Ob.gh [AV.rf 0 0, AV.mp 1, AV.mp 2, AV.mp 3])) = (Option.some (Ob.gh [AV.rf 0 0, AV.mp (0 + 1), AV.mp ((0 + 1) + 1), AV.mp (((0 + 1) + 1) + 1)]))) ∧
       bcase (!(((Out.e r) == (0 : Int)) == (decide (i ≤ (6 : Int))))) (
        q (mkB false)) (
        bcase (decide (i > (6 : Int))) (
         bcase ((Out.e r) != (9 : Int)) (
          q (mkB false)) (
          FamNext st inv μ k ⟨[AV.d (D.sl (boolsD l)), mkI IntKind.i64 g, AV.jk, AV.jk, mkB false, AV.rf 17 0, AV.d (D.sl (strsD u8)), mkI IntKind.i64 (IntKind.wrap IntKind.i64 (i + (1 : Int))), AV.jk, AV.jk, AV.jk, AV.jk, AV.jk, AV.jk, AV.jk, AV.jk, AV.jk, AV.jk, AV.jk, AV.jk, AV.jk, AV.jk, AV.jk, AV.jk, AV.jk, AV.jk, AV.jk, AV.jk, AV.jk, AV.jk, AV.jk, AV.jk, AV.jk, AV.jk, AV.jk, AV.jk, AV.jk, AV.jk, AV.jk, AV.jk, AV.jk, AV.jk, AV.jk, AV.jk, AV.jk, AV.jk, AV.jk, AV.jk, AV.jk, AV.jk, AV.jk, AV.jk, AV.jk, AV.jk, AV.jk, AV.jk, AV.jk, AV.jk, AV.jk, AV.jk, AV.jk, AV.jk, AV.jk, AV.jk, AV.jk, AV.jk, AV.jk, AV.jk, AV.jk, AV.jk, AV.jk, AV.jk, AV.jk, AV.jk, AV.jk, AV.jk, AV.jk, AV.jk, AV.jk, AV.jk, AV.jk, AV.jk, AV.jk, AV.jk, AV.jk, AV.jk, AV.jk, AV.jk, AV.jk, AV.jk, AV.jk, AV.jk, AV.jk, AV.jk, AV.jk, AV.jk, AV.jk, AV.jk, AV.jk, AV.jk, AV.jk, AV.jk, AV.jk, AV.jk, AV.jk], [Ob.gone, Ob.gone, Ob.gone, Ob.gone, Ob.gone, Ob.gone, Ob.gone, Ob.gone, Ob.gone, Ob.gone, Ob.gone, Ob.gone, Ob.gone, Ob.gone, Ob.map (KK.ystrs 2) (sdE (Out.sd r)), Ob.map (KK.ystrs 2) (nmE (Out.nm r)), Ob.map KK.ystr (vsE (Out.vs r)), Ob.box [AV.d (D.sl (strsD us)), AV.mp (if 1 < 4 then 14 else 19 + (1 - 4)), AV.mp (if 2 < 4 then 15 else 19 + (2 - 4)), AV.mp (if 3 < 4 then 16 else 19 + (3 - 4))], Ob.gone, Ob.gone]⟩)) (
         FamNext st inv μ k ⟨[AV.d (D.sl (boolsD l)), mkI IntKind.i64 g, AV.jk, AV.jk, mkB false, AV.rf 17 0, AV.d (D.sl (strsD u8)), mkI IntKind.i64 (IntKind.wrap IntKind.i64 (i + (1 : Int))), AV.jk, AV.jk, AV.jk, AV.jk, AV.jk, AV.jk, AV.jk, AV.jk, AV.jk, AV.jk, AV.jk, AV.jk, AV.jk, AV.jk, AV.jk, AV.jk, AV.jk, AV.jk, AV.jk, AV.jk, AV.jk, AV.jk, AV.jk, AV.jk, AV.jk, AV.jk, AV.jk, AV.jk, AV.jk, AV.jk, AV.jk, AV.jk, AV.jk, AV.jk, AV.jk, AV.jk, AV.jk, AV.jk, AV.jk, AV.jk, AV.jk, AV.jk, AV.jk, AV.jk, AV.jk, AV.jk, AV.jk, AV.jk, AV.jk, AV.jk, AV.jk, AV.jk, AV.jk, AV.jk, AV.jk, AV.jk, AV.jk, AV.jk, AV.jk, AV.jk, AV.jk, AV.jk, AV.jk, AV.jk, AV.jk, AV.jk, AV.jk, AV.jk, AV.jk, AV.jk, AV.jk, AV.jk, AV.jk, AV.jk, AV.jk, AV.jk, AV.jk, AV.jk, AV.jk, AV.jk, AV.jk, AV.jk, AV.jk, AV.jk, AV.jk, AV.jk, AV.jk, AV.jk, AV.jk, AV.jk, AV.jk, AV.jk, AV.jk, AV.jk, AV.jk, AV.jk, AV.jk], [Ob.gone, Ob.gone, Ob.gone, Ob.gone, Ob.gone, Ob.gone, Ob.gone, Ob.gone, Ob.gone, Ob.gone, Ob.gone, Ob.gone, Ob.gone, Ob.gone, Ob.map (KK.ystrs 2) (sdE (Out.sd r)), Ob.map (KK.ystrs 2) (nmE (Out.nm r)), Ob.map KK.ystr (vsE (Out.vs r)), Ob.box [AV.d (D.sl (strsD us)), AV.mp (if 1 < 4 then 14 else 19 + (1 - 4)), AV.mp (if 2 < 4 then 15 else 19 + (2 - 4)), AV.mp (if 3 < 4 then 16 else 19 + (3 - 4))], Ob.gone, Ob.gone]⟩)))))) (
    (((0 : Int) ≤ i) ∧ (i < (8 : Int))) ∧
    ((List.length (List.getD (strsD u8) (Int.toNat i) [])) = 1) ∧
    ((1 : Nat) ≤ (List.length (List.getD (strsD u8) (Int.toNat i) []))) ∧
    ((List.getD (List.getD (strsD u8) (Int.toNat i) []) (0 : Nat) d0) = (D.v (Value.string (strD (List.getD (List.getD (strsD u8) (Int.toNat i) []) (0 : Nat) d0))))) ∧ (
     ∃ (us : List BA),
     ∃ (sd_1 : Sds),
     ∃ (nm_1 : Nms),
     ∃ (vs_1 : Vss),
     ∃ (u : ByteArray),
     ∃ (c : ByteArray),
     ∃ (x : ByteArray),
     ([AV.rf 0 0, mkS (⟨#[(97 : UInt8), (110 : UInt8), (110 : UInt8)]⟩ : ByteArray), mkS (strD (List.getD (List.getD (strsD u8) (Int.toNat i) []) (0 : Nat) d0)), mkS (⟨#[(120 : UInt8)]⟩ : ByteArray)] = [AV.rf 0 0, mkS u, mkS c, mkS x]) ∧
     ([Ob.box [AV.d (D.sl (strsD u8)), AV.mp (0 + 1), AV.mp ((0 + 1) + 1), AV.mp (((0 + 1) + 1) + 1)], Ob.map (KK.ystrs 2) (sdE sd), Ob.map (KK.ystrs 2) (nmE nm), Ob.map KK.ystr (vsE vs), Ob.gh [AV.rf 0 0, AV.mp (0 + 1), AV.mp ((0 + 1) + 1), AV.mp (((0 + 1) + 1) + 1)]] = [Ob.box [mkSS us, AV.mp 1, AV.mp 2, AV.mp 3], Ob.map (KK.ystrs 2) (sdE sd_1), Ob.map (KK.ystrs 2) (nmE nm_1), Ob.map KK.ystr (vsE vs_1), Ob.gh [AV.rf 0 0, AV.mp 1, AV.mp 2, AV.mp 3]]) ∧ (
      ∀ (r : Out),
      ((nameO us sd_1 nm_1 vs_1 u c x) = r) →
      ((Option.some (Ob.gh [AV.rf 0 0, AV.mp 1, AV.mp 2, AV.mp 3])) = (Option.some (Ob.gh [AV.rf 0 0, AV.mp (0 + 1), AV.mp ((0 + 1) + 1), AV.mp (((0 + 1) + 1) + 1)]))) ∧
      bcase (!(((Out.e r) == (0 : Int)) == (decide (i ≤ (6 : Int))))) (
       q (mkB false)) (
       bcase (decide (i > (6 : Int))) (
        bcase ((Out.e r) != (9 : Int)) (
         q (mkB false)) (
         FamNext st inv μ k ⟨[AV.d (D.sl (boolsD l)), mkI IntKind.i64 g, AV.jk, AV.jk, mkB false, AV.rf 17 0, AV.d (D.sl (strsD u8)), mkI IntKind.i64 (IntKind.wrap IntKind.i64 (i + (1 : Int))), AV.jk, AV.jk, AV.jk, AV.jk, AV.jk, AV.jk, AV.jk, AV.jk, AV.jk, AV.jk, AV.jk, AV.jk, AV.jk, AV.jk, AV.jk, AV.jk, AV.jk, AV.jk, AV.jk, AV.jk, AV.jk, AV.jk, AV.jk, AV.jk, AV.jk, AV.jk, AV.jk, AV.jk, AV.jk, AV.jk, AV.jk, AV.jk, AV.jk, AV.jk, AV.jk, AV.jk, AV.jk, AV.jk, AV.jk, AV.jk, AV.jk, AV.jk, AV.jk, AV.jk, AV.jk, AV.jk, AV.jk, AV.jk, AV.jk, AV.jk, AV.jk, AV.jk, AV.jk, AV.jk, AV.jk, AV.jk, AV.jk, AV.jk, AV.jk, AV.jk, AV.jk, AV.jk, AV.jk, AV.jk, AV.jk, AV.jk, AV.jk, AV.jk, AV.jk, AV.jk, AV.jk, AV.jk, AV.jk, AV.jk, AV.jk, AV.jk, AV.jk, AV.jk, AV.jk, AV.jk, AV.jk, AV.jk, AV.jk, AV.jk, AV.jk, AV.jk, AV.jk, AV.jk, AV.jk, AV.jk, AV.jk, AV.jk, AV.jk, AV.jk, AV.jk, AV.jk, AV.jk], [Ob.gone, Ob.gone, Ob.gone, Ob.gone, Ob.gone, Ob.gone, Ob.gone, Ob.gone, Ob.gone, Ob.gone, Ob.gone, Ob.gone, Ob.gone, Ob.gone, Ob.map (KK.ystrs 2) (sdE (Out.sd r)), Ob.map (KK.ystrs 2) (nmE (Out.nm r)), Ob.map KK.ystr (vsE (Out.vs r)), Ob.box [AV.d (D.sl (strsD us)), AV.mp (if 1 < 4 then 14 else 19 + (1 - 4)), AV.mp (if 2 < 4 then 15 else 19 + (2 - 4)), AV.mp (if 3 < 4 then 16 else 19 + (3 - 4))], Ob.gone, Ob.gone]⟩)) (
        FamNext st inv μ k ⟨[AV.d (D.sl (boolsD l)), mkI IntKind.i64 g, AV.jk, AV.jk, mkB false, AV.rf 17 0, AV.d (D.sl (strsD u8)), mkI IntKind.i64 (IntKind.wrap IntKind.i64 (i + (1 : Int))), AV.jk, AV.jk, AV.jk, AV.jk, AV.jk, AV.jk, AV.jk, AV.jk, AV.jk, AV.jk, AV.jk, AV.jk, AV.jk, AV.jk, AV.jk, AV.jk, AV.jk, AV.jk, AV.jk, AV.jk, AV.jk, AV.jk, AV.jk, AV.jk, AV.jk, AV.jk, AV.jk, AV.jk, AV.jk, AV.jk, AV.jk, AV.jk, AV.jk, AV.jk, AV.jk, AV.jk, AV.jk, AV.jk, AV.jk, AV.jk, AV.jk, AV.jk, AV.jk, AV.jk, AV.jk, AV.jk, AV.jk, AV.jk, AV.jk, AV.jk, AV.jk, AV.jk, AV.jk, AV.jk, AV.jk, AV.jk, AV.jk, AV.jk, AV.jk, AV.jk, AV.jk, AV.jk, AV.jk, AV.jk, AV.jk, AV.jk, AV.jk, AV.jk, AV.jk, AV.jk, AV.jk, AV.jk, AV.jk, AV.jk, AV.jk, AV.jk, AV.jk, AV.jk, AV.jk, AV.jk, AV.jk, AV.jk, AV.jk, AV.jk, AV.jk, AV.jk, AV.jk, AV.jk, AV.jk, AV.jk, AV.jk, AV.jk, AV.jk, AV.jk, AV.jk, AV.jk, AV.jk], [Ob.gone, Ob.gone, Ob.gone, Ob.gone, Ob.gone, Ob.gone, Ob.gone, Ob.gone, Ob.gone, Ob.gone, Ob.gone, Ob.gone, Ob.gone, Ob.gone, Ob.map (KK.ystrs 2) (sdE (Out.sd r)), Ob.map (KK.ystrs 2) (nmE (Out.nm r)), Ob.map KK.ystr (vsE (Out.vs r)), Ob.box [AV.d (D.sl (strsD us)), AV.mp (if 1 < 4 then 14 else 19 + (1 - 4)), AV.mp (if 2 < 4 then 15 else 19 + (2 - 4)), AV.mp (if 3 < 4 then 16 else 19 + (3 - 4))], Ob.gone, Ob.gone]⟩)))))) (
   (((6 : Int) = (0 : Int)) → False) ∧
   (((0 : Int) ≤ (IntKind.wrap IntKind.i64 ((1 : Int) + (IntKind.wrap IntKind.i64 (Int.tmod (IntKind.wrap IntKind.u64 g) (6 : Int)))))) ∧ ((IntKind.wrap IntKind.i64 ((1 : Int) + (IntKind.wrap IntKind.i64 (Int.tmod (IntKind.wrap IntKind.u64 g) (6 : Int))))) < (8 : Int))) ∧
   ((List.length (List.getD (strsD u8) (Int.toNat (IntKind.wrap IntKind.i64 ((1 : Int) + (IntKind.wrap IntKind.i64 (Int.tmod (IntKind.wrap IntKind.u64 g) (6 : Int)))))) [])) = 1) ∧
   ((1 : Nat) ≤ (List.length (List.getD (strsD u8) (Int.toNat (IntKind.wrap IntKind.i64 ((1 : Int) + (IntKind.wrap IntKind.i64 (Int.tmod (IntKind.wrap IntKind.u64 g) (6 : Int)))))) []))) ∧
   ((List.getD (List.getD (strsD u8) (Int.toNat (IntKind.wrap IntKind.i64 ((1 : Int) + (IntKind.wrap IntKind.i64 (Int.tmod (IntKind.wrap IntKind.u64 g) (6 : Int)))))) []) (0 : Nat) d0) = (D.v (Value.string (strD (List.getD (List.getD (strsD u8) (Int.toNat (IntKind.wrap IntKind.i64 ((1 : Int) + (IntKind.wrap IntKind.i64 (Int.tmod (IntKind.wrap IntKind.u64 g) (6 : Int)))))) []) (0 : Nat) d0))))) ∧ (
    ∃ (us : List BA),
    ∃ (sd_1 : Sds),
    ∃ (nm_1 : Nms),
    ∃ (vs_1 : Vss),
    ∃ (u : ByteArray),
    ∃ (c : ByteArray),
    ([AV.rf 0 0, mkS (⟨#[(97 : UInt8), (110 : UInt8), (110 : UInt8)]⟩ : ByteArray), mkS (strD (List.getD (List.getD (strsD u8) (Int.toNat (IntKind.wrap IntKind.i64 ((1 : Int) + (IntKind.wrap IntKind.i64 (Int.tmod (IntKind.wrap IntKind.u64 g) (6 : Int)))))) []) (0 : Nat) d0))] = [AV.rf 0 0, mkS u, mkS c]) ∧
    ([Ob.box [AV.d (D.sl (strsD u8)), AV.mp (0 + 1), AV.mp ((0 + 1) + 1), AV.mp (((0 + 1) + 1) + 1)], Ob.map (KK.ystrs 2) (sdE sd), Ob.map (KK.ystrs 2) (nmE nm), Ob.map KK.ystr (vsE vs), Ob.gh [AV.rf 0 0, AV.mp (0 + 1), AV.mp ((0 + 1) + 1), AV.mp (((0 + 1) + 1) + 1)]] = [Ob.box [mkSS us, AV.mp 1, AV.mp 2, AV.mp 3], Ob.map (KK.ystrs 2) (sdE sd_1), Ob.map (KK.ystrs 2) (nmE nm_1), Ob.map KK.ystr (vsE vs_1), Ob.gh [AV.rf 0 0, AV.mp 1, AV.mp 2, AV.mp 3]]) ∧ (
     ∀ (r : Out),
     ((remO us sd_1 nm_1 vs_1 u c) = r) →
     ((Option.some (Ob.gh [AV.rf 0 0, AV.mp 1, AV.mp 2, AV.mp 3])) = (Option.some (Ob.gh [AV.rf 0 0, AV.mp (0 + 1), AV.mp ((0 + 1) + 1), AV.mp (((0 + 1) + 1) + 1)]))) ∧
     (((0 : Int) ≤ (7 : Int)) ∧ ((7 : Int) < (8 : Int))) ∧
     (1 = 1) ∧
     ((1 : Nat) ≤ 1) ∧
     ((D.v (Value.string nHal)) = (D.v (Value.string (strD (D.v (Value.string nHal)))))) ∧ (
      ∃ (us_1 : List BA),
      ∃ (sd_2 : Sds),
      ∃ (nm_2 : Nms),
      ∃ (vs_2 : Vss),
      ∃ (u_1 : ByteArray),
      ∃ (c_1 : ByteArray),
      ∃ (x : ByteArray),
      ([AV.rf 0 0, mkS (⟨#[(97 : UInt8), (110 : UInt8), (110 : UInt8)]⟩ : ByteArray), mkS (strD (D.v (Value.string nHal))), mkS (⟨#[(120 : UInt8)]⟩ : ByteArray)] = [AV.rf 0 0, mkS u_1, mkS c_1, mkS x]) ∧
      ([Ob.box [AV.d (D.sl (strsD us)), AV.mp (0 + 1), AV.mp ((0 + 1) + 1), AV.mp (((0 + 1) + 1) + 1)], Ob.map (KK.ystrs 2) (sdE (Out.sd r)), Ob.map (KK.ystrs 2) (nmE (Out.nm r)), Ob.map KK.ystr (vsE (Out.vs r)), Ob.gh [AV.rf 0 0, AV.mp (0 + 1), AV.mp ((0 + 1) + 1), AV.mp (((0 + 1) + 1) + 1)]] = [Ob.box [mkSS us_1, AV.mp 1, AV.mp 2, AV.mp 3], Ob.map (KK.ystrs 2) (sdE sd_2), Ob.map (KK.ystrs 2) (nmE nm_2), Ob.map KK.ystr (vsE vs_2), Ob.gh [AV.rf 0 0, AV.mp 1, AV.mp 2, AV.mp 3]]) ∧ (
       ∀ (r_1 : Out),
       ((nameO us_1 sd_2 nm_2 vs_2 u_1 c_1 x) = r_1) →
       ((Option.some (Ob.gh [AV.rf 0 0, AV.mp 1, AV.mp 2, AV.mp 3])) = (Option.some (Ob.gh [AV.rf 0 0, AV.mp (0 + 1), AV.mp ((0 + 1) + 1), AV.mp (((0 + 1) + 1) + 1)]))) ∧ (
        ∃ (us_2 : List BA),
        ∃ (sd_3 : Sds),
        ∃ (nm_3 : Nms),
        ∃ (vs_3 : Vss),
        ∃ (u_2 : ByteArray),
        ([AV.rf 0 0, mkS (⟨#[(97 : UInt8), (110 : UInt8), (110 : UInt8)]⟩ : ByteArray)] = [AV.rf 0 0, mkS u_2]) ∧
        ([Ob.box [AV.d (D.sl (strsD us_1)), AV.mp (0 + 1), AV.mp ((0 + 1) + 1), AV.mp (((0 + 1) + 1) + 1)], Ob.map (KK.ystrs 2) (sdE (Out.sd r_1)), Ob.map (KK.ystrs 2) (nmE (Out.nm r_1)), Ob.map KK.ystr (vsE (Out.vs r_1)), Ob.gh [AV.rf 0 0, AV.mp (0 + 1), AV.mp ((0 + 1) + 1), AV.mp (((0 + 1) + 1) + 1)]] = [Ob.box [mkSS us_2, AV.mp 1, AV.mp 2, AV.mp 3], Ob.map (KK.ystrs 2) (sdE sd_3), Ob.map (KK.ystrs 2) (nmE nm_3), Ob.map KK.ystr (vsE vs_3), Ob.gh [AV.rf 0 0, AV.mp 1, AV.mp 2, AV.mp 3]]) ∧
        ((memB u_2 us_2) = true) ∧ (
         ∀ (l_1 : List It),
         ∀ (n : Int),
         ((itemsM us_2 sd_3 nm_3 u_2) = l_1) →
         ((verOf vs_3 u_2) = n) →
         ((Option.some (Ob.gh [AV.rf 0 0, AV.mp 1, AV.mp 2, AV.mp 3])) = (Option.some (Ob.gh [AV.rf 0 0, AV.mp (0 + 1), AV.mp ((0 + 1) + 1), AV.mp (((0 + 1) + 1) + 1)]))) ∧
         bcase ((Out.e r) == (0 : Int)) (
          bcase ((Out.e r_1) == (0 : Int)) (
           ((List.length (itsD l_1)) ≤ LIM) →
           q (mkB (((List.length (itsD l_1)) : Int) == (6 : Int)))) (
           q (mkB false))) (
          q (mkB false)))))))))) := by kernel_rfl
def inB (c : BA) (l : List BA) : Bool := l.any fun x => decide (x = c)
def Pf (i : Nat) : List BA := (u8.drop 1).take (min (i - 1) 6)
theorem seven {i : Nat} (h1 : 1 ≤ i) (h2 : i < 8) : i = 1 ∨ i = 2 ∨ i = 3 ∨ i = 4 ∨ i = 5 ∨ i = 6 ∨ i = 7 := by omega
structure InvF (i : Nat) (nm : Nms) : Prop where
  lo : 1 ≤ i
  hi : i ≤ 8
  un : uniq nm
  is : ∀ c, isC nm nAnn c = inB c (Pf i)
def wX : BA := ⟨#[120]⟩
theorem full_may {i : Nat} {nm : Nms} (h : InvF i nm) (hlt : i < 8) (sd : Sds) : mayM u8 sd nm nAnn (u8.getD i ⟨#[]⟩) true true = if i = 7 then 9 else 0 := by
  have hlen : (itemsM u8 sd nm nAnn).length = (u8.filter fun c => inB c (Pf i)).length := by
    rw [items_len]; congr 2; funext c; exact h.is c
  unfold mayM
  rw [hlen, h.is]
  rcases seven h.lo hlt with rfl | rfl | rfl | rfl | rfl | rfl | rfl <;> decide
theorem full_next {i : Nat} {nm : Nms} (h : InvF i nm) (hlt : i < 7) (x : BA) : InvF (i + 1) (aset (nAnn, u8.getD i ⟨#[]⟩) x nm) := by
  refine ⟨by omega, by omega, uniq_set _ _ _ h.un, fun c => ?_⟩
  rw [isC_set, h.is c]
  have e : Pf (i + 1) = Pf i ++ [u8.getD i ⟨#[]⟩] := by
    have := h.lo
    have : i = 1 ∨ i = 2 ∨ i = 3 ∨ i = 4 ∨ i = 5 ∨ i = 6 := by omega
    rcases this with rfl | rfl | rfl | rfl | rfl | rfl <;> rfl
  rw [e]
  unfold inB
  rw [List.any_append]
  by_cases hc : c = u8.getD i ⟨#[]⟩
  · subst hc; simp
  · have : ¬ (nAnn, c) = (nAnn, u8.getD i ⟨#[]⟩) := fun e => hc (by injection e)
    have h2 : ¬ u8.getD i ⟨#[]⟩ = c := fun e => hc e.symm
    rw [if_neg this, List.any_cons, List.any_nil, decide_eq_false h2]
    simp
theorem full_same {nm : Nms} (h : InvF 7 nm) : InvF 8 nm := ⟨by omega, by omega, h.un, fun c => by rw [h.is c]; rfl⟩
theorem fine_x : fineM wX = true := by kernel_rfl
theorem full_name {i : Nat} {nm : Nms} (h : InvF i nm) (hlt : i < 8) (sd : Sds) (vs : Vss) {r : Out} (hr : nameO u8 sd nm vs nAnn (u8.getD i ⟨#[]⟩) wX = r) : (r.e = if i = 7 then 9 else 0) ∧ InvF (i + 1) r.nm := by
  subst hr
  unfold nameO
  rw [fine_x, full_may h hlt sd]
  by_cases e : i = 7
  · subst e
    simp only [if_true]
    exact ⟨rfl, full_same h⟩
  · simp only [e, if_false, if_true]
    exact ⟨rfl, full_next h (by omega) _⟩
theorem full_act {i : Nat} {nm : Nms} (h : InvF i nm) (hlt : i < 8) (sd : Sds) (vs : Vss) {r : Out} (hr : actO u8 sd nm vs nAnn (u8.getD i ⟨#[]⟩) 1 = r) : (r.e = if i = 7 then 9 else 0) ∧ InvF (i + 1) r.nm := by
  subst hr
  unfold actO
  have e1 : fineA 1 = true := by decide
  have e2 : ((1 : Int) == 1) = true := by decide
  rw [e1, e2, full_may h hlt sd]
  by_cases e : i = 7
  · subst e
    simp only [if_true]
    exact ⟨rfl, full_same h⟩
  · simp only [e, if_false, if_true]
    refine ⟨rfl, ?_⟩
    have hn : isC nm nAnn (u8.getD i ⟨#[]⟩) = false := by
      rw [h.is]
      rcases seven h.lo hlt with rfl | rfl | rfl | rfl | rfl | rfl | rfl <;> decide
    show InvF (i + 1) (actNm nm nAnn (u8.getD i ⟨#[]⟩) 1)
    unfold actNm
    rw [if_pos ⟨rfl, hn⟩]
    exact full_next h (by omega) _
theorem modK_rng {n : Int} (h : 0 < n ∧ n ≤ 1000) (g : Int) : 0 ≤ IntKind.wrap .i64 (Int.tmod (IntKind.wrap .u64 g) n) ∧ IntKind.wrap .i64 (Int.tmod (IntKind.wrap .u64 g) n) < n := by
  have h0 : 0 ≤ IntKind.wrap .u64 g := by rw [IntKind.wrap_u64]; omega
  generalize IntKind.wrap .u64 g = m at h0
  have h1 := Int.tmod_nonneg n h0
  have h2 := Int.tmod_lt_of_pos m (b := n) (by omega)
  rw [IntWalk.i64_in _ (by omega)]
  omega
theorem modK_nat {n : Nat} (h : 0 < n ∧ n ≤ 1000) (g : Int) : ∃ m : Nat, m < n ∧ IntKind.wrap .i64 (Int.tmod (IntKind.wrap .u64 g) (n : Int)) = (m : Int) := by
  obtain ⟨h1, h2⟩ := modK_rng (n := (n : Int)) (by omega) g
  exact ⟨(IntKind.wrap .i64 (Int.tmod (IntKind.wrap .u64 g) (n : Int))).toNat, by omega, by omega⟩
theorem full_end {nm : Nms} (h : InvF 8 nm) {m : Nat} (hm : m < 6) (sd : Sds) (vs : Vss) {r r1 : Out} (hr : remO u8 sd nm vs nAnn (u8.getD (1 + m) ⟨#[]⟩) = r) (hr1 : nameO u8 r.sd r.nm r.vs nAnn nHal wX = r1) : r.e = 0 ∧ r1.e = 0 ∧ (itemsM u8 r1.sd r1.nm nAnn).length = 6 := by
  have six : m = 0 ∨ m = 1 ∨ m = 2 ∨ m = 3 ∨ m = 4 ∨ m = 5 := by omega
  have hc : isC nm nAnn (u8.getD (1 + m) ⟨#[]⟩) = true := by
    rw [h.is]
    rcases six with rfl | rfl | rfl | rfl | rfl | rfl <;> decide
  have er : r.e = 0 ∧ r.nm = adel (nAnn, u8.getD (1 + m) ⟨#[]⟩) nm := by
    subst hr; unfold remO; rw [if_pos hc]; exact ⟨rfl, rfl⟩
  have is1 : ∀ c, isC r.nm nAnn c = if c = u8.getD (1 + m) ⟨#[]⟩ then false else inB c (Pf 8) := fun c => by
    rw [er.2, isC_del h.un, h.is c]
    by_cases e : c = u8.getD (1 + m) ⟨#[]⟩
    · subst e; simp
    · rw [if_neg (fun e2 => e (by injection e2)), if_neg e]
  have hlen : ∀ sd', (itemsM u8 sd' r.nm nAnn).length = (u8.filter fun c => if c = u8.getD (1 + m) ⟨#[]⟩ then false else inB c (Pf 8)).length := fun sd' => by
    rw [items_len]; congr 2; funext c; exact is1 c
  have hmay : mayM u8 r.sd r.nm nAnn nHal (fineM wX) true = 0 := by
    unfold mayM
    rw [fine_x, hlen, is1]
    rcases six with rfl | rfl | rfl | rfl | rfl | rfl <;> decide
  have e1 : r1 = turnO u8 r.sd r.nm r.vs nAnn nHal r.sd (aset (nAnn, nHal) wX r.nm) [] := by
    rw [← hr1]; unfold nameO; rw [if_pos hmay]
  refine ⟨er.1, by rw [e1]; rfl, ?_⟩
  have en : r1.nm = aset (nAnn, nHal) wX r.nm := by rw [e1]; rfl
  have : (isC r1.nm nAnn) = fun c => if c = nHal then true else if c = u8.getD (1 + m) ⟨#[]⟩ then false else inB c (Pf 8) := by
    funext c
    rw [en, isC_set, is1]
    by_cases e : c = nHal
    · subst e; simp
    · rw [if_neg (fun e2 => e (by injection e2)), if_neg e]
  rw [items_len, this]
  rcases six with rfl | rfl | rfl | rfl | rfl | rfl <;> decide
end Go.Proofs.YtldcalmoboeeiaaDoor
