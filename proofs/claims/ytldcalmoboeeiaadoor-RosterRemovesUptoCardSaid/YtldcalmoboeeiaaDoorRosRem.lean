import Derived.Test.YtldcalmoboeeiaaDoorRosLaw1
import Derived.Test.YtldcalmoboeeiaaDoorFrame4
set_option linter.unusedSimpArgs false
set_option linter.unusedVariables false
namespace Go.Proofs.YtldcalmoboeeiaaDoor
open Go Go.AM Go.RowKit
attribute [local irreducible] aCode aUnr aUnS aOut
theorem good_does {us : List BA} (hn : us.Nodup) {sd : Sds} {nm : Nms} (g : Good us sd nm) (vs : Vss) (ul : List BA) (k a b c : Int) (x : BA) : Good us (doesO us sd nm vs ul k a b c x).sd (doesO us sd nm vs ul k a b c x).nm := by
  unfold doesO
  split
  · exact good_name hn g vs _ _ _
  · split
    · exact good_actO hn g vs _ _ _
    · exact good_rem g vs _ _
def opD (o : Op) : List D := [.v (.int .i64 o.k), .v (.int .i64 o.a), .v (.int .i64 o.b), .v (.int .i64 o.c), .v (.string o.x)]
def opsD (l : List Op) : List (List D) := l.map opD
def unOp (c : List D) : Op := ⟨intD (c.getD 0 d0), intD (c.getD 1 d0), intD (c.getD 2 d0), intD (c.getD 3 d0), strD (c.getD 4 d0)⟩
def unOps (es : List (List D)) : List Op := es.map unOp
theorem opsD_getD (l : List Op) (n : Nat) (h : n < l.length) : (opsD l).getD n [] = opD l[n] := by
  simp [opsD, List.getD_eq_getElem?_getD, h]
theorem opsD_len (l : List Op) : (opsD l).length = l.length := by simp [opsD]
theorem unOps_ops (l : List Op) : unOps (opsD l) = l := by
  unfold unOps opsD
  rw [List.map_map]
  exact (List.map_congr_left fun x _ => rfl).trans (List.map_id l)
theorem rEarly (l : List Op) (q : AV → Prop) :
  (aCode Tryd.K [] Tryd.b14 (kRet Tryd.K Tryd.f14.results.toList q) ⟨[.d (.sl (opsD l))] ++ List.replicate (Tryd.f14.ntmps - 1) .jk, []⟩) = (
  ((List.length (opsD l)) ≤ LIM) →
  (IntKind.i64 = IntKind.i64) ∧
  (((0 : Int) ≤ (if (80 : Int) < ((List.length (opsD l)) : Int) then (80 : Int) else ((List.length (opsD l)) : Int))) ∧ ((if (80 : Int) < ((List.length (opsD l)) : Int) then (80 : Int) else ((List.length (opsD l)) : Int)) ≤ ((List.length (opsD l)) : Int))) ∧
  q (AV.d (D.sl (List.take (Int.toNat (if (80 : Int) < ((List.length (opsD l)) : Int) then (80 : Int) else ((List.length (opsD l)) : Int))) (opsD l))))) := by kernel_rfl
noncomputable def rSame_k0 (q : AV → Prop) : Kont := kBlk (0 : Nat) (kSeq (aCode Tryd.K [] (cAt [1, 1, 1] Tryd.b17) (kRet Tryd.K (Array.toList (Func.results Tryd.f17)) q)) (kRet Tryd.K (Array.toList (Func.results Tryd.f17)) q))
theorem rSame (a b : List It) (q : AV → Prop) :
  (aCode Tryd.K [] Tryd.b17 (kRet Tryd.K Tryd.f17.results.toList q) ⟨[.d (.sl (itsD a)), .d (.sl (itsD b))] ++ List.replicate (Tryd.f17.ntmps - 2) .jk, []⟩) = (
  ((List.length (itsD a)) ≤ LIM) →
  ((List.length (itsD b)) ≤ LIM) →
  bcase (((List.length (itsD a)) : Int) != ((List.length (itsD b)) : Int)) (
   q (mkB false)) (
   ALoop (aCode Tryd.K [] (cAt [1, 1, 0, 1, 0, 0] Tryd.b17)) (rSame_k0 q) ⟨[AV.d (D.sl (itsD a)), AV.d (D.sl (itsD b)), AV.jk, AV.jk, mkB false, mkI IntKind.i64 (0 : Int), AV.d (D.sl (itsD a)), mkI IntKind.i64 ((List.length (itsD a)) : Int), AV.d (D.sl (itsD b)), mkI IntKind.i64 ((List.length (itsD b)) : Int), mkB false, AV.jk, AV.jk, AV.jk, AV.jk, AV.jk, AV.jk, AV.jk, AV.jk, AV.jk, AV.jk, AV.jk, AV.jk, AV.jk, AV.jk, AV.jk], []⟩)) := by kernel_rfl
def FEarly : List AV → Option (Prop × AV) := fun al => match al with
  | [.d (.sl es)] => some (es = opsD (unOps es), .d (.sl (opsD ((unOps es).take 80))))
  | _ => none
noncomputable abbrev GRm : List (FuncId × En) := [(12, .ref (frameX ELives)), (13, .ref (frameX EBegin5)), (14, .det FEarly), (16, .ref (frameX EDoes)), (22, .ref (frameX ERemO)), (15, .ref (frameX EItemsQ)), (23, .ref (frameX ESideQ)), (17, .det FEq)]
noncomputable def rRm_k0 (q : AV → Prop) : Kont := kBlk (0 : Nat) (kSeq (aCode Tryd.K GRm (cAt [1, 1, 1, 1, 1] Tryd.b5) (kRet Tryd.K (Array.toList (Func.results Tryd.f5)) q)) (kRet Tryd.K (Array.toList (Func.results Tryd.f5)) q))
theorem rRm (l : List Op) (a c : Int) (q : AV → Prop) :
  (aCode Tryd.K GRm Tryd.b5 (kRet Tryd.K Tryd.f5.results.toList q) ⟨[.d (.sl (opsD l)), mkI .i64 a, mkI .i64 c] ++ List.replicate (Tryd.f5.ntmps - 3) .jk, []⟩) = (
  (([] : List AV) = []) ∧
  ([Ob.gh []] = [Ob.gh []]) ∧
  ((Option.some (Ob.gh [])) = (Option.some (Ob.gh []))) ∧
  ([mkI IntKind.i64 (5 : Int)] = [mkI IntKind.i64 (5 : Int)]) ∧
  ([Ob.gh []] = [Ob.gh []]) ∧
  ((Option.some (Ob.gh [])) = (Option.some (Ob.gh []))) ∧
  ((opsD l) = (opsD (unOps (opsD l)))) ∧
  ALoop (aCode Tryd.K GRm (cAt [1, 1, 1, 1, 0, 1, 0, 0] Tryd.b5)) (rRm_k0 q) ⟨[AV.d (D.sl (opsD (List.take (80 : Nat) (unOps (opsD l))))), mkI IntKind.i64 a, mkI IntKind.i64 c, AV.jk, AV.jk, AV.jk, mkB false, AV.rf (if 14 < 0 then 0 else 3 + (14 - 0)) 0, AV.d (D.sl (strsD u5)), mkI IntKind.i64 (0 : Int), AV.jk, AV.jk, AV.jk, AV.jk, AV.jk, AV.jk, AV.jk, AV.jk, AV.jk, AV.jk, AV.jk, AV.jk, AV.jk, AV.jk, mkB true, mkB false, AV.tp [AV.rf (if 14 < 0 then 0 else 3 + (14 - 0)) 0, AV.d (D.sl (strsD u5))], AV.tp [AV.rf (if 14 < 0 then 0 else 3 + (14 - 0)) 0, AV.d (D.sl (strsD u5))], AV.rf (if 14 < 0 then 0 else 3 + (14 - 0)) 0, AV.d (D.sl (strsD u5)), AV.d (D.sl (opsD l)), AV.d (D.sl (opsD (List.take (80 : Nat) (unOps (opsD l))))), AV.jk, AV.jk, AV.jk, AV.jk, AV.jk, AV.jk, AV.jk, AV.jk, AV.jk, AV.jk, AV.jk, AV.jk, AV.jk, AV.jk, AV.jk, AV.jk, AV.jk, AV.jk, AV.jk, AV.jk, AV.jk, AV.jk, AV.jk, AV.jk, AV.jk, AV.jk, AV.jk, AV.jk, AV.jk, AV.jk, AV.jk, AV.jk, AV.jk, AV.jk, AV.jk, AV.jk, AV.jk, AV.jk, AV.jk, AV.jk, AV.jk, AV.jk, AV.jk, AV.jk, AV.jk, AV.jk, AV.jk, AV.jk, AV.jk, AV.jk, AV.jk, AV.jk, AV.jk, AV.jk, AV.jk, AV.jk, AV.jk, AV.jk, AV.jk, AV.jk, AV.jk, AV.jk, AV.jk, AV.jk, AV.jk, AV.jk, AV.jk, AV.jk, AV.jk, AV.jk, AV.jk, AV.jk, AV.jk, AV.jk, AV.jk, AV.jk, AV.jk, AV.jk, AV.jk, AV.jk, AV.jk, AV.jk, AV.jk, AV.jk, AV.jk, AV.jk, AV.jk, AV.jk, AV.jk, AV.jk, AV.jk, AV.jk, AV.jk, AV.jk, AV.jk, AV.jk, AV.jk, AV.jk, AV.jk, AV.jk, AV.jk, AV.jk, AV.jk, AV.jk, AV.jk, AV.jk], [Ob.gone, Ob.gone, Ob.gone, Ob.gone, Ob.gone, Ob.gone, Ob.gone, Ob.gone, Ob.gone, Ob.gone, Ob.gone, Ob.gone, Ob.gone, Ob.gone, Ob.map (KK.ystrs 2) [], Ob.map (KK.ystrs 2) [], Ob.map KK.ystr [(Key.s (⟨#[(97 : UInt8), (110 : UInt8), (110 : UInt8)]⟩ : ByteArray), mkI IntKind.i64 (1 : Int)), (Key.s (⟨#[(98 : UInt8), (111 : UInt8), (98 : UInt8)]⟩ : ByteArray), mkI IntKind.i64 (1 : Int)), (Key.s (⟨#[(99 : UInt8), (121 : UInt8)]⟩ : ByteArray), mkI IntKind.i64 (1 : Int)), (Key.s (⟨#[(100 : UInt8), (101 : UInt8), (101 : UInt8)]⟩ : ByteArray), mkI IntKind.i64 (1 : Int)), (Key.s (⟨#[(101 : UInt8), (118 : UInt8), (101 : UInt8)]⟩ : ByteArray), mkI IntKind.i64 (1 : Int))], Ob.box [AV.d (D.sl (strsD u5)), AV.mp (if 11 < 0 then 0 else 3 + (11 - 0)), AV.mp (if 12 < 0 then 0 else 3 + (12 - 0)), AV.mp (if 13 < 0 then 0 else 3 + (13 - 0))]]⟩) := by kernel_rfl
def stSm (a b : List It) (i : Int) : S := ⟨[.d (.sl (itsD a)), .d (.sl (itsD b)), .jk, .jk, mkB false, mkI .i64 i] ++ jks 20, []⟩
theorem rSame_b {ι : Type} (st : ι → S) (inv : ι → Prop) (μ : ι → Nat) (k : ι) (a b : List It) (i : Int) (q : AV → Prop) :
  (aCode Tryd.K [] (cAt [1, 1, 0, 1, 0, 0] Tryd.b17) (kFamM [] (maskOf (stSm a b i)) st inv μ k (rSame_k0 q)) (stSm a b i)) = (
  ((List.length (itsD a)) ≤ LIM) →
  bcase (decide (i < ((List.length (itsD a)) : Int))) (
   (((0 : Int) ≤ i) ∧ (i < ((List.length (itsD a)) : Int))) ∧
   ((List.length (List.getD (itsD a) (Int.toNat i) [])) = 4) ∧
   (4 ≤ (List.length (List.getD (itsD a) (Int.toNat i) []))) ∧
   (((List.getD (List.getD (itsD a) (Int.toNat i) []) (0 : Nat) d0) = (D.v (Value.string (strD (List.getD (List.getD (itsD a) (Int.toNat i) []) (0 : Nat) d0))))) ∧ (((List.getD (List.drop (1 : Nat) (List.getD (itsD a) (Int.toNat i) [])) (0 : Nat) d0) = (D.v (Value.string (strD (List.getD (List.drop (1 : Nat) (List.getD (itsD a) (Int.toNat i) [])) (0 : Nat) d0))))) ∧ (((List.getD (List.drop (1 : Nat) (List.drop (1 : Nat) (List.getD (itsD a) (Int.toNat i) []))) (0 : Nat) d0) = (D.v (Value.int IntKind.i64 (intD (List.getD (List.drop (1 : Nat) (List.drop (1 : Nat) (List.getD (itsD a) (Int.toNat i) []))) (0 : Nat) d0))))) ∧ (((List.getD (List.drop (1 : Nat) (List.drop (1 : Nat) (List.drop (1 : Nat) (List.getD (itsD a) (Int.toNat i) [])))) (0 : Nat) d0) = (D.v (Value.bool (boolD (List.getD (List.drop (1 : Nat) (List.drop (1 : Nat) (List.drop (1 : Nat) (List.getD (itsD a) (Int.toNat i) [])))) (0 : Nat) d0))))) ∧ True)))) ∧
   (((0 : Int) ≤ i) ∧ (i < ((List.length (itsD b)) : Int))) ∧
   ((List.length (List.getD (itsD b) (Int.toNat i) [])) = 4) ∧
   (4 ≤ (List.length (List.getD (itsD b) (Int.toNat i) []))) ∧
   (((List.getD (List.getD (itsD b) (Int.toNat i) []) (0 : Nat) d0) = (D.v (Value.string (strD (List.getD (List.getD (itsD b) (Int.toNat i) []) (0 : Nat) d0))))) ∧ (((List.getD (List.drop (1 : Nat) (List.getD (itsD b) (Int.toNat i) [])) (0 : Nat) d0) = (D.v (Value.string (strD (List.getD (List.drop (1 : Nat) (List.getD (itsD b) (Int.toNat i) [])) (0 : Nat) d0))))) ∧ (((List.getD (List.drop (1 : Nat) (List.drop (1 : Nat) (List.getD (itsD b) (Int.toNat i) []))) (0 : Nat) d0) = (D.v (Value.int IntKind.i64 (intD (List.getD (List.drop (1 : Nat) (List.drop (1 : Nat) (List.getD (itsD b) (Int.toNat i) []))) (0 : Nat) d0))))) ∧ (((List.getD (List.drop (1 : Nat) (List.drop (1 : Nat) (List.drop (1 : Nat) (List.getD (itsD b) (Int.toNat i) [])))) (0 : Nat) d0) = (D.v (Value.bool (boolD (List.getD (List.drop (1 : Nat) (List.drop (1 : Nat) (List.drop (1 : Nat) (List.getD (itsD b) (Int.toNat i) [])))) (0 : Nat) d0))))) ∧ True)))) ∧
   bcase (!(Bool.and (decide ((strD (List.getD (List.getD (itsD a) (Int.toNat i) []) (0 : Nat) d0)) = (strD (List.getD (List.getD (itsD b) (Int.toNat i) []) (0 : Nat) d0)))) (Bool.and (decide ((strD (List.getD (List.drop (1 : Nat) (List.getD (itsD a) (Int.toNat i) [])) (0 : Nat) d0)) = (strD (List.getD (List.drop (1 : Nat) (List.getD (itsD b) (Int.toNat i) [])) (0 : Nat) d0)))) (Bool.and ((intD (List.getD (List.drop (1 : Nat) (List.drop (1 : Nat) (List.getD (itsD a) (Int.toNat i) []))) (0 : Nat) d0)) == (intD (List.getD (List.drop (1 : Nat) (List.drop (1 : Nat) (List.getD (itsD b) (Int.toNat i) []))) (0 : Nat) d0))) (Bool.and ((boolD (List.getD (List.drop (1 : Nat) (List.drop (1 : Nat) (List.drop (1 : Nat) (List.getD (itsD a) (Int.toNat i) [])))) (0 : Nat) d0)) == (boolD (List.getD (List.drop (1 : Nat) (List.drop (1 : Nat) (List.drop (1 : Nat) (List.getD (itsD b) (Int.toNat i) [])))) (0 : Nat) d0))) true))))) (
    q (mkB false)) (
    FamNext st inv μ k ⟨[AV.d (D.sl (itsD a)), AV.d (D.sl (itsD b)), AV.jk, AV.jk, mkB false, mkI IntKind.i64 (IntKind.wrap IntKind.i64 (i + (1 : Int))), AV.jk, AV.jk, AV.jk, AV.jk, AV.jk, AV.jk, AV.jk, AV.jk, AV.jk, AV.jk, AV.jk, AV.jk, AV.jk, AV.jk, AV.jk, AV.jk, AV.jk, AV.jk, AV.jk, AV.jk], []⟩)) (
   q (mkB true))) := by kernel_rfl
def stRm (l : List Op) (a c i : Int) (sd : Sds) (nm : Nms) (vs : Vss) : S := ⟨[.d (.sl (opsD l)), mkI .i64 a, mkI .i64 c, .jk, .jk, .jk, mkB false, .rf 17 0, mkSS u5, mkI .i64 i] ++ jks 128, lawO u5 sd nm vs⟩
noncomputable def rRm_b_k0 (q : AV → Prop) : Kont := kBlk (2 : Nat) (kSeq (aCode Tryd.K GRm (cAt [1, 1, 1, 1, 1, 1, 1, 1, 1, 1, 1] Tryd.b5) (kRet Tryd.K (Array.toList (Func.results Tryd.f5)) q)) (kRet Tryd.K (Array.toList (Func.results Tryd.f5)) q))
theorem rRm_b {ι : Type} (st : ι → S) (inv : ι → Prop) (μ : ι → Nat) (k : ι) (l : List Op) (a c i : Int) (sd : Sds) (nm : Nms) (vs : Vss) (q : AV → Prop) :
  (aCode Tryd.K GRm (cAt [1, 1, 1, 1, 0, 1, 0, 0] Tryd.b5) (kFamM [] (maskOf (stRm l a c i sd nm vs)) st inv μ k (rRm_k0 q)) (stRm l a c i sd nm vs)) = (
  ((List.length (opsD l)) ≤ LIM) →
  bcase (decide (i < ((List.length (opsD l)) : Int))) (
   (((0 : Int) ≤ i) ∧ (i < ((List.length (opsD l)) : Int))) ∧
   ((List.length (List.getD (opsD l) (Int.toNat i) [])) = 5) ∧
   (5 ≤ (List.length (List.getD (opsD l) (Int.toNat i) []))) ∧
   (((List.getD (List.getD (opsD l) (Int.toNat i) []) (0 : Nat) d0) = (D.v (Value.int IntKind.i64 (intD (List.getD (List.getD (opsD l) (Int.toNat i) []) (0 : Nat) d0))))) ∧ (((List.getD (List.drop (1 : Nat) (List.getD (opsD l) (Int.toNat i) [])) (0 : Nat) d0) = (D.v (Value.int IntKind.i64 (intD (List.getD (List.drop (1 : Nat) (List.getD (opsD l) (Int.toNat i) [])) (0 : Nat) d0))))) ∧ (((List.getD (List.drop (1 : Nat) (List.drop (1 : Nat) (List.getD (opsD l) (Int.toNat i) []))) (0 : Nat) d0) = (D.v (Value.int IntKind.i64 (intD (List.getD (List.drop (1 : Nat) (List.drop (1 : Nat) (List.getD (opsD l) (Int.toNat i) []))) (0 : Nat) d0))))) ∧ (((List.getD (List.drop (1 : Nat) (List.drop (1 : Nat) (List.drop (1 : Nat) (List.getD (opsD l) (Int.toNat i) [])))) (0 : Nat) d0) = (D.v (Value.int IntKind.i64 (intD (List.getD (List.drop (1 : Nat) (List.drop (1 : Nat) (List.drop (1 : Nat) (List.getD (opsD l) (Int.toNat i) [])))) (0 : Nat) d0))))) ∧ (((List.getD (List.drop (1 : Nat) (List.drop (1 : Nat) (List.drop (1 : Nat) (List.drop (1 : Nat) (List.getD (opsD l) (Int.toNat i) []))))) (0 : Nat) d0) = (D.v (Value.string (strD (List.getD (List.drop (1 : Nat) (List.drop (1 : Nat) (List.drop (1 : Nat) (List.drop (1 : Nat) (List.getD (opsD l) (Int.toNat i) []))))) (0 : Nat) d0))))) ∧ True))))) ∧ (
    ∃ (us : List BA),
    ∃ (sd_1 : Sds),
    ∃ (nm_1 : Nms),
    ∃ (vs_1 : Vss),
    ∃ (ul : List ByteArray),
    ∃ (k_1 : Int),
    ∃ (a_1 : Int),
    ∃ (b : Int),
    ∃ (c_1 : Int),
    ∃ (x : ByteArray),
    ([AV.rf 0 0, AV.d (D.sl (strsD u5)), AV.ag [mkI IntKind.i64 (intD (List.getD (List.getD (opsD l) (Int.toNat i) []) (0 : Nat) d0)), mkI IntKind.i64 (intD (List.getD (List.drop (1 : Nat) (List.getD (opsD l) (Int.toNat i) [])) (0 : Nat) d0)), mkI IntKind.i64 (intD (List.getD (List.drop (1 : Nat) (List.drop (1 : Nat) (List.getD (opsD l) (Int.toNat i) []))) (0 : Nat) d0)), mkI IntKind.i64 (intD (List.getD (List.drop (1 : Nat) (List.drop (1 : Nat) (List.drop (1 : Nat) (List.getD (opsD l) (Int.toNat i) [])))) (0 : Nat) d0)), mkS (strD (List.getD (List.drop (1 : Nat) (List.drop (1 : Nat) (List.drop (1 : Nat) (List.drop (1 : Nat) (List.getD (opsD l) (Int.toNat i) []))))) (0 : Nat) d0))]] = [AV.rf 0 0, mkSS ul, AV.ag [mkI IntKind.i64 k_1, mkI IntKind.i64 a_1, mkI IntKind.i64 b, mkI IntKind.i64 c_1, mkS x]]) ∧
    ([Ob.box [AV.d (D.sl (strsD u5)), AV.mp (0 + 1), AV.mp ((0 + 1) + 1), AV.mp (((0 + 1) + 1) + 1)], Ob.map (KK.ystrs 2) (sdE sd), Ob.map (KK.ystrs 2) (nmE nm), Ob.map KK.ystr (vsE vs), Ob.gh [AV.rf 0 0, AV.mp (0 + 1), AV.mp ((0 + 1) + 1), AV.mp (((0 + 1) + 1) + 1)]] = [Ob.box [mkSS us, AV.mp 1, AV.mp 2, AV.mp 3], Ob.map (KK.ystrs 2) (sdE sd_1), Ob.map (KK.ystrs 2) (nmE nm_1), Ob.map KK.ystr (vsE vs_1), Ob.gh [AV.rf 0 0, AV.mp 1, AV.mp 2, AV.mp 3]]) ∧
    (((List.length ul) ≤ (1000 : Nat)) ∧ (∀ (s : ByteArray), (s ∈ ul) → (ByteArray.size s) ≤ (1000 : Nat))) ∧ (
     ∀ (r : Out),
     ((doesO us sd_1 nm_1 vs_1 ul k_1 a_1 b c_1 x) = r) →
     ((Option.some (Ob.gh [AV.rf 0 0, AV.mp 1, AV.mp 2, AV.mp 3])) = (Option.some (Ob.gh [AV.rf 0 0, AV.mp (0 + 1), AV.mp ((0 + 1) + 1), AV.mp (((0 + 1) + 1) + 1)]))) ∧
     FamNext st inv μ k ⟨[AV.d (D.sl (opsD l)), mkI IntKind.i64 a, mkI IntKind.i64 c, AV.jk, AV.jk, AV.jk, mkB false, AV.rf 17 0, AV.d (D.sl (strsD u5)), mkI IntKind.i64 (IntKind.wrap IntKind.i64 (i + (1 : Int))), AV.jk, AV.jk, AV.jk, AV.jk, AV.jk, AV.jk, AV.jk, AV.jk, AV.jk, AV.jk, AV.jk, AV.jk, AV.jk, AV.jk, AV.jk, AV.jk, AV.jk, AV.jk, AV.jk, AV.jk, AV.jk, AV.jk, AV.jk, AV.jk, AV.jk, AV.jk, AV.jk, AV.jk, AV.jk, AV.jk, AV.jk, AV.jk, AV.jk, AV.jk, AV.jk, AV.jk, AV.jk, AV.jk, AV.jk, AV.jk, AV.jk, AV.jk, AV.jk, AV.jk, AV.jk, AV.jk, AV.jk, AV.jk, AV.jk, AV.jk, AV.jk, AV.jk, AV.jk, AV.jk, AV.jk, AV.jk, AV.jk, AV.jk, AV.jk, AV.jk, AV.jk, AV.jk, AV.jk, AV.jk, AV.jk, AV.jk, AV.jk, AV.jk, AV.jk, AV.jk, AV.jk, AV.jk, AV.jk, AV.jk, AV.jk, AV.jk, AV.jk, AV.jk, AV.jk, AV.jk, AV.jk, AV.jk, AV.jk, AV.jk, AV.jk, AV.jk, AV.jk, AV.jk, AV.jk, AV.jk, AV.jk, AV.jk, AV.jk, AV.jk, AV.jk, AV.jk, AV.jk, AV.jk, AV.jk, AV.jk, AV.jk, AV.jk, AV.jk, AV.jk, AV.jk, AV.jk, AV.jk, AV.jk, AV.jk, AV.jk, AV.jk, AV.jk, AV.jk, AV.jk, AV.jk, AV.jk, AV.jk, AV.jk, AV.jk, AV.jk, AV.jk, AV.jk, AV.jk, AV.jk, AV.jk, AV.jk, AV.jk, AV.jk], [Ob.gone, Ob.gone, Ob.gone, Ob.gone, Ob.gone, Ob.gone, Ob.gone, Ob.gone, Ob.gone, Ob.gone, Ob.gone, Ob.gone, Ob.gone, Ob.gone, Ob.map (KK.ystrs 2) (sdE (Out.sd r)), Ob.map (KK.ystrs 2) (nmE (Out.nm r)), Ob.map KK.ystr (vsE (Out.vs r)), Ob.box [AV.d (D.sl (strsD us)), AV.mp (if 1 < 4 then 14 else 19 + (1 - 4)), AV.mp (if 2 < 4 then 15 else 19 + (2 - 4)), AV.mp (if 3 < 4 then 16 else 19 + (3 - 4))], Ob.gone, Ob.gone]⟩))) (
   (((5 : Int) = (0 : Int)) → False) ∧
   (((0 : Int) ≤ (IntKind.wrap IntKind.i64 (Int.tmod (IntKind.wrap IntKind.u64 a) (5 : Int)))) ∧ ((IntKind.wrap IntKind.i64 (Int.tmod (IntKind.wrap IntKind.u64 a) (5 : Int))) < (5 : Int))) ∧
   ((List.length (List.getD (strsD u5) (Int.toNat (IntKind.wrap IntKind.i64 (Int.tmod (IntKind.wrap IntKind.u64 a) (5 : Int)))) [])) = 1) ∧
   ((1 : Nat) ≤ (List.length (List.getD (strsD u5) (Int.toNat (IntKind.wrap IntKind.i64 (Int.tmod (IntKind.wrap IntKind.u64 a) (5 : Int)))) []))) ∧
   ((List.getD (List.getD (strsD u5) (Int.toNat (IntKind.wrap IntKind.i64 (Int.tmod (IntKind.wrap IntKind.u64 a) (5 : Int)))) []) (0 : Nat) d0) = (D.v (Value.string (strD (List.getD (List.getD (strsD u5) (Int.toNat (IntKind.wrap IntKind.i64 (Int.tmod (IntKind.wrap IntKind.u64 a) (5 : Int)))) []) (0 : Nat) d0))))) ∧
   (((5 : Int) = (0 : Int)) → False) ∧
   (((0 : Int) ≤ (IntKind.wrap IntKind.i64 (Int.tmod (IntKind.wrap IntKind.u64 c) (5 : Int)))) ∧ ((IntKind.wrap IntKind.i64 (Int.tmod (IntKind.wrap IntKind.u64 c) (5 : Int))) < (5 : Int))) ∧
   ((List.length (List.getD (strsD u5) (Int.toNat (IntKind.wrap IntKind.i64 (Int.tmod (IntKind.wrap IntKind.u64 c) (5 : Int)))) [])) = 1) ∧
   ((1 : Nat) ≤ (List.length (List.getD (strsD u5) (Int.toNat (IntKind.wrap IntKind.i64 (Int.tmod (IntKind.wrap IntKind.u64 c) (5 : Int)))) []))) ∧
   ((List.getD (List.getD (strsD u5) (Int.toNat (IntKind.wrap IntKind.i64 (Int.tmod (IntKind.wrap IntKind.u64 c) (5 : Int)))) []) (0 : Nat) d0) = (D.v (Value.string (strD (List.getD (List.getD (strsD u5) (Int.toNat (IntKind.wrap IntKind.i64 (Int.tmod (IntKind.wrap IntKind.u64 c) (5 : Int)))) []) (0 : Nat) d0))))) ∧ (
    ∃ (us : List BA),
    ∃ (sd_1 : Sds),
    ∃ (nm_1 : Nms),
    ∃ (vs_1 : Vss),
    ∃ (u : ByteArray),
    ([AV.rf 0 0, mkS (strD (List.getD (List.getD (strsD u5) (Int.toNat (IntKind.wrap IntKind.i64 (Int.tmod (IntKind.wrap IntKind.u64 a) (5 : Int)))) []) (0 : Nat) d0))] = [AV.rf 0 0, mkS u]) ∧
    ([Ob.box [AV.d (D.sl (strsD u5)), AV.mp (0 + 1), AV.mp ((0 + 1) + 1), AV.mp (((0 + 1) + 1) + 1)], Ob.map (KK.ystrs 2) (sdE sd), Ob.map (KK.ystrs 2) (nmE nm), Ob.map KK.ystr (vsE vs), Ob.gh [AV.rf 0 0, AV.mp (0 + 1), AV.mp ((0 + 1) + 1), AV.mp (((0 + 1) + 1) + 1)]] = [Ob.box [mkSS us, AV.mp 1, AV.mp 2, AV.mp 3], Ob.map (KK.ystrs 2) (sdE sd_1), Ob.map (KK.ystrs 2) (nmE nm_1), Ob.map KK.ystr (vsE vs_1), Ob.gh [AV.rf 0 0, AV.mp 1, AV.mp 2, AV.mp 3]]) ∧
    ((memB u us) = true) ∧ (
     ∀ (l_1 : List It),
     ∀ (n : Int),
     ((itemsM us sd_1 nm_1 u) = l_1) →
     ((verOf vs_1 u) = n) →
     ((Option.some (Ob.gh [AV.rf 0 0, AV.mp 1, AV.mp 2, AV.mp 3])) = (Option.some (Ob.gh [AV.rf 0 0, AV.mp (0 + 1), AV.mp ((0 + 1) + 1), AV.mp (((0 + 1) + 1) + 1)]))) ∧ (
      ∃ (us_1 : List BA),
      ∃ (sd_2 : Sds),
      ∃ (nm_2 : Nms),
      ∃ (vs_2 : Vss),
      ∃ (u_1 : ByteArray),
      ∃ (c_1 : ByteArray),
      ([AV.rf 0 0, mkS (strD (List.getD (List.getD (strsD u5) (Int.toNat (IntKind.wrap IntKind.i64 (Int.tmod (IntKind.wrap IntKind.u64 a) (5 : Int)))) []) (0 : Nat) d0)), mkS (strD (List.getD (List.getD (strsD u5) (Int.toNat (IntKind.wrap IntKind.i64 (Int.tmod (IntKind.wrap IntKind.u64 c) (5 : Int)))) []) (0 : Nat) d0))] = [AV.rf 0 0, mkS u_1, mkS c_1]) ∧
      ([Ob.box [AV.d (D.sl (strsD us)), AV.mp (0 + 1), AV.mp ((0 + 1) + 1), AV.mp (((0 + 1) + 1) + 1)], Ob.map (KK.ystrs 2) (sdE sd_1), Ob.map (KK.ystrs 2) (nmE nm_1), Ob.map KK.ystr (vsE vs_1), Ob.gh [AV.rf 0 0, AV.mp (0 + 1), AV.mp ((0 + 1) + 1), AV.mp (((0 + 1) + 1) + 1)]] = [Ob.box [mkSS us_1, AV.mp 1, AV.mp 2, AV.mp 3], Ob.map (KK.ystrs 2) (sdE sd_2), Ob.map (KK.ystrs 2) (nmE nm_2), Ob.map KK.ystr (vsE vs_2), Ob.gh [AV.rf 0 0, AV.mp 1, AV.mp 2, AV.mp 3]]) ∧ (
       ∀ (r : Out),
       ((remO us_1 sd_2 nm_2 vs_2 u_1 c_1) = r) →
       ((Option.some (Ob.gh [AV.rf 0 0, AV.mp 1, AV.mp 2, AV.mp 3])) = (Option.some (Ob.gh [AV.rf 0 0, AV.mp (0 + 1), AV.mp ((0 + 1) + 1), AV.mp (((0 + 1) + 1) + 1)]))) ∧ (
        ∃ (us_2 : List BA),
        ∃ (sd_3 : Sds),
        ∃ (nm_3 : Nms),
        ∃ (vs_3 : Vss),
        ∃ (u_2 : ByteArray),
        ([AV.rf 0 0, mkS (strD (List.getD (List.getD (strsD u5) (Int.toNat (IntKind.wrap IntKind.i64 (Int.tmod (IntKind.wrap IntKind.u64 a) (5 : Int)))) []) (0 : Nat) d0))] = [AV.rf 0 0, mkS u_2]) ∧
        ([Ob.box [AV.d (D.sl (strsD us_1)), AV.mp (0 + 1), AV.mp ((0 + 1) + 1), AV.mp (((0 + 1) + 1) + 1)], Ob.map (KK.ystrs 2) (sdE (Out.sd r)), Ob.map (KK.ystrs 2) (nmE (Out.nm r)), Ob.map KK.ystr (vsE (Out.vs r)), Ob.gh [AV.rf 0 0, AV.mp (0 + 1), AV.mp ((0 + 1) + 1), AV.mp (((0 + 1) + 1) + 1)]] = [Ob.box [mkSS us_2, AV.mp 1, AV.mp 2, AV.mp 3], Ob.map (KK.ystrs 2) (sdE sd_3), Ob.map (KK.ystrs 2) (nmE nm_3), Ob.map KK.ystr (vsE vs_3), Ob.gh [AV.rf 0 0, AV.mp 1, AV.mp 2, AV.mp 3]]) ∧
        ((memB u_2 us_2) = true) ∧ (
         ∀ (l_2 : List It),
         ∀ (n_1 : Int),
         ((itemsM us_2 sd_3 nm_3 u_2) = l_2) →
         ((verOf vs_3 u_2) = n_1) →
         ((Option.some (Ob.gh [AV.rf 0 0, AV.mp 1, AV.mp 2, AV.mp 3])) = (Option.some (Ob.gh [AV.rf 0 0, AV.mp (0 + 1), AV.mp ((0 + 1) + 1), AV.mp (((0 + 1) + 1) + 1)]))) ∧
         ALoop (aCode Tryd.K GRm (cAt [1, 1, 1, 1, 1, 1, 1, 1, 1, 1, 0, 1, 0, 0] Tryd.b5)) (rRm_b_k0 q) ⟨[AV.d (D.sl (opsD l)), mkI IntKind.i64 a, mkI IntKind.i64 c, AV.jk, AV.jk, AV.jk, mkB false, AV.rf 17 0, AV.d (D.sl (strsD u5)), mkI IntKind.i64 i, mkS (strD (List.getD (List.getD (strsD u5) (Int.toNat (IntKind.wrap IntKind.i64 (Int.tmod (IntKind.wrap IntKind.u64 a) (5 : Int)))) []) (0 : Nat) d0)), mkS (strD (List.getD (List.getD (strsD u5) (Int.toNat (IntKind.wrap IntKind.i64 (Int.tmod (IntKind.wrap IntKind.u64 c) (5 : Int)))) []) (0 : Nat) d0)), AV.d (D.sl (itsD l_1)), mkI IntKind.i64 n, mkI IntKind.i64 (0 : Int), AV.rf 22 0, mkI IntKind.i64 (Out.e r), AV.d (D.sl (itsD l_2)), mkI IntKind.i64 n_1, mkI IntKind.i64 (0 : Int), mkB false, mkI IntKind.i64 (0 : Int), AV.jk, AV.jk, AV.jk, AV.jk, AV.jk, AV.jk, AV.jk, AV.jk, AV.jk, AV.jk, mkI IntKind.i64 i, AV.d (D.sl (opsD l)), mkI IntKind.i64 ((List.length (opsD l)) : Int), mkB false, AV.jk, AV.jk, AV.jk, AV.jk, AV.jk, AV.jk, AV.jk, AV.jk, AV.jk, AV.d (D.sl (strsD u5)), mkI IntKind.i64 a, mkI IntKind.u64 (IntKind.wrap IntKind.u64 a), mkI IntKind.u64 (Int.tmod (IntKind.wrap IntKind.u64 a) (5 : Int)), mkI IntKind.i64 (IntKind.wrap IntKind.i64 (Int.tmod (IntKind.wrap IntKind.u64 a) (5 : Int))), AV.ep (List.getD (strsD u5) (Int.toNat (IntKind.wrap IntKind.i64 (Int.tmod (IntKind.wrap IntKind.u64 a) (5 : Int)))) []), mkS (strD (List.getD (List.getD (strsD u5) (Int.toNat (IntKind.wrap IntKind.i64 (Int.tmod (IntKind.wrap IntKind.u64 a) (5 : Int)))) []) (0 : Nat) d0)), AV.d (D.sl (strsD u5)), mkI IntKind.i64 c, mkI IntKind.u64 (IntKind.wrap IntKind.u64 c), mkI IntKind.u64 (Int.tmod (IntKind.wrap IntKind.u64 c) (5 : Int)), mkI IntKind.i64 (IntKind.wrap IntKind.i64 (Int.tmod (IntKind.wrap IntKind.u64 c) (5 : Int))), AV.ep (List.getD (strsD u5) (Int.toNat (IntKind.wrap IntKind.i64 (Int.tmod (IntKind.wrap IntKind.u64 c) (5 : Int)))) []), mkS (strD (List.getD (List.getD (strsD u5) (Int.toNat (IntKind.wrap IntKind.i64 (Int.tmod (IntKind.wrap IntKind.u64 c) (5 : Int)))) []) (0 : Nat) d0)), AV.tp [AV.d (D.sl (itsD l_1)), mkI IntKind.i64 n, mkI IntKind.i64 (0 : Int)], AV.rf 17 0, mkS (strD (List.getD (List.getD (strsD u5) (Int.toNat (IntKind.wrap IntKind.i64 (Int.tmod (IntKind.wrap IntKind.u64 a) (5 : Int)))) []) (0 : Nat) d0)), AV.tp [AV.d (D.sl (itsD l_1)), mkI IntKind.i64 n, mkI IntKind.i64 (0 : Int)], AV.d (D.sl (itsD l_1)), mkI IntKind.i64 n, mkI IntKind.i64 (0 : Int), AV.tp [AV.ag [AV.d (D.sl (strsD (Out.p r))), AV.d (D.sl (tdD (Out.t r)))], mkI IntKind.i64 (Out.e r)], AV.rf 17 0, mkS (strD (List.getD (List.getD (strsD u5) (Int.toNat (IntKind.wrap IntKind.i64 (Int.tmod (IntKind.wrap IntKind.u64 a) (5 : Int)))) []) (0 : Nat) d0)), mkS (strD (List.getD (List.getD (strsD u5) (Int.toNat (IntKind.wrap IntKind.i64 (Int.tmod (IntKind.wrap IntKind.u64 c) (5 : Int)))) []) (0 : Nat) d0)), AV.tp [AV.ag [AV.d (D.sl (strsD (Out.p r))), AV.d (D.sl (tdD (Out.t r)))], mkI IntKind.i64 (Out.e r)], AV.ag [AV.d (D.sl (strsD (Out.p r))), AV.d (D.sl (tdD (Out.t r)))], mkI IntKind.i64 (Out.e r), AV.tp [AV.d (D.sl (itsD l_2)), mkI IntKind.i64 n_1, mkI IntKind.i64 (0 : Int)], AV.rf 17 0, mkS (strD (List.getD (List.getD (strsD u5) (Int.toNat (IntKind.wrap IntKind.i64 (Int.tmod (IntKind.wrap IntKind.u64 a) (5 : Int)))) []) (0 : Nat) d0)), AV.tp [AV.d (D.sl (itsD l_2)), mkI IntKind.i64 n_1, mkI IntKind.i64 (0 : Int)], AV.d (D.sl (itsD l_2)), mkI IntKind.i64 n_1, mkI IntKind.i64 (0 : Int), AV.jk, AV.jk, AV.jk, AV.jk, AV.jk, AV.jk, AV.jk, AV.jk, AV.jk, AV.jk, AV.jk, AV.jk, AV.jk, AV.jk, AV.jk, AV.jk, AV.jk, AV.jk, AV.jk, AV.jk, AV.jk, AV.jk, AV.jk, AV.jk, AV.jk, AV.jk, AV.jk, AV.jk, AV.jk, AV.jk, AV.jk, AV.jk, AV.jk, AV.jk, AV.jk, AV.jk, AV.jk, AV.jk, AV.jk, AV.jk, AV.jk, AV.jk, AV.jk, AV.jk, AV.jk, AV.jk, AV.jk, AV.jk, AV.jk, AV.jk, AV.jk, AV.jk, AV.jk, AV.jk, AV.jk, AV.jk, AV.jk, AV.jk], [Ob.gone, Ob.gone, Ob.gone, Ob.gone, Ob.gone, Ob.gone, Ob.gone, Ob.gone, Ob.gone, Ob.gone, Ob.gone, Ob.gone, Ob.gone, Ob.gone, Ob.map (KK.ystrs 2) (sdE sd_3), Ob.map (KK.ystrs 2) (nmE nm_3), Ob.map KK.ystr (vsE vs_3), Ob.box [AV.d (D.sl (strsD us_2)), AV.mp (if 1 < 4 then 14 else 24 + (1 - 4)), AV.mp (if 2 < 4 then 15 else 24 + (2 - 4)), AV.mp (if 3 < 4 then 16 else 24 + (3 - 4))], Ob.gone, Ob.gone, Ob.gone, Ob.gone, Ob.box [AV.d (D.sl (strsD (Out.p r))), AV.d (D.sl (tdD (Out.t r)))], Ob.gone, Ob.gone]⟩)))))))) := by kernel_rfl
def stRi (x y : BA) (l1 l2 : List It) (e : Int) (b : Bool) (i : Int) (sd : Sds) (nm : Nms) (vs : Vss) : S := ⟨jks 6 ++ [mkB false, .rf 17 0, mkSS u5, .jk, mkS x, mkS y, .d (.sl (itsD l1)), .jk, .jk, .jk, mkI .i64 e, .d (.sl (itsD l2)), .jk, .jk, mkB b, mkI .i64 i] ++ jks 116, lawO u5 sd nm vs⟩
theorem rRi_b {ι : Type} (st : ι → S) (inv : ι → Prop) (μ : ι → Nat) (k : ι) (x y : BA) (l1 l2 : List It) (e : Int) (b : Bool) (i : Int) (sd : Sds) (nm : Nms) (vs : Vss) (q : AV → Prop) :
  (aCode Tryd.K GRm (cAt [1, 1, 1, 1, 1, 1, 1, 1, 1, 1, 0, 1, 0, 0] Tryd.b5) (kFamM [] (maskOf (stRi x y l1 l2 e b i sd nm vs)) st inv μ k (rRm_b_k0 q)) (stRi x y l1 l2 e b i sd nm vs)) = (
  ((List.length (itsD l1)) ≤ LIM) →
  bcase (decide (i < ((List.length (itsD l1)) : Int))) (
   bcase b (
    FamNext st inv μ k ⟨[AV.jk, AV.jk, AV.jk, AV.jk, AV.jk, AV.jk, mkB false, AV.rf 17 0, mkSS u5, AV.jk, mkS x, mkS y, AV.d (D.sl (itsD l1)), AV.jk, AV.jk, AV.jk, mkI IntKind.i64 e, AV.d (D.sl (itsD l2)), AV.jk, AV.jk, mkB true, mkI IntKind.i64 (IntKind.wrap IntKind.i64 (i + (1 : Int))), AV.jk, AV.jk, AV.jk, AV.jk, AV.jk, AV.jk, AV.jk, AV.jk, AV.jk, AV.jk, AV.jk, AV.jk, AV.jk, AV.jk, AV.jk, AV.jk, AV.jk, AV.jk, AV.jk, AV.jk, AV.jk, AV.jk, AV.jk, AV.jk, AV.jk, AV.jk, AV.jk, AV.jk, AV.jk, AV.jk, AV.jk, AV.jk, AV.jk, AV.jk, AV.jk, AV.jk, AV.jk, AV.jk, AV.jk, AV.jk, AV.jk, AV.jk, AV.jk, AV.jk, AV.jk, AV.jk, AV.jk, AV.jk, AV.jk, AV.jk, AV.jk, AV.jk, AV.jk, AV.jk, AV.jk, AV.jk, AV.jk, AV.jk, AV.jk, AV.jk, AV.jk, AV.jk, AV.jk, AV.jk, AV.jk, AV.jk, AV.jk, AV.jk, AV.jk, AV.jk, AV.jk, AV.jk, AV.jk, AV.jk, AV.jk, AV.jk, AV.jk, AV.jk, AV.jk, AV.jk, AV.jk, AV.jk, AV.jk, AV.jk, AV.jk, AV.jk, AV.jk, AV.jk, AV.jk, AV.jk, AV.jk, AV.jk, AV.jk, AV.jk, AV.jk, AV.jk, AV.jk, AV.jk, AV.jk, AV.jk, AV.jk, AV.jk, AV.jk, AV.jk, AV.jk, AV.jk, AV.jk, AV.jk, AV.jk, AV.jk, AV.jk, AV.jk, AV.jk, AV.jk, AV.jk, AV.jk], [Ob.gone, Ob.gone, Ob.gone, Ob.gone, Ob.gone, Ob.gone, Ob.gone, Ob.gone, Ob.gone, Ob.gone, Ob.gone, Ob.gone, Ob.gone, Ob.gone, Ob.map (KK.ystrs 2) (sdE sd), Ob.map (KK.ystrs 2) (nmE nm), Ob.map KK.ystr (vsE vs), Ob.box [mkSS u5, AV.mp 14, AV.mp 15, AV.mp 16]]⟩) (
    (((0 : Int) ≤ i) ∧ (i < ((List.length (itsD l1)) : Int))) ∧
    ((List.length (List.getD (itsD l1) (Int.toNat i) [])) = 4) ∧
    ((1 : Nat) ≤ (List.length (List.drop (0 : Nat) (List.getD (itsD l1) (Int.toNat i) [])))) ∧
    ((List.getD (List.drop (0 : Nat) (List.getD (itsD l1) (Int.toNat i) [])) (0 : Nat) d0) = (D.v (Value.string (strD (List.getD (List.drop (0 : Nat) (List.getD (itsD l1) (Int.toNat i) [])) (0 : Nat) d0))))) ∧
    FamNext st inv μ k ⟨[AV.jk, AV.jk, AV.jk, AV.jk, AV.jk, AV.jk, mkB false, AV.rf 17 0, mkSS u5, AV.jk, mkS x, mkS y, AV.d (D.sl (itsD l1)), AV.jk, AV.jk, AV.jk, mkI IntKind.i64 e, AV.d (D.sl (itsD l2)), AV.jk, AV.jk, mkB (decide ((strD (List.getD (List.drop (0 : Nat) (List.getD (itsD l1) (Int.toNat i) [])) (0 : Nat) d0)) = y)), mkI IntKind.i64 (IntKind.wrap IntKind.i64 (i + (1 : Int))), AV.jk, AV.jk, AV.jk, AV.jk, AV.jk, AV.jk, AV.jk, AV.jk, AV.jk, AV.jk, AV.jk, AV.jk, AV.jk, AV.jk, AV.jk, AV.jk, AV.jk, AV.jk, AV.jk, AV.jk, AV.jk, AV.jk, AV.jk, AV.jk, AV.jk, AV.jk, AV.jk, AV.jk, AV.jk, AV.jk, AV.jk, AV.jk, AV.jk, AV.jk, AV.jk, AV.jk, AV.jk, AV.jk, AV.jk, AV.jk, AV.jk, AV.jk, AV.jk, AV.jk, AV.jk, AV.jk, AV.jk, AV.jk, AV.jk, AV.jk, AV.jk, AV.jk, AV.jk, AV.jk, AV.jk, AV.jk, AV.jk, AV.jk, AV.jk, AV.jk, AV.jk, AV.jk, AV.jk, AV.jk, AV.jk, AV.jk, AV.jk, AV.jk, AV.jk, AV.jk, AV.jk, AV.jk, AV.jk, AV.jk, AV.jk, AV.jk, AV.jk, AV.jk, AV.jk, AV.jk, AV.jk, AV.jk, AV.jk, AV.jk, AV.jk, AV.jk, AV.jk, AV.jk, AV.jk, AV.jk, AV.jk, AV.jk, AV.jk, AV.jk, AV.jk, AV.jk, AV.jk, AV.jk, AV.jk, AV.jk, AV.jk, AV.jk, AV.jk, AV.jk, AV.jk, AV.jk, AV.jk, AV.jk, AV.jk, AV.jk, AV.jk, AV.jk, AV.jk, AV.jk, AV.jk, AV.jk], [Ob.gone, Ob.gone, Ob.gone, Ob.gone, Ob.gone, Ob.gone, Ob.gone, Ob.gone, Ob.gone, Ob.gone, Ob.gone, Ob.gone, Ob.gone, Ob.gone, Ob.map (KK.ystrs 2) (sdE sd), Ob.map (KK.ystrs 2) (nmE nm), Ob.map KK.ystr (vsE vs), Ob.box [mkSS u5, AV.mp 14, AV.mp 15, AV.mp 16]]⟩)) (
   bcase (!(b == (e == (0 : Int)))) (
    q (mkB false)) (
    bcase (!b) (
     (((itsD l1) = (itsD (unIts (itsD l1)))) ∧ ((itsD l2) = (itsD (unIts (itsD l2))))) ∧
     q (mkB (decide ((unIts (itsD l1)) = (unIts (itsD l2)))))) (
     ∃ (us : List BA),
     ∃ (sd_1 : Sds),
     ∃ (nm_1 : Nms),
     ∃ (vs_1 : Vss),
     ∃ (u : ByteArray),
     ∃ (c : ByteArray),
     ([AV.rf 0 0, mkS x, mkS y] = [AV.rf 0 0, mkS u, mkS c]) ∧
     ([Ob.box [AV.d (D.sl (strsD u5)), AV.mp (0 + 1), AV.mp ((0 + 1) + 1), AV.mp (((0 + 1) + 1) + 1)], Ob.map (KK.ystrs 2) (sdE sd), Ob.map (KK.ystrs 2) (nmE nm), Ob.map KK.ystr (vsE vs), Ob.gh [AV.rf 0 0, AV.mp (0 + 1), AV.mp ((0 + 1) + 1), AV.mp (((0 + 1) + 1) + 1)]] = [Ob.box [mkSS us, AV.mp 1, AV.mp 2, AV.mp 3], Ob.map (KK.ystrs 2) (sdE sd_1), Ob.map (KK.ystrs 2) (nmE nm_1), Ob.map KK.ystr (vsE vs_1), Ob.gh [AV.rf 0 0, AV.mp 1, AV.mp 2, AV.mp 3]]) ∧ (
      ∀ (r : Out),
      ((remO us sd_1 nm_1 vs_1 u c) = r) →
      ((Option.some (Ob.gh [AV.rf 0 0, AV.mp 1, AV.mp 2, AV.mp 3])) = (Option.some (Ob.gh [AV.rf 0 0, AV.mp (0 + 1), AV.mp ((0 + 1) + 1), AV.mp (((0 + 1) + 1) + 1)]))) ∧ (
       ((List.length (itsD l2)) ≤ LIM) →
       ((List.length (itsD l1)) ≤ LIM) →
       bcase (((List.length (itsD l2)) : Int) == (IntKind.wrap IntKind.i64 (((List.length (itsD l1)) : Int) - (1 : Int)))) (
        ∃ (us_1 : List BA),
        ∃ (sd_2 : Sds),
        ∃ (nm_2 : Nms),
        ∃ (vs_2 : Vss),
        ∃ (u_1 : ByteArray),
        ∃ (c_1 : ByteArray),
        ([AV.rf 0 0, mkS x, mkS y] = [AV.rf 0 0, mkS u_1, mkS c_1]) ∧
        ([Ob.box [AV.d (D.sl (strsD us)), AV.mp (0 + 1), AV.mp ((0 + 1) + 1), AV.mp (((0 + 1) + 1) + 1)], Ob.map (KK.ystrs 2) (sdE (Out.sd r)), Ob.map (KK.ystrs 2) (nmE (Out.nm r)), Ob.map KK.ystr (vsE (Out.vs r)), Ob.gh [AV.rf 0 0, AV.mp (0 + 1), AV.mp ((0 + 1) + 1), AV.mp (((0 + 1) + 1) + 1)]] = [Ob.box [mkSS us_1, AV.mp 1, AV.mp 2, AV.mp 3], Ob.map (KK.ystrs 2) (sdE sd_2), Ob.map (KK.ystrs 2) (nmE nm_2), Ob.map KK.ystr (vsE vs_2), Ob.gh [AV.rf 0 0, AV.mp 1, AV.mp 2, AV.mp 3]]) ∧ (
         ∀ (s : Sd),
         ((sideOf sd_2 u_1 c_1) = s) →
         ((Option.some (Ob.gh [AV.rf 0 0, AV.mp 1, AV.mp 2, AV.mp 3])) = (Option.some (Ob.gh [AV.rf 0 0, AV.mp (0 + 1), AV.mp ((0 + 1) + 1), AV.mp (((0 + 1) + 1) + 1)]))) ∧
         bcase (Bool.and ((Sd.sub s) == (0 : Int)) (Bool.and ((Sd.a s) == false) (Bool.and ((Sd.w s) == false) true))) (
          ∃ (us_2 : List BA),
          ∃ (sd_3 : Sds),
          ∃ (nm_3 : Nms),
          ∃ (vs_3 : Vss),
          ∃ (u_2 : ByteArray),
          ∃ (c_2 : ByteArray),
          ([AV.rf 0 0, mkS y, mkS x] = [AV.rf 0 0, mkS u_2, mkS c_2]) ∧
          ([Ob.box [AV.d (D.sl (strsD us_1)), AV.mp (0 + 1), AV.mp ((0 + 1) + 1), AV.mp (((0 + 1) + 1) + 1)], Ob.map (KK.ystrs 2) (sdE sd_2), Ob.map (KK.ystrs 2) (nmE nm_2), Ob.map KK.ystr (vsE vs_2), Ob.gh [AV.rf 0 0, AV.mp (0 + 1), AV.mp ((0 + 1) + 1), AV.mp (((0 + 1) + 1) + 1)]] = [Ob.box [mkSS us_2, AV.mp 1, AV.mp 2, AV.mp 3], Ob.map (KK.ystrs 2) (sdE sd_3), Ob.map (KK.ystrs 2) (nmE nm_3), Ob.map KK.ystr (vsE vs_3), Ob.gh [AV.rf 0 0, AV.mp 1, AV.mp 2, AV.mp 3]]) ∧ (
           ∀ (s_1 : Sd),
           ((sideOf sd_3 u_2 c_2) = s_1) →
           ((Option.some (Ob.gh [AV.rf 0 0, AV.mp 1, AV.mp 2, AV.mp 3])) = (Option.some (Ob.gh [AV.rf 0 0, AV.mp (0 + 1), AV.mp ((0 + 1) + 1), AV.mp (((0 + 1) + 1) + 1)]))) ∧
           bcase (Bool.and ((Sd.sub s_1) == (0 : Int)) (Bool.and ((Sd.a s_1) == false) (Bool.and ((Sd.w s_1) == false) true))) (
            q (mkB ((Out.e r) == (7 : Int)))) (
            q (mkB false)))) (
          q (mkB false)))) (
        q (mkB false)))))))) := by kernel_rfl
theorem rem_side {us : List BA} {sd : Sds} {nm : Nms} (g : Good us sd nm) {u c : BA} (h : u ≠ c) : sideOf (remSd sd u c) u c = Sd.zero ∧ sideOf (remSd sd u c) c u = Sd.zero := by
  have hz := rem_zero (sideOf sd u c).t (sideOf sd u c).f (sideOf sd u c).a (sideOf sd u c).w (sideOf sd c u).t (sideOf sd c u).f (sideOf sd c u).a (sideOf sd c u).w (g.right u c) (g.right c u) (g.fit u c)
  have n1 : ¬ (u, c) = (c, u) := fun e => h (by injection e)
  have n2 : ¬ (c, u) = (u, c) := fun e => h (by injection e)
  unfold remSd
  simp only [side_act h, n1, n2, if_true, if_false]
  exact hz
theorem filter_del1 {us : List BA} (hn : us.Nodup) (p : BA → Bool) {c : BA} (hc : inB c us = true) (hp : p c = true) : (us.filter fun x => if x = c then false else p x).length + 1 = (us.filter p).length := by
  induction us with
  | nil => simp [inB] at hc
  | cons a us ih =>
    have h := List.nodup_cons.1 hn
    rw [List.filter_cons, List.filter_cons]
    by_cases e : a = c
    · subst e
      have same : us.filter (fun x => if x = a then false else p x) = us.filter p := by
        apply List.filter_congr
        intro x hx
        have : x ≠ a := fun e => h.1 (e ▸ hx)
        simp [this]
      simp only [if_true, Bool.false_eq_true, if_false, hp, List.length_cons, same]
    · have hc' : inB c us = true := by
        unfold inB at hc ⊢
        rw [List.any_cons] at hc
        simpa [e] using hc
      have ih := ih h.2 hc'
      simp only [e, if_false]
      cases p a
      · simpa only [Bool.false_eq_true, if_false] using ih
      · simp only [if_true, List.length_cons]; omega
theorem items_any (sd : Sds) (nm : Nms) (u y : BA) : ∀ us : List BA, ((itemsM us sd nm u).any fun it => decide (it.c = y)) = (inB y us && isC nm u y)
  | [] => rfl
  | c :: us => by
    have ih := items_any sd nm u y us
    have e0 : itemsM (c :: us) sd nm u = itemOf sd nm u c ++ itemsM us sd nm u := by
      unfold itemsM; rw [List.flatMap_cons]
    have e1 : inB y (c :: us) = (decide (c = y) || inB y us) := rfl
    rw [e0, e1, List.any_append, ih]
    unfold itemOf
    by_cases e : c = y
    · subst e
      cases h : isC nm u c <;> simp
    · cases h : isC nm u c <;> simp [e]
theorem side_rem_eq {sd : Sds} {nm : Nms} (g : Good u5 sd nm) (vs : Vss) {x y : BA} {r r2 : Out} (hr : remO u5 sd nm vs x y = r) (hc : isC nm x y = true) (hr2 : remO u5 r.sd r.nm r.vs x y = r2) : r2.sd = r.sd := by
  have e : r = turnO u5 sd nm vs x y (remSd sd x y) (adel (x, y) nm) (remTd sd x y) := by rw [← hr]; unfold remO; rw [if_pos hc]
  have en : r.nm = adel (x, y) nm := by rw [e]; rfl
  have : isC r.nm x y = false := by rw [en, isC_del g.un]; simp
  rw [← hr2]; unfold remO; rw [if_neg (by rw [this]; simp)]; rfl
theorem u5_nodup : u5.Nodup := by decide
theorem u5_in {m : Nat} (h : m < 5) : inB (u5.getD m ⟨#[]⟩) u5 = true ∧ memB (u5.getD m ⟨#[]⟩) u5 = true := by
  have : m = 0 ∨ m = 1 ∨ m = 2 ∨ m = 3 ∨ m = 4 := by omega
  rcases this with rfl | rfl | rfl | rfl | rfl <;> exact ⟨by decide, by decide⟩
/-- What Remove does to a contact. -/
theorem rem_facts {sd : Sds} {nm : Nms} (g : Good u5 sd nm) (vs : Vss) {x y : BA} (hy : inB y u5 = true) {r r2 : Out} (hr : remO u5 sd nm vs x y = r) (hr2 : remO u5 r.sd r.nm r.vs x y = r2) :
    ((r.e == 0) = isC nm x y) ∧ (isC nm x y = false → r.sd = sd ∧ r.nm = nm ∧ r.vs = vs) ∧
    (isC nm x y = true → (itemsM u5 r.sd r.nm x).length + 1 = (itemsM u5 sd nm x).length ∧ sideOf r.sd x y = Sd.zero ∧ sideOf r.sd y x = Sd.zero ∧ r2.e = 7) := by
  cases hc : isC nm x y
  · have e : r = errO sd nm vs 7 := by rw [← hr]; unfold remO; rw [if_neg (by rw [hc]; simp)]
    subst e
    exact ⟨rfl, fun _ => ⟨rfl, rfl, rfl⟩, fun h => by cases h⟩
  · have e : r = turnO u5 sd nm vs x y (remSd sd x y) (adel (x, y) nm) (remTd sd x y) := by rw [← hr]; unfold remO; rw [if_pos hc]
    have hne : x ≠ y := fun e => by subst e; rw [g.self x] at hc; cases hc
    have en : r.nm = adel (x, y) nm := by rw [e]; rfl
    have es : r.sd = remSd sd x y := by rw [e]; rfl
    have ee : r.e = 0 := by rw [e]; rfl
    refine ⟨by rw [ee]; rfl, fun h => (by cases h), fun _ => ⟨?_, ?_, ?_, ?_⟩⟩
    · rw [items_len, items_len, en]
      have : (isC (adel (x, y) nm) x) = fun z => if z = y then false else isC nm x z := by
        funext z
        rw [isC_del g.un]
        by_cases e : z = y
        · subst e; simp
        · rw [if_neg (fun e2 => e (by injection e2)), if_neg e]
      rw [this]
      exact filter_del1 u5_nodup _ hy hc
    · rw [es]; exact (rem_side g hne).1
    · rw [es]; exact (rem_side g hne).2
    · have : isC r.nm x y = false := by rw [en, isC_del g.un]; simp
      rw [← hr2]; unfold remO; rw [if_neg (by rw [this]; simp)]; rfl
theorem cEarly : PSound Tryd.prog 14 (detE FEarly) := by
  refine det_fn (c := Tryd.b14) mixed Tryd.K_ok gsound_nil Tryd.func14 rfl rfl Tryd.call14 fun al p r q hF hp hq => ?_
  unfold FEarly at hF; split at hF <;> cases hF
  rename_i es
  generalize unOps es = l at hp hq
  subst hp
  refine cast (rEarly l q).symm fun _ => ⟨rfl, ?_, ?_⟩
  · rw [opsD_len]; split <;> omega
  · have e : (opsD l).take (if 80 < ((opsD l).length : Int) then (80 : Int) else ((opsD l).length : Int)).toNat = opsD (l.take 80) := by
      rw [opsD_len]
      unfold opsD
      rw [← List.map_take]
      split
      · rfl
      · rw [Int.toNat_natCast, List.take_length, List.take_of_length_le (by omega)]
    rw [e]
    exact hq
theorem cSame : PSound Tryd.prog 17 (detE FEq) := by
  refine det_fn (c := Tryd.b17) mixed Tryd.K_ok gsound_nil Tryd.func17 rfl rfl Tryd.call17 fun al p r q hF hp hq => ?_
  unfold FEq at hF; split at hF <;> cases hF
  rename_i x y
  obtain ⟨h1, h2⟩ := hp
  generalize unIts x = a at h1 hq
  generalize unIts y = b at h2 hq
  subst h1 h2
  refine cast (rSame a b q).symm fun hla _ => bcase_mk (fun hne => ?_) (fun heq => ?_)
  · have hne : ¬ a = b := fun e => by subst e; simp at hne
    simpa [hne] using hq
  · have hlen : a.length = b.length := by
      rw [itsD_len, itsD_len] at heq
      have : (a.length : Int) = b.length := by simpa using heq
      omega
    rw [itsD_len] at hla
    refine ALoop.introM [] (maskOf (stSm a b 0)) (fun n : Nat => stSm a b n) (fun n => n ≤ a.length ∧ ∀ k, k < n → a[k]? = b[k]?) (fun n => a.length - n) ⟨[], 0, ?_, Nat.zero_le _, by simp⟩ fun n ⟨hn, hI⟩ => ?_
    · simp [S.le, sealAll, leL, leA, jks, stSm, mkB, mkI]
    · refine cast (rSame_b _ _ _ n a b n q).symm fun _ => (bcase_dec (fun hlt => ?_) (fun hge => ?_))
      · rw [itsD_len] at hlt
        have hlt : n < a.length := by omega
        have hltb : n < b.length := by omega
        have ga := itsD_getD a n hlt
        have gb := itsD_getD b n hltb
        simp only [Int.toNat_natCast, ga, gb]
        refine ⟨⟨by omega, by rw [itsD_len]; omega⟩, rfl, Nat.le_refl _, ⟨rfl, rfl, rfl, rfl, trivial⟩, ⟨by omega, by rw [itsD_len]; omega⟩, rfl, Nat.le_refl _, ⟨rfl, rfl, rfl, rfl, trivial⟩, ?_⟩
        show bcase (!(Bool.and (decide (a[n].c = b[n].c)) (Bool.and (decide (a[n].n = b[n].n)) (Bool.and (a[n].s == b[n].s) (Bool.and (a[n].a == b[n].a) true))))) _ _
        rw [itEq]
        refine bcase_mk (fun hd => ?_) (fun hd => ?_)
        · have hd : ¬ a[n] = b[n] := by simpa using hd
          have hne : ¬ a = b := fun e => hd (by subst e; rfl)
          simpa [hne] using hq
        · have hd : a[n] = b[n] := by simpa using hd
          refine .mk [] (n + 1) ?_ ⟨by omega, fun k hk => ?_⟩ (by omega)
          · rw [wrap_succ hlt hla]
            simp [S.le, sealAll, leL, leA, jks, stSm, mkB, mkI]
          · rcases Nat.lt_or_ge k n with h | h
            · exact hI k h
            · have : k = n := by omega
              subst this
              rw [List.getElem?_eq_getElem hlt, List.getElem?_eq_getElem hltb, hd]
      · rw [itsD_len] at hge
        have e : n = a.length := by omega
        have : a = b := by
          apply List.ext_getElem?
          intro k
          rcases Nat.lt_or_ge k n with h | h
          · exact hI k h
          · rw [List.getElem?_eq_none (by omega), List.getElem?_eq_none (by omega)]
        simpa [this] using hq
theorem grm_ok : GSound Tryd.prog GRm := gsound_ref (RSound.frameX cLives) (gsound_ref (RSound.frameX cBegin5) (gsound_det cEarly (gsound_ref (RSound.frameX cDoes) (gsound_ref (RSound.frameX cRemO) (gsound_ref (RSound.frameX cItemsQ) (gsound_ref (RSound.frameX cSideQ) (gsound_det cSame gsound_nil)))))))
theorem u5_ok : u5.length ≤ 1000 ∧ ∀ s ∈ u5, s.size ≤ 1000 := ⟨by decide, by decide⟩
theorem zero_is (s : Sd) (h : s = Sd.zero) : Bool.and (s.sub == 0) (Bool.and (s.a == false) (Bool.and (s.w == false) true)) = true := by subst h; decide
def FRm : List AV → Option (Prop × AV) := fun al => match al with
  | [.d (.sl es), .d (.v (.int .i64 a)), .d (.v (.int .i64 c))] => some (es = opsD (unOps es), mkB true)
  | _ => none
theorem cRm : PSound Tryd.prog 5 (detE FRm) := by
  refine det_fn (c := Tryd.b5) mixed Tryd.K_ok grm_ok Tryd.func5 rfl rfl Tryd.call5 fun al p r q hF hp hq => ?_
  unfold FRm at hF; split at hF <;> cases hF
  rename_i es a c
  generalize unOps es = l0 at hp
  subst hp
  refine cast (rRm l0 a c q).symm ⟨rfl, rfl, rfl, rfl, rfl, rfl, by rw [unOps_ops], ?_⟩
  rw [unOps_ops]
  generalize l0.take 80 = l
  refine ALoop.introM [] (maskOf (stRm l a c 0 [] [] (v0 u5))) (fun s : Nat × Sds × Nms × Vss => stRm l a c s.1 s.2.1 s.2.2.1 s.2.2.2) (fun s => s.1 ≤ l.length ∧ Good u5 s.2.1 s.2.2.1) (fun s => l.length - s.1) ⟨[], (0, [], [], v0 u5), ?_, ⟨Nat.zero_le _, good_new u5⟩⟩ ?_
  · simp [S.le, sealAll, leL, leA, leO, jks, stRm, lawO, S.fits, fitsL, AV.fits, Ob.fits, KK.isSy, mkSS, mkS, mkI, mkB, sdE, nmE, encM, vsE, v0, u5, sK, nAnn, nBob, nCy, nDee, nEve, nFlo, nGus, nHal]
  · rintro ⟨i, sd, nm, vs⟩ ⟨hil, hG⟩
    have hil : i ≤ l.length := hil
    have hG : Good u5 sd nm := hG
    refine cast (rRm_b _ _ _ _ l a c i sd nm vs q).symm fun hl => (bcase_dec (fun hlt => ?_) (fun hge => ?_))
    · rw [opsD_len] at hl hlt
      have hlt : i < l.length := by omega
      have hgd := opsD_getD l i hlt
      have hw := wrap_succ hlt hl
      simp only [Int.toNat_natCast, hgd]
      refine ⟨⟨by omega, by rw [opsD_len]; omega⟩, rfl, Nat.le_refl _, ⟨rfl, rfl, rfl, rfl, rfl, trivial⟩, u5, sd, nm, vs, u5, l[i].k, l[i].a, l[i].b, l[i].c, l[i].x, rfl, rfl, u5_ok, fun r hr => ⟨by trivial, ?_⟩⟩
      refine .mk [] (i + 1, r.sd, r.nm, r.vs) ?_ ⟨by show i + 1 ≤ l.length; omega, ?_⟩ (by show l.length - (i + 1) < l.length - i; omega)
      · rw [hw]
        simp [S.le, sealAll, leL, leA, leO, jks, stRm, lawO, S.fits, fitsL, AV.fits, Ob.fits, KK.isSy, mkSS, mkS, mkI, mkB]
      · have := good_does u5_nodup hG vs u5 l[i].k l[i].a l[i].b l[i].c l[i].x
        rw [hr] at this
        exact this
    · obtain ⟨m, hm, em⟩ := modK_nat (n := 5) (by decide) a
      obtain ⟨n, hn, en⟩ := modK_nat (n := 5) (by decide) c
      have em : IntKind.wrap .i64 (Int.tmod (IntKind.wrap .u64 a) 5) = (m : Int) := em
      have en : IntKind.wrap .i64 (Int.tmod (IntKind.wrap .u64 c) 5) = (n : Int) := en
      have gm := strsD_getD u5 m hm
      have gn := strsD_getD u5 n hn
      obtain ⟨xi, xm⟩ := u5_in hm
      obtain ⟨yi, ym⟩ := u5_in hn
      have ex : strD (.v (.string (u5.getD m ⟨#[]⟩))) = u5.getD m ⟨#[]⟩ := rfl
      have ey : strD (.v (.string (u5.getD n ⟨#[]⟩))) = u5.getD n ⟨#[]⟩ := rfl
      simp only [em, en, Int.toNat_natCast, gm, gn, List.getD_cons_zero, ex, ey]
      generalize u5.getD m ⟨#[]⟩ = x at xi xm
      generalize u5.getD n ⟨#[]⟩ = y at yi ym
      refine ⟨by decide, ⟨by omega, by omega⟩, by trivial, Nat.le_refl _, by trivial, by decide, ⟨by omega, by omega⟩, by trivial, Nat.le_refl _, by trivial, u5, sd, nm, vs, x, rfl, rfl, xm, fun l1 n1 hl1 hn1 => ⟨by trivial, u5, sd, nm, vs, x, y, rfl, rfl, fun r hr => ⟨by trivial, u5, r.sd, r.nm, r.vs, x, rfl, rfl, xm, fun l2 n2 hl2 hn2 => ⟨by trivial, ?_⟩⟩⟩⟩
      obtain ⟨f1, f2, f3⟩ := rem_facts hG vs yi hr rfl
      refine ALoop.introM [] (maskOf (stRi x y l1 l2 r.e false 0 r.sd r.nm r.vs)) (fun k : Nat => stRi x y l1 l2 r.e ((l1.take k).any fun it => decide (it.c = y)) k r.sd r.nm r.vs) (fun k => k ≤ l1.length) (fun k => l1.length - k) ⟨[], 0, ?_, Nat.zero_le _⟩ fun k hk => ?_
      · simp [S.le, sealAll, leL, leA, leO, jks, stRi, lawO, S.fits, fitsL, AV.fits, Ob.fits, KK.isSy, mkSS, mkS, mkI, mkB]
      · refine cast (rRi_b (fun k : Nat => stRi x y l1 l2 r.e ((l1.take k).any fun it => decide (it.c = y)) k r.sd r.nm r.vs) (fun k => k ≤ l1.length) (fun k => l1.length - k) k x y l1 l2 r.e ((l1.take k).any fun it => decide (it.c = y)) k r.sd r.nm r.vs q).symm fun hll => (bcase_dec (fun hlt => ?_) (fun hge2 => ?_))
        · rw [itsD_len] at hll hlt
          have hlt : k < l1.length := by omega
          have hgd := itsD_getD l1 k hlt
          have hw := wrap_succ hlt hll
          have nx : ∀ b : Bool, b = ((l1.take (k + 1)).any fun it => decide (it.c = y)) → FamNext (fun k : Nat => stRi x y l1 l2 r.e ((l1.take k).any fun it => decide (it.c = y)) k r.sd r.nm r.vs) (fun k => k ≤ l1.length) (fun k => l1.length - k) k (stRi x y l1 l2 r.e b (IntKind.wrap .i64 ((k : Int) + 1)) r.sd r.nm r.vs) := fun b hb => by
            refine .mk [] (k + 1) ?_ (by omega) (by omega)
            rw [hw, hb]
            simp [S.le, sealAll, leL, leA, leO, jks, stRi, lawO, S.fits, fitsL, AV.fits, Ob.fits, KK.isSy, mkSS, mkS, mkI, mkB]
          have e1 : ((l1.take (k + 1)).any fun it => decide (it.c = y)) = (((l1.take k).any fun it => decide (it.c = y)) || decide (l1[k].c = y)) := by
            rw [List.take_add_one, List.any_append, List.getElem?_eq_getElem hlt]
            simp
          simp only [Int.toNat_natCast, hgd]
          refine bcase_mk (fun hb => nx true (by rw [e1, hb]; rfl)) (fun hb => ⟨⟨by omega, by rw [itsD_len]; omega⟩, rfl, (show 1 ≤ 4 by decide), rfl, nx _ (by rw [e1, hb]; rfl)⟩)
        · rw [itsD_len] at hge2
          have ek : k = l1.length := by omega
          subst ek
          rw [List.take_length]
          have ein : (l1.any fun it => decide (it.c = y)) = isC nm x y := by
            rw [← hl1, items_any, yi, Bool.true_and]
          rw [ein, ← f1]
          refine bcase_mk (fun h => ?_) (fun _ => bcase_mk (fun h => ?_) (fun h => ?_))
          · simp at h
          · have h : isC nm x y = false := by rw [← f1]; simpa using h
            obtain ⟨g1, g2, g3⟩ := f2 h
            rw [unIts_its, unIts_its]
            refine ⟨⟨rfl, rfl⟩, ?_⟩
            have : l1 = l2 := by rw [← hl1, ← hl2, g1, g2]
            rw [decide_eq_true this]
            exact hq
          · have h : isC nm x y = true := by rw [← f1]; simpa using h
            obtain ⟨g1, g2, g3, g4⟩ := f3 h
            refine ⟨u5, r.sd, r.nm, r.vs, x, y, rfl, rfl, fun r2 hr2 => ⟨rfl, fun _ hlm => ?_⟩⟩
            rw [itsD_len] at hlm
            rw [itsD_len, itsD_len]
            have el : (l2.length : Int) = IntKind.wrap .i64 ((l1.length : Int) - 1) := by
              have : l2.length + 1 = l1.length := by rw [← hl1, ← hl2]; exact g1
              unfold LIM at hlm
              rw [IntWalk.i64_in _ (by omega)]
              omega
            rw [el, beq_self_eq_true]
            rw [hr2] at g4
            have es1 := side_rem_eq hG vs hr h hr2
            refine ⟨u5, r2.sd, r2.nm, r2.vs, x, y, rfl, rfl, fun s hs => ⟨rfl, ?_⟩⟩
            rw [zero_is s (by rw [← hs, es1]; exact g2)]
            refine ⟨u5, r2.sd, r2.nm, r2.vs, y, x, rfl, rfl, fun s hs => ⟨rfl, ?_⟩⟩
            rw [zero_is s (by rw [← hs, es1]; exact g3), g4]
            exact hq
theorem ty_ops {P : Program} {n : Nat} {es : List (List D)} {e : TypeId} {fs : Array Field} {i s : TypeId} (hu : P.underlying e = some (.struct fs)) (hf : fs.toList.map (·.type) = [i, i, i, i, s]) (hi : P.underlying i = some (.int .i64)) (hs : P.underlying s = some .string) (h : ∀ c ∈ es, Ty P (n + 2) e c) : ∃ l : List Op, es = opsD l := by
  obtain ⟨l, h, _⟩ := list_of opD (fun _ => True) es fun c hc => by
    have h1 := h c hc
    unfold Ty at h1; rw [hu] at h1
    simp only [hf] at h1
    obtain ⟨a1, b1, rfl, p1, a2, b2, rfl, p2, a3, b3, rfl, p3, a4, b4, rfl, p4, a5, b5, rfl, p5, rfl⟩ := h1
    unfold Ty at p1 p2 p3 p4 p5
    rw [hi] at p1 p2 p3 p4
    rw [hs] at p5
    obtain ⟨i1, rfl, _⟩ := p1
    obtain ⟨i2, rfl, _⟩ := p2
    obtain ⟨i3, rfl, _⟩ := p3
    obtain ⟨i4, rfl, _⟩ := p4
    obtain ⟨x, rfl, _⟩ := p5
    exact ⟨⟨i1, i2, i3, i4, x⟩, rfl, trivial⟩
  exact ⟨l, h⟩
theorem ty_args3 {P : Program} {t u v : TypeId} {al : List AV} (h : TyArgs P [t, u, v] al) : ∃ a b c, al = [a, b, c] ∧ (∃ ds, Ty P 12 t ds ∧ a = argAV (aggB P t) ds) ∧ (∃ ds, Ty P 12 u ds ∧ b = argAV (aggB P u) ds) ∧ ∃ ds, Ty P 12 v ds ∧ c = argAV (aggB P v) ds := by
  match al, h with
  | [a, b, c], ⟨ha, hb, hc, _⟩ => exact ⟨a, b, c, rfl, ha, hb, hc⟩
theorem arg_ops {P : Program} {t e : TypeId} {a : AV} {fs : Array Field} {i s : TypeId} (hu : P.underlying t = some (.slice e)) (he : P.underlying e = some (.struct fs)) (hf : fs.toList.map (·.type) = [i, i, i, i, s]) (hi : P.underlying i = some (.int .i64)) (hs : P.underlying s = some .string) (h : ∃ ds, Ty P 12 t ds ∧ a = argAV (aggB P t) ds) : ∃ l : List Op, a = .d (.sl (opsD l)) := by
  obtain ⟨es, rfl, hl, hh⟩ := arg_slice hu h
  obtain ⟨l, rfl⟩ := ty_ops he hf hi hs hh
  exact ⟨l, rfl⟩
theorem hRm : ∀ al, TyArgs Tryd.prog Tryd.f5.params.toList al → ∃ p, FRm al = some (p, mkB true) ∧ p := by
  intro al h
  rw [Tryd.params5] at h
  obtain ⟨a, b, c, rfl, ha, hb, hc⟩ := ty_args3 h
  obtain ⟨l, rfl⟩ := arg_ops Tryd.underlying22 Tryd.underlying41 rfl Tryd.underlying3 Tryd.underlying9 ha
  obtain ⟨i, rfl, _⟩ := arg_int Tryd.underlying3 hb
  obtain ⟨j, rfl, _⟩ := arg_int Tryd.underlying3 hc
  exact ⟨_, rfl, by rw [unOps_ops]⟩
end Go.Proofs.YtldcalmoboeeiaaDoor
