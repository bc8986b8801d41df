import Derived.Test.YtgidbnonalbeeaaDoorBindBack
set_option linter.unusedSimpArgs false
set_option linter.unusedVariables false
set_option linter.unnecessarySimpa false
namespace Go.Proofs.YtgidbnonalbeeaaDoor
open Go Go.AM Go.RowKit

def digS (n : Int) : ByteArray := ⟨#[(IntKind.u8.wrap (IntKind.u32.wrap (48 + n))).toNat.toUInt8]⟩
def F23a : List AV → Option (Prop × AV) := fun al => match al with
  | [.d (.v (.int .u32 n))] => some (0 ≤ n ∧ n < 10, mkS (digS n))
  | _ => none
theorem r23a (n : Int) (q : AV → Prop) :
  (aCode Tryd.K [] Tryd.b23 (kRet Tryd.K Tryd.f23.results.toList q) ⟨[mkI .u32 n] ++ List.replicate (Tryd.f23.ntmps - 1) .jk, []⟩) = (
  bcase (decide (n < (10 : Int))) (
   ([[D.v (Value.int IntKind.u8 (IntKind.wrap IntKind.u8 (IntKind.wrap IntKind.u32 ((48 : Int) + n))))]] = [[D.v (Value.int IntKind.u8 ((UInt8.toNat (UInt8.ofBitVec (BitVec.ofNat (8 : Nat) (Int.toNat (IntKind.wrap IntKind.u8 (IntKind.wrap IntKind.u32 ((48 : Int) + n))))))) : Int))]]) ∧
   q (mkS (⟨#[UInt8.ofBitVec (BitVec.ofNat (8 : Nat) (Int.toNat (IntKind.wrap IntKind.u8 (IntKind.wrap IntKind.u32 ((48 : Int) + n)))))]⟩ : ByteArray))) (
   (((10 : Int) = (0 : Int)) → False) ∧
   (((10 : Int) = (0 : Int)) → False) ∧
   False ∧
   False ∧
   ([[D.v (Value.int IntKind.u8 (IntKind.wrap IntKind.u8 (IntKind.wrap IntKind.u32 ((48 : Int) + (Int.tmod n (10 : Int))))))]] = [[D.v (Value.int IntKind.u8 ((UInt8.toNat (UInt8.ofBitVec (BitVec.ofNat (8 : Nat) (Int.toNat (IntKind.wrap IntKind.u8 (IntKind.wrap IntKind.u32 ((48 : Int) + (Int.tmod n (10 : Int))))))))) : Int))]]) ∧
   False)) := by kernel_rfl

theorem r23 (n : Int) (q : AV → Prop) :
  (aCode Tryd.K [(23, .det F23a)] Tryd.b23 (kRet Tryd.K Tryd.f23.results.toList q) ⟨[mkI .u32 n] ++ List.replicate (Tryd.f23.ntmps - 1) .jk, []⟩) = (
  bcase (decide (n < (10 : Int))) (
   ([[D.v (Value.int IntKind.u8 (IntKind.wrap IntKind.u8 (IntKind.wrap IntKind.u32 ((48 : Int) + n))))]] = [[D.v (Value.int IntKind.u8 ((UInt8.toNat (UInt8.ofBitVec (BitVec.ofNat (8 : Nat) (Int.toNat (IntKind.wrap IntKind.u8 (IntKind.wrap IntKind.u32 ((48 : Int) + n))))))) : Int))]]) ∧
   q (mkS (⟨#[UInt8.ofBitVec (BitVec.ofNat (8 : Nat) (Int.toNat (IntKind.wrap IntKind.u8 (IntKind.wrap IntKind.u32 ((48 : Int) + n)))))]⟩ : ByteArray))) (
   (((10 : Int) = (0 : Int)) → False) ∧
   (((10 : Int) = (0 : Int)) → False) ∧
   ((((0 : Int) ≤ (IntKind.wrap IntKind.u32 (Int.tdiv n (10 : Int)))) ∧ ((IntKind.wrap IntKind.u32 (Int.tdiv n (10 : Int))) < (10 : Int))) ∧ (([[D.v (Value.int IntKind.u8 (IntKind.wrap IntKind.u8 (IntKind.wrap IntKind.u32 ((48 : Int) + (Int.tmod n (10 : Int))))))]] = [[D.v (Value.int IntKind.u8 ((UInt8.toNat (UInt8.ofBitVec (BitVec.ofNat (8 : Nat) (Int.toNat (IntKind.wrap IntKind.u8 (IntKind.wrap IntKind.u32 ((48 : Int) + (Int.tmod n (10 : Int))))))))) : Int))]]) ∧ ((((ByteArray.size (YtgidbnonalbeeaaDoor.digS (IntKind.wrap IntKind.u32 (Int.tdiv n (10 : Int))))) + (ByteArray.size (⟨#[UInt8.ofBitVec (BitVec.ofNat (8 : Nat) (Int.toNat (IntKind.wrap IntKind.u8 (IntKind.wrap IntKind.u32 ((48 : Int) + (Int.tmod n (10 : Int)))))))]⟩ : ByteArray))) ≤ LIM) ∧ (q (mkS ((YtgidbnonalbeeaaDoor.digS (IntKind.wrap IntKind.u32 (Int.tdiv n (10 : Int)))) ++ (⟨#[UInt8.ofBitVec (BitVec.ofNat (8 : Nat) (Int.toNat (IntKind.wrap IntKind.u8 (IntKind.wrap IntKind.u32 ((48 : Int) + (Int.tmod n (10 : Int)))))))]⟩ : ByteArray))))))) ∧
   ((((0 : Int) ≤ (IntKind.wrap IntKind.u32 (Int.tdiv n (10 : Int)))) ∧ ((IntKind.wrap IntKind.u32 (Int.tdiv n (10 : Int))) < (10 : Int))) ∧ (([[D.v (Value.int IntKind.u8 (IntKind.wrap IntKind.u8 (IntKind.wrap IntKind.u32 ((48 : Int) + (Int.tmod n (10 : Int))))))]] = [[D.v (Value.int IntKind.u8 ((UInt8.toNat (UInt8.ofBitVec (BitVec.ofNat (8 : Nat) (Int.toNat (IntKind.wrap IntKind.u8 (IntKind.wrap IntKind.u32 ((48 : Int) + (Int.tmod n (10 : Int))))))))) : Int))]]) ∧ ((((ByteArray.size (YtgidbnonalbeeaaDoor.digS (IntKind.wrap IntKind.u32 (Int.tdiv n (10 : Int))))) + (ByteArray.size (⟨#[UInt8.ofBitVec (BitVec.ofNat (8 : Nat) (Int.toNat (IntKind.wrap IntKind.u8 (IntKind.wrap IntKind.u32 ((48 : Int) + (Int.tmod n (10 : Int)))))))]⟩ : ByteArray))) ≤ LIM) ∧ (q (mkS ((YtgidbnonalbeeaaDoor.digS (IntKind.wrap IntKind.u32 (Int.tdiv n (10 : Int)))) ++ (⟨#[UInt8.ofBitVec (BitVec.ofNat (8 : Nat) (Int.toNat (IntKind.wrap IntKind.u8 (IntKind.wrap IntKind.u32 ((48 : Int) + (Int.tmod n (10 : Int)))))))]⟩ : ByteArray))))))) ∧
   ([[D.v (Value.int IntKind.u8 (IntKind.wrap IntKind.u8 (IntKind.wrap IntKind.u32 ((48 : Int) + (Int.tmod n (10 : Int))))))]] = [[D.v (Value.int IntKind.u8 ((UInt8.toNat (UInt8.ofBitVec (BitVec.ofNat (8 : Nat) (Int.toNat (IntKind.wrap IntKind.u8 (IntKind.wrap IntKind.u32 ((48 : Int) + (Int.tmod n (10 : Int))))))))) : Int))]]) ∧
   (((0 : Int) ≤ (IntKind.wrap IntKind.u32 (Int.tdiv n (10 : Int)))) ∧ ((IntKind.wrap IntKind.u32 (Int.tdiv n (10 : Int))) < (10 : Int))) ∧
   (((ByteArray.size (YtgidbnonalbeeaaDoor.digS (IntKind.wrap IntKind.u32 (Int.tdiv n (10 : Int))))) + (ByteArray.size (⟨#[UInt8.ofBitVec (BitVec.ofNat (8 : Nat) (Int.toNat (IntKind.wrap IntKind.u8 (IntKind.wrap IntKind.u32 ((48 : Int) + (Int.tmod n (10 : Int)))))))]⟩ : ByteArray))) ≤ LIM) ∧
   q (mkS ((YtgidbnonalbeeaaDoor.digS (IntKind.wrap IntKind.u32 (Int.tdiv n (10 : Int)))) ++ (⟨#[UInt8.ofBitVec (BitVec.ofNat (8 : Nat) (Int.toNat (IntKind.wrap IntKind.u8 (IntKind.wrap IntKind.u32 ((48 : Int) + (Int.tmod n (10 : Int)))))))]⟩ : ByteArray))))) := by kernel_rfl

def F23 : List AV → Option (Prop × AV) := fun al => match al with
  | [.d (.v (.int .u32 n))] => some (0 ≤ n ∧ n < 100, mkS (itoaS n))
  | _ => none
noncomputable def r10_k0 (q : AV → Prop) : Kont := kBlk (0 : Nat) (kSeq (aCode Tryd.K [((17 : FuncId), En.det YtgidbnonalbeeaaDoor.F19), ((22 : FuncId), En.det YtgidbnonalbeeaaDoor.F22), ((23 : FuncId), En.det YtgidbnonalbeeaaDoor.F23)] (cAt [1, 1, 1] Tryd.b10) (kRet Tryd.K (Array.toList (Func.results Tryd.f10)) q)) (kRet Tryd.K (Array.toList (Func.results Tryd.f10)) q))
theorem r10 (w : ByteArray) (es : List (List D)) (q : AV → Prop) :
  (aCode Tryd.K [(17, .det F19), (22, .det F22), (23, .det F23)] Tryd.b10 (kRet Tryd.K Tryd.f10.results.toList q) ⟨[mkS w, .d (.sl es)] ++ List.replicate (Tryd.f10.ntmps - 2) .jk, []⟩) = (
  bcase (!(decide (w = (⟨#[]⟩ : ByteArray)))) (
   True ∧
   bcase (!(YtgidbnonalbeeaaDoor.userB w)) (
    q (AV.tp [mkS (⟨#[]⟩ : ByteArray), mkB false, mkI IntKind.i64 (1 : Int)])) (
    (es = (strsD (unSS es))) ∧
    q (AV.tp [mkS w, mkB (memB w (unSS es)), mkI IntKind.i64 (0 : Int)]))) (
   ALoop (aCode Tryd.K [((17 : FuncId), En.det YtgidbnonalbeeaaDoor.F19), ((22 : FuncId), En.det YtgidbnonalbeeaaDoor.F22), ((23 : FuncId), En.det YtgidbnonalbeeaaDoor.F23)] (cAt [1, 1, 0, 1, 0, 0] Tryd.b10)) (YtgidbnonalbeeaaDoor.r10_k0 q) ⟨[mkS w, AV.d (D.sl es), AV.jk, AV.jk, mkS (⟨#[]⟩ : ByteArray), mkB false, mkI IntKind.i64 (0 : Int), mkI IntKind.i64 (1 : Int), AV.jk, mkS w, mkB false, AV.jk, AV.jk, AV.jk, AV.jk, AV.jk, AV.jk, AV.jk, AV.jk, AV.jk, AV.jk, AV.jk, AV.jk, AV.jk, AV.jk, AV.jk, AV.jk, AV.jk, AV.jk, AV.jk, AV.jk], []⟩)) := by kernel_rfl

def st10 (es : List (List D)) (n : Int) : S := ⟨[.jk, .d (.sl es), .jk, .jk, mkS ⟨#[]⟩, mkB false, mkI .i64 0, mkI .i64 n] ++ jks 23, []⟩
theorem r10_b {ι : Type} (st : ι → S) (inv : ι → Prop) (μ : ι → Nat) (k : ι) (es : List (List D)) (n : Int) (q : AV → Prop) :
  (aCode Tryd.K [(17, .det F19), (22, .det F22), (23, .det F23)] (cAt [1, 1, 0, 1, 0, 0] Tryd.b10) (kFamM [] (maskOf (st10 es n)) st inv μ k (r10_k0 q)) (st10 es n)) = (
  bcase (decide (n ≤ (99 : Int))) (
   (((0 : Int) ≤ (IntKind.wrap IntKind.u32 n)) ∧ ((IntKind.wrap IntKind.u32 n) < (100 : Int))) ∧
   (((ByteArray.size (⟨#[(100 : UInt8)]⟩ : ByteArray)) + (ByteArray.size (YtgidbnonalbeeaaDoor.itoaS (IntKind.wrap IntKind.u32 n)))) ≤ LIM) ∧
   (es = (strsD (unSS es))) ∧
   bcase (!(memB ((⟨#[(100 : UInt8)]⟩ : ByteArray) ++ (YtgidbnonalbeeaaDoor.itoaS (IntKind.wrap IntKind.u32 n))) (unSS es))) (
    q (AV.tp [mkS ((⟨#[(100 : UInt8)]⟩ : ByteArray) ++ (YtgidbnonalbeeaaDoor.itoaS (IntKind.wrap IntKind.u32 n))), mkB false, mkI IntKind.i64 (0 : Int)])) (
    FamNext st inv μ k ⟨[AV.jk, AV.d (D.sl es), AV.jk, AV.jk, mkS (⟨#[]⟩ : ByteArray), mkB false, mkI IntKind.i64 (0 : Int), mkI IntKind.i64 (IntKind.wrap IntKind.i64 (n + (1 : Int))), AV.jk, AV.jk, AV.jk, AV.jk, AV.jk, AV.jk, AV.jk, AV.jk, AV.jk, AV.jk, AV.jk, AV.jk, AV.jk, AV.jk, AV.jk, AV.jk, AV.jk, AV.jk, AV.jk, AV.jk, AV.jk, AV.jk, AV.jk], []⟩)) (
   q (AV.tp [mkS (⟨#[]⟩ : ByteArray), mkB false, mkI IntKind.i64 (9 : Int)]))) := by kernel_rfl

noncomputable def r12_k0 (q : AV → Prop) : Kont := kBlk (0 : Nat) (kSeq (aCode Tryd.K [((22 : FuncId), En.det YtgidbnonalbeeaaDoor.F22)] (cAt [1, 1, 1] Tryd.b12) (kRet Tryd.K (Array.toList (Func.results Tryd.f12)) q)) (kRet Tryd.K (Array.toList (Func.results Tryd.f12)) q))
theorem r12 (ds es : List (List D)) (q : AV → Prop) :
  (aCode Tryd.K [(22, .det F22)] Tryd.b12 (kRet Tryd.K Tryd.f12.results.toList q) ⟨[.d (.sl ds), .d (.sl es)] ++ List.replicate (Tryd.f12.ntmps - 2) .jk, []⟩) = (
  ALoop (aCode Tryd.K [((22 : FuncId), En.det YtgidbnonalbeeaaDoor.F22)] (cAt [1, 1, 0, 1, 0, 0] Tryd.b12)) (YtgidbnonalbeeaaDoor.r12_k0 q) ⟨[AV.d (D.sl ds), AV.d (D.sl es), AV.jk, AV.jk, mkS (⟨#[]⟩ : ByteArray), mkB false, AV.vw 0 (5 : Nat), mkI IntKind.i64 (0 : Int), AV.jk, AV.jk, AV.vw 0 (5 : Nat), AV.jk, AV.jk, AV.jk, AV.jk, AV.jk, AV.jk, AV.jk, AV.jk, AV.jk, AV.jk, AV.jk, AV.jk, AV.jk, AV.jk, AV.jk, AV.jk, AV.jk, AV.jk, AV.jk, AV.jk, AV.jk, AV.jk, AV.jk, AV.jk, AV.jk, AV.jk, AV.jk, AV.jk, AV.jk, AV.jk, AV.jk, AV.jk, AV.jk, AV.jk, AV.jk, AV.jk, AV.jk, AV.jk], [Ob.row 1 [[D.v (Value.string (⟨#[(99 : UInt8), (104 : UInt8), (97 : UInt8), (116 : UInt8)]⟩ : ByteArray))], [D.v (Value.string (⟨#[]⟩ : ByteArray))], [D.v (Value.string (⟨#[(97 : UInt8), (119 : UInt8), (97 : UInt8), (121 : UInt8)]⟩ : ByteArray))], [D.v (Value.string (⟨#[(120 : UInt8), (97 : UInt8)]⟩ : ByteArray))], [D.v (Value.string (⟨#[(100 : UInt8), (110 : UInt8), (100 : UInt8)]⟩ : ByteArray))]]]⟩) := by kernel_rfl

def ranksL : List ByteArray := [sChat, ⟨#[]⟩, sAway, sXa, sDnd]
def st12 (ds es : List (List D)) (r : Int) : S := ⟨[.d (.sl ds), .d (.sl es), .jk, .jk, mkS ⟨#[]⟩, mkB false, .d (.sl (strsD ranksL)), mkI .i64 r] ++ jks 41, []⟩
noncomputable def r12_b_k0 {ι : Type} (st : ι → S) (inv : ι → Prop) (μ : ι → Nat) (k : ι) (ds : List (List D)) (es : List (List D)) (r : Int) (q : AV → Prop) : Kont := kBlk (2 : Nat) (kBlk (1 : Nat) (kSeq (aCode Tryd.K [((22 : FuncId), En.det YtgidbnonalbeeaaDoor.F22)] (cAt [1, 1, 0, 1, 0, 0, 1, 1] Tryd.b12) (kFamM [] (maskOf (YtgidbnonalbeeaaDoor.st12 ds es r)) st inv μ k (YtgidbnonalbeeaaDoor.r12_k0 q))) (kFamM [] (maskOf (YtgidbnonalbeeaaDoor.st12 ds es r)) st inv μ k (YtgidbnonalbeeaaDoor.r12_k0 q))))
theorem r12_b {ι : Type} (st : ι → S) (inv : ι → Prop) (μ : ι → Nat) (k : ι) (ds es : List (List D)) (r : Int) (q : AV → Prop) :
  (aCode Tryd.K [(22, .det F22)] (cAt [1, 1, 0, 1, 0, 0] Tryd.b12) (kFamM [] (maskOf (st12 ds es r)) st inv μ k (r12_k0 q)) (st12 ds es r)) = (
  (5 ≤ LIM) →
  bcase (decide (r < (5 : Int))) (
   ALoop (aCode Tryd.K [((22 : FuncId), En.det YtgidbnonalbeeaaDoor.F22)] (cAt [1, 1, 0, 1, 0, 0, 1, 0, 0, 1, 0, 0] Tryd.b12)) (YtgidbnonalbeeaaDoor.r12_b_k0 st inv μ k ds es r q) ⟨[AV.d (D.sl ds), AV.d (D.sl es), AV.jk, AV.jk, mkS (⟨#[]⟩ : ByteArray), mkB false, AV.d (D.sl (strsD YtgidbnonalbeeaaDoor.ranksL)), mkI IntKind.i64 r, mkI IntKind.i64 (0 : Int), AV.jk, AV.jk, mkI IntKind.i64 r, AV.d (D.sl (strsD YtgidbnonalbeeaaDoor.ranksL)), mkI IntKind.i64 (5 : Int), mkB true, AV.jk, AV.jk, AV.jk, AV.jk, AV.jk, AV.jk, AV.jk, AV.jk, AV.jk, AV.jk, AV.jk, AV.jk, AV.jk, AV.jk, AV.jk, AV.jk, AV.jk, AV.jk, AV.jk, AV.jk, AV.jk, AV.jk, AV.jk, AV.jk, AV.jk, AV.jk, AV.jk, AV.jk, AV.jk, AV.jk, AV.jk, AV.jk, AV.jk, AV.jk], []⟩) (
   q (AV.tp [mkS (⟨#[]⟩ : ByteArray), mkB false]))) := by kernel_rfl

def st12i (ds es : List (List D)) (r i : Int) : S := ⟨[.d (.sl ds), .d (.sl es), .jk, .jk, mkS ⟨#[]⟩, mkB false, .d (.sl (strsD ranksL)), mkI .i64 r, mkI .i64 i] ++ jks 40, []⟩
theorem r12_c {ι : Type} (st : ι → S) (inv : ι → Prop) (μ : ι → Nat) (k : ι) {ι2 : Type} (st2 : ι2 → S) (inv2 : ι2 → Prop) (μ2 : ι2 → Nat) (k2 : ι2) (ds es : List (List D)) (r i : Int) (q : AV → Prop) :
  (aCode Tryd.K [(22, .det F22)] (cAt [1, 1, 0, 1, 0, 0, 1, 0, 0, 1, 0, 0] Tryd.b12) (kFamM [] (maskOf (st12i ds es r i)) st2 inv2 μ2 k2 (r12_b_k0 st inv μ k ds es r q)) (st12i ds es r i)) = (
  ((List.length ds) ≤ LIM) →
  bcase (decide (i < ((List.length ds) : Int))) (
   ((List.length es) ≤ LIM) →
   bcase (decide (i < ((List.length es) : Int))) (
    (((0 : Int) ≤ i) ∧ (i < ((List.length es) : Int))) ∧
    ((List.length (List.getD es (Int.toNat i) [])) = 1) ∧
    ((1 : Nat) ≤ (List.length (List.getD es (Int.toNat i) []))) ∧
    ((List.getD (List.getD es (Int.toNat i) []) (0 : Nat) d0) = (D.v (Value.string (strD (List.getD (List.getD es (Int.toNat i) []) (0 : Nat) d0))))) ∧
    ((strsD YtgidbnonalbeeaaDoor.ranksL) = (strsD (unSS (strsD YtgidbnonalbeeaaDoor.ranksL)))) ∧
    bcase (memB (strD (List.getD (List.getD es (Int.toNat i) []) (0 : Nat) d0)) (unSS (strsD YtgidbnonalbeeaaDoor.ranksL))) (
     (((0 : Int) ≤ i) ∧ (i < ((List.length es) : Int))) ∧
     ((List.length (List.getD es (Int.toNat i) [])) = 1) ∧
     ((1 : Nat) ≤ (List.length (List.getD es (Int.toNat i) []))) ∧
     ((List.getD (List.getD es (Int.toNat i) []) (0 : Nat) d0) = (D.v (Value.string (strD (List.getD (List.getD es (Int.toNat i) []) (0 : Nat) d0))))) ∧
     (((0 : Int) ≤ r) ∧ (r < (5 : Int))) ∧
     ((List.length (List.getD (strsD YtgidbnonalbeeaaDoor.ranksL) (Int.toNat r) [])) = 1) ∧
     ((1 : Nat) ≤ (List.length (List.getD (strsD YtgidbnonalbeeaaDoor.ranksL) (Int.toNat r) []))) ∧
     ((List.getD (List.getD (strsD YtgidbnonalbeeaaDoor.ranksL) (Int.toNat r) []) (0 : Nat) d0) = (D.v (Value.string (strD (List.getD (List.getD (strsD YtgidbnonalbeeaaDoor.ranksL) (Int.toNat r) []) (0 : Nat) d0))))) ∧
     bcase (decide ((strD (List.getD (List.getD es (Int.toNat i) []) (0 : Nat) d0)) = (strD (List.getD (List.getD (strsD YtgidbnonalbeeaaDoor.ranksL) (Int.toNat r) []) (0 : Nat) d0)))) (
      (((0 : Int) ≤ i) ∧ (i < ((List.length ds) : Int))) ∧
      ((List.length (List.getD ds (Int.toNat i) [])) = 1) ∧
      ((1 : Nat) ≤ (List.length (List.getD ds (Int.toNat i) []))) ∧
      ((List.getD (List.getD ds (Int.toNat i) []) (0 : Nat) d0) = (D.v (Value.string (strD (List.getD (List.getD ds (Int.toNat i) []) (0 : Nat) d0))))) ∧
      q (AV.tp [mkS (strD (List.getD (List.getD ds (Int.toNat i) []) (0 : Nat) d0)), mkB true])) (
      FamNext st2 inv2 μ2 k2 ⟨[AV.d (D.sl ds), AV.d (D.sl es), AV.jk, AV.jk, mkS (⟨#[]⟩ : ByteArray), mkB false, AV.d (D.sl (strsD YtgidbnonalbeeaaDoor.ranksL)), mkI IntKind.i64 r, mkI IntKind.i64 (IntKind.wrap IntKind.i64 (i + (1 : Int))), AV.jk, AV.jk, AV.jk, AV.jk, AV.jk, AV.jk, AV.jk, AV.jk, AV.jk, AV.jk, AV.jk, AV.jk, AV.jk, AV.jk, AV.jk, AV.jk, AV.jk, AV.jk, AV.jk, AV.jk, AV.jk, AV.jk, AV.jk, AV.jk, AV.jk, AV.jk, AV.jk, AV.jk, AV.jk, AV.jk, AV.jk, AV.jk, AV.jk, AV.jk, AV.jk, AV.jk, AV.jk, AV.jk, AV.jk, AV.jk], []⟩)) (
     (((0 : Int) ≤ r) ∧ (r < (5 : Int))) ∧
     ((List.length (List.getD (strsD YtgidbnonalbeeaaDoor.ranksL) (Int.toNat r) [])) = 1) ∧
     ((1 : Nat) ≤ (List.length (List.getD (strsD YtgidbnonalbeeaaDoor.ranksL) (Int.toNat r) []))) ∧
     ((List.getD (List.getD (strsD YtgidbnonalbeeaaDoor.ranksL) (Int.toNat r) []) (0 : Nat) d0) = (D.v (Value.string (strD (List.getD (List.getD (strsD YtgidbnonalbeeaaDoor.ranksL) (Int.toNat r) []) (0 : Nat) d0))))) ∧
     bcase (decide ((⟨#[]⟩ : ByteArray) = (strD (List.getD (List.getD (strsD YtgidbnonalbeeaaDoor.ranksL) (Int.toNat r) []) (0 : Nat) d0)))) (
      (((0 : Int) ≤ i) ∧ (i < ((List.length ds) : Int))) ∧
      ((List.length (List.getD ds (Int.toNat i) [])) = 1) ∧
      ((1 : Nat) ≤ (List.length (List.getD ds (Int.toNat i) []))) ∧
      ((List.getD (List.getD ds (Int.toNat i) []) (0 : Nat) d0) = (D.v (Value.string (strD (List.getD (List.getD ds (Int.toNat i) []) (0 : Nat) d0))))) ∧
      q (AV.tp [mkS (strD (List.getD (List.getD ds (Int.toNat i) []) (0 : Nat) d0)), mkB true])) (
      FamNext st2 inv2 μ2 k2 ⟨[AV.d (D.sl ds), AV.d (D.sl es), AV.jk, AV.jk, mkS (⟨#[]⟩ : ByteArray), mkB false, AV.d (D.sl (strsD YtgidbnonalbeeaaDoor.ranksL)), mkI IntKind.i64 r, mkI IntKind.i64 (IntKind.wrap IntKind.i64 (i + (1 : Int))), AV.jk, AV.jk, AV.jk, AV.jk, AV.jk, AV.jk, AV.jk, AV.jk, AV.jk, AV.jk, AV.jk, AV.jk, AV.jk, AV.jk, AV.jk, AV.jk, AV.jk, AV.jk, AV.jk, AV.jk, AV.jk, AV.jk, AV.jk, AV.jk, AV.jk, AV.jk, AV.jk, AV.jk, AV.jk, AV.jk, AV.jk, AV.jk, AV.jk, AV.jk, AV.jk, AV.jk, AV.jk, AV.jk, AV.jk, AV.jk], []⟩))) (
    (((0 : Int) ≤ r) ∧ (r < (5 : Int))) ∧
    ((List.length (List.getD (strsD YtgidbnonalbeeaaDoor.ranksL) (Int.toNat r) [])) = 1) ∧
    ((1 : Nat) ≤ (List.length (List.getD (strsD YtgidbnonalbeeaaDoor.ranksL) (Int.toNat r) []))) ∧
    ((List.getD (List.getD (strsD YtgidbnonalbeeaaDoor.ranksL) (Int.toNat r) []) (0 : Nat) d0) = (D.v (Value.string (strD (List.getD (List.getD (strsD YtgidbnonalbeeaaDoor.ranksL) (Int.toNat r) []) (0 : Nat) d0))))) ∧
    bcase (decide ((⟨#[]⟩ : ByteArray) = (strD (List.getD (List.getD (strsD YtgidbnonalbeeaaDoor.ranksL) (Int.toNat r) []) (0 : Nat) d0)))) (
     (((0 : Int) ≤ i) ∧ (i < ((List.length ds) : Int))) ∧
     ((List.length (List.getD ds (Int.toNat i) [])) = 1) ∧
     ((1 : Nat) ≤ (List.length (List.getD ds (Int.toNat i) []))) ∧
     ((List.getD (List.getD ds (Int.toNat i) []) (0 : Nat) d0) = (D.v (Value.string (strD (List.getD (List.getD ds (Int.toNat i) []) (0 : Nat) d0))))) ∧
     q (AV.tp [mkS (strD (List.getD (List.getD ds (Int.toNat i) []) (0 : Nat) d0)), mkB true])) (
     FamNext st2 inv2 μ2 k2 ⟨[AV.d (D.sl ds), AV.d (D.sl es), AV.jk, AV.jk, mkS (⟨#[]⟩ : ByteArray), mkB false, AV.d (D.sl (strsD YtgidbnonalbeeaaDoor.ranksL)), mkI IntKind.i64 r, mkI IntKind.i64 (IntKind.wrap IntKind.i64 (i + (1 : Int))), AV.jk, AV.jk, AV.jk, AV.jk, AV.jk, AV.jk, AV.jk, AV.jk, AV.jk, AV.jk, AV.jk, AV.jk, AV.jk, AV.jk, AV.jk, AV.jk, AV.jk, AV.jk, AV.jk, AV.jk, AV.jk, AV.jk, AV.jk, AV.jk, AV.jk, AV.jk, AV.jk, AV.jk, AV.jk, AV.jk, AV.jk, AV.jk, AV.jk, AV.jk, AV.jk, AV.jk, AV.jk, AV.jk, AV.jk, AV.jk], []⟩))) (
   FamNext st inv μ k ⟨[AV.d (D.sl ds), AV.d (D.sl es), AV.jk, AV.jk, mkS (⟨#[]⟩ : ByteArray), mkB false, AV.d (D.sl (strsD YtgidbnonalbeeaaDoor.ranksL)), mkI IntKind.i64 (IntKind.wrap IntKind.i64 (r + (1 : Int))), AV.jk, AV.jk, AV.jk, AV.jk, AV.jk, AV.jk, AV.jk, AV.jk, AV.jk, AV.jk, AV.jk, AV.jk, AV.jk, AV.jk, AV.jk, AV.jk, AV.jk, AV.jk, AV.jk, AV.jk, AV.jk, AV.jk, AV.jk, AV.jk, AV.jk, AV.jk, AV.jk, AV.jk, AV.jk, AV.jk, AV.jk, AV.jk, AV.jk, AV.jk, AV.jk, AV.jk, AV.jk, AV.jk, AV.jk, AV.jk, AV.jk], []⟩)) := by kernel_rfl

theorem r3 (w : ByteArray) (ds es : List (List D)) (q : AV → Prop) :
  (aCode Tryd.K [(8, .det F8), (10, .det F9), (12, .det F11), (9, .det F9), (11, .det F11)] Tryd.b3 (kRet Tryd.K Tryd.f3.results.toList q) ⟨[mkS w, .d (.sl ds), .d (.sl es)] ++ List.replicate (Tryd.f3.ntmps - 3) .jk, []⟩) = (
  True ∧ (
   ((List.length ds) ≤ LIM) →
   (IntKind.i64 = IntKind.i64) ∧
   (((0 : Int) ≤ (if (150 : Int) < ((List.length ds) : Int) then (150 : Int) else ((List.length ds) : Int))) ∧ ((if (150 : Int) < ((List.length ds) : Int) then (150 : Int) else ((List.length ds) : Int)) ≤ ((List.length ds) : Int))) ∧ (
    ((List.length es) ≤ LIM) →
    (IntKind.i64 = IntKind.i64) ∧
    (((0 : Int) ≤ (if (150 : Int) < ((List.length es) : Int) then (150 : Int) else ((List.length es) : Int))) ∧ ((if (150 : Int) < ((List.length es) : Int) then (150 : Int) else ((List.length es) : Int)) ≤ ((List.length es) : Int))) ∧
    ((List.take (Int.toNat (if (150 : Int) < ((List.length ds) : Int) then (150 : Int) else ((List.length ds) : Int))) ds) = (strsD (unSS (List.take (Int.toNat (if (150 : Int) < ((List.length ds) : Int) then (150 : Int) else ((List.length ds) : Int))) ds)))) ∧
    ((List.take (Int.toNat (if (150 : Int) < ((List.length ds) : Int) then (150 : Int) else ((List.length ds) : Int))) ds) = (strsD (unSS (List.take (Int.toNat (if (150 : Int) < ((List.length ds) : Int) then (150 : Int) else ((List.length ds) : Int))) ds)))) ∧
    (((List.take (Int.toNat (if (150 : Int) < ((List.length ds) : Int) then (150 : Int) else ((List.length ds) : Int))) ds) = (strsD (unSS (List.take (Int.toNat (if (150 : Int) < ((List.length ds) : Int) then (150 : Int) else ((List.length ds) : Int))) ds)))) ∧ ((List.take (Int.toNat (if (150 : Int) < ((List.length es) : Int) then (150 : Int) else ((List.length es) : Int))) es) = (strsD (unSS (List.take (Int.toNat (if (150 : Int) < ((List.length es) : Int) then (150 : Int) else ((List.length es) : Int))) es))))) ∧
    (((List.take (Int.toNat (if (150 : Int) < ((List.length ds) : Int) then (150 : Int) else ((List.length ds) : Int))) ds) = (strsD (unSS (List.take (Int.toNat (if (150 : Int) < ((List.length ds) : Int) then (150 : Int) else ((List.length ds) : Int))) ds)))) ∧ ((List.take (Int.toNat (if (150 : Int) < ((List.length es) : Int) then (150 : Int) else ((List.length es) : Int))) es) = (strsD (unSS (List.take (Int.toNat (if (150 : Int) < ((List.length es) : Int) then (150 : Int) else ((List.length es) : Int))) es))))) ∧
    bcase (decide ((Prod.fst (YtgidbnonalbeeaaDoor.pickF w (unSS (List.take (Int.toNat (if (150 : Int) < ((List.length ds) : Int) then (150 : Int) else ((List.length ds) : Int))) ds)))) = (Prod.fst (YtgidbnonalbeeaaDoor.pickF w (unSS (List.take (Int.toNat (if (150 : Int) < ((List.length ds) : Int) then (150 : Int) else ((List.length ds) : Int))) ds)))))) (
     bcase ((Prod.fst (Prod.snd (YtgidbnonalbeeaaDoor.pickF w (unSS (List.take (Int.toNat (if (150 : Int) < ((List.length ds) : Int) then (150 : Int) else ((List.length ds) : Int))) ds))))) == (Prod.fst (Prod.snd (YtgidbnonalbeeaaDoor.pickF w (unSS (List.take (Int.toNat (if (150 : Int) < ((List.length ds) : Int) then (150 : Int) else ((List.length ds) : Int))) ds)))))) (
      bcase ((Prod.snd (Prod.snd (YtgidbnonalbeeaaDoor.pickF w (unSS (List.take (Int.toNat (if (150 : Int) < ((List.length ds) : Int) then (150 : Int) else ((List.length ds) : Int))) ds))))) == (Prod.snd (Prod.snd (YtgidbnonalbeeaaDoor.pickF w (unSS (List.take (Int.toNat (if (150 : Int) < ((List.length ds) : Int) then (150 : Int) else ((List.length ds) : Int))) ds)))))) (
       bcase (decide ((Prod.fst (YtgidbnonalbeeaaDoor.bestF (unSS (List.take (Int.toNat (if (150 : Int) < ((List.length ds) : Int) then (150 : Int) else ((List.length ds) : Int))) ds)) (unSS (List.take (Int.toNat (if (150 : Int) < ((List.length es) : Int) then (150 : Int) else ((List.length es) : Int))) es)))) = (Prod.fst (YtgidbnonalbeeaaDoor.bestF (unSS (List.take (Int.toNat (if (150 : Int) < ((List.length ds) : Int) then (150 : Int) else ((List.length ds) : Int))) ds)) (unSS (List.take (Int.toNat (if (150 : Int) < ((List.length es) : Int) then (150 : Int) else ((List.length es) : Int))) es)))))) (
        q (mkB ((Prod.snd (YtgidbnonalbeeaaDoor.bestF (unSS (List.take (Int.toNat (if (150 : Int) < ((List.length ds) : Int) then (150 : Int) else ((List.length ds) : Int))) ds)) (unSS (List.take (Int.toNat (if (150 : Int) < ((List.length es) : Int) then (150 : Int) else ((List.length es) : Int))) es)))) == (Prod.snd (YtgidbnonalbeeaaDoor.bestF (unSS (List.take (Int.toNat (if (150 : Int) < ((List.length ds) : Int) then (150 : Int) else ((List.length ds) : Int))) ds)) (unSS (List.take (Int.toNat (if (150 : Int) < ((List.length es) : Int) then (150 : Int) else ((List.length es) : Int))) es))))))) (
        q (mkB false))) (
       q (mkB false))) (
      q (mkB false))) (
     q (mkB false))))) := by kernel_rfl

theorem c23a : PSound Tryd.prog 23 (detE F23a) := by
  refine det_fn (c := Tryd.b23) mixed Tryd.K_ok gsound_nil Tryd.func23 rfl rfl Tryd.call23 fun al p r q hF hp hq => ?_
  unfold F23a at hF; split at hF <;> cases hF
  rename_i n
  refine cast (r23a _ q).symm (bcase_mk (fun _ => ⟨?_, hq⟩) (fun h => absurd hp.2 (of_decide_eq_false h)))
  have e : IntKind.u8.wrap (IntKind.u32.wrap (48 + n)) = 48 + n := by
    rw [IntWalk.u32_in _ (by omega), IntWalk.u8_in _ (by omega)]
  rw [e]
  have : ((48 + n).toNat.toUInt8.toNat : Int) = 48 + n := by
    have : (48 + n).toNat < 256 := by omega
    simp [Nat.mod_eq_of_lt this]
    omega
  exact congrArg (fun z => [[D.v (Value.int .u8 z)]]) this.symm
theorem dig_ok {n : Int} (h0 : 0 ≤ n) (h : n < 10) : digS n = ⟨#[UInt8.ofNat (48 + n.toNat)]⟩ := by
  have e : IntKind.u8.wrap (IntKind.u32.wrap (48 + n)) = 48 + n := by
    rw [IntWalk.u32_in _ (by omega), IntWalk.u8_in _ (by omega)]
  unfold digS
  rw [e, show (48 + n).toNat = 48 + n.toNat by omega]

theorem c23 : PSound Tryd.prog 23 (detE F23) := by
  refine det_fn (c := Tryd.b23) mixed Tryd.K_ok (gsound_det c23a gsound_nil) Tryd.func23 rfl rfl Tryd.call23 fun al p r q hF hp hq => ?_
  unfold F23 at hF; split at hF <;> cases hF
  rename_i n
  have dig : ∀ m : Int, 0 ≤ m → m < 10 → ([[D.v (Value.int IntKind.u8 (IntKind.u8.wrap (IntKind.u32.wrap (48 + m))))]] : List (List D)) = [[D.v (Value.int IntKind.u8 (((IntKind.u8.wrap (IntKind.u32.wrap (48 + m))).toNat.toUInt8.toNat : Nat) : Int))]] := by
    intro m h0 h
    have e : IntKind.u8.wrap (IntKind.u32.wrap (48 + m)) = 48 + m := by
      rw [IntWalk.u32_in _ (by omega), IntWalk.u8_in _ (by omega)]
    rw [e]
    have : ((48 + m).toNat.toUInt8.toNat : Int) = 48 + m := by
      have : (48 + m).toNat < 256 := by omega
      simp [Nat.mod_eq_of_lt this]
      omega
    exact congrArg (fun z => [[D.v (Value.int .u8 z)]]) this.symm
  refine cast (r23 _ q).symm (bcase_mk (fun h => ⟨?_, ?_⟩) (fun h => ?_))
  · have h : n < 10 := of_decide_eq_true h
    exact dig n hp.1 h
  · have h : n < 10 := of_decide_eq_true h
    have e : itoaS n = digS n := by
      rw [dig_ok hp.1 h, itoaS, Lib.decDigits_one (by omega)]
    rw [e] at hq; exact hq
  · have h : ¬ n < 10 := of_decide_eq_false h
    have hd : IntKind.u32.wrap (Int.tdiv n 10) = n / 10 := by
      rw [Int.tdiv_eq_ediv_of_nonneg hp.1, IntWalk.u32_in _ (by omega)]
    have hm : Int.tmod n 10 = n % 10 := Int.tmod_eq_emod_of_nonneg hp.1
    have d2 := dig (n % 10) (by omega) (by omega)
    have lt : (0 : Int) ≤ n / 10 ∧ n / 10 < 10 := by omega
    have e : digS (n / 10) ++ digS (n % 10) = itoaS n := by
      rw [dig_ok lt.1 lt.2, dig_ok (by omega) (by omega), itoaS, Lib.decDigits_two (by omega) (by omega)]
      rw [show (n / 10).toNat = n.toNat / 10 by omega, show (n % 10).toNat = n.toNat % 10 by omega]
      rfl
    have e' : q (mkS (digS (n / 10) ++ digS (n % 10))) := by rw [e]; exact hq
    have sz : (digS (n / 10)).size + (digS (n % 10)).size ≤ LIM := by
      have : ∀ m, (digS m).size = 1 := fun m => rfl
      rw [this, this]; decide
    simp only [hd, hm]
    exact ⟨by omega, by omega, ⟨lt, d2, sz, e'⟩, ⟨lt, d2, sz, e'⟩, d2, lt, sz, e'⟩

theorem c10 : PSound Tryd.prog 10 (detE F9) := by
  refine det_fn (c := Tryd.b10) mixed Tryd.K_ok (gsound_det c17 (gsound_det c22 (gsound_det c23 gsound_nil))) Tryd.func10 rfl rfl Tryd.call10 fun al p r q hF hp hq => ?_
  unfold F9 at hF; split at hF <;> cases hF
  rename_i w es
  generalize unSS es = l at hp hq
  subst hp
  refine cast (r10 _ _ q).symm (bcase_mk (fun h => ⟨trivial, bcase_mk (fun h2 => ?_) (fun h2 => ⟨by simp, ?_⟩)⟩) (fun h => ?_))
  · have h : ¬ w = ⟨#[]⟩ := by simpa using h
    have h2 : userB w = false := by simpa using h2
    simpa [pickF, h, h2] using hq
  · have h : ¬ w = ⟨#[]⟩ := by simpa using h
    have h2 : userB w = true := by simpa using h2
    simpa [pickF, h, h2] using hq
  · have hw : w = ⟨#[]⟩ := by simpa using h
    rw [pickF, if_pos hw] at hq
    refine ALoop.introM [] (maskOf (st10 [] 0)) (fun n : Nat => st10 (strsD l) (n + 1 : Nat)) (fun n => n ≤ 99 ∧ pickFrom l 99 0 = pickFrom l (99 - n) n) (fun n => 99 - n) ⟨[], 0, by simp [S.le, sealAll, leL, jks, st10], by simp⟩ fun n hn => ?_
    refine cast (r10_b _ _ _ _ _ _ _).symm ?_
    refine bcase_mk (fun h => ?_) (fun h => ?_)
    · have hlt : n < 99 := by have := of_decide_eq_true h; omega
      have e1 : IntKind.u32.wrap ((n + 1 : Nat) : Int) = (n : Int) + 1 := by rw [IntWalk.u32_in] <;> omega
      have e2 : IntKind.i64.wrap (((n + 1 : Nat) : Int) + 1) = ((n + 1 + 1 : Nat) : Int) := by rw [IntWalk.i64_in] <;> omega
      simp only [e1, e2, unSS_strsD]
      have hsz := itoaS_size (n := (n : Int) + 1) (by omega) (by omega)
      have hs1 : (⟨#[100]⟩ : ByteArray).size = 1 := rfl
      obtain ⟨f, hf⟩ : ∃ f, 99 - n = f + 1 := ⟨98 - n, by omega⟩
      have hp := hn.2
      have hstep : pickFrom l (f + 1) n = if memB (devName ((n : Int) + 1)) l = true then pickFrom l f (n + 1) else (devName ((n : Int) + 1), 0) := rfl
      rw [hf, hstep] at hp
      refine ⟨⟨by omega, by omega⟩, by unfold LIM; omega, trivial, bcase_mk (fun h => ?_) (fun h => ?_)⟩
      · have h : memB (devName ((n : Int) + 1)) l = false := by simpa [devName] using h
        rw [h] at hp
        rw [hp] at hq
        exact hq
      · have h : memB (devName ((n : Int) + 1)) l = true := by simpa [devName] using h
        rw [h] at hp
        exact ⟨[], n + 1, by simp [S.le, sealAll, leL, jks, st10], ⟨by omega, by rw [hp, if_pos rfl, show 99 - (n + 1) = f by omega]⟩, show 99 - (n + 1) < 99 - n by omega⟩
    · have hge : ¬ n < 99 := by have := of_decide_eq_false h; omega
      have hn9 : n = 99 := by omega
      have hp := hn.2
      subst hn9
      rw [hp] at hq
      exact hq

-- the best, by the document
theorem bestTo_spec (l : List ByteArray) : ∀ n, n ≠ 0 → (∀ k, k < n → rankOf l (bestTo l n : Int) ≤ rankOf l (k : Int)) ∧ ∀ k, k < bestTo l n → rankOf l (bestTo l n : Int) < rankOf l (k : Int)
  | 0, h => absurd rfl h
  | n + 1, _ => by
    by_cases h0 : n = 0
    · subst h0
      have e : bestTo l 1 = 0 := by unfold bestTo; split <;> rfl
      rw [e]
      exact ⟨fun k hk => by have : k = 0 := by omega
                            subst this; exact Int.le_refl _, fun k hk => by omega⟩
    · obtain ⟨h1, h2⟩ := bestTo_spec l n h0
      unfold bestTo
      split
      · rename_i hlt
        exact ⟨fun k hk => by
          by_cases e : k = n
          · subst e; exact Int.le_refl _
          · have := h1 k (by omega); omega, fun k hk => by have := h1 k hk; omega⟩
      · rename_i hge
        exact ⟨fun k hk => by
          by_cases e : k = n
          · subst e; omega
          · exact h1 k (by omega), h2⟩
theorem bestTo_first (l : List ByteArray) {n i : Nat} (hi : i < n) (h1 : ∀ k : Nat, k < n → rankOf l (i : Int) ≤ rankOf l (k : Int)) (h2 : ∀ k : Nat, k < i → rankOf l (i : Int) < rankOf l (k : Int)) : bestTo l n = i := by
  obtain ⟨g1, g2⟩ := bestTo_spec l n (by omega)
  have hb := bestTo_lt l n (by omega)
  rcases Nat.lt_trichotomy (bestTo l n) i with h | h | h
  · have := h2 _ h; have := g1 i hi; omega
  · exact h
  · have := g2 _ h; have := h1 _ hb; omega

theorem rank_mem {x : ByteArray} {r : Nat} (hr : r < 5) (h : memB x ranksL = true) : x = ranksL.getD r ⟨#[]⟩ ↔ rankS x = r := by
  rw [memB_iff] at h
  simp only [ranksL, List.mem_cons, List.not_mem_nil, or_false] at h
  have hr : r = 0 ∨ r = 1 ∨ r = 2 ∨ r = 3 ∨ r = 4 := by omega
  rcases h with rfl | rfl | rfl | rfl | rfl <;> rcases hr with rfl | rfl | rfl | rfl | rfl <;> decide
theorem rank_not {x : ByteArray} (h : memB x ranksL = false) : rankS x = 1 := by
  have : ∀ y ∈ ranksL, ¬ y = x := by
    intro y hy e
    have : memB x ranksL = true := by rw [memB_iff, ← e]; exact hy
    rw [h] at this; cases this
  simp only [ranksL, List.mem_cons, List.not_mem_nil, or_false, forall_eq_or_imp, forall_eq] at this
  obtain ⟨h1, h2, h3, h4, h5⟩ := this
  simp [rankS, h1, h2, h3, h4, h5]
theorem rank_empty {r : Nat} (hr : r < 5) : (⟨#[]⟩ : ByteArray) = ranksL.getD r ⟨#[]⟩ ↔ (1 : Int) = r := by
  have hr : r = 0 ∨ r = 1 ∨ r = 2 ∨ r = 3 ∨ r = 4 := by omega
  rcases hr with rfl | rfl | rfl | rfl | rfl <;> decide

theorem c12 : PSound Tryd.prog 12 (detE F11) := by
  refine det_fn (c := Tryd.b12) mixed Tryd.K_ok (gsound_det c22 gsound_nil) Tryd.func12 rfl rfl Tryd.call12 fun al p r q hF hp hq => ?_
  unfold F11 at hF; split at hF <;> cases hF
  rename_i ds es
  obtain ⟨hds, hes⟩ := hp
  generalize unSS ds = d at hds hq
  generalize unSS es = l at hes hq
  subst hds hes
  refine cast (r12 _ _ q).symm ?_
  refine ALoop.introM [] (maskOf (st12 [] [] 0)) (fun r : Nat => st12 (strsD d) (strsD l) r) (fun r => r ≤ 5 ∧ ∀ k : Nat, k < d.length → (r : Int) ≤ rankOf l k) (fun r => 5 - r) ⟨[0], 0, by
    simp [S.le, sealAll, S.sealR, leL, jks, st12, subL, AV.sub, Ob.subO, strsD, ranksL, sChat, sAway, sXa, sDnd, leO, S.fits, fitsL, AV.fits], by omega, fun k _ => rankOf_nonneg l k⟩ fun r hr => ?_
  obtain ⟨hr5, hmin⟩ := hr
  refine cast (r12_b _ _ _ _ _ _ _ _).symm ?_
  refine fun _ => bcase_mk (fun h => ?_) (fun h => ?_)
  · have hr : r < 5 := by have h : (r : Int) < 5 := of_decide_eq_true h; omega
    have hrl : r < ranksL.length := hr
    have h5 : (5 : Nat) ≤ LIM := by decide
    refine ALoop.introM [] (maskOf (st12i [] [] 0 0)) (fun i : Nat => st12i (strsD d) (strsD l) r i) (fun i => i ≤ d.length ∧ ∀ k : Nat, k < i → (r : Int) < rankOf l k) (fun i => d.length - i) ⟨[], 0, by
      simp [S.le, sealAll, leL, jks, st12i], by simp⟩ fun i hi => ?_
    obtain ⟨hil, hall⟩ := hi
    refine cast (r12_c _ _ _ _ _ _ _ _ _ _ _ _ _).symm ?_
    simp only [strsD_len]
    intro hlim
    refine bcase_mk (fun h => ?_) (fun h => ?_)
    · have hlt : i < d.length := by have := of_decide_eq_true h; omega
      rw [wrap_succ hlt hlim]
      simp only [Int.toNat_natCast, strsD_getD d _ hlt, strsD_getD ranksL _ hrl, unSS_strsD, List.getD_cons_zero, strD_str]
      have rb : (0 : Int) ≤ (r : Int) ∧ (r : Int) < 5 := by omega
      have ib : (0 : Int) ≤ (i : Int) ∧ (i : Int) < (d.length : Int) := by omega
      have found : rankOf l (i : Int) = r → q (.tp [mkS (d.getD i ⟨#[]⟩), mkB true]) := by
        intro e
        have : bestTo l d.length = i := bestTo_first l hlt (fun k hk => by rw [e]; exact hmin k hk) (fun k hk => by rw [e]; exact hall k hk)
        have hd : ¬ d.length = 0 := by omega
        simpa [bestF, hd, this] using hq
      have next : ¬ rankOf l (i : Int) = r → i + 1 ≤ d.length ∧ ∀ k : Nat, k < i + 1 → (r : Int) < rankOf l k := by
        intro e
        refine ⟨hlt, fun k hk => ?_⟩
        by_cases ek : k = i
        · subst ek; have := hmin k hlt; omega
        · exact hall k (by omega)
      have hm : d.length - (i + 1) < d.length - i := by omega
      have one : rankOf l (i : Int) = 1 → ((0 : Int) ≤ (r : Int) ∧ (r : Int) < 5) ∧ True := fun _ => ⟨rb, trivial⟩
      refine fun hlim2 => bcase_mk (fun h => ?_) (fun h => ?_)
      · have hil2 : i < l.length := by have := of_decide_eq_true h; omega
        simp only [strsD_getD l _ hil2, List.getD_cons_zero, strD_str]
        have lb : (0 : Int) ≤ (i : Int) ∧ (i : Int) < (l.length : Int) := by omega
        have er : rankOf l (i : Int) = rankS (l.getD i ⟨#[]⟩) := by
          rw [rankOf, if_pos (by omega), Int.toNat_natCast]
        refine ⟨lb, by simp, by simp, by simp, trivial, bcase_mk (fun h => ⟨lb, by simp, by simp, by simp, rb, by simp, by simp, by simp, bcase_mk (fun h2 => ?_) (fun h2 => ?_)⟩) (fun h => ⟨rb, by simp, by simp, by simp, bcase_mk (fun h2 => ?_) (fun h2 => ?_)⟩)⟩
        · have h2 := (rank_mem hr h).1 (of_decide_eq_true h2)
          exact ⟨ib, by simp, by simp, by simp, found (er.trans h2)⟩
        · have h2 : ¬ rankS (l.getD i ⟨#[]⟩) = r := fun e => of_decide_eq_false h2 ((rank_mem hr h).2 e)
          exact ⟨[], i + 1, by simp [S.le, sealAll, leL, jks, st12i], next (by rw [er]; exact h2), hm⟩
        · have h2 := (rank_empty hr).1 (of_decide_eq_true h2)
          exact ⟨ib, by simp, by simp, by simp, found (by rw [er, rank_not h]; exact h2)⟩
        · have h2 : ¬ (1 : Int) = r := fun e => of_decide_eq_false h2 ((rank_empty hr).2 e)
          exact ⟨[], i + 1, by simp [S.le, sealAll, leL, jks, st12i], next (by rw [er, rank_not h]; exact h2), hm⟩
      · have hil2 : ¬ i < l.length := by have := of_decide_eq_false h; omega
        have er : rankOf l (i : Int) = 1 := by rw [rankOf, if_neg (by omega)]
        refine ⟨rb, by simp, by simp, by simp, bcase_mk (fun h2 => ?_) (fun h2 => ?_)⟩
        · have h2 := (rank_empty hr).1 (of_decide_eq_true h2)
          exact ⟨ib, by simp, by simp, by simp, found (er.trans h2)⟩
        · have h2 : ¬ (1 : Int) = r := fun e => of_decide_eq_false h2 ((rank_empty hr).2 e)
          exact ⟨[], i + 1, by simp [S.le, sealAll, leL, jks, st12i], next (by rw [er]; exact h2), hm⟩
    · have hge : ¬ i < d.length := by have := of_decide_eq_false h; omega
      have e2 : IntKind.i64.wrap ((r : Int) + 1) = ((r + 1 : Nat) : Int) := by rw [IntWalk.i64_in] <;> omega
      rw [e2]
      exact ⟨[], r + 1, by simp [S.le, sealAll, leL, jks, st12], ⟨by omega, fun k hk => by have := hall k (by omega); omega⟩, show 5 - (r + 1) < 5 - r by omega⟩
  · have hr : r = 5 := by have h : ¬ (r : Int) < 5 := of_decide_eq_false h; omega
    have hd : d.length = 0 := by
      rcases Nat.eq_zero_or_pos d.length with h | h
      · exact h
      · have := hmin 0 h; have := rankOf_le l ((0 : Nat) : Int); omega
    simpa [bestF, hd] using hq

def F3 : List AV → Option (Prop × AV) := fun al => match al with
  | [.d (.v (.string w)), .d (.sl ds), .d (.sl es)] => some (ds = strsD (unSS ds) ∧ es = strsD (unSS es), mkB true)
  | _ => none
theorem c3 : PSound Tryd.prog 3 (detE F3) := by
  refine det_fn (c := Tryd.b3) mixed Tryd.K_ok (gsound_det c8 (gsound_det c10 (gsound_det c12 (gsound_det c9 (gsound_det c11 gsound_nil))))) Tryd.func3 rfl rfl Tryd.call3 fun al p r q hF hp hq => ?_
  unfold F3 at hF; split at hF <;> cases hF
  rename_i w ds es
  obtain ⟨hds, hes⟩ := hp
  generalize unSS ds = d at hds
  generalize unSS es = l at hes
  subst hds hes
  refine cast (r3 _ _ _ q).symm ⟨trivial, fun _ => ⟨rfl, ⟨by split <;> omega, by split <;> omega⟩, fun _ => ⟨rfl, ⟨by split <;> omega, by split <;> omega⟩, ?_⟩⟩⟩
  have hm : ∀ l : List ByteArray, ((if (150 : Int) < ((strsD l).length : Int) then (150 : Int) else ((strsD l).length : Int)).toNat) = min l.length 150 := by
    intro l; simp only [strsD_len]; split <;> omega
  simp only [hm, strsD_take, unSS_strsD, decide_true, beq_self_eq_true, bcase_true]
  exact ⟨trivial, trivial, ⟨trivial, trivial⟩, ⟨trivial, trivial⟩, hq⟩
theorem h3 : ∀ as', TyArgs Tryd.prog Tryd.f3.params.toList as' → ∃ p, F3 as' = some (p, mkB true) ∧ p := by
  intro as' h
  rw [Tryd.params3] at h
  match as', h with
  | [a, b, c], ⟨ha, hb, hc, _⟩ =>
    obtain ⟨x, rfl, _⟩ := arg_str Tryd.underlying9 ha
    obtain ⟨y, rfl, _⟩ := arg_strs Tryd.underlying22 Tryd.underlying9 hb
    obtain ⟨z, rfl, hz⟩ := arg_strs Tryd.underlying22 Tryd.underlying9 hc
    exact ⟨_, rfl, by simp, by simp⟩

end Go.Proofs.YtgidbnonalbeeaaDoor
