import Derived.Test.YtgidbnonalbeeaaDoorBindAddr
import Derived.Test.YtgidbnonalbeeaaDoorBindRank
set_option linter.unusedSimpArgs false
set_option linter.unusedVariables false
namespace Go.Proofs.YtgidbnonalbeeaaDoor
open Go Go.AM Go.RowKit

def sFirst : ByteArray := ⟨#[102, 105, 114, 115, 116, 33]⟩
def sLast : ByteArray := ⟨#[108, 97, 115, 116, 33]⟩

noncomputable abbrev G8 : List (FuncId × En) := [(9, .det F9), (13, .det F13), (11, .det F11), (15, .det F15)]
theorem r8 (q : AV → Prop) :
  (aCode Tryd.K G8 Tryd.b8 (kRet Tryd.K Tryd.f8.results.toList q) ⟨[] ++ List.replicate (Tryd.f8.ntmps) .jk, []⟩) = (
  ([[D.v (Value.string (⟨#[(100 : UInt8), (49 : UInt8)]⟩ : ByteArray))]] = (strsD (unSS [[D.v (Value.string (⟨#[(100 : UInt8), (49 : UInt8)]⟩ : ByteArray))]]))) ∧
  True ∧
  (([[D.v (Value.string (⟨#[(120 : UInt8)]⟩ : ByteArray))], [D.v (Value.string (⟨#[(121 : UInt8)]⟩ : ByteArray))]] = (strsD (unSS [[D.v (Value.string (⟨#[(120 : UInt8)]⟩ : ByteArray))], [D.v (Value.string (⟨#[(121 : UInt8)]⟩ : ByteArray))]]))) ∧ ([[D.v (Value.string YtgidbnonalbeeaaDoor.sDnd)], [D.v (Value.string YtgidbnonalbeeaaDoor.sAway)]] = (strsD (unSS [[D.v (Value.string YtgidbnonalbeeaaDoor.sDnd)], [D.v (Value.string YtgidbnonalbeeaaDoor.sAway)]])))) ∧
  ((ByteArray.size (⟨#[(97 : UInt8), (110 : UInt8), (110 : UInt8)]⟩ : ByteArray)) ≤ LIM) ∧
  q (mkB (YtgidbnonalbeeaaDoor.meantB (⟨#[(97 : UInt8), (110 : UInt8), (110 : UInt8)]⟩ : ByteArray) (⟨#[(97 : UInt8), (110 : UInt8), (110 : UInt8)]⟩ : ByteArray) (⟨#[(112 : UInt8), (97 : UInt8), (100 : UInt8)]⟩ : ByteArray)))) := by kernel_rfl

def F8 : List AV → Option (Prop × AV) := fun al => match al with
  | [] => some (True, mkB true)
  | _ => none

theorem c8 : PSound Tryd.prog 8 (detE F8) := by
  refine det_fn (c := Tryd.b8) mixed Tryd.K_ok (gsound_det c9 (gsound_det c13 (gsound_det c11 (gsound_det c15 gsound_nil)))) Tryd.func8 rfl rfl Tryd.call8 fun al p r q hF hp hq => ?_
  unfold F8 at hF; split at hF <;> cases hF
  refine cast (r8 q).symm ⟨rfl, trivial, ⟨rfl, rfl⟩, by decide, ?_⟩
  have : meantB ⟨#[97, 110, 110]⟩ ⟨#[97, 110, 110]⟩ ⟨#[112, 97, 100]⟩ = true := by decide +kernel
  rw [this]; exact hq

noncomputable abbrev G7 : List (FuncId × En) := [(8, .det F8), (11, .det F11)]
noncomputable def r7_k0 (q : AV → Prop) : Kont := kBlk (0 : Nat) (kSeq (aCode Tryd.K YtgidbnonalbeeaaDoor.G7 (cAt [1, 1, 1, 1] Tryd.b7) (kRet Tryd.K (Array.toList (Func.results Tryd.f7)) q)) (kRet Tryd.K (Array.toList (Func.results Tryd.f7)) q))
theorem r7 (ds es : List (List D)) (q : AV → Prop) :
  (aCode Tryd.K G7 Tryd.b7 (kRet Tryd.K Tryd.f7.results.toList q) ⟨[.d (.sl ds), .d (.sl es)] ++ List.replicate (Tryd.f7.ntmps - 2) .jk, []⟩) = (
  True ∧ (
   ((List.length ds) ≤ LIM) →
   (IntKind.i64 = IntKind.i64) ∧
   (((0 : Int) ≤ (if (30 : Int) < ((List.length ds) : Int) then (30 : Int) else ((List.length ds) : Int))) ∧ ((if (30 : Int) < ((List.length ds) : Int) then (30 : Int) else ((List.length ds) : Int)) ≤ ((List.length ds) : Int))) ∧ (
    ((List.length es) ≤ LIM) →
    (IntKind.i64 = IntKind.i64) ∧
    (((0 : Int) ≤ (if (30 : Int) < ((List.length es) : Int) then (30 : Int) else ((List.length es) : Int))) ∧ ((if (30 : Int) < ((List.length es) : Int) then (30 : Int) else ((List.length es) : Int)) ≤ ((List.length es) : Int))) ∧
    ALoop (aCode Tryd.K YtgidbnonalbeeaaDoor.G7 (cAt [1, 1, 1, 0, 0, 0] Tryd.b7)) (YtgidbnonalbeeaaDoor.r7_k0 q) ⟨[AV.d (D.sl (List.take (Int.toNat (if (30 : Int) < ((List.length ds) : Int) then (30 : Int) else ((List.length ds) : Int))) ds)), AV.d (D.sl (List.take (Int.toNat (if (30 : Int) < ((List.length es) : Int) then (30 : Int) else ((List.length es) : Int))) es)), AV.jk, AV.jk, mkB false, AV.jk, AV.jk, AV.jk, AV.jk, AV.jk, AV.jk, AV.jk, AV.jk, mkB true, mkB false, AV.d (D.sl ds), AV.d (D.sl ds), mkI IntKind.i64 ((List.length ds) : Int), mkI IntKind.i64 (if (30 : Int) < ((List.length ds) : Int) then (30 : Int) else ((List.length ds) : Int)), AV.d (D.sl (List.take (Int.toNat (if (30 : Int) < ((List.length ds) : Int) then (30 : Int) else ((List.length ds) : Int))) ds)), AV.d (D.sl es), AV.d (D.sl es), mkI IntKind.i64 ((List.length es) : Int), mkI IntKind.i64 (if (30 : Int) < ((List.length es) : Int) then (30 : Int) else ((List.length es) : Int)), AV.d (D.sl (List.take (Int.toNat (if (30 : Int) < ((List.length es) : Int) then (30 : Int) else ((List.length es) : Int))) es)), AV.jk, AV.jk, AV.jk, AV.jk, AV.jk, AV.jk, AV.jk, AV.jk, AV.jk, AV.jk, AV.jk, AV.jk, AV.jk, AV.jk, AV.jk, AV.jk, AV.jk, AV.jk, AV.jk, AV.jk, AV.jk, AV.jk, AV.jk, AV.jk, AV.jk, AV.jk, AV.jk, AV.jk, AV.jk, AV.jk, AV.jk, AV.jk, AV.jk, AV.jk, AV.jk, AV.jk, AV.jk, AV.jk, AV.jk, AV.jk, AV.jk, AV.jk, AV.jk, AV.jk, AV.jk, AV.jk, AV.jk, AV.jk, AV.jk, AV.jk, AV.jk, AV.jk, AV.jk, AV.jk, AV.jk, AV.jk, AV.jk, AV.jk, AV.jk, AV.jk, AV.jk, AV.jk, AV.jk, AV.jk, AV.jk, AV.jk, AV.jk, AV.jk, AV.jk, AV.jk, AV.jk, AV.jk, AV.jk, AV.jk, AV.jk, AV.jk, AV.jk, AV.jk, AV.jk, AV.jk, AV.jk, AV.jk, AV.jk, AV.jk, AV.jk, AV.jk], []⟩))) := by kernel_rfl

def st7a (a b : List (List D)) : S := ⟨[.d (.sl a), .d (.sl b)] ++ jks 109, []⟩
noncomputable def r7_b_k0 (q : AV → Prop) : Kont := kBlk (2 : Nat) (kSeq (aCode Tryd.K YtgidbnonalbeeaaDoor.G7 (cAt [1, 1, 1, 1, 1, 1, 1, 1] Tryd.b7) (kRet Tryd.K (Array.toList (Func.results Tryd.f7)) q)) (kRet Tryd.K (Array.toList (Func.results Tryd.f7)) q))
theorem r7_b {ι : Type} (st : ι → S) (inv : ι → Prop) (μ : ι → Nat) (k : ι) (a b : List (List D)) (q : AV → Prop) :
  (aCode Tryd.K G7 (cAt [1, 1, 1, 0, 0, 0] Tryd.b7) (kFam st inv μ k (r7_k0 q)) (st7a a b)) = (
  ((List.length b) ≤ LIM) →
  ((List.length a) ≤ LIM) →
  bcase (decide (((List.length b) : Int) < ((List.length a) : Int))) (
   (∀ (c : List D), (c ∈ b) → (List.length c) = 1) ∧
   ((List.length b) ≤ LIM) ∧
   (∀ (c : List D), (c ∈ [[D.v (Value.string (⟨#[]⟩ : ByteArray))]]) → (List.length c) = 1) ∧
   ((List.length b) = (List.length b)) ∧
   (((List.length b) + 1) ≤ LIM) ∧
   FamNext st inv μ k ⟨[AV.d (D.sl a), AV.vw 0 ((List.length b) + 1), AV.jk, AV.jk, AV.jk, AV.jk, AV.jk, AV.jk, AV.jk, AV.jk, AV.jk, AV.jk, AV.jk, AV.jk, AV.jk, AV.jk, AV.jk, AV.jk, AV.jk, AV.jk, AV.jk, AV.jk, AV.jk, AV.jk, AV.jk, AV.d (D.sl b), mkI IntKind.i64 ((List.length b) : Int), AV.d (D.sl a), mkI IntKind.i64 ((List.length a) : Int), mkB true, AV.d (D.sl b), AV.jk, AV.vw 1 (1 : Nat), AV.vw 0 ((List.length b) + 1), AV.jk, AV.jk, AV.jk, AV.jk, AV.jk, AV.jk, AV.jk, AV.jk, AV.jk, AV.jk, AV.jk, AV.jk, AV.jk, AV.jk, AV.jk, AV.jk, AV.jk, AV.jk, AV.jk, AV.jk, AV.jk, AV.jk, AV.jk, AV.jk, AV.jk, AV.jk, AV.jk, AV.jk, AV.jk, AV.jk, AV.jk, AV.jk, AV.jk, AV.jk, AV.jk, AV.jk, AV.jk, AV.jk, AV.jk, AV.jk, AV.jk, AV.jk, AV.jk, AV.jk, AV.jk, AV.jk, AV.jk, AV.jk, AV.jk, AV.jk, AV.jk, AV.jk, AV.jk, AV.jk, AV.jk, AV.jk, AV.jk, AV.jk, AV.jk, AV.jk, AV.jk, AV.jk, AV.jk, AV.jk, AV.jk, AV.jk, AV.jk, AV.jk, AV.jk, AV.jk, AV.jk, AV.jk, AV.jk, AV.jk, AV.jk, AV.jk, AV.jk], [Ob.row 1 (b ++ [[D.v (Value.string (⟨#[]⟩ : ByteArray))]]), Ob.row 1 [[D.v (Value.string (⟨#[]⟩ : ByteArray))]]]⟩) (
   ((List.length a) ≤ LIM) →
   (((0 : Int) ≤ ((List.length a) : Int)) ∧ (((List.length a) : Int) ≤ ((List.length b) : Int))) ∧
   ((a = (strsD (unSS a))) ∧ ((List.take (Int.toNat ((List.length a) : Int)) b) = (strsD (unSS (List.take (Int.toNat ((List.length a) : Int)) b))))) ∧
   ALoop (aCode Tryd.K YtgidbnonalbeeaaDoor.G7 (cAt [1, 1, 1, 1, 1, 1, 1, 0, 1, 0, 0] Tryd.b7)) (YtgidbnonalbeeaaDoor.r7_b_k0 q) ⟨[AV.d (D.sl a), AV.d (D.sl (List.take (Int.toNat ((List.length a) : Int)) b)), AV.jk, AV.jk, AV.jk, mkS (Prod.fst (YtgidbnonalbeeaaDoor.bestF (unSS a) (unSS (List.take (Int.toNat ((List.length a) : Int)) b)))), mkB (Prod.snd (YtgidbnonalbeeaaDoor.bestF (unSS a) (unSS (List.take (Int.toNat ((List.length a) : Int)) b)))), mkB false, mkI IntKind.i64 (0 : Int), AV.jk, AV.jk, AV.jk, AV.jk, AV.jk, AV.jk, AV.jk, AV.jk, AV.jk, AV.jk, AV.jk, AV.jk, AV.jk, AV.jk, AV.jk, AV.jk, AV.d (D.sl b), mkI IntKind.i64 ((List.length b) : Int), AV.d (D.sl a), mkI IntKind.i64 ((List.length a) : Int), mkB false, AV.jk, AV.jk, AV.jk, AV.jk, AV.d (D.sl b), AV.d (D.sl a), mkI IntKind.i64 ((List.length a) : Int), AV.d (D.sl (List.take (Int.toNat ((List.length a) : Int)) b)), AV.tp [mkS (Prod.fst (YtgidbnonalbeeaaDoor.bestF (unSS a) (unSS (List.take (Int.toNat ((List.length a) : Int)) b)))), mkB (Prod.snd (YtgidbnonalbeeaaDoor.bestF (unSS a) (unSS (List.take (Int.toNat ((List.length a) : Int)) b))))], AV.d (D.sl a), AV.d (D.sl (List.take (Int.toNat ((List.length a) : Int)) b)), AV.tp [mkS (Prod.fst (YtgidbnonalbeeaaDoor.bestF (unSS a) (unSS (List.take (Int.toNat ((List.length a) : Int)) b)))), mkB (Prod.snd (YtgidbnonalbeeaaDoor.bestF (unSS a) (unSS (List.take (Int.toNat ((List.length a) : Int)) b))))], mkS (Prod.fst (YtgidbnonalbeeaaDoor.bestF (unSS a) (unSS (List.take (Int.toNat ((List.length a) : Int)) b)))), mkB (Prod.snd (YtgidbnonalbeeaaDoor.bestF (unSS a) (unSS (List.take (Int.toNat ((List.length a) : Int)) b)))), AV.jk, AV.jk, AV.jk, AV.jk, AV.jk, AV.jk, AV.jk, AV.jk, AV.jk, AV.jk, AV.jk, AV.jk, AV.jk, AV.jk, AV.jk, AV.jk, AV.jk, AV.jk, AV.jk, AV.jk, AV.jk, AV.jk, AV.jk, AV.jk, AV.jk, AV.jk, AV.jk, AV.jk, AV.jk, AV.jk, AV.jk, AV.jk, AV.jk, AV.jk, AV.jk, AV.jk, AV.jk, AV.jk, AV.jk, AV.jk, AV.jk, AV.jk, AV.jk, AV.jk, AV.jk, AV.jk, AV.jk, AV.jk, AV.jk, AV.jk, AV.jk, AV.jk, AV.jk, AV.jk, AV.jk, AV.jk, AV.jk, AV.jk, AV.jk, AV.jk, AV.jk, AV.jk, AV.jk, AV.jk, AV.jk, AV.jk, AV.jk], []⟩)) := by kernel_rfl

def st7c (a b : List (List D)) (s : ByteArray) (ok inn : Bool) (i : Int) : S := ⟨[.d (.sl a), .d (.sl b), .jk, .jk, .jk, mkS s, mkB ok, mkB inn, mkI .i64 i] ++ jks 102, []⟩
theorem r7_c {ι : Type} (st : ι → S) (inv : ι → Prop) (μ : ι → Nat) (k : ι) (a b : List (List D)) (s : ByteArray) (ok inn : Bool) (i : Int) (q : AV → Prop) :
  (aCode Tryd.K G7 (cAt [1, 1, 1, 1, 1, 1, 1, 0, 1, 0, 0] Tryd.b7) (kFam st inv μ k (r7_b_k0 q)) (st7c a b s ok inn i)) = (
  ((List.length a) ≤ LIM) →
  bcase (decide (i < ((List.length a) : Int))) (
   bcase inn (
    FamNext st inv μ k ⟨[AV.d (D.sl a), AV.d (D.sl b), AV.jk, AV.jk, AV.jk, mkS s, mkB ok, mkB true, mkI IntKind.i64 (IntKind.wrap IntKind.i64 (i + (1 : Int))), AV.jk, AV.jk, AV.jk, AV.jk, AV.jk, AV.jk, AV.jk, AV.jk, AV.jk, AV.jk, AV.jk, AV.jk, AV.jk, AV.jk, AV.jk, AV.jk, AV.jk, AV.jk, AV.jk, AV.jk, AV.jk, AV.jk, AV.jk, AV.jk, AV.jk, AV.jk, AV.jk, AV.jk, AV.jk, AV.jk, AV.jk, AV.jk, AV.jk, AV.jk, AV.jk, mkI IntKind.i64 i, AV.d (D.sl a), mkI IntKind.i64 ((List.length a) : Int), mkB true, mkI IntKind.i64 i, mkI IntKind.i64 (IntKind.wrap IntKind.i64 (i + (1 : Int))), mkB inn, mkB true, AV.tp [], AV.tp [], AV.tp [], AV.tp [], AV.tp [], AV.tp [], mkB true, AV.jk, AV.jk, AV.jk, AV.jk, AV.jk, AV.jk, AV.jk, AV.jk, AV.jk, AV.jk, AV.jk, AV.jk, AV.jk, AV.jk, AV.jk, AV.jk, AV.jk, AV.jk, AV.jk, AV.jk, AV.jk, AV.jk, AV.jk, AV.jk, AV.jk, AV.jk, AV.jk, AV.jk, AV.jk, AV.jk, AV.jk, AV.jk, AV.jk, AV.jk, AV.jk, AV.jk, AV.jk, AV.jk, AV.jk, AV.jk, AV.jk, AV.jk, AV.jk, AV.jk, AV.jk, AV.jk, AV.jk, AV.jk, AV.jk, AV.jk, AV.jk, AV.jk], []⟩) (
    (((0 : Int) ≤ i) ∧ (i < ((List.length a) : Int))) ∧
    ((List.length (List.getD a (Int.toNat i) [])) = 1) ∧
    ((1 : Nat) ≤ (List.length (List.getD a (Int.toNat i) []))) ∧
    ((List.getD (List.getD a (Int.toNat i) []) (0 : Nat) d0) = (D.v (Value.string (strD (List.getD (List.getD a (Int.toNat i) []) (0 : Nat) d0))))) ∧
    FamNext st inv μ k ⟨[AV.d (D.sl a), AV.d (D.sl b), AV.jk, AV.jk, AV.jk, mkS s, mkB ok, mkB (decide ((strD (List.getD (List.getD a (Int.toNat i) []) (0 : Nat) d0)) = s)), mkI IntKind.i64 (IntKind.wrap IntKind.i64 (i + (1 : Int))), AV.jk, AV.jk, AV.jk, AV.jk, AV.jk, AV.jk, AV.jk, AV.jk, AV.jk, AV.jk, AV.jk, AV.jk, AV.jk, AV.jk, AV.jk, AV.jk, AV.jk, AV.jk, AV.jk, AV.jk, AV.jk, AV.jk, AV.jk, AV.jk, AV.jk, AV.jk, AV.jk, AV.jk, AV.jk, AV.jk, AV.jk, AV.jk, AV.jk, AV.jk, AV.jk, mkI IntKind.i64 i, AV.d (D.sl a), mkI IntKind.i64 ((List.length a) : Int), mkB true, mkI IntKind.i64 i, mkI IntKind.i64 (IntKind.wrap IntKind.i64 (i + (1 : Int))), mkB inn, mkB false, AV.d (D.sl a), mkI IntKind.i64 i, AV.ep (List.getD a (Int.toNat i) []), mkS (strD (List.getD (List.getD a (Int.toNat i) []) (0 : Nat) d0)), mkS s, mkB (decide ((strD (List.getD (List.getD a (Int.toNat i) []) (0 : Nat) d0)) = s)), mkB (decide ((strD (List.getD (List.getD a (Int.toNat i) []) (0 : Nat) d0)) = s)), AV.jk, AV.jk, AV.jk, AV.jk, AV.jk, AV.jk, AV.jk, AV.jk, AV.jk, AV.jk, AV.jk, AV.jk, AV.jk, AV.jk, AV.jk, AV.jk, AV.jk, AV.jk, AV.jk, AV.jk, AV.jk, AV.jk, AV.jk, AV.jk, AV.jk, AV.jk, AV.jk, AV.jk, AV.jk, AV.jk, AV.jk, AV.jk, AV.jk, AV.jk, AV.jk, AV.jk, AV.jk, AV.jk, AV.jk, AV.jk, AV.jk, AV.jk, AV.jk, AV.jk, AV.jk, AV.jk, AV.jk, AV.jk, AV.jk, AV.jk, AV.jk, AV.jk], []⟩)) (
   (∀ (c : List D), (c ∈ a) → (List.length c) = 1) ∧
   ((1 : Nat) = 1) ∧
   ((1 + (List.length a)) ≤ LIM) ∧
   (∀ (c : List D), (c ∈ b) → (List.length c) = 1) ∧
   ((1 : Nat) = 1) ∧
   ((1 + (List.length b)) ≤ LIM) ∧
   (((List.take (1 + (List.length a)) (List.cons [D.v (Value.string YtgidbnonalbeeaaDoor.sFirst)] a)) = (strsD (unSS (List.take (1 + (List.length a)) (List.cons [D.v (Value.string YtgidbnonalbeeaaDoor.sFirst)] a))))) ∧ ((List.take (1 + (List.length b)) (List.cons [D.v (Value.string YtgidbnonalbeeaaDoor.sChat)] b)) = (strsD (unSS (List.take (1 + (List.length b)) (List.cons [D.v (Value.string YtgidbnonalbeeaaDoor.sChat)] b)))))) ∧
   (∀ (c : List D), (c ∈ a) → (List.length c) = 1) ∧
   ((List.length a) ≤ LIM) ∧
   (∀ (c : List D), (c ∈ [[D.v (Value.string YtgidbnonalbeeaaDoor.sLast)]]) → (List.length c) = 1) ∧
   ((List.length a) = (List.length a)) ∧
   (((List.length a) + 1) ≤ LIM) ∧
   (∀ (c : List D), (c ∈ b) → (List.length c) = 1) ∧
   ((List.length b) ≤ LIM) ∧
   (∀ (c : List D), (c ∈ [[D.v (Value.string YtgidbnonalbeeaaDoor.sDnd)]]) → (List.length c) = 1) ∧
   ((List.length b) = (List.length b)) ∧
   (((List.length b) + 1) ≤ LIM) ∧
   (((List.take ((List.length a) + 1) (a ++ [[D.v (Value.string YtgidbnonalbeeaaDoor.sLast)]])) = (strsD (unSS (List.take ((List.length a) + 1) (a ++ [[D.v (Value.string YtgidbnonalbeeaaDoor.sLast)]]))))) ∧ ((List.take ((List.length b) + 1) (b ++ [[D.v (Value.string YtgidbnonalbeeaaDoor.sDnd)]])) = (strsD (unSS (List.take ((List.length b) + 1) (b ++ [[D.v (Value.string YtgidbnonalbeeaaDoor.sDnd)]])))))) ∧ (
    ((List.length a) ≤ LIM) →
    bcase (ok == (decide (((List.length a) : Int) > (0 : Int)))) (
     bcase (inn == ok) (
      bcase (decide ((Prod.fst (YtgidbnonalbeeaaDoor.bestF (unSS (List.take (1 + (List.length a)) (List.cons [D.v (Value.string YtgidbnonalbeeaaDoor.sFirst)] a))) (unSS (List.take (1 + (List.length b)) (List.cons [D.v (Value.string YtgidbnonalbeeaaDoor.sChat)] b))))) = YtgidbnonalbeeaaDoor.sFirst)) (
       bcase (decide ((Prod.fst (YtgidbnonalbeeaaDoor.bestF (unSS (List.take ((List.length a) + 1) (a ++ [[D.v (Value.string YtgidbnonalbeeaaDoor.sLast)]]))) (unSS (List.take ((List.length b) + 1) (b ++ [[D.v (Value.string YtgidbnonalbeeaaDoor.sDnd)]]))))) = s)) (
        bcase ok (
         q (mkB true)) (
         bcase (!ok) (
          q (mkB (decide ((Prod.fst (YtgidbnonalbeeaaDoor.bestF (unSS (List.take ((List.length a) + 1) (a ++ [[D.v (Value.string YtgidbnonalbeeaaDoor.sLast)]]))) (unSS (List.take ((List.length b) + 1) (b ++ [[D.v (Value.string YtgidbnonalbeeaaDoor.sDnd)]]))))) = YtgidbnonalbeeaaDoor.sLast)))) (
          q (mkB false)))) (
        bcase (!ok) (
         q (mkB (decide ((Prod.fst (YtgidbnonalbeeaaDoor.bestF (unSS (List.take ((List.length a) + 1) (a ++ [[D.v (Value.string YtgidbnonalbeeaaDoor.sLast)]]))) (unSS (List.take ((List.length b) + 1) (b ++ [[D.v (Value.string YtgidbnonalbeeaaDoor.sDnd)]]))))) = YtgidbnonalbeeaaDoor.sLast)))) (
         q (mkB false)))) (
       q (mkB false))) (
      q (mkB false))) (
     q (mkB false))))) := by kernel_rfl

-- the plain law
theorem rankS_nonneg (s : ByteArray) : 0 ≤ rankS s := by unfold rankS; split <;> (try split) <;> (try split) <;> (try split) <;> (try split) <;> omega
theorem rankS_le (s : ByteArray) : rankS s ≤ 4 := by unfold rankS; split <;> (try split) <;> (try split) <;> (try split) <;> (try split) <;> omega
theorem rankOf_nonneg (l : List ByteArray) (i : Int) : 0 ≤ rankOf l i := by unfold rankOf; split; exact rankS_nonneg _; omega
theorem rankOf_le (l : List ByteArray) (i : Int) : rankOf l i ≤ 4 := by unfold rankOf; split; exact rankS_le _; omega

theorem bestTo_zero (l : List ByteArray) (h : rankOf l 0 = 0) : ∀ n, bestTo l n = 0
  | 0 => rfl
  | n + 1 => by
    have ih := bestTo_zero l h n
    have e : rankOf l ((0 : Nat) : Int) = 0 := h
    have := rankOf_nonneg l (n : Int)
    rw [bestTo, ih, if_neg (by omega)]

theorem best_first (a b : List ByteArray) (x : ByteArray) : (bestF (x :: a) (sChat :: b)).1 = x := by
  have h : rankOf (sChat :: b) 0 = 0 := by simp [rankOf, rankS]
  simp only [bestF, List.length_cons, bestTo_zero _ h]
  rw [if_neg (by omega)]
  rfl

theorem rankOf_snoc (b : List ByteArray) (x : ByteArray) (n : Nat) (h : n < b.length) : rankOf (b ++ [x]) (n : Int) = rankOf b (n : Int) := by
  have h1 : ((n : Nat) : Int) < (b.length : Int) := by omega
  have h2 : ((n : Nat) : Int) < ((b ++ [x]).length : Int) := by simp; omega
  simp only [rankOf, h1, h2, if_true, Int.toNat_natCast]
  rw [List.getD_eq_getElem?_getD, List.getD_eq_getElem?_getD, List.getElem?_append_left h]

theorem bestTo_snoc (b : List ByteArray) (x : ByteArray) : ∀ n, n ≤ b.length → bestTo (b ++ [x]) n = bestTo b n
  | 0, _ => rfl
  | n + 1, h => by
    have ih := bestTo_snoc b x n (by omega)
    rw [bestTo, bestTo, ih, rankOf_snoc b x n (by omega)]
    by_cases h0 : n = 0
    · subst h0
      rw [show bestTo b 0 = 0 from rfl, rankOf_snoc b x 0 (by omega)]
    · have := bestTo_lt b n h0
      rw [rankOf_snoc b x (bestTo b n) (by omega)]

theorem rank_dnd (b : List ByteArray) : rankOf (b ++ [sDnd]) (b.length : Int) = 4 := by
  have : rankS sDnd = 4 := by decide
  simp [rankOf, this]
  omega

theorem best_last (a b : List ByteArray) (x : ByteArray) (h : a.length = b.length) : (bestF (a ++ [x]) (b ++ [sDnd])).1 = if a.length = 0 then x else (bestF a b).1 := by
  have hb : bestTo (b ++ [sDnd]) (a.length + 1) = bestTo b a.length := by
    rw [bestTo, bestTo_snoc _ _ _ (by omega)]
    rw [h, rank_dnd]
    have := rankOf_le (b ++ [sDnd]) (bestTo b b.length : Int)
    rw [if_neg (by omega)]
  have hl : (a ++ [x]).length = a.length + 1 := by simp
  simp only [bestF, hl, hb]
  rw [if_neg (by omega)]
  by_cases h0 : a.length = 0
  · have : a = [] := List.eq_nil_of_length_eq_zero h0
    subst this
    simp [bestTo]
  · have := bestTo_lt b a.length h0
    simp only [h0, if_false]
    rw [List.getD_eq_getElem?_getD, List.getD_eq_getElem?_getD, List.getElem?_append_left (by omega)]

theorem best_ok (a b : List ByteArray) : (bestF a b).2 = decide (0 < a.length) := by
  unfold bestF
  split
  · simp_all
  · simp; omega

/-- Is it among the first n? -/
def anyTo (a : List ByteArray) (s : ByteArray) : Nat → Bool
  | 0 => false
  | n + 1 => anyTo a s n || decide (a.getD n ⟨#[]⟩ = s)
theorem anyTo_at (a : List ByteArray) (s : ByteArray) (k : Nat) (h : a.getD k ⟨#[]⟩ = s) : ∀ n, k < n → anyTo a s n = true
  | 0, hk => absurd hk (by omega)
  | n + 1, hk => by
    unfold anyTo
    by_cases e : k = n
    · subst e; rw [h]; simp
    · rw [anyTo_at a s k h n (by omega)]; rfl
theorem any_best (a b : List ByteArray) : anyTo a (bestF a b).1 a.length = (bestF a b).2 := by
  rw [best_ok]
  by_cases h : a.length = 0
  · simp [h, anyTo]
  · rw [anyTo_at a _ (bestTo b a.length) (by simp [bestF, h]) a.length (bestTo_lt b _ h)]
    simp; omega

def F7 : List AV → Option (Prop × AV) := fun al => match al with
  | [.d (.sl ds), .d (.sl es)] => some (ds = strsD (unSS ds) ∧ es = strsD (unSS es), mkB true)
  | _ => none

theorem c7 : PSound Tryd.prog 7 (detE F7) := by
  refine det_fn (c := Tryd.b7) mixed Tryd.K_ok (gsound_det c8 (gsound_det c11 gsound_nil)) Tryd.func7 rfl rfl Tryd.call7 fun al p r q hF hp hq => ?_
  unfold F7 at hF; split at hF <;> cases hF
  rename_i ds es
  obtain ⟨hds, hes⟩ := hp
  generalize unSS ds = d at hds
  generalize unSS es = e at hes
  subst hds hes
  -- the second loop, and what follows
  have second : ∀ a b : List ByteArray, a.length = b.length → a.length ≤ 30 → ∀ n, n ≤ a.length →
      aCode Tryd.K G7 (cAt [1, 1, 1, 1, 1, 1, 1, 0, 1, 0, 0] Tryd.b7) (kFam (fun n : Nat => st7c (strsD a) (strsD b) (bestF a b).1 (bestF a b).2 (anyTo a (bestF a b).1 n) n) (fun n => n ≤ a.length) (fun n => a.length - n) n (r7_b_k0 q)) (st7c (strsD a) (strsD b) (bestF a b).1 (bestF a b).2 (anyTo a (bestF a b).1 n) n) := by
    intro a b hab hlen n hn
    refine cast (r7_c _ _ _ _ _ _ _ _ _ _ _).symm ?_
    intro _
    refine bcase_mk (fun h => ?_) (fun h => ?_)
    · have hlt : n < a.length := by simpa using h
      have hw : IntKind.i64.wrap ((n : Int) + 1) = ((n + 1 : Nat) : Int) := by rw [IntWalk.i64_in] <;> omega
      rw [hw]
      refine bcase_mk (fun h => ?_) (fun h => ?_)
      · refine ⟨[], n + 1, ?_, hlt, show a.length - (n + 1) < a.length - n by omega⟩
        simp [S.le, sealAll, leL, jks, st7c, anyTo, h]
      · have e : ((n : Nat) : Int).toNat = n := by omega
        rw [e, strsD_getD a _ hlt]
        refine ⟨⟨by omega, by simpa using hlt⟩, rfl, by simp, rfl, [], n + 1, ?_, hlt, show a.length - (n + 1) < a.length - n by omega⟩
        simp [S.le, sealAll, leL, jks, st7c, anyTo, h]
    · have hge : ¬ n < a.length := by simpa using h
      have hn : n = a.length := by omega
      subst hn
      have e1 : List.take (1 + (strsD a).length) ([D.v (.string sFirst)] :: strsD a) = strsD (sFirst :: a) := by rw [strsD_cons]; exact List.take_of_length_le (by simp; omega)
      have e2 : List.take (1 + (strsD b).length) ([D.v (.string sChat)] :: strsD b) = strsD (sChat :: b) := by rw [strsD_cons]; exact List.take_of_length_le (by simp; omega)
      have e3 : List.take ((strsD a).length + 1) (strsD a ++ [[D.v (.string sLast)]]) = strsD (a ++ [sLast]) := by rw [strsD_snoc]; exact List.take_of_length_le (by simp)
      have e4 : List.take ((strsD b).length + 1) (strsD b ++ [[D.v (.string sDnd)]]) = strsD (b ++ [sDnd]) := by rw [strsD_snoc]; exact List.take_of_length_le (by simp)
      simp only [e1, e2, e3, e4]
      simp only [unSS_strsD, best_first, best_last _ _ _ hab, any_best, best_ok, strsD_len]
      have sz : ∀ c ∈ [[D.v (.string sLast)]], c.length = 1 := by simp
      have sz' : ∀ c ∈ [[D.v (.string sDnd)]], c.length = 1 := by simp
      refine ⟨strsD_sz a, trivial, by unfold LIM; omega, strsD_sz b, trivial, by unfold LIM; omega, ⟨trivial, trivial⟩, strsD_sz a, by unfold LIM; omega, sz, trivial, by unfold LIM; omega, strsD_sz b, by unfold LIM; omega, sz', trivial, by unfold LIM; omega, ⟨trivial, trivial⟩, fun _ => ?_⟩
      by_cases h0 : a.length = 0
      · simp [h0]
        exact bcase_mk (fun _ => hq) (fun _ => hq)
      · have : 0 < a.length := by omega
        simp [h0, this]
        exact hq
  refine cast (r7 _ _ q).symm ⟨trivial, fun hl1 => ⟨rfl, ?_, fun hl2 => ⟨rfl, ?_, ?_⟩⟩⟩
  · split <;> omega
  · split <;> omega
  · have hm : ∀ l : List ByteArray, ((if (30 : Int) < ((strsD l).length : Int) then (30 : Int) else ((strsD l).length : Int)).toNat) = min l.length 30 := by
      intro l; simp only [strsD_len]; split <;> omega
    rw [hm d, hm e, strsD_take, strsD_take]
    have hd : (d.take (min d.length 30)).length ≤ 30 := by simp; omega
    have he : (e.take (min e.length 30)).length ≤ 30 := by simp; omega
    generalize d.take (min d.length 30) = a at hd
    generalize e.take (min e.length 30) = b0 at he
    refine ALoop.intro (fun b : List ByteArray => st7a (strsD a) (strsD b)) (fun b => b.length ≤ 30) (fun b => a.length - b.length) ⟨[], b0, ?_, he⟩ fun b hb => ?_
    · simp [S.le, sealAll, leL, jks, st7a]
    · refine cast (r7_b _ _ _ _ _ _ _).symm ?_
      intro _ _
      refine bcase_mk (fun h => ?_) (fun h => ?_)
      · have hlt : b.length < a.length := by simpa using h
        have sz : ∀ c ∈ [[D.v (.string ⟨#[]⟩)]], c.length = 1 := by simp
        simp only [strsD_len]
        refine ⟨strsD_sz b, by unfold LIM; omega, sz, trivial, by unfold LIM; omega, [0, 1], b ++ [(⟨#[]⟩ : ByteArray)], ?_, by simp; omega, show a.length - (b ++ [(⟨#[]⟩ : ByteArray)]).length < a.length - b.length by simp; omega⟩
        rw [strsD_snoc]
        have e1 : List.take (b.length + 1) (strsD (b ++ [⟨#[]⟩])) = strsD (b ++ [⟨#[]⟩]) := List.take_of_length_le (by simp)
        simp [S.le, sealAll, S.sealR, leL, leO, jks, st7a, subL, AV.sub, Ob.subO, S.fits, fitsL, AV.fits, e1]
      · have hge : ¬ b.length < a.length := by simpa using h
        simp only [strsD_len, Int.toNat_natCast, strsD_take, unSS_strsD]
        have hlen : (b.take a.length).length = a.length := by simp; omega
        generalize b.take a.length = b' at hlen
        refine fun _ => ⟨⟨by omega, by omega⟩, ⟨trivial, trivial⟩, ?_⟩
        refine ALoop.intro (fun n : Nat => st7c (strsD a) (strsD b') (bestF a b').1 (bestF a b').2 (anyTo a (bestF a b').1 n) n) (fun n => n ≤ a.length) (fun n => a.length - n) ⟨[], 0, ?_, by omega⟩ fun n hn => second a b' hlen.symm hd n hn
        simp [S.le, sealAll, leL, jks, st7c, anyTo]

end Go.Proofs.YtgidbnonalbeeaaDoor
