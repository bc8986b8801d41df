import Derived.Test.YtfdmmgiefhhnoaaGreatDoorStaM
import Derived.Test.YtfdmmgiefhhnoaaGreatDoorStaIt
set_option linter.unusedSimpArgs false
set_option linter.unusedVariables false
namespace Go.Proofs.YtfdmmgiefhhnoaaGreatDoor
open Go Go.AM Go.RowKit
theorem itemsGo_app (s : Bool) : ∀ (a b : List El), itemsGo s (a ++ b) = match itemsGo s a with
    | none => none
    | some (xs, r) => match itemsGo s b with
      | none => none
      | some (ys, r') => some (xs ++ ys, r || r')
  | [], b => by
    simp only [List.nil_append, itemsGo]
    cases itemsGo s b with
    | none => rfl
    | some p => obtain ⟨ys, r'⟩ := p; simp
  | e :: a, b => by
    simp only [List.cons_append, itemsGo, itemsGo_app s a b]
    cases itemM s e with
    | none => rfl
    | some p =>
      obtain ⟨x, r⟩ := p
      cases itemsGo s a with
      | none => rfl
      | some p2 =>
        obtain ⟨xs, r2⟩ := p2
        cases itemsGo s b with
        | none => rfl
        | some p3 => obtain ⟨ys, r3⟩ := p3; simp [Bool.or_assoc]
theorem itemsGo_step {s : Bool} {k : List El} {i : Nat} (h : i < k.length) {xs : List It} {r : Bool} (h0 : itemsGo s (k.take i) = some (xs, r)) :
    (∀ x r', itemM s k[i] = some (x, r') → itemsGo s (k.take (i + 1)) = some (xs ++ [x], r || r')) ∧ (itemM s k[i] = none → itemsGo s k = none) := by
  have e1 : k.take (i + 1) = k.take i ++ [k[i]] := by rw [List.take_add_one, List.getElem?_eq_getElem h]; rfl
  refine ⟨fun x r' hx => ?_, fun hn => ?_⟩
  · rw [e1, itemsGo_app, h0]
    simp [itemsGo, hx]
  · have e2 : k = k.take i ++ (k[i] :: k.drop (i + 1)) := by rw [List.getElem_cons_drop, List.take_append_drop]
    have e3 : itemsGo s (k[i] :: k.drop (i + 1)) = none := by simp only [itemsGo, hn]
    rw [e2, itemsGo_app, h0]
    simp only
    rw [e3]
end Go.Proofs.YtfdmmgiefhhnoaaGreatDoor

namespace Go.Proofs.YtfdmmgiefhhnoaaGreatDoor
open Go Go.AM Go.RowKit
attribute [local irreducible] aCode
noncomputable abbrev GAs : List (FuncId × En) := [(38, .ref (frameX EFQuery)), (43, .pure EHn), (64, .pure EItem)]
noncomputable def rAs_k0 (q : AV → Prop) : Kont := kBlk (0 : Nat) (kSeq (aCode KS GAs (cAt [1, 1, 1, 1, 1] Tryz.b41) (kRet KS (Array.toList (Func.results Tryz.f41)) q)) (kRet KS (Array.toList (Func.results Tryz.f41)) q))
theorem rAs (kd : Int) (id : BA) (n : BA) (l : List At) (t : BA) (k : List El) (q : AV → Prop) :
 (aCode KS GAs Tryz.b41 (kRet KS Tryz.f41.results.toList q) ⟨[.ag (szB kd ⟨#[]⟩ id ⟨#[]⟩ ⟨#[]⟩ ⟨#[]⟩ ⟨#[]⟩ ⟨#[]⟩ 0 0 false), .ag [mkS n, .d (.sl (atsD l)), mkS t, .d (.sl (ksD k))]] ++ List.replicate (Tryz.f41.ntmps - 2) .jk, []⟩) = (
 bcase (!(decide (n = ⟨#[113, 117, 101, 114, 121]⟩))) (
 q (AV.tp [AV.ag [mkI .i64 kd, mkS ⟨#[]⟩, mkS id, mkS ⟨#[]⟩, mkS ⟨#[]⟩, mkS ⟨#[]⟩, mkS ⟨#[]⟩, mkS ⟨#[]⟩, mkI .u32 0, mkI .i64 0, mkB false, AV.d (.sl [])], mkB false])) (
 ∃ (n_1 : ByteArray),
 ∃ (l_1 : List At),
 ∃ (t_1 : ByteArray),
 ∃ (k_1 : List El),
 ([AV.ag [AV.d (D.v (.map Option.none)), AV.mp 0], AV.ag [mkS n, AV.d (.sl (atsD l)), mkS t, AV.d (.sl (ksD k))]] = [AV.ag [AV.d (D.v (.map Option.none)), AV.mp 0], AV.ag [mkS n_1, AV.d (.sl (atsD l_1)), mkS t_1, AV.d (.sl (ksD k_1))]]) ∧
 ([Ob.map KK.str [(Key.s (⟨#[118, 101, 114]⟩ : ByteArray), AV.fn (Fn.func 63) [] [])], Ob.gh []] = [Ob.map KK.str [(Key.s kVer, AV.fn (Fn.func 63) [] [])], Ob.gh []]) ∧
 (((List.length l_1) ≤ LIM) ∧ (∀ (a : At), (a ∈ l_1) → ((ByteArray.size (Prod.fst a)) ≤ LIM) ∧ ((ByteArray.size (Prod.snd a)) ≤ LIM))) ∧
 ((Option.some (Ob.gh [])) = (Option.some (Ob.gh []))) ∧
 bcase (!(fitsM [] [(kVer, numB)] l_1)) (
 q (AV.tp [AV.ag [mkI .i64 kd, mkS ⟨#[]⟩, mkS id, mkS ⟨#[]⟩, mkS ⟨#[]⟩, mkS ⟨#[]⟩, mkS ⟨#[]⟩, mkS ⟨#[]⟩, mkI .u32 0, mkI .i64 0, mkB false, AV.d (.sl [])], mkB false])) (
 bcase (!(decide (t = ⟨#[]⟩))) (
 q (AV.tp [AV.ag [mkI .i64 kd, mkS ⟨#[]⟩, mkS id, mkS ⟨#[]⟩, mkS ⟨#[]⟩, mkS ⟨#[]⟩, mkS ⟨#[]⟩, mkS ⟨#[]⟩, mkI .u32 0, mkI .i64 0, mkB false, AV.d (.sl [])], mkB false])) (
 ((List.length (ksD k)) ≤ LIM) →
 bcase (decide (((List.length (ksD k)) : Int) > (16 : Int))) (
 q (AV.tp [AV.ag [mkI .i64 kd, mkS ⟨#[]⟩, mkS id, mkS ⟨#[]⟩, mkS ⟨#[]⟩, mkS ⟨#[]⟩, mkS ⟨#[]⟩, mkS ⟨#[]⟩, mkI .u32 0, mkI .i64 0, mkB false, AV.d (.sl [])], mkB false])) (
 ∃ (n_2 : ByteArray),
 ∃ (l_2 : List At),
 ∃ (t_2 : ByteArray),
 ∃ (k_2 : List El),
 ∃ (x : ByteArray),
 ([AV.ag [mkS n, AV.d (.sl (atsD l)), mkS t, AV.d (.sl (ksD k))], mkS ⟨#[118, 101, 114]⟩] = [AV.ag [mkS n_2, AV.d (.sl (atsD l_2)), mkS t_2, AV.d (.sl (ksD k_2))], mkS x]) ∧
 (((List.length l_2) ≤ LIM) ∧ (∀ (a : At), (a ∈ l_2) → ((ByteArray.size (Prod.fst a)) ≤ LIM) ∧ ((ByteArray.size (Prod.snd a)) ≤ LIM))) ∧ (
 ((List.length (ksD k)) ≤ LIM) →
 ALoop (aCode KS GAs (cAt [1, 1, 1, 1, 0, 1, 0, 0] Tryz.b41)) (rAs_k0 q) ⟨[.ag [mkI .i64 kd, mkS ⟨#[]⟩, mkS id, mkS ⟨#[]⟩, mkS ⟨#[]⟩, mkS ⟨#[]⟩, mkS ⟨#[]⟩, mkS ⟨#[]⟩, mkI .u32 0, mkI .i64 0, mkB false, .nl], .ag [mkS n, .d (.sl (atsD l)), mkS t, .d (.sl (ksD k))], .rf 0 0, .rf 1 0, .rf 2 0, mkB false, .rf 4 0, .jk, .jk, .jk, .jk, .jk, .jk, .jk, .ag [.d (D.v (.map Option.none)), .jk], .rf 1 (0 + 0), mkS n, mkB (!(decide (n = ⟨#[113, 117, 101, 114, 121]⟩))), mkB false, .ag [.d (D.v (.map Option.none)), .jk], .ag [mkS n, .d (.sl (atsD l)), mkS t, .d (.sl (ksD k))], mkB (fitsM [] [(kVer, numB)] l_1), mkB (!(fitsM [] [(kVer, numB)] l_1)), mkB (!(fitsM [] [(kVer, numB)] l_1)), mkB false, .rf 1 (0 + 2), mkS t, mkB (!(decide (t = ⟨#[]⟩))), mkB (!(decide (t = ⟨#[]⟩))), mkB false, .rf 1 (0 + 3), .d (.sl (ksD k)), mkI .i64 ((List.length (ksD k)) : Int), mkB (decide (((List.length (ksD k)) : Int) > (16 : Int))), mkB false, .jk, .ag [mkS n, .d (.sl (atsD l)), mkS t, .d (.sl (ksD k))], mkI .u32 (numOf (valueM l_2 x)), mkI .i64 (IntKind.wrap .i64 (numOf (valueM l_2 x))), .rf 0 (0 + 9), .rf 1 (0 + 3), .d (.sl (ksD k)), mkI .i64 ((List.length (ksD k)) : Int), mkI .i64 0] ++ (jks 47), [.box [mkI .i64 kd, mkS ⟨#[]⟩, mkS id, mkS ⟨#[]⟩, mkS ⟨#[]⟩, mkS ⟨#[]⟩, mkS ⟨#[]⟩, mkS ⟨#[]⟩, mkI .u32 0, mkI .i64 (IntKind.wrap .i64 (numOf (valueM l_2 x))), mkB false, .nl], .box [mkS n, .d (.sl (atsD l)), mkS t, .d (.sl (ksD k))], .box [mkI .i64 0, mkS ⟨#[]⟩, mkS ⟨#[]⟩, mkS ⟨#[]⟩, mkS ⟨#[]⟩, mkS ⟨#[]⟩, mkS ⟨#[]⟩, mkS ⟨#[]⟩, mkI .u32 0, mkI .i64 0, mkB false, .nl], .map KK.str [(Key.s kVer, .fn (Fn.func 63) [] [])], .box [.d (D.v (.map Option.none)), .jk], .gone, .gone]⟩)))))) := by kernel_rfl
def stAs (kd : Int) (id : BA) (v : Int) (r : Bool) (xs : List It) (k : List El) (i : Int) : S := ⟨[.jk, .jk, .rf 0 0, .jk, .rf 2 0, .jk] ++ jks 35 ++ [.d (.sl (ksD k)), mkI .i64 (ksD k).length, mkI .i64 i] ++ jks 47,
  [.box [mkI .i64 kd, mkS ⟨#[]⟩, mkS id, mkS ⟨#[]⟩, mkS ⟨#[]⟩, mkS ⟨#[]⟩, mkS ⟨#[]⟩, mkS ⟨#[]⟩, mkI .u32 0, mkI .i64 v, mkB r, .vw 7 (itsD xs).length], .gone, .box szZ, .gone, .gone, .gone, .gone, .row 4 (itsD xs)]⟩
noncomputable abbrev rAs_b_e0 {ι : Type} (st : ι → S) (inv : ι → Prop) (μ : ι → Nat) (kk : ι) (kd : Int) (id : BA) (v : Int) (r : Bool) (xs : List It) (k : List El) (i : Int) (x : It) (r_1 : Bool) : Prop := ((∀ (c : List D), (c ∈ [[D.v (.string (It.c x)), D.v (.string (It.n x)), D.v (.int IntKind.i64 (It.s x)), D.v (.bool (It.a x))]]) → (List.length c) = 4) ∧ (((List.length (itsD xs)) = (List.length (itsD xs))) ∧ ((((List.length (itsD xs)) + 1) ≤ LIM) ∧ (bcase r (FamNext st inv μ kk ⟨[.jk, .jk, .rf 0 0, .jk, .rf 2 0] ++ (jks 36 ++ ([.d (.sl (ksD k)), mkI .i64 ((List.length (ksD k)) : Int), mkI .i64 (IntKind.wrap .i64 (i + (1 : Int)))] ++ (jks 47))), [.box [mkI .i64 kd, mkS ⟨#[]⟩, mkS id, mkS ⟨#[]⟩, mkS ⟨#[]⟩, mkS ⟨#[]⟩, mkS ⟨#[]⟩, mkS ⟨#[]⟩, mkI .u32 0, mkI .i64 v, mkB true, .vw 7 ((List.length (itsD xs)) + 1)], .gone, .box [mkI .i64 0, mkS ⟨#[]⟩, mkS ⟨#[]⟩, mkS ⟨#[]⟩, mkS ⟨#[]⟩, mkS ⟨#[]⟩, mkS ⟨#[]⟩, mkS ⟨#[]⟩, mkI .u32 0, mkI .i64 0, mkB false, .nl], .gone, .gone, .gone, .gone, .row 4 ((itsD xs) ++ [[D.v (.string (It.c x)), D.v (.string (It.n x)), D.v (.int IntKind.i64 (It.s x)), D.v (.bool (It.a x))]]), .box [mkS (strD (List.getD (List.getD (ksD k) (Int.toNat i) []) 0 d0)), .d (.sl (slD (List.getD (List.drop 1 (List.getD (ksD k) (Int.toNat i) [])) 0 d0))), mkS (strD (List.getD (List.drop 1 (List.drop 1 (List.getD (ksD k) (Int.toNat i) []))) 0 d0)), .d (.sl (slD (List.getD (List.drop 1 (List.drop 1 (List.drop 1 (List.getD (ksD k) (Int.toNat i) [])))) 0 d0)))], .box [mkS (It.c x), mkS (It.n x), mkI .i64 (It.s x), mkB (It.a x)], .row 4 [[D.v (.string (It.c x)), D.v (.string (It.n x)), D.v (.int IntKind.i64 (It.s x)), D.v (.bool (It.a x))]]]⟩) (FamNext st inv μ kk ⟨[.jk, .jk, .rf 0 0, .jk, .rf 2 0] ++ (jks 36 ++ ([.d (.sl (ksD k)), mkI .i64 ((List.length (ksD k)) : Int), mkI .i64 (IntKind.wrap .i64 (i + (1 : Int)))] ++ (jks 47))), [.box [mkI .i64 kd, mkS ⟨#[]⟩, mkS id, mkS ⟨#[]⟩, mkS ⟨#[]⟩, mkS ⟨#[]⟩, mkS ⟨#[]⟩, mkS ⟨#[]⟩, mkI .u32 0, mkI .i64 v, mkB r_1, .vw 7 ((List.length (itsD xs)) + 1)], .gone, .box [mkI .i64 0, mkS ⟨#[]⟩, mkS ⟨#[]⟩, mkS ⟨#[]⟩, mkS ⟨#[]⟩, mkS ⟨#[]⟩, mkS ⟨#[]⟩, mkS ⟨#[]⟩, mkI .u32 0, mkI .i64 0, mkB false, .nl], .gone, .gone, .gone, .gone, .row 4 ((itsD xs) ++ [[D.v (.string (It.c x)), D.v (.string (It.n x)), D.v (.int IntKind.i64 (It.s x)), D.v (.bool (It.a x))]]), .box [mkS (strD (List.getD (List.getD (ksD k) (Int.toNat i) []) 0 d0)), .d (.sl (slD (List.getD (List.drop 1 (List.getD (ksD k) (Int.toNat i) [])) 0 d0))), mkS (strD (List.getD (List.drop 1 (List.drop 1 (List.getD (ksD k) (Int.toNat i) []))) 0 d0)), .d (.sl (slD (List.getD (List.drop 1 (List.drop 1 (List.drop 1 (List.getD (ksD k) (Int.toNat i) [])))) 0 d0)))], .box [mkS (It.c x), mkS (It.n x), mkI .i64 (It.s x), mkB (It.a x)], .row 4 [[D.v (.string (It.c x)), D.v (.string (It.n x)), D.v (.int IntKind.i64 (It.s x)), D.v (.bool (It.a x))]]]⟩)))))
theorem rAs_b {ι : Type} (st : ι → S) (inv : ι → Prop) (μ : ι → Nat) (kk : ι) (kd : Int) (id : BA) (v : Int) (r : Bool) (xs : List It) (k : List El) (i : Int) (q : AV → Prop) :
 (aCode KS GAs (cAt [1, 1, 1, 1, 0, 1, 0, 0] Tryz.b41) (kFamM [] (maskOf (stAs kd id v r xs k i)) st inv μ kk (rAs_k0 q)) (stAs kd id v r xs k i)) = (
 bcase (decide (i < ((List.length (ksD k)) : Int))) (
 (((0 : Int) ≤ i) ∧ (i < ((List.length (ksD k)) : Int))) ∧
 ((List.length (List.getD (ksD k) (Int.toNat i) [])) = 4) ∧
 (4 ≤ (List.length (List.getD (ksD k) (Int.toNat i) []))) ∧
 (((List.getD (List.getD (ksD k) (Int.toNat i) []) 0 d0) = (D.v (.string (strD (List.getD (List.getD (ksD k) (Int.toNat i) []) 0 d0))))) ∧ (((List.getD (List.drop 1 (List.getD (ksD k) (Int.toNat i) [])) 0 d0) = (D.sl (slD (List.getD (List.drop 1 (List.getD (ksD k) (Int.toNat i) [])) 0 d0)))) ∧ (((List.getD (List.drop 1 (List.drop 1 (List.getD (ksD k) (Int.toNat i) []))) 0 d0) = (D.v (.string (strD (List.getD (List.drop 1 (List.drop 1 (List.getD (ksD k) (Int.toNat i) []))) 0 d0))))) ∧ (((List.getD (List.drop 1 (List.drop 1 (List.drop 1 (List.getD (ksD k) (Int.toNat i) [])))) 0 d0) = (D.sl (slD (List.getD (List.drop 1 (List.drop 1 (List.drop 1 (List.getD (ksD k) (Int.toNat i) [])))) 0 d0)))) ∧ True)))) ∧ (
 ∃ (n : ByteArray),
 ∃ (l : List At),
 ∃ (t : ByteArray),
 ∃ (k_1 : List El),
 ∃ (j : Int),
 ([AV.ag [mkS (strD (List.getD (List.getD (ksD k) (Int.toNat i) []) 0 d0)), AV.d (.sl (slD (List.getD (List.drop 1 (List.getD (ksD k) (Int.toNat i) [])) 0 d0))), mkS (strD (List.getD (List.drop 1 (List.drop 1 (List.getD (ksD k) (Int.toNat i) []))) 0 d0)), AV.d (.sl (slD (List.getD (List.drop 1 (List.drop 1 (List.drop 1 (List.getD (ksD k) (Int.toNat i) [])))) 0 d0)))], mkI .i64 kd] = [AV.ag [mkS n, AV.d (.sl (atsD l)), mkS t, AV.d (.sl (ksD k_1))], mkI .i64 j]) ∧
 (((List.length l) ≤ LIM) ∧ (∀ (a : At), (a ∈ l) → ((ByteArray.size (Prod.fst a)) ≤ LIM) ∧ ((ByteArray.size (Prod.snd a)) ≤ LIM))) ∧
 (∀ (x : It), ∀ (r_1 : Bool), ((itemM (j == (3 : Int)) (El.mk n l t k_1)) = (Option.some (x, r_1))) → (((rAs_b_e0 st inv μ kk kd id v r xs k i x r_1) ∧ (rAs_b_e0 st inv μ kk kd id v r xs k i x r_1)) ∧ (rAs_b_e0 st inv μ kk kd id v r xs k i x r_1)) ∧ ((((rAs_b_e0 st inv μ kk kd id v r xs k i x r_1) ∧ (rAs_b_e0 st inv μ kk kd id v r xs k i x r_1)) ∧ (rAs_b_e0 st inv μ kk kd id v r xs k i x r_1)) ∧ ((rAs_b_e0 st inv μ kk kd id v r xs k i x r_1) ∧ (rAs_b_e0 st inv μ kk kd id v r xs k i x r_1)))) ∧ (
 ((itemM (j == (3 : Int)) (El.mk n l t k_1)) = Option.none) →
 q (AV.tp [AV.ag [mkI .i64 kd, mkS ⟨#[]⟩, mkS id, mkS ⟨#[]⟩, mkS ⟨#[]⟩, mkS ⟨#[]⟩, mkS ⟨#[]⟩, mkS ⟨#[]⟩, mkI .u32 0, mkI .i64 v, mkB r, AV.d (.sl (List.take (List.length (itsD xs)) (itsD xs)))], mkB false])))) (
 bcase (kd == (2 : Int)) (
 q (AV.tp [AV.ag [mkI .i64 kd, mkS ⟨#[]⟩, mkS id, mkS ⟨#[]⟩, mkS ⟨#[]⟩, mkS ⟨#[]⟩, mkS ⟨#[]⟩, mkS ⟨#[]⟩, mkI .u32 0, mkI .i64 v, mkB r, AV.d (.sl (List.take (List.length (itsD xs)) (itsD xs)))], mkB (((List.length (itsD xs)) : Int) == (0 : Int))])) (
 bcase (kd == (3 : Int)) (
 q (AV.tp [AV.ag [mkI .i64 kd, mkS ⟨#[]⟩, mkS id, mkS ⟨#[]⟩, mkS ⟨#[]⟩, mkS ⟨#[]⟩, mkS ⟨#[]⟩, mkS ⟨#[]⟩, mkI .u32 0, mkI .i64 v, mkB r, AV.d (.sl (List.take (List.length (itsD xs)) (itsD xs)))], mkB (((List.length (itsD xs)) : Int) == (1 : Int))])) (
 True ∧
 ((mkI .i64 v) = (mkI .i64 v)) ∧
 q (AV.tp [AV.ag [mkI .i64 kd, mkS ⟨#[]⟩, mkS id, mkS ⟨#[]⟩, mkS ⟨#[]⟩, mkS ⟨#[]⟩, mkS ⟨#[]⟩, mkS ⟨#[]⟩, mkI .u32 0, mkI .i64 v, mkB r, AV.d (.sl (List.take (List.length (itsD xs)) (itsD xs)))], mkB (decide (v > (0 : Int)))]))))) := by kernel_rfl
def EAsked : List AV → (AV → Prop) → Prop := fun al q => ∃ kd id n l t k, al = [.ag (szB kd ⟨#[]⟩ id ⟨#[]⟩ ⟨#[]⟩ ⟨#[]⟩ ⟨#[]⟩ ⟨#[]⟩ 0 0 false), .ag [mkS n, .d (.sl (atsD l)), mkS t, .d (.sl (ksD k))]] ∧ (l.length ≤ LIM ∧ atsFit l) ∧ (∀ e ∈ k, e.ats.length ≤ LIM ∧ atsFit e.ats) ∧ (∀ s, askedM kd id (.mk n l t k) = some s → q (.tp [szV s, mkB true])) ∧ (askedM kd id (.mk n l t k) = none → ∀ s, q (.tp [szV s, mkB false]))
theorem gas_ok : GSound Tryz.prog GAs := gsound_ref (RSound.frameX cFQuery) (gsound_pure cHn (gsound_pure cIt gsound_nil))
theorem its_snoc (xs : List It) (x : It) : itsD (xs ++ [x]) = itsD xs ++ [[D.v (Value.string x.c), D.v (Value.string x.n), D.v (Value.int .i64 x.s), D.v (Value.bool x.a)]] := by simp [itsD, itD]
theorem its_len (xs : List It) : (itsD xs).length = xs.length := by simp [itsD]
def szA (kd : Int) (id : BA) (v : Int) (r : Bool) (xs : List It) : Sz := { kind := kd, id := id, ver := v, its := xs, rem := r }
theorem askedM_eq (kd : Int) (id n : BA) (l : List At) (t : BA) (k : List El) : askedM kd id (.mk n l t k) = if decide (n = sQuery) && fitsM [] [(kVer, numB)] l && decide (t = ⟨#[]⟩) && decide (k.length ≤ 16) then (match itemsGo (kd == 3) k with
    | some (xs, r) => if (if kd = 2 then xs.length == 0 else if kd = 3 then xs.length == 1 else decide (0 < numOf (valueM l kVer))) then some { kind := kd, id := id, ver := numOf (valueM l kVer), its := xs, rem := r } else none
    | none => none) else none := rfl
theorem readGo_le : ∀ (l : List UInt8) (n m : Nat), n ≤ 4294967295 → readGo l n = some m → m ≤ 4294967295
  | [], n, m, h, e => by simp only [readGo, Option.some.injEq] at e; omega
  | c :: l, n, m, h, e => by
    simp only [readGo] at e
    split at e
    · cases e
    · rename_i g
      exact readGo_le l _ m (by omega) e
theorem num_in (s : BA) : 0 ≤ numOf s ∧ numOf s ≤ 4294967295 := by
  unfold numOf readN
  split
  · rename_i n h
    have := readGo_le _ _ _ (by omega) h
    split <;> simp <;> omega
  · simp
theorem int_beq (n m : Nat) : (((n : Int) == (m : Int)) : Bool) = (n == m) := by
  rw [Bool.eq_iff_iff]; simp only [beq_iff_eq]; omega
theorem cAsk : PSound Tryz.prog 41 EAsked := by
  refine pure_fn (c := Tryz.b41) mixed KS_ok gas_ok Tryz.func41 rfl rfl Tryz.call41 fun al q ⟨kd, id, n, l, t, k, h1, hf, hk, hs, hn⟩ => ?_
  subst h1
  have bad : askedM kd id (.mk n l t k) = none → ∀ v r xs, q (AV.tp [AV.ag [mkI .i64 kd, mkS ⟨#[]⟩, mkS id, mkS ⟨#[]⟩, mkS ⟨#[]⟩, mkS ⟨#[]⟩, mkS ⟨#[]⟩, mkS ⟨#[]⟩, mkI .u32 0, mkI .i64 v, mkB r, AV.d (D.sl (itsD xs))], mkB false]) := fun h v r xs => hn h (szA kd id v r xs)
  refine cast (rAs kd id n l t k q).symm (bcase_mk (fun h => ?_) (fun h => ⟨n, l, t, k, rfl, rfl, hf, rfl, bcase_mk (fun h2 => ?_) (fun h2 => bcase_mk (fun h3 => ?_) (fun h3 hl => bcase_dec (fun h4 => ?_) (fun h4 => ⟨n, l, t, k, kVer, rfl, hf, fun _ => ?_⟩)))⟩))
  · exact bad (by simp [askedM, El.n, show ¬ n = sQuery by simpa [sQuery] using h]) 0 false []
  · exact bad (by simp [askedM, El.ats, not_t h2]) 0 false []
  · exact bad (by simp [askedM, El.t, show ¬ t = ⟨#[]⟩ by simpa using h3]) 0 false []
  · rw [ksD_len] at h4
    exact bad (by simp [askedM, El.ks, show ¬ k.length ≤ 16 by omega]) 0 false []
  · rw [ksD_len] at h4
    have g1 : n = sQuery := by simpa [sQuery] using h
    have g2 := not_f h2
    have g3 : t = ⟨#[]⟩ := by simpa using h3
    have g4 : k.length ≤ 16 := by omega
    have hv : IntKind.wrap .i64 (numOf (valueM l kVer)) = numOf (valueM l kVer) := IntWalk.i64_in _ (by have := num_in (valueM l kVer); omega)
    have hlim := hl
    rw [ksD_len] at hlim
    refine ALoop.openB 0 11 4 (by omega) (ALoop.introM [] (maskOf (stAs kd id (numOf (valueM l kVer)) false [] k 0)) (fun p : Nat × List It × Bool => stAs kd id (numOf (valueM l kVer)) p.2.2 p.2.1 k p.1) (fun p => p.1 ≤ k.length ∧ p.2.1.length = p.1 ∧ itemsGo (kd == 3) (k.take p.1) = some (p.2.1, p.2.2)) (fun p => k.length - p.1) ⟨[], (0, [], false), ?_, ⟨Nat.zero_le _, rfl, by simp [itemsGo]⟩⟩ ?_)
    · rw [hv]
      simp [S.le, S.openB, openNil, sealAll, leL, leA, leO, jks, stAs, szB, szZ, S.fits, fitsL, AV.fits, Ob.fits, KK.isSy, mkSS, mkS, mkI, mkB, itsD]
    · rintro ⟨i, xs, r⟩ ⟨hi, hx, hI⟩
      have hi : i ≤ k.length := hi
      have hx : xs.length = i := hx
      have hI : itemsGo (kd == 3) (k.take i) = some (xs, r) := hI
      refine cast (rAs_b (fun p : Nat × List It × Bool => stAs kd id (numOf (valueM l kVer)) p.2.2 p.2.1 k p.1) (fun p => p.1 ≤ k.length ∧ p.2.1.length = p.1 ∧ itemsGo (kd == 3) (k.take p.1) = some (p.2.1, p.2.2)) (fun p => k.length - p.1) (i, xs, r) kd id (numOf (valueM l kVer)) r xs k i q).symm (bcase_dec (fun hlt => ?_) (fun hge => ?_))
      · rw [ksD_len] at hlt
        have hlt : i < k.length := by omega
        have hst := itemsGo_step hlt hI
        have hgd := ksD_getD k i hlt
        have hke := hk k[i] (List.getElem_mem hlt)
        generalize k[i] = e at hst hgd hke
        obtain ⟨en, ea, et, ek⟩ := e
        simp only [elD] at hgd
        simp only [Int.toNat_natCast, hgd, List.getD_cons_zero, List.drop_succ_cons, List.drop_zero, strD, slD, List.take_length]
        refine ⟨⟨by omega, by rw [ksD_len]; omega⟩, by trivial, Nat.le_refl _, ⟨by trivial, by trivial, by trivial, by trivial, trivial⟩, en, ea, et, ek, kd, rfl, hke, fun x r1 hit => ?_, fun hno => ?_⟩
        · have hgo := hst.1 x r1 hit
          have h4c : ∀ c ∈ [[D.v (Value.string x.c), D.v (Value.string x.n), D.v (Value.int .i64 x.s), D.v (Value.bool x.a)]], c.length = 4 := by
            intro c hc
            simp only [List.mem_singleton] at hc
            subst hc
            rfl
          have hw := wrap_succ hlt hlim
          have hn' : (itsD xs).length + 1 ≤ LIM := by rw [its_len]; unfold LIM; omega
          repeat' (first | exact h4c | exact hn' | exact trivial | exact rfl | refine And.intro ?_ ?_ | refine bcase_mk (fun hr => ?_) (fun hr => ?_))
          all_goals
            refine .mk [] (i + 1, xs ++ [x], r || r1) ?_ ⟨hlt, by simp [hx], hgo⟩ (by show k.length - (i + 1) < k.length - i; omega)
            rw [hw]
            simp [S.le, sealAll, leL, leA, leO, jks, stAs, szB, szZ, S.fits, fitsL, AV.fits, Ob.fits, KK.isSy, mkSS, mkS, mkI, mkB, its_snoc, hr]
        · exact bad (by simp only [askedM, El.ks, hst.2 hno]; split <;> rfl) (numOf (valueM l kVer)) r xs
      · rw [ksD_len] at hge
        have e : i = k.length := by omega
        subst e
        rw [List.take_length] at hI
        have fin : ∀ b, (if kd = 2 then xs.length == 0 else if kd = 3 then xs.length == 1 else decide (0 < numOf (valueM l kVer))) = b → q (AV.tp [AV.ag [mkI .i64 kd, mkS ⟨#[]⟩, mkS id, mkS ⟨#[]⟩, mkS ⟨#[]⟩, mkS ⟨#[]⟩, mkS ⟨#[]⟩, mkS ⟨#[]⟩, mkI .u32 0, mkI .i64 (numOf (valueM l kVer)), mkB r, AV.d (D.sl (itsD xs))], mkB b]) := fun b hb => by
          cases b with
          | true => exact hs (szA kd id (numOf (valueM l kVer)) r xs) (by rw [askedM_eq, hI, g2]; simp only [g1, g3, g4, decide_true, Bool.and_self, if_true]; exact if_pos hb)
          | false => exact bad (by rw [askedM_eq, hI, g2]; simp only [g1, g3, g4, decide_true, Bool.and_self, if_true]; exact if_neg (by rw [hb]; simp)) _ _ _
        have tk : (itsD xs).take xs.length = itsD xs := List.take_of_length_le (by rw [its_len]; omega)
        simp only [its_len, tk]
        refine bcase_mk (fun c2 => ?_) (fun c2 => bcase_mk (fun c3 => ?_) (fun c3 => ⟨trivial, trivial, ?_⟩))
        · have c2 : kd = 2 := by simpa using c2
          rw [show ((xs.length : Int) == 0) = (xs.length == 0) from int_beq xs.length 0]
          exact fin _ (by rw [if_pos c2])
        · have c2 : ¬ kd = 2 := by simpa using c2
          have c3 : kd = 3 := by simpa using c3
          rw [show ((xs.length : Int) == 1) = (xs.length == 1) from int_beq xs.length 1]
          exact fin _ (by rw [if_neg c2, if_pos c3])
        · have c2 : ¬ kd = 2 := by simpa using c2
          have c3 : ¬ kd = 3 := by simpa using c3
          exact fin _ (by rw [if_neg c2, if_neg c3])
end Go.Proofs.YtfdmmgiefhhnoaaGreatDoor
