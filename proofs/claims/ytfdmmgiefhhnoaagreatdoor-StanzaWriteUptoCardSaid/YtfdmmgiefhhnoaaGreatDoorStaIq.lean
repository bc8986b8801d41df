import Derived.Test.YtfdmmgiefhhnoaaGreatDoorStaAsk
import Derived.Test.YtfdmmgiefhhnoaaGreatDoorAmBun
set_option linter.unusedSimpArgs false
set_option linter.unusedVariables false
namespace Go.Proofs.YtfdmmgiefhhnoaaGreatDoor
open Go Go.AM Go.RowKit
attribute [local irreducible] aCode
noncomputable abbrev GIq : List (FuncId × En) := [(38, .ref (frameX EFIq)), (39, .pure EVal), (40, .det (strF wordB)), (41, .full (rawE EAsked))]
noncomputable abbrev rIq_e0 (k : List El) : Prop := (((List.getD (List.getD (ksD k) (Int.toNat (0 : Int)) []) 0 d0) = (D.v (.string (strD (List.getD (List.getD (ksD k) (Int.toNat (0 : Int)) []) 0 d0))))) ∧ (((List.getD (List.drop 1 (List.getD (ksD k) (Int.toNat (0 : Int)) [])) 0 d0) = (D.sl (slD (List.getD (List.drop 1 (List.getD (ksD k) (Int.toNat (0 : Int)) [])) 0 d0)))) ∧ (((List.getD (List.drop 1 (List.drop 1 (List.getD (ksD k) (Int.toNat (0 : Int)) []))) 0 d0) = (D.v (.string (strD (List.getD (List.drop 1 (List.drop 1 (List.getD (ksD k) (Int.toNat (0 : Int)) []))) 0 d0))))) ∧ (((List.getD (List.drop 1 (List.drop 1 (List.drop 1 (List.getD (ksD k) (Int.toNat (0 : Int)) [])))) 0 d0) = (D.sl (slD (List.getD (List.drop 1 (List.drop 1 (List.drop 1 (List.getD (ksD k) (Int.toNat (0 : Int)) [])))) 0 d0)))) ∧ True))))
theorem rIq (n : BA) (l : List At) (t : BA) (k : List El) (q : AV → Prop) :
 (aCode KS GIq Tryz.b21 (kRet KS Tryz.f21.results.toList q) ⟨[.ag [mkS n, .d (.sl (atsD l)), mkS t, .d (.sl (ksD k))]] ++ List.replicate (Tryz.f21.ntmps - 1) .jk, []⟩) = (
 ∃ (n_1 : ByteArray),
 ∃ (l_1 : List At),
 ∃ (t_1 : ByteArray),
 ∃ (k_1 : List El),
 ∃ (x : ByteArray),
 ([AV.ag [mkS n, AV.d (.sl (atsD l)), mkS t, AV.d (.sl (ksD k))], mkS ⟨#[116, 121, 112, 101]⟩] = [AV.ag [mkS n_1, AV.d (.sl (atsD l_1)), mkS t_1, AV.d (.sl (ksD k_1))], mkS x]) ∧
 ((List.length l_1) ≤ LIM) ∧
 bcase (decide ((⟨#[103, 101, 116]⟩ : ByteArray) = (valueM l_1 x))) (
 ∃ (n_2 : ByteArray),
 ∃ (l_2 : List At),
 ∃ (t_2 : ByteArray),
 ∃ (k_2 : List El),
 ∃ (x_1 : ByteArray),
 ([AV.ag [mkS n, AV.d (.sl (atsD l)), mkS t, AV.d (.sl (ksD k))], mkS ⟨#[105, 100]⟩] = [AV.ag [mkS n_2, AV.d (.sl (atsD l_2)), mkS t_2, AV.d (.sl (ksD k_2))], mkS x_1]) ∧
 ((List.length l_2) ≤ LIM) ∧ (
 ∃ (n_3 : ByteArray),
 ∃ (l_3 : List At),
 ∃ (t_3 : ByteArray),
 ∃ (k_3 : List El),
 ([AV.ag [AV.mp 0, AV.d (D.v (.map Option.none))], AV.ag [mkS n, AV.d (.sl (atsD l)), mkS t, AV.d (.sl (ksD k))]] = [AV.ag [AV.mp 0, AV.d (D.v (.map Option.none))], AV.ag [mkS n_3, AV.d (.sl (atsD l_3)), mkS t_3, AV.d (.sl (ksD k_3))]]) ∧
 ([Ob.map KK.str [(Key.s (⟨#[116, 121, 112, 101]⟩ : ByteArray), AV.fn (Fn.func 40) [] []), (Key.s (⟨#[105, 100]⟩ : ByteArray), AV.fn (Fn.func 40) [] [])], Ob.gh []] = [Ob.map KK.str [(Key.s kType, AV.fn (Fn.func 40) [] []), (Key.s kId, AV.fn (Fn.func 40) [] [])], Ob.gh []]) ∧
 (((List.length l_3) ≤ LIM) ∧ (∀ (a : At), (a ∈ l_3) → ((ByteArray.size (Prod.fst a)) ≤ LIM) ∧ ((ByteArray.size (Prod.snd a)) ≤ LIM))) ∧
 ((Option.some (Ob.gh [])) = (Option.some (Ob.gh []))) ∧
 bcase (fitsM [(kType, wordB), (kId, wordB)] [] l_3) (
 bcase (decide (t = ⟨#[]⟩)) (
 ((List.length (ksD k)) ≤ LIM) →
 bcase (!(decide (((List.length (ksD k)) : Int) ≤ (1 : Int)))) (
 bcase (!(decide (((List.length (ksD k)) : Int) ≤ (1 : Int)))) (
 q (AV.tp [AV.ag [mkI .i64 0, mkS ⟨#[]⟩, mkS ⟨#[]⟩, mkS ⟨#[]⟩, mkS ⟨#[]⟩, mkS ⟨#[]⟩, mkS ⟨#[]⟩, mkS ⟨#[]⟩, mkI .u32 0, mkI .i64 0, mkB false, AV.d (.sl [])], mkI .i64 3])) (
 q (AV.tp [AV.ag [mkI .i64 2, mkS ⟨#[]⟩, mkS (valueM l_2 x_1), mkS ⟨#[]⟩, mkS ⟨#[]⟩, mkS ⟨#[]⟩, mkS ⟨#[]⟩, mkS ⟨#[]⟩, mkI .u32 0, mkI .i64 0, mkB false, AV.d (.sl [])], mkI .i64 0]))) (
 ((List.length (ksD k)) ≤ LIM) →
 bcase (((List.length (ksD k)) : Int) == (0 : Int)) (
 q (AV.tp [AV.ag [mkI .i64 0, mkS ⟨#[]⟩, mkS ⟨#[]⟩, mkS ⟨#[]⟩, mkS ⟨#[]⟩, mkS ⟨#[]⟩, mkS ⟨#[]⟩, mkS ⟨#[]⟩, mkI .u32 0, mkI .i64 0, mkB false, AV.d (.sl [])], mkI .i64 3])) (
 (((0 : Int) ≤ (0 : Int)) ∧ ((0 : Int) < ((List.length (ksD k)) : Int))) ∧
 ((List.length (List.getD (ksD k) (Int.toNat (0 : Int)) [])) = 4) ∧
 (4 ≤ (List.length (List.getD (ksD k) (Int.toNat (0 : Int)) []))) ∧
 (rIq_e0 k) ∧ (
 ∃ (kd : Int),
 ∃ (id : BA),
 ∃ (n_4 : ByteArray),
 ∃ (l_4 : List At),
 ∃ (t_4 : ByteArray),
 ∃ (k_4 : List El),
 ([AV.ag [mkI .i64 2, mkS ⟨#[]⟩, mkS (valueM l_2 x_1), mkS ⟨#[]⟩, mkS ⟨#[]⟩, mkS ⟨#[]⟩, mkS ⟨#[]⟩, mkS ⟨#[]⟩, mkI .u32 0, mkI .i64 0, mkB false, AV.nl], AV.ag [mkS (strD (List.getD (List.getD (ksD k) (Int.toNat (0 : Int)) []) 0 d0)), AV.d (.sl (slD (List.getD (List.drop 1 (List.getD (ksD k) (Int.toNat (0 : Int)) [])) 0 d0))), mkS (strD (List.getD (List.drop 1 (List.drop 1 (List.getD (ksD k) (Int.toNat (0 : Int)) []))) 0 d0)), AV.d (.sl (slD (List.getD (List.drop 1 (List.drop 1 (List.drop 1 (List.getD (ksD k) (Int.toNat (0 : Int)) [])))) 0 d0)))]] = [AV.ag [mkI .i64 kd, mkS ⟨#[]⟩, mkS id, mkS ⟨#[]⟩, mkS ⟨#[]⟩, mkS ⟨#[]⟩, mkS ⟨#[]⟩, mkS ⟨#[]⟩, mkI .u32 0, mkI .i64 0, mkB false, AV.nl], AV.ag [mkS n_4, AV.d (.sl (atsD l_4)), mkS t_4, AV.d (.sl (ksD k_4))]]) ∧
 (((List.length l_4) ≤ LIM) ∧ (∀ (a : At), (a ∈ l_4) → ((ByteArray.size (Prod.fst a)) ≤ LIM) ∧ ((ByteArray.size (Prod.snd a)) ≤ LIM))) ∧
 (∀ (e : El), (e ∈ k_4) → ((List.length (El.ats e)) ≤ LIM) ∧ (∀ (a : At), (a ∈ (El.ats e)) → ((ByteArray.size (Prod.fst a)) ≤ LIM) ∧ ((ByteArray.size (Prod.snd a)) ≤ LIM))) ∧
 (∀ (s : Sz), ((askedM kd id (El.mk n_4 l_4 t_4 k_4)) = (Option.some s)) → q (AV.tp [AV.ag [mkI .i64 (Sz.kind s), mkS (Sz.ty s), mkS (Sz.id s), mkS (Sz.from_ s), mkS (Sz.to_ s), mkS (Sz.show_ s), mkS (Sz.tok s), mkS (Sz.rea s), mkI .u32 (Sz.h s), mkI .i64 (Sz.ver s), mkB (Sz.rem s), AV.d (.sl (itsD (Sz.its s)))], mkI .i64 0])) ∧ (
 ((askedM kd id (El.mk n_4 l_4 t_4 k_4)) = Option.none) →
 Sz →
 q (AV.tp [AV.ag [mkI .i64 0, mkS ⟨#[]⟩, mkS ⟨#[]⟩, mkS ⟨#[]⟩, mkS ⟨#[]⟩, mkS ⟨#[]⟩, mkS ⟨#[]⟩, mkS ⟨#[]⟩, mkI .u32 0, mkI .i64 0, mkB false, AV.d (.sl [])], mkI .i64 3])))))) (
 q (AV.tp [AV.ag [mkI .i64 0, mkS ⟨#[]⟩, mkS ⟨#[]⟩, mkS ⟨#[]⟩, mkS ⟨#[]⟩, mkS ⟨#[]⟩, mkS ⟨#[]⟩, mkS ⟨#[]⟩, mkI .u32 0, mkI .i64 0, mkB false, AV.d (.sl [])], mkI .i64 3]))) (
 q (AV.tp [AV.ag [mkI .i64 0, mkS ⟨#[]⟩, mkS ⟨#[]⟩, mkS ⟨#[]⟩, mkS ⟨#[]⟩, mkS ⟨#[]⟩, mkS ⟨#[]⟩, mkS ⟨#[]⟩, mkI .u32 0, mkI .i64 0, mkB false, AV.d (.sl [])], mkI .i64 3])))) (
 bcase (decide ((⟨#[115, 101, 116]⟩ : ByteArray) = (valueM l_1 x))) (
 ∃ (n_2 : ByteArray),
 ∃ (l_2 : List At),
 ∃ (t_2 : ByteArray),
 ∃ (k_2 : List El),
 ∃ (x_1 : ByteArray),
 ([AV.ag [mkS n, AV.d (.sl (atsD l)), mkS t, AV.d (.sl (ksD k))], mkS ⟨#[105, 100]⟩] = [AV.ag [mkS n_2, AV.d (.sl (atsD l_2)), mkS t_2, AV.d (.sl (ksD k_2))], mkS x_1]) ∧
 ((List.length l_2) ≤ LIM) ∧ (
 ∃ (n_3 : ByteArray),
 ∃ (l_3 : List At),
 ∃ (t_3 : ByteArray),
 ∃ (k_3 : List El),
 ([AV.ag [AV.mp 0, AV.d (D.v (.map Option.none))], AV.ag [mkS n, AV.d (.sl (atsD l)), mkS t, AV.d (.sl (ksD k))]] = [AV.ag [AV.mp 0, AV.d (D.v (.map Option.none))], AV.ag [mkS n_3, AV.d (.sl (atsD l_3)), mkS t_3, AV.d (.sl (ksD k_3))]]) ∧
 ([Ob.map KK.str [(Key.s (⟨#[116, 121, 112, 101]⟩ : ByteArray), AV.fn (Fn.func 40) [] []), (Key.s (⟨#[105, 100]⟩ : ByteArray), AV.fn (Fn.func 40) [] [])], Ob.gh []] = [Ob.map KK.str [(Key.s kType, AV.fn (Fn.func 40) [] []), (Key.s kId, AV.fn (Fn.func 40) [] [])], Ob.gh []]) ∧
 (((List.length l_3) ≤ LIM) ∧ (∀ (a : At), (a ∈ l_3) → ((ByteArray.size (Prod.fst a)) ≤ LIM) ∧ ((ByteArray.size (Prod.snd a)) ≤ LIM))) ∧
 ((Option.some (Ob.gh [])) = (Option.some (Ob.gh []))) ∧
 bcase (fitsM [(kType, wordB), (kId, wordB)] [] l_3) (
 bcase (decide (t = ⟨#[]⟩)) (
 ((List.length (ksD k)) ≤ LIM) →
 bcase (!(decide (((List.length (ksD k)) : Int) ≤ (1 : Int)))) (
 bcase (!(decide (((List.length (ksD k)) : Int) ≤ (1 : Int)))) (
 q (AV.tp [AV.ag [mkI .i64 0, mkS ⟨#[]⟩, mkS ⟨#[]⟩, mkS ⟨#[]⟩, mkS ⟨#[]⟩, mkS ⟨#[]⟩, mkS ⟨#[]⟩, mkS ⟨#[]⟩, mkI .u32 0, mkI .i64 0, mkB false, AV.d (.sl [])], mkI .i64 3])) (
 q (AV.tp [AV.ag [mkI .i64 3, mkS ⟨#[]⟩, mkS (valueM l_2 x_1), mkS ⟨#[]⟩, mkS ⟨#[]⟩, mkS ⟨#[]⟩, mkS ⟨#[]⟩, mkS ⟨#[]⟩, mkI .u32 0, mkI .i64 0, mkB false, AV.d (.sl [])], mkI .i64 0]))) (
 ((List.length (ksD k)) ≤ LIM) →
 bcase (((List.length (ksD k)) : Int) == (0 : Int)) (
 q (AV.tp [AV.ag [mkI .i64 0, mkS ⟨#[]⟩, mkS ⟨#[]⟩, mkS ⟨#[]⟩, mkS ⟨#[]⟩, mkS ⟨#[]⟩, mkS ⟨#[]⟩, mkS ⟨#[]⟩, mkI .u32 0, mkI .i64 0, mkB false, AV.d (.sl [])], mkI .i64 3])) (
 (((0 : Int) ≤ (0 : Int)) ∧ ((0 : Int) < ((List.length (ksD k)) : Int))) ∧
 ((List.length (List.getD (ksD k) (Int.toNat (0 : Int)) [])) = 4) ∧
 (4 ≤ (List.length (List.getD (ksD k) (Int.toNat (0 : Int)) []))) ∧
 (rIq_e0 k) ∧ (
 ∃ (kd : Int),
 ∃ (id : BA),
 ∃ (n_4 : ByteArray),
 ∃ (l_4 : List At),
 ∃ (t_4 : ByteArray),
 ∃ (k_4 : List El),
 ([AV.ag [mkI .i64 3, mkS ⟨#[]⟩, mkS (valueM l_2 x_1), mkS ⟨#[]⟩, mkS ⟨#[]⟩, mkS ⟨#[]⟩, mkS ⟨#[]⟩, mkS ⟨#[]⟩, mkI .u32 0, mkI .i64 0, mkB false, AV.nl], AV.ag [mkS (strD (List.getD (List.getD (ksD k) (Int.toNat (0 : Int)) []) 0 d0)), AV.d (.sl (slD (List.getD (List.drop 1 (List.getD (ksD k) (Int.toNat (0 : Int)) [])) 0 d0))), mkS (strD (List.getD (List.drop 1 (List.drop 1 (List.getD (ksD k) (Int.toNat (0 : Int)) []))) 0 d0)), AV.d (.sl (slD (List.getD (List.drop 1 (List.drop 1 (List.drop 1 (List.getD (ksD k) (Int.toNat (0 : Int)) [])))) 0 d0)))]] = [AV.ag [mkI .i64 kd, mkS ⟨#[]⟩, mkS id, mkS ⟨#[]⟩, mkS ⟨#[]⟩, mkS ⟨#[]⟩, mkS ⟨#[]⟩, mkS ⟨#[]⟩, mkI .u32 0, mkI .i64 0, mkB false, AV.nl], AV.ag [mkS n_4, AV.d (.sl (atsD l_4)), mkS t_4, AV.d (.sl (ksD k_4))]]) ∧
 (((List.length l_4) ≤ LIM) ∧ (∀ (a : At), (a ∈ l_4) → ((ByteArray.size (Prod.fst a)) ≤ LIM) ∧ ((ByteArray.size (Prod.snd a)) ≤ LIM))) ∧
 (∀ (e : El), (e ∈ k_4) → ((List.length (El.ats e)) ≤ LIM) ∧ (∀ (a : At), (a ∈ (El.ats e)) → ((ByteArray.size (Prod.fst a)) ≤ LIM) ∧ ((ByteArray.size (Prod.snd a)) ≤ LIM))) ∧
 (∀ (s : Sz), ((askedM kd id (El.mk n_4 l_4 t_4 k_4)) = (Option.some s)) → q (AV.tp [AV.ag [mkI .i64 (Sz.kind s), mkS (Sz.ty s), mkS (Sz.id s), mkS (Sz.from_ s), mkS (Sz.to_ s), mkS (Sz.show_ s), mkS (Sz.tok s), mkS (Sz.rea s), mkI .u32 (Sz.h s), mkI .i64 (Sz.ver s), mkB (Sz.rem s), AV.d (.sl (itsD (Sz.its s)))], mkI .i64 0])) ∧ (
 ((askedM kd id (El.mk n_4 l_4 t_4 k_4)) = Option.none) →
 Sz →
 q (AV.tp [AV.ag [mkI .i64 0, mkS ⟨#[]⟩, mkS ⟨#[]⟩, mkS ⟨#[]⟩, mkS ⟨#[]⟩, mkS ⟨#[]⟩, mkS ⟨#[]⟩, mkS ⟨#[]⟩, mkI .u32 0, mkI .i64 0, mkB false, AV.d (.sl [])], mkI .i64 3])))))) (
 q (AV.tp [AV.ag [mkI .i64 0, mkS ⟨#[]⟩, mkS ⟨#[]⟩, mkS ⟨#[]⟩, mkS ⟨#[]⟩, mkS ⟨#[]⟩, mkS ⟨#[]⟩, mkS ⟨#[]⟩, mkI .u32 0, mkI .i64 0, mkB false, AV.d (.sl [])], mkI .i64 3]))) (
 q (AV.tp [AV.ag [mkI .i64 0, mkS ⟨#[]⟩, mkS ⟨#[]⟩, mkS ⟨#[]⟩, mkS ⟨#[]⟩, mkS ⟨#[]⟩, mkS ⟨#[]⟩, mkS ⟨#[]⟩, mkI .u32 0, mkI .i64 0, mkB false, AV.d (.sl [])], mkI .i64 3])))) (
 bcase (decide ((⟨#[114, 101, 115, 117, 108, 116]⟩ : ByteArray) = (valueM l_1 x))) (
 ∃ (n_2 : ByteArray),
 ∃ (l_2 : List At),
 ∃ (t_2 : ByteArray),
 ∃ (k_2 : List El),
 ∃ (x_1 : ByteArray),
 ([AV.ag [mkS n, AV.d (.sl (atsD l)), mkS t, AV.d (.sl (ksD k))], mkS ⟨#[105, 100]⟩] = [AV.ag [mkS n_2, AV.d (.sl (atsD l_2)), mkS t_2, AV.d (.sl (ksD k_2))], mkS x_1]) ∧
 ((List.length l_2) ≤ LIM) ∧ (
 ∃ (n_3 : ByteArray),
 ∃ (l_3 : List At),
 ∃ (t_3 : ByteArray),
 ∃ (k_3 : List El),
 ([AV.ag [AV.mp 0, AV.d (D.v (.map Option.none))], AV.ag [mkS n, AV.d (.sl (atsD l)), mkS t, AV.d (.sl (ksD k))]] = [AV.ag [AV.mp 0, AV.d (D.v (.map Option.none))], AV.ag [mkS n_3, AV.d (.sl (atsD l_3)), mkS t_3, AV.d (.sl (ksD k_3))]]) ∧
 ([Ob.map KK.str [(Key.s (⟨#[116, 121, 112, 101]⟩ : ByteArray), AV.fn (Fn.func 40) [] []), (Key.s (⟨#[105, 100]⟩ : ByteArray), AV.fn (Fn.func 40) [] [])], Ob.gh []] = [Ob.map KK.str [(Key.s kType, AV.fn (Fn.func 40) [] []), (Key.s kId, AV.fn (Fn.func 40) [] [])], Ob.gh []]) ∧
 (((List.length l_3) ≤ LIM) ∧ (∀ (a : At), (a ∈ l_3) → ((ByteArray.size (Prod.fst a)) ≤ LIM) ∧ ((ByteArray.size (Prod.snd a)) ≤ LIM))) ∧
 ((Option.some (Ob.gh [])) = (Option.some (Ob.gh []))) ∧
 bcase (fitsM [(kType, wordB), (kId, wordB)] [] l_3) (
 bcase (decide (t = ⟨#[]⟩)) (
 ((List.length (ksD k)) ≤ LIM) →
 bcase (!(decide (((List.length (ksD k)) : Int) ≤ (1 : Int)))) (
 bcase (!(decide (((List.length (ksD k)) : Int) ≤ (1 : Int)))) (
 q (AV.tp [AV.ag [mkI .i64 0, mkS ⟨#[]⟩, mkS ⟨#[]⟩, mkS ⟨#[]⟩, mkS ⟨#[]⟩, mkS ⟨#[]⟩, mkS ⟨#[]⟩, mkS ⟨#[]⟩, mkI .u32 0, mkI .i64 0, mkB false, AV.d (.sl [])], mkI .i64 3])) (
 q (AV.tp [AV.ag [mkI .i64 4, mkS ⟨#[]⟩, mkS (valueM l_2 x_1), mkS ⟨#[]⟩, mkS ⟨#[]⟩, mkS ⟨#[]⟩, mkS ⟨#[]⟩, mkS ⟨#[]⟩, mkI .u32 0, mkI .i64 0, mkB false, AV.d (.sl [])], mkI .i64 0]))) (
 ((List.length (ksD k)) ≤ LIM) →
 bcase (((List.length (ksD k)) : Int) == (0 : Int)) (
 q (AV.tp [AV.ag [mkI .i64 4, mkS ⟨#[]⟩, mkS (valueM l_2 x_1), mkS ⟨#[]⟩, mkS ⟨#[]⟩, mkS ⟨#[]⟩, mkS ⟨#[]⟩, mkS ⟨#[]⟩, mkI .u32 0, mkI .i64 0, mkB false, AV.d (.sl [])], mkI .i64 0])) (
 (((0 : Int) ≤ (0 : Int)) ∧ ((0 : Int) < ((List.length (ksD k)) : Int))) ∧
 ((List.length (List.getD (ksD k) (Int.toNat (0 : Int)) [])) = 4) ∧
 (4 ≤ (List.length (List.getD (ksD k) (Int.toNat (0 : Int)) []))) ∧
 (rIq_e0 k) ∧ (
 ∃ (kd : Int),
 ∃ (id : BA),
 ∃ (n_4 : ByteArray),
 ∃ (l_4 : List At),
 ∃ (t_4 : ByteArray),
 ∃ (k_4 : List El),
 ([AV.ag [mkI .i64 4, mkS ⟨#[]⟩, mkS (valueM l_2 x_1), mkS ⟨#[]⟩, mkS ⟨#[]⟩, mkS ⟨#[]⟩, mkS ⟨#[]⟩, mkS ⟨#[]⟩, mkI .u32 0, mkI .i64 0, mkB false, AV.nl], AV.ag [mkS (strD (List.getD (List.getD (ksD k) (Int.toNat (0 : Int)) []) 0 d0)), AV.d (.sl (slD (List.getD (List.drop 1 (List.getD (ksD k) (Int.toNat (0 : Int)) [])) 0 d0))), mkS (strD (List.getD (List.drop 1 (List.drop 1 (List.getD (ksD k) (Int.toNat (0 : Int)) []))) 0 d0)), AV.d (.sl (slD (List.getD (List.drop 1 (List.drop 1 (List.drop 1 (List.getD (ksD k) (Int.toNat (0 : Int)) [])))) 0 d0)))]] = [AV.ag [mkI .i64 kd, mkS ⟨#[]⟩, mkS id, mkS ⟨#[]⟩, mkS ⟨#[]⟩, mkS ⟨#[]⟩, mkS ⟨#[]⟩, mkS ⟨#[]⟩, mkI .u32 0, mkI .i64 0, mkB false, AV.nl], AV.ag [mkS n_4, AV.d (.sl (atsD l_4)), mkS t_4, AV.d (.sl (ksD k_4))]]) ∧
 (((List.length l_4) ≤ LIM) ∧ (∀ (a : At), (a ∈ l_4) → ((ByteArray.size (Prod.fst a)) ≤ LIM) ∧ ((ByteArray.size (Prod.snd a)) ≤ LIM))) ∧
 (∀ (e : El), (e ∈ k_4) → ((List.length (El.ats e)) ≤ LIM) ∧ (∀ (a : At), (a ∈ (El.ats e)) → ((ByteArray.size (Prod.fst a)) ≤ LIM) ∧ ((ByteArray.size (Prod.snd a)) ≤ LIM))) ∧
 (∀ (s : Sz), ((askedM kd id (El.mk n_4 l_4 t_4 k_4)) = (Option.some s)) → q (AV.tp [AV.ag [mkI .i64 (Sz.kind s), mkS (Sz.ty s), mkS (Sz.id s), mkS (Sz.from_ s), mkS (Sz.to_ s), mkS (Sz.show_ s), mkS (Sz.tok s), mkS (Sz.rea s), mkI .u32 (Sz.h s), mkI .i64 (Sz.ver s), mkB (Sz.rem s), AV.d (.sl (itsD (Sz.its s)))], mkI .i64 0])) ∧ (
 ((askedM kd id (El.mk n_4 l_4 t_4 k_4)) = Option.none) →
 Sz →
 q (AV.tp [AV.ag [mkI .i64 0, mkS ⟨#[]⟩, mkS ⟨#[]⟩, mkS ⟨#[]⟩, mkS ⟨#[]⟩, mkS ⟨#[]⟩, mkS ⟨#[]⟩, mkS ⟨#[]⟩, mkI .u32 0, mkI .i64 0, mkB false, AV.d (.sl [])], mkI .i64 3])))))) (
 q (AV.tp [AV.ag [mkI .i64 0, mkS ⟨#[]⟩, mkS ⟨#[]⟩, mkS ⟨#[]⟩, mkS ⟨#[]⟩, mkS ⟨#[]⟩, mkS ⟨#[]⟩, mkS ⟨#[]⟩, mkI .u32 0, mkI .i64 0, mkB false, AV.d (.sl [])], mkI .i64 3]))) (
 q (AV.tp [AV.ag [mkI .i64 0, mkS ⟨#[]⟩, mkS ⟨#[]⟩, mkS ⟨#[]⟩, mkS ⟨#[]⟩, mkS ⟨#[]⟩, mkS ⟨#[]⟩, mkS ⟨#[]⟩, mkI .u32 0, mkI .i64 0, mkB false, AV.d (.sl [])], mkI .i64 3])))) (
 bcase (decide ((⟨#[101, 114, 114, 111, 114]⟩ : ByteArray) = (valueM l_1 x))) (
 ∃ (n_2 : ByteArray),
 ∃ (l_2 : List At),
 ∃ (t_2 : ByteArray),
 ∃ (k_2 : List El),
 ∃ (x_1 : ByteArray),
 ([AV.ag [mkS n, AV.d (.sl (atsD l)), mkS t, AV.d (.sl (ksD k))], mkS ⟨#[105, 100]⟩] = [AV.ag [mkS n_2, AV.d (.sl (atsD l_2)), mkS t_2, AV.d (.sl (ksD k_2))], mkS x_1]) ∧
 ((List.length l_2) ≤ LIM) ∧ (
 ∃ (n_3 : ByteArray),
 ∃ (l_3 : List At),
 ∃ (t_3 : ByteArray),
 ∃ (k_3 : List El),
 ([AV.ag [AV.mp 0, AV.d (D.v (.map Option.none))], AV.ag [mkS n, AV.d (.sl (atsD l)), mkS t, AV.d (.sl (ksD k))]] = [AV.ag [AV.mp 0, AV.d (D.v (.map Option.none))], AV.ag [mkS n_3, AV.d (.sl (atsD l_3)), mkS t_3, AV.d (.sl (ksD k_3))]]) ∧
 ([Ob.map KK.str [(Key.s (⟨#[116, 121, 112, 101]⟩ : ByteArray), AV.fn (Fn.func 40) [] []), (Key.s (⟨#[105, 100]⟩ : ByteArray), AV.fn (Fn.func 40) [] [])], Ob.gh []] = [Ob.map KK.str [(Key.s kType, AV.fn (Fn.func 40) [] []), (Key.s kId, AV.fn (Fn.func 40) [] [])], Ob.gh []]) ∧
 (((List.length l_3) ≤ LIM) ∧ (∀ (a : At), (a ∈ l_3) → ((ByteArray.size (Prod.fst a)) ≤ LIM) ∧ ((ByteArray.size (Prod.snd a)) ≤ LIM))) ∧
 ((Option.some (Ob.gh [])) = (Option.some (Ob.gh []))) ∧
 bcase (fitsM [(kType, wordB), (kId, wordB)] [] l_3) (
 bcase (decide (t = ⟨#[]⟩)) (
 ((List.length (ksD k)) ≤ LIM) →
 bcase (!(decide (((List.length (ksD k)) : Int) ≤ (1 : Int)))) (
 bcase (!(decide (((List.length (ksD k)) : Int) ≤ (1 : Int)))) (
 q (AV.tp [AV.ag [mkI .i64 0, mkS ⟨#[]⟩, mkS ⟨#[]⟩, mkS ⟨#[]⟩, mkS ⟨#[]⟩, mkS ⟨#[]⟩, mkS ⟨#[]⟩, mkS ⟨#[]⟩, mkI .u32 0, mkI .i64 0, mkB false, AV.d (.sl [])], mkI .i64 3])) (
 q (AV.tp [AV.ag [mkI .i64 5, mkS ⟨#[]⟩, mkS (valueM l_2 x_1), mkS ⟨#[]⟩, mkS ⟨#[]⟩, mkS ⟨#[]⟩, mkS ⟨#[]⟩, mkS ⟨#[]⟩, mkI .u32 0, mkI .i64 0, mkB false, AV.d (.sl [])], mkI .i64 0]))) (
 ((List.length (ksD k)) ≤ LIM) →
 bcase (((List.length (ksD k)) : Int) == (0 : Int)) (
 q (AV.tp [AV.ag [mkI .i64 0, mkS ⟨#[]⟩, mkS ⟨#[]⟩, mkS ⟨#[]⟩, mkS ⟨#[]⟩, mkS ⟨#[]⟩, mkS ⟨#[]⟩, mkS ⟨#[]⟩, mkI .u32 0, mkI .i64 0, mkB false, AV.d (.sl [])], mkI .i64 3])) (
 (((0 : Int) ≤ (0 : Int)) ∧ ((0 : Int) < ((List.length (ksD k)) : Int))) ∧
 ((List.length (List.getD (ksD k) (Int.toNat (0 : Int)) [])) = 4) ∧
 (4 ≤ (List.length (List.getD (ksD k) (Int.toNat (0 : Int)) []))) ∧
 (rIq_e0 k) ∧
 bcase (decide ((strD (List.getD (List.getD (ksD k) (Int.toNat (0 : Int)) []) 0 d0)) = ⟨#[101, 114, 114, 111, 114]⟩)) (
 ((ByteArray.size (strD (List.getD (List.drop 1 (List.drop 1 (List.getD (ksD k) (Int.toNat (0 : Int)) []))) 0 d0))) ≤ LIM) ∧
 bcase (wordB (strD (List.getD (List.drop 1 (List.drop 1 (List.getD (ksD k) (Int.toNat (0 : Int)) []))) 0 d0))) (
 ((List.length (slD (List.getD (List.drop 1 (List.getD (ksD k) (Int.toNat (0 : Int)) [])) 0 d0))) ≤ LIM) →
 bcase (((List.length (slD (List.getD (List.drop 1 (List.getD (ksD k) (Int.toNat (0 : Int)) [])) 0 d0))) : Int) == (0 : Int)) (
 ((List.length (slD (List.getD (List.drop 1 (List.drop 1 (List.drop 1 (List.getD (ksD k) (Int.toNat (0 : Int)) [])))) 0 d0))) ≤ LIM) →
 bcase (!(((List.length (slD (List.getD (List.drop 1 (List.drop 1 (List.drop 1 (List.getD (ksD k) (Int.toNat (0 : Int)) [])))) 0 d0))) : Int) == (0 : Int))) (
 q (AV.tp [AV.ag [mkI .i64 0, mkS ⟨#[]⟩, mkS ⟨#[]⟩, mkS ⟨#[]⟩, mkS ⟨#[]⟩, mkS ⟨#[]⟩, mkS ⟨#[]⟩, mkS ⟨#[]⟩, mkI .u32 0, mkI .i64 0, mkB false, AV.d (.sl [])], mkI .i64 3])) (
 q (AV.tp [AV.ag [mkI .i64 5, mkS ⟨#[]⟩, mkS (valueM l_2 x_1), mkS ⟨#[]⟩, mkS ⟨#[]⟩, mkS ⟨#[]⟩, mkS ⟨#[]⟩, mkS (strD (List.getD (List.drop 1 (List.drop 1 (List.getD (ksD k) (Int.toNat (0 : Int)) []))) 0 d0)), mkI .u32 0, mkI .i64 0, mkB false, AV.d (.sl [])], mkI .i64 0]))) (
 q (AV.tp [AV.ag [mkI .i64 0, mkS ⟨#[]⟩, mkS ⟨#[]⟩, mkS ⟨#[]⟩, mkS ⟨#[]⟩, mkS ⟨#[]⟩, mkS ⟨#[]⟩, mkS ⟨#[]⟩, mkI .u32 0, mkI .i64 0, mkB false, AV.d (.sl [])], mkI .i64 3]))) (
 q (AV.tp [AV.ag [mkI .i64 0, mkS ⟨#[]⟩, mkS ⟨#[]⟩, mkS ⟨#[]⟩, mkS ⟨#[]⟩, mkS ⟨#[]⟩, mkS ⟨#[]⟩, mkS ⟨#[]⟩, mkI .u32 0, mkI .i64 0, mkB false, AV.d (.sl [])], mkI .i64 3]))) (
 q (AV.tp [AV.ag [mkI .i64 0, mkS ⟨#[]⟩, mkS ⟨#[]⟩, mkS ⟨#[]⟩, mkS ⟨#[]⟩, mkS ⟨#[]⟩, mkS ⟨#[]⟩, mkS ⟨#[]⟩, mkI .u32 0, mkI .i64 0, mkB false, AV.d (.sl [])], mkI .i64 3]))))) (
 q (AV.tp [AV.ag [mkI .i64 0, mkS ⟨#[]⟩, mkS ⟨#[]⟩, mkS ⟨#[]⟩, mkS ⟨#[]⟩, mkS ⟨#[]⟩, mkS ⟨#[]⟩, mkS ⟨#[]⟩, mkI .u32 0, mkI .i64 0, mkB false, AV.d (.sl [])], mkI .i64 3]))) (
 q (AV.tp [AV.ag [mkI .i64 0, mkS ⟨#[]⟩, mkS ⟨#[]⟩, mkS ⟨#[]⟩, mkS ⟨#[]⟩, mkS ⟨#[]⟩, mkS ⟨#[]⟩, mkS ⟨#[]⟩, mkI .u32 0, mkI .i64 0, mkB false, AV.d (.sl [])], mkI .i64 3])))) (
 q (AV.tp [AV.ag [mkI .i64 0, mkS ⟨#[]⟩, mkS ⟨#[]⟩, mkS ⟨#[]⟩, mkS ⟨#[]⟩, mkS ⟨#[]⟩, mkS ⟨#[]⟩, mkS ⟨#[]⟩, mkI .u32 0, mkI .i64 0, mkB false, AV.d (.sl [])], mkI .i64 6])))))) := by kernel_rfl
mutual
/-- Texts and rows that are no longer than may be, however deep. -/
def El.fit : El → Prop
  | .mk n a t k => n.size ≤ LIM ∧ t.size ≤ LIM ∧ (a.length ≤ LIM ∧ atsFit a) ∧ k.length ≤ LIM ∧ fitK k
def fitK : List El → Prop
  | [] => True
  | e :: l => e.fit ∧ fitK l
end
theorem fitK_mem : ∀ {l : List El}, fitK l → ∀ e ∈ l, e.fit
  | [], _, e, h => by cases h
  | x :: l, h, e, he => by
    rcases List.mem_cons.1 he with rfl | he
    · exact h.1
    · exact fitK_mem h.2 e he
theorem El.fit_ats {e : El} (h : e.fit) : e.ats.length ≤ LIM ∧ atsFit e.ats := by obtain ⟨n, a, t, k⟩ := e; exact h.2.2.1
theorem El.fit_t {e : El} (h : e.fit) : e.t.size ≤ LIM := by obtain ⟨n, a, t, k⟩ := e; exact h.2.1
theorem El.fit_ks {e : El} (h : e.fit) : fitK e.ks := by obtain ⟨n, a, t, k⟩ := e; exact h.2.2.2.2
structure FitE (e : El) : Prop where
  ok : e.fit
def EIq : List AV → (AV → Prop) → Prop := fun al q => ∃ n l t k, al = [.ag [mkS n, .d (.sl (atsD l)), mkS t, .d (.sl (ksD k))]] ∧ FitE (.mk n l t k) ∧ q (.tp [szV (iqM (.mk n l t k)).1, mkI .i64 (iqM (.mk n l t k)).2])
theorem giq_ok : GSound Tryz.prog GIq := gsound_ref (RSound.frameX cFIq) (gsound_pure cVal (gsound_det cWord (gsound_raw cAsk gsound_nil)))
theorem beq_len {α : Type} (l : List α) : (((l.length : Nat) : Int) == 0) = l.isEmpty := by
  cases l with
  | nil => rfl
  | cons a l =>
    rw [List.isEmpty_cons, beq_eq_false_iff_ne]
    simp only [List.length_cons]; omega
theorem iqM_eq (n : BA) (l : List At) (t : BA) (k : List El) (kd : Int) (h : kindM (valueM l kType) = some kd) : iqM (.mk n l t k) = (if fitsM [(kType, wordB), (kId, wordB)] [] l && decide (t = ⟨#[]⟩) then (match k with
    | [] => if kd = 4 then ({ kind := kd, id := valueM l kId }, (0 : Int)) else (zS, 3)
    | [k] => if kd = 5 then (if decide (k.n = sError) && wordB k.t && k.ats.isEmpty && k.ks.isEmpty then ({ kind := kd, id := valueM l kId, rea := k.t }, 0) else (zS, 3))
      else match askedM kd (valueM l kId) k with
        | some s => (s, 0)
        | none => (zS, 3)
    | _ => (zS, 3)) else (zS, 3) : Sz × Int) := by
  unfold iqM
  simp only [El.ats_mk, El.t_mk, El.ks_mk, h]
  rfl
theorem cIq : PSound Tryz.prog 21 EIq := by
  refine pure_fn (c := Tryz.b21) mixed KS_ok giq_ok Tryz.func21 rfl rfl Tryz.call21 fun al q ⟨n, l, t, k, h1, ⟨⟨_, _, hf, _, hk⟩⟩, hq⟩ => ?_
  subst h1
  have er3 : iqM (.mk n l t k) = (zS, 3) → q (.tp [szV zS, mkI .i64 3]) := fun h => by rw [h] at hq; exact hq
  have er6 : iqM (.mk n l t k) = (zS, 6) → q (.tp [szV zS, mkI .i64 6]) := fun h => by rw [h] at hq; exact hq
  have okq : ∀ s, iqM (.mk n l t k) = (s, 0) → q (.tp [szV s, mkI .i64 0]) := fun s h => by rw [h] at hq; exact hq
  have e0 := iqM_eq n l t k
  have kG : ∀ a, sGet = a → kindM a = some 2 := fun a h => by subst h; rfl
  have kS : ∀ a, sSet = a → kindM a = some 3 := fun a h => by subst h; rfl
  have kR : ∀ a, sResult = a → kindM a = some 4 := fun a h => by subst h; rfl
  have kE : ∀ a, sError = a → kindM a = some 5 := fun a h => by subst h; rfl
  refine cast (rIq n l t k q).symm ⟨n, l, t, k, kType, rfl, hf.1, bcase_dec (fun h => ?_) (fun g1 => bcase_dec (fun h => ?_) (fun g2 => bcase_dec (fun h => ?_) (fun g3 => bcase_dec (fun h => ?_) (fun g4 => ?_))))⟩
  · have e0 := e0 2 (kG _ h)
    refine ⟨n, l, t, k, kId, rfl, hf.1, n, l, t, k, rfl, rfl, hf, rfl, bcase_mk (fun h2 => bcase_dec (fun h3 _ => bcase_mk (fun h4 => ?_) (fun h4 _ => bcase_mk (fun h5 => ?_) (fun h5 => ?_))) (fun h3 => ?_)) (fun h2 => ?_)⟩
    · refine bcase_mk (fun _ => er3 ?_) (fun h6 => by rw [h4] at h6; cases h6)
      have h4 := of_decide_eq_false (not_t h4)
      rw [ksD_len] at h4
      match k, h4 with
      | [], h4 => simp at h4
      | [a], h4 => simp at h4
      | a :: b :: r, _ => rw [e0]; simp
    · rw [ksD_len, beq_len] at h5
      match k, h5 with
      | [], _ => exact er3 (by rw [e0]; simp)
    · have h4 := of_decide_eq_true (not_f h4)
      rw [ksD_len] at h4
      rw [ksD_len, beq_len] at h5
      match k, h4, h5 with
      | [e], _, _ =>
        obtain ⟨en, ea, et, ek⟩ := e
        have hfe := fitK_mem hk _ (List.mem_singleton_self _)
        have e1 : (ksD [El.mk en ea et ek]).getD (Int.toNat 0) [] = [.v (.string en), .sl (atsD ea), .v (.string et), .sl (ksD ek)] := rfl
        simp only [e1, List.getD_cons_zero, List.drop_succ_cons, List.drop_zero, strD, slD]
        refine ⟨⟨by omega, by simp [ksD]⟩, rfl, Nat.le_refl _, ⟨by trivial, by trivial, by trivial, by trivial, trivial⟩, 2, valueM l kId, en, ea, et, ek, rfl, El.fit_ats hfe, fun e he => El.fit_ats (fitK_mem (El.fit_ks hfe) e he), fun s hs => okq s ?_, fun hs _ => er3 ?_⟩
        · rw [e0, h2, h3]; simp [hs]
        · rw [e0, h2, h3]; simp [hs]
      | [], _, h5 => simp at h5
    · exact er3 (by rw [e0]; simp [h3])
    · exact er3 (by rw [e0, h2]; simp)
  · have e0 := e0 3 (kS _ h)
    refine ⟨n, l, t, k, kId, rfl, hf.1, n, l, t, k, rfl, rfl, hf, rfl, bcase_mk (fun h2 => bcase_dec (fun h3 _ => bcase_mk (fun h4 => ?_) (fun h4 _ => bcase_mk (fun h5 => ?_) (fun h5 => ?_))) (fun h3 => ?_)) (fun h2 => ?_)⟩
    · refine bcase_mk (fun _ => er3 ?_) (fun h6 => by rw [h4] at h6; cases h6)
      have h4 := of_decide_eq_false (not_t h4)
      rw [ksD_len] at h4
      match k, h4 with
      | [], h4 => simp at h4
      | [a], h4 => simp at h4
      | a :: b :: r, _ => rw [e0]; simp
    · rw [ksD_len, beq_len] at h5
      match k, h5 with
      | [], _ => exact er3 (by rw [e0]; simp)
    · have h4 := of_decide_eq_true (not_f h4)
      rw [ksD_len] at h4
      rw [ksD_len, beq_len] at h5
      match k, h4, h5 with
      | [e], _, _ =>
        obtain ⟨en, ea, et, ek⟩ := e
        have hfe := fitK_mem hk _ (List.mem_singleton_self _)
        have e1 : (ksD [El.mk en ea et ek]).getD (Int.toNat 0) [] = [.v (.string en), .sl (atsD ea), .v (.string et), .sl (ksD ek)] := rfl
        simp only [e1, List.getD_cons_zero, List.drop_succ_cons, List.drop_zero, strD, slD]
        refine ⟨⟨by omega, by simp [ksD]⟩, rfl, Nat.le_refl _, ⟨by trivial, by trivial, by trivial, by trivial, trivial⟩, 3, valueM l kId, en, ea, et, ek, rfl, El.fit_ats hfe, fun e he => El.fit_ats (fitK_mem (El.fit_ks hfe) e he), fun s hs => okq s ?_, fun hs _ => er3 ?_⟩
        · rw [e0, h2, h3]; simp [hs]
        · rw [e0, h2, h3]; simp [hs]
      | [], _, h5 => simp at h5
    · exact er3 (by rw [e0]; simp [h3])
    · exact er3 (by rw [e0, h2]; simp)
  · have e0 := e0 4 (kR _ h)
    refine ⟨n, l, t, k, kId, rfl, hf.1, n, l, t, k, rfl, rfl, hf, rfl, bcase_mk (fun h2 => bcase_dec (fun h3 _ => bcase_mk (fun h4 => ?_) (fun h4 _ => bcase_mk (fun h5 => ?_) (fun h5 => ?_))) (fun h3 => ?_)) (fun h2 => ?_)⟩
    · refine bcase_mk (fun _ => er3 ?_) (fun h6 => by rw [h4] at h6; cases h6)
      have h4 := of_decide_eq_false (not_t h4)
      rw [ksD_len] at h4
      match k, h4 with
      | [], h4 => simp at h4
      | [a], h4 => simp at h4
      | a :: b :: r, _ => rw [e0]; simp
    · rw [ksD_len, beq_len] at h5
      match k, h5 with
      | [], _ => exact okq { kind := 4, id := valueM l kId } (by rw [e0, h2, h3]; simp)
    · have h4 := of_decide_eq_true (not_f h4)
      rw [ksD_len] at h4
      rw [ksD_len, beq_len] at h5
      match k, h4, h5 with
      | [e], _, _ =>
        obtain ⟨en, ea, et, ek⟩ := e
        have hfe := fitK_mem hk _ (List.mem_singleton_self _)
        have e1 : (ksD [El.mk en ea et ek]).getD (Int.toNat 0) [] = [.v (.string en), .sl (atsD ea), .v (.string et), .sl (ksD ek)] := rfl
        simp only [e1, List.getD_cons_zero, List.drop_succ_cons, List.drop_zero, strD, slD]
        refine ⟨⟨by omega, by simp [ksD]⟩, rfl, Nat.le_refl _, ⟨by trivial, by trivial, by trivial, by trivial, trivial⟩, 4, valueM l kId, en, ea, et, ek, rfl, El.fit_ats hfe, fun e he => El.fit_ats (fitK_mem (El.fit_ks hfe) e he), fun s hs => okq s ?_, fun hs _ => er3 ?_⟩
        · rw [e0, h2, h3]; simp [hs]
        · rw [e0, h2, h3]; simp [hs]
      | [], _, h5 => simp at h5
    · exact er3 (by rw [e0]; simp [h3])
    · exact er3 (by rw [e0, h2]; simp)
  · have e0 := e0 5 (kE _ h)
    refine ⟨n, l, t, k, kId, rfl, hf.1, n, l, t, k, rfl, rfl, hf, rfl, bcase_mk (fun h2 => bcase_dec (fun h3 _ => bcase_mk (fun h4 => ?_) (fun h4 _ => bcase_mk (fun h5 => ?_) (fun h5 => ?_))) (fun h3 => ?_)) (fun h2 => ?_)⟩
    · refine bcase_mk (fun _ => er3 ?_) (fun h6 => by rw [h4] at h6; cases h6)
      have h4 := of_decide_eq_false (not_t h4)
      rw [ksD_len] at h4
      match k, h4 with
      | [], h4 => simp at h4
      | [a], h4 => simp at h4
      | a :: b :: r, _ => rw [e0]; simp
    · rw [ksD_len, beq_len] at h5
      match k, h5 with
      | [], _ => exact er3 (by rw [e0]; simp)
    · have h4 := of_decide_eq_true (not_f h4)
      rw [ksD_len] at h4
      rw [ksD_len, beq_len] at h5
      match k, h4, h5 with
      | [e], _, _ =>
        obtain ⟨en, ea, et, ek⟩ := e
        have hfe := fitK_mem hk _ (List.mem_singleton_self _)
        have e1 : (ksD [El.mk en ea et ek]).getD (Int.toNat 0) [] = [.v (.string en), .sl (atsD ea), .v (.string et), .sl (ksD ek)] := rfl
        simp only [e1, List.getD_cons_zero, List.drop_succ_cons, List.drop_zero, strD, slD]
        refine ⟨⟨by omega, by simp [ksD]⟩, rfl, Nat.le_refl _, ⟨by trivial, by trivial, by trivial, by trivial, trivial⟩, bcase_dec (fun a1 => ⟨El.fit_t hfe, bcase_mk (fun a2 _ => bcase_mk (fun a3 _ => bcase_mk (fun a4 => er3 ?_) (fun a4 => okq { kind := 5, id := valueM l kId, rea := et } ?_)) (fun a3 => er3 ?_)) (fun a2 => er3 ?_)⟩) (fun a1 => er3 ?_)⟩
        · rw [ksD_len, beq_len] at a4
          rw [e0]; simp [El.ks, not_t a4]
        · rw [ksD_len, beq_len] at a4
          rw [atsD_len, beq_len] at a3
          have a1 : en = sError := a1
          rw [e0, h2, h3]; simp [El.n, El.ats, El.t, El.ks, a1, a2, a3, not_f a4]
        · rw [atsD_len, beq_len] at a3
          rw [e0]; simp [El.ats, a3]
        · rw [e0]; simp [El.t, a2]
        · have a1 : ¬ en = sError := a1
          rw [e0]; simp [El.n, a1]
      | [], _, h5 => simp at h5
    · exact er3 (by rw [e0]; simp [h3])
    · exact er3 (by rw [e0, h2]; simp)
  · refine er6 ?_
    have : kindM (valueM l kType) = none := by
      unfold kindM
      rw [if_neg (fun e => g1 e.symm), if_neg (fun e => g2 e.symm), if_neg (fun e => g3 e.symm), if_neg (fun e => g4 e.symm)]
    unfold iqM
    simp only [El.ats_mk, this]
end Go.Proofs.YtfdmmgiefhhnoaaGreatDoor
