import Derived.Test.YtfdmmgiefhhnoaaGreatDoorStaFit1
import Derived.Test.YtfdmmgiefhhnoaaGreatDoorStaFit2
import Derived.Test.YtfdmmgiefhhnoaaGreatDoorStaFn
set_option linter.unusedSimpArgs false
set_option linter.unusedVariables false
namespace Go.Proofs.YtfdmmgiefhhnoaaGreatDoor
open Go Go.AM Go.RowKit
attribute [local irreducible] aCode
def itD (x : It) : List D := [.v (.string x.c), .v (.string x.n), .v (.int .i64 x.s), .v (.bool x.a)]
def itsD (l : List It) : List (List D) := l.map itD
def itV (x : It) : AV := .ag [mkS x.c, mkS x.n, mkI .i64 x.s, mkB x.a]
def szV (s : Sz) : AV := .ag [mkI .i64 s.kind, mkS s.ty, mkS s.id, mkS s.from_, mkS s.to_, mkS s.show_, mkS s.tok, mkS s.rea, mkI .u32 s.h, mkI .i64 s.ver, mkB s.rem, .d (.sl (itsD s.its))]
noncomputable abbrev GSm (E : REnt) : List (FuncId × En) := [(38, .ref (frameX E)), (43, .pure EHn), (39, .pure EVal)]
noncomputable abbrev rSmZ_e0 (j : Int) (n : BA) (l : List At) (t : BA) (k : List El) (q : AV → List Ob → Prop) (l_2 : List At) (x : ByteArray) : Prop := (∃ (n_3 : ByteArray), ∃ (l_3 : List At), ∃ (t_3 : ByteArray), ∃ (k_3 : List El), ∃ (x_1 : ByteArray), ([AV.ag [mkS n, AV.d (.sl (atsD l)), mkS t, AV.d (.sl (ksD k))], mkS ⟨#[112, 114, 101, 118, 105, 100]⟩] = [AV.ag [mkS n_3, AV.d (.sl (atsD l_3)), mkS t_3, AV.d (.sl (ksD k_3))], mkS x_1]) ∧ (((List.length l_3) ≤ LIM) ∧ (bcase (j == (7 : Int)) (∃ (n_4 : ByteArray), ∃ (l_4 : List At), ∃ (t_4 : ByteArray), ∃ (k_4 : List El), ∃ (x_2 : ByteArray), ([AV.ag [mkS n, AV.d (.sl (atsD l)), mkS t, AV.d (.sl (ksD k))], mkS ⟨#[105, 100]⟩] = [AV.ag [mkS n_4, AV.d (.sl (atsD l_4)), mkS t_4, AV.d (.sl (ksD k_4))], mkS x_2]) ∧ (((List.length l_4) ≤ LIM) ∧ (q (AV.tp [AV.ag [mkI .i64 j, mkS ⟨#[]⟩, mkS ⟨#[]⟩, mkS ⟨#[]⟩, mkS ⟨#[]⟩, mkS ⟨#[]⟩, mkS (valueM l_4 x_2), mkS ⟨#[]⟩, mkI .u32 (numOf (valueM l_2 x)), mkI .i64 0, mkB false, AV.nl], mkI .i64 0]) [Ob.gh [], Ob.box [mkI .i64 j, AV.d (D.v (.map Option.none)), AV.d (D.v (.map Option.none))], Ob.box [mkS n, AV.d (.sl (atsD l)), mkS t, AV.d (.sl (ksD k))], Ob.box [mkI .i64 j, mkS ⟨#[]⟩, mkS ⟨#[]⟩, mkS ⟨#[]⟩, mkS ⟨#[]⟩, mkS ⟨#[]⟩, mkS (valueM l_4 x_2), mkS ⟨#[]⟩, mkI .u32 (numOf (valueM l_2 x)), mkI .i64 0, mkB false, AV.nl], Ob.gone, Ob.gone, Ob.box [mkI .i64 j, mkS ⟨#[]⟩, mkS ⟨#[]⟩, mkS ⟨#[]⟩, mkS ⟨#[]⟩, mkS ⟨#[]⟩, mkS (valueM l_4 x_2), mkS ⟨#[]⟩, mkI .u32 (numOf (valueM l_2 x)), mkI .i64 0, mkB false, AV.nl]]))) (q (AV.tp [AV.ag [mkI .i64 j, mkS ⟨#[]⟩, mkS ⟨#[]⟩, mkS ⟨#[]⟩, mkS ⟨#[]⟩, mkS ⟨#[]⟩, mkS (valueM l_3 x_1), mkS ⟨#[]⟩, mkI .u32 (numOf (valueM l_2 x)), mkI .i64 0, mkB false, AV.nl], mkI .i64 0]) [Ob.gh [], Ob.box [mkI .i64 j, AV.d (D.v (.map Option.none)), AV.d (D.v (.map Option.none))], Ob.box [mkS n, AV.d (.sl (atsD l)), mkS t, AV.d (.sl (ksD k))], Ob.box [mkI .i64 j, mkS ⟨#[]⟩, mkS ⟨#[]⟩, mkS ⟨#[]⟩, mkS ⟨#[]⟩, mkS ⟨#[]⟩, mkS (valueM l_3 x_1), mkS ⟨#[]⟩, mkI .u32 (numOf (valueM l_2 x)), mkI .i64 0, mkB false, AV.nl], Ob.gone, Ob.gone, Ob.box [mkI .i64 j, mkS ⟨#[]⟩, mkS ⟨#[]⟩, mkS ⟨#[]⟩, mkS ⟨#[]⟩, mkS ⟨#[]⟩, mkS (valueM l_3 x_1), mkS ⟨#[]⟩, mkI .u32 (numOf (valueM l_2 x)), mkI .i64 0, mkB false, AV.nl]]))))
theorem rSmZ (j : Int) (n : BA) (l : List At) (t : BA) (k : List El) (q : AV → List Ob → Prop) :
 (aCode KS (GSm EFZ) Tryz.b23 (kRetF KS Tryz.f23.results.toList q) ⟨[.ag [mkI .i64 j, nilM, nilM], .ag [mkS n, .d (.sl (atsD l)), mkS t, .d (.sl (ksD k))]] ++ List.replicate (Tryz.f23.ntmps - 2) .jk, obsZ⟩) = (
 ∃ (n_1 : ByteArray),
 ∃ (l_1 : List At),
 ∃ (t_1 : ByteArray),
 ∃ (k_1 : List El),
 ([AV.ag [AV.d (D.v (.map Option.none)), AV.d (D.v (.map Option.none))], AV.ag [mkS n, AV.d (.sl (atsD l)), mkS t, AV.d (.sl (ksD k))]] = [AV.ag [AV.d (D.v (.map Option.none)), AV.d (D.v (.map Option.none))], AV.ag [mkS n_1, AV.d (.sl (atsD l_1)), mkS t_1, AV.d (.sl (ksD k_1))]]) ∧
 ([Ob.gh []] = [Ob.gh []]) ∧
 (((List.length l_1) ≤ LIM) ∧ (∀ (a : At), (a ∈ l_1) → ((ByteArray.size (Prod.fst a)) ≤ LIM) ∧ ((ByteArray.size (Prod.snd a)) ≤ LIM))) ∧
 ((Option.some (Ob.gh [])) = (Option.some (Ob.gh []))) ∧
 bcase (!(fitsM [] [] l_1)) (
 q (AV.tp [AV.ag [mkI .i64 0, mkS ⟨#[]⟩, mkS ⟨#[]⟩, mkS ⟨#[]⟩, mkS ⟨#[]⟩, mkS ⟨#[]⟩, mkS ⟨#[]⟩, mkS ⟨#[]⟩, mkI .u32 0, mkI .i64 0, mkB false, AV.nl], mkI .i64 3]) [Ob.gh [], Ob.box [mkI .i64 j, AV.d (D.v (.map Option.none)), AV.d (D.v (.map Option.none))], Ob.box [mkS n, AV.d (.sl (atsD l)), mkS t, AV.d (.sl (ksD k))], Ob.box [mkI .i64 0, mkS ⟨#[]⟩, mkS ⟨#[]⟩, mkS ⟨#[]⟩, mkS ⟨#[]⟩, mkS ⟨#[]⟩, mkS ⟨#[]⟩, mkS ⟨#[]⟩, mkI .u32 0, mkI .i64 0, mkB false, AV.nl], Ob.gone, Ob.gone]) (
 bcase (!(decide (t = ⟨#[]⟩))) (
 q (AV.tp [AV.ag [mkI .i64 0, mkS ⟨#[]⟩, mkS ⟨#[]⟩, mkS ⟨#[]⟩, mkS ⟨#[]⟩, mkS ⟨#[]⟩, mkS ⟨#[]⟩, mkS ⟨#[]⟩, mkI .u32 0, mkI .i64 0, mkB false, AV.nl], mkI .i64 3]) [Ob.gh [], Ob.box [mkI .i64 j, AV.d (D.v (.map Option.none)), AV.d (D.v (.map Option.none))], Ob.box [mkS n, AV.d (.sl (atsD l)), mkS t, AV.d (.sl (ksD k))], Ob.box [mkI .i64 0, mkS ⟨#[]⟩, mkS ⟨#[]⟩, mkS ⟨#[]⟩, mkS ⟨#[]⟩, mkS ⟨#[]⟩, mkS ⟨#[]⟩, mkS ⟨#[]⟩, mkI .u32 0, mkI .i64 0, mkB false, AV.nl], Ob.gone, Ob.gone]) (
 ((List.length (ksD k)) ≤ LIM) →
 bcase (decide (((List.length (ksD k)) : Int) > (0 : Int))) (
 q (AV.tp [AV.ag [mkI .i64 0, mkS ⟨#[]⟩, mkS ⟨#[]⟩, mkS ⟨#[]⟩, mkS ⟨#[]⟩, mkS ⟨#[]⟩, mkS ⟨#[]⟩, mkS ⟨#[]⟩, mkI .u32 0, mkI .i64 0, mkB false, AV.nl], mkI .i64 3]) [Ob.gh [], Ob.box [mkI .i64 j, AV.d (D.v (.map Option.none)), AV.d (D.v (.map Option.none))], Ob.box [mkS n, AV.d (.sl (atsD l)), mkS t, AV.d (.sl (ksD k))], Ob.box [mkI .i64 0, mkS ⟨#[]⟩, mkS ⟨#[]⟩, mkS ⟨#[]⟩, mkS ⟨#[]⟩, mkS ⟨#[]⟩, mkS ⟨#[]⟩, mkS ⟨#[]⟩, mkI .u32 0, mkI .i64 0, mkB false, AV.nl], Ob.gone, Ob.gone]) (
 (∃ (n_2 : ByteArray), ∃ (l_2 : List At), ∃ (t_2 : ByteArray), ∃ (k_2 : List El), ∃ (x : ByteArray), ([AV.ag [mkS n, AV.d (.sl (atsD l)), mkS t, AV.d (.sl (ksD k))], mkS ⟨#[104]⟩] = [AV.ag [mkS n_2, AV.d (.sl (atsD l_2)), mkS t_2, AV.d (.sl (ksD k_2))], mkS x]) ∧ ((((List.length l_2) ≤ LIM) ∧ (∀ (a : At), (a ∈ l_2) → ((ByteArray.size (Prod.fst a)) ≤ LIM) ∧ ((ByteArray.size (Prod.snd a)) ≤ LIM))) ∧ ((rSmZ_e0 j n l t k q l_2 x) ∧ (rSmZ_e0 j n l t k q l_2 x)))) ∧ (
 ∃ (n_2 : ByteArray),
 ∃ (l_2 : List At),
 ∃ (t_2 : ByteArray),
 ∃ (k_2 : List El),
 ∃ (x : ByteArray),
 ([AV.ag [mkS n, AV.d (.sl (atsD l)), mkS t, AV.d (.sl (ksD k))], mkS ⟨#[104]⟩] = [AV.ag [mkS n_2, AV.d (.sl (atsD l_2)), mkS t_2, AV.d (.sl (ksD k_2))], mkS x]) ∧
 (((List.length l_2) ≤ LIM) ∧ (∀ (a : At), (a ∈ l_2) → ((ByteArray.size (Prod.fst a)) ≤ LIM) ∧ ((ByteArray.size (Prod.snd a)) ≤ LIM))) ∧ (
 ∃ (n_3 : ByteArray),
 ∃ (l_3 : List At),
 ∃ (t_3 : ByteArray),
 ∃ (k_3 : List El),
 ∃ (x_1 : ByteArray),
 ([AV.ag [mkS n, AV.d (.sl (atsD l)), mkS t, AV.d (.sl (ksD k))], mkS ⟨#[112, 114, 101, 118, 105, 100]⟩] = [AV.ag [mkS n_3, AV.d (.sl (atsD l_3)), mkS t_3, AV.d (.sl (ksD k_3))], mkS x_1]) ∧
 ((List.length l_3) ≤ LIM) ∧
 bcase (j == (7 : Int)) (
 ∃ (n_4 : ByteArray),
 ∃ (l_4 : List At),
 ∃ (t_4 : ByteArray),
 ∃ (k_4 : List El),
 ∃ (x_2 : ByteArray),
 ([AV.ag [mkS n, AV.d (.sl (atsD l)), mkS t, AV.d (.sl (ksD k))], mkS ⟨#[105, 100]⟩] = [AV.ag [mkS n_4, AV.d (.sl (atsD l_4)), mkS t_4, AV.d (.sl (ksD k_4))], mkS x_2]) ∧
 ((List.length l_4) ≤ LIM) ∧
 q (AV.tp [AV.ag [mkI .i64 j, mkS ⟨#[]⟩, mkS ⟨#[]⟩, mkS ⟨#[]⟩, mkS ⟨#[]⟩, mkS ⟨#[]⟩, mkS (valueM l_4 x_2), mkS ⟨#[]⟩, mkI .u32 (numOf (valueM l_2 x)), mkI .i64 0, mkB false, AV.nl], mkI .i64 0]) [Ob.gh [], Ob.box [mkI .i64 j, AV.d (D.v (.map Option.none)), AV.d (D.v (.map Option.none))], Ob.box [mkS n, AV.d (.sl (atsD l)), mkS t, AV.d (.sl (ksD k))], Ob.box [mkI .i64 j, mkS ⟨#[]⟩, mkS ⟨#[]⟩, mkS ⟨#[]⟩, mkS ⟨#[]⟩, mkS ⟨#[]⟩, mkS (valueM l_4 x_2), mkS ⟨#[]⟩, mkI .u32 (numOf (valueM l_2 x)), mkI .i64 0, mkB false, AV.nl], Ob.gone, Ob.gone, Ob.box [mkI .i64 j, mkS ⟨#[]⟩, mkS ⟨#[]⟩, mkS ⟨#[]⟩, mkS ⟨#[]⟩, mkS ⟨#[]⟩, mkS (valueM l_4 x_2), mkS ⟨#[]⟩, mkI .u32 (numOf (valueM l_2 x)), mkI .i64 0, mkB false, AV.nl]]) (
 q (AV.tp [AV.ag [mkI .i64 j, mkS ⟨#[]⟩, mkS ⟨#[]⟩, mkS ⟨#[]⟩, mkS ⟨#[]⟩, mkS ⟨#[]⟩, mkS (valueM l_3 x_1), mkS ⟨#[]⟩, mkI .u32 (numOf (valueM l_2 x)), mkI .i64 0, mkB false, AV.nl], mkI .i64 0]) [Ob.gh [], Ob.box [mkI .i64 j, AV.d (D.v (.map Option.none)), AV.d (D.v (.map Option.none))], Ob.box [mkS n, AV.d (.sl (atsD l)), mkS t, AV.d (.sl (ksD k))], Ob.box [mkI .i64 j, mkS ⟨#[]⟩, mkS ⟨#[]⟩, mkS ⟨#[]⟩, mkS ⟨#[]⟩, mkS ⟨#[]⟩, mkS (valueM l_3 x_1), mkS ⟨#[]⟩, mkI .u32 (numOf (valueM l_2 x)), mkI .i64 0, mkB false, AV.nl], Ob.gone, Ob.gone, Ob.box [mkI .i64 j, mkS ⟨#[]⟩, mkS ⟨#[]⟩, mkS ⟨#[]⟩, mkS ⟨#[]⟩, mkS ⟨#[]⟩, mkS (valueM l_3 x_1), mkS ⟨#[]⟩, mkI .u32 (numOf (valueM l_2 x)), mkI .i64 0, mkB false, AV.nl]]))))))) := by kernel_rfl
noncomputable abbrev rSmId_e0 (j : Int) (n : BA) (l : List At) (t : BA) (k : List El) (q : AV → List Ob → Prop) (l_2 : List At) (x : ByteArray) : Prop := (∃ (n_3 : ByteArray), ∃ (l_3 : List At), ∃ (t_3 : ByteArray), ∃ (k_3 : List El), ∃ (x_1 : ByteArray), ([AV.ag [mkS n, AV.d (.sl (atsD l)), mkS t, AV.d (.sl (ksD k))], mkS ⟨#[112, 114, 101, 118, 105, 100]⟩] = [AV.ag [mkS n_3, AV.d (.sl (atsD l_3)), mkS t_3, AV.d (.sl (ksD k_3))], mkS x_1]) ∧ (((List.length l_3) ≤ LIM) ∧ (bcase (j == (7 : Int)) (∃ (n_4 : ByteArray), ∃ (l_4 : List At), ∃ (t_4 : ByteArray), ∃ (k_4 : List El), ∃ (x_2 : ByteArray), ([AV.ag [mkS n, AV.d (.sl (atsD l)), mkS t, AV.d (.sl (ksD k))], mkS ⟨#[105, 100]⟩] = [AV.ag [mkS n_4, AV.d (.sl (atsD l_4)), mkS t_4, AV.d (.sl (ksD k_4))], mkS x_2]) ∧ (((List.length l_4) ≤ LIM) ∧ (q (AV.tp [AV.ag [mkI .i64 j, mkS ⟨#[]⟩, mkS ⟨#[]⟩, mkS ⟨#[]⟩, mkS ⟨#[]⟩, mkS ⟨#[]⟩, mkS (valueM l_4 x_2), mkS ⟨#[]⟩, mkI .u32 (numOf (valueM l_2 x)), mkI .i64 0, mkB false, AV.nl], mkI .i64 0]) [Ob.map KK.str [(Key.s kId, AV.fn (Fn.func 40) [] [])], Ob.gh [], Ob.box [mkI .i64 j, AV.jk, AV.d (D.v (.map Option.none))], Ob.box [mkS n, AV.d (.sl (atsD l)), mkS t, AV.d (.sl (ksD k))], Ob.box [mkI .i64 j, mkS ⟨#[]⟩, mkS ⟨#[]⟩, mkS ⟨#[]⟩, mkS ⟨#[]⟩, mkS ⟨#[]⟩, mkS (valueM l_4 x_2), mkS ⟨#[]⟩, mkI .u32 (numOf (valueM l_2 x)), mkI .i64 0, mkB false, AV.nl], Ob.gone, Ob.gone, Ob.box [mkI .i64 j, mkS ⟨#[]⟩, mkS ⟨#[]⟩, mkS ⟨#[]⟩, mkS ⟨#[]⟩, mkS ⟨#[]⟩, mkS (valueM l_4 x_2), mkS ⟨#[]⟩, mkI .u32 (numOf (valueM l_2 x)), mkI .i64 0, mkB false, AV.nl]]))) (q (AV.tp [AV.ag [mkI .i64 j, mkS ⟨#[]⟩, mkS ⟨#[]⟩, mkS ⟨#[]⟩, mkS ⟨#[]⟩, mkS ⟨#[]⟩, mkS (valueM l_3 x_1), mkS ⟨#[]⟩, mkI .u32 (numOf (valueM l_2 x)), mkI .i64 0, mkB false, AV.nl], mkI .i64 0]) [Ob.map KK.str [(Key.s kId, AV.fn (Fn.func 40) [] [])], Ob.gh [], Ob.box [mkI .i64 j, AV.jk, AV.d (D.v (.map Option.none))], Ob.box [mkS n, AV.d (.sl (atsD l)), mkS t, AV.d (.sl (ksD k))], Ob.box [mkI .i64 j, mkS ⟨#[]⟩, mkS ⟨#[]⟩, mkS ⟨#[]⟩, mkS ⟨#[]⟩, mkS ⟨#[]⟩, mkS (valueM l_3 x_1), mkS ⟨#[]⟩, mkI .u32 (numOf (valueM l_2 x)), mkI .i64 0, mkB false, AV.nl], Ob.gone, Ob.gone, Ob.box [mkI .i64 j, mkS ⟨#[]⟩, mkS ⟨#[]⟩, mkS ⟨#[]⟩, mkS ⟨#[]⟩, mkS ⟨#[]⟩, mkS (valueM l_3 x_1), mkS ⟨#[]⟩, mkI .u32 (numOf (valueM l_2 x)), mkI .i64 0, mkB false, AV.nl]]))))
theorem rSmId (j : Int) (n : BA) (l : List At) (t : BA) (k : List El) (q : AV → List Ob → Prop) :
 (aCode KS (GSm EFId) Tryz.b23 (kRetF KS Tryz.f23.results.toList q) ⟨[.ag [mkI .i64 j, .mp 0, nilM], .ag [mkS n, .d (.sl (atsD l)), mkS t, .d (.sl (ksD k))]] ++ List.replicate (Tryz.f23.ntmps - 2) .jk, obsId⟩) = (
 ∃ (n_1 : ByteArray),
 ∃ (l_1 : List At),
 ∃ (t_1 : ByteArray),
 ∃ (k_1 : List El),
 ([AV.ag [AV.mp 0, AV.d (D.v (.map Option.none))], AV.ag [mkS n, AV.d (.sl (atsD l)), mkS t, AV.d (.sl (ksD k))]] = [AV.ag [AV.mp 0, AV.d (D.v (.map Option.none))], AV.ag [mkS n_1, AV.d (.sl (atsD l_1)), mkS t_1, AV.d (.sl (ksD k_1))]]) ∧
 ([Ob.map KK.str [(Key.s kId, AV.fn (Fn.func 40) [] [])], Ob.gh []] = [Ob.map KK.str [(Key.s kId, AV.fn (Fn.func 40) [] [])], Ob.gh []]) ∧
 (((List.length l_1) ≤ LIM) ∧ (∀ (a : At), (a ∈ l_1) → ((ByteArray.size (Prod.fst a)) ≤ LIM) ∧ ((ByteArray.size (Prod.snd a)) ≤ LIM))) ∧
 ((Option.some (Ob.gh [])) = (Option.some (Ob.gh []))) ∧
 bcase (!(fitsM [(kId, wordB)] [] l_1)) (
 q (AV.tp [AV.ag [mkI .i64 0, mkS ⟨#[]⟩, mkS ⟨#[]⟩, mkS ⟨#[]⟩, mkS ⟨#[]⟩, mkS ⟨#[]⟩, mkS ⟨#[]⟩, mkS ⟨#[]⟩, mkI .u32 0, mkI .i64 0, mkB false, AV.nl], mkI .i64 3]) [Ob.map KK.str [(Key.s kId, AV.fn (Fn.func 40) [] [])], Ob.gh [], Ob.box [mkI .i64 j, AV.jk, AV.d (D.v (.map Option.none))], Ob.box [mkS n, AV.d (.sl (atsD l)), mkS t, AV.d (.sl (ksD k))], Ob.box [mkI .i64 0, mkS ⟨#[]⟩, mkS ⟨#[]⟩, mkS ⟨#[]⟩, mkS ⟨#[]⟩, mkS ⟨#[]⟩, mkS ⟨#[]⟩, mkS ⟨#[]⟩, mkI .u32 0, mkI .i64 0, mkB false, AV.nl], Ob.gone, Ob.gone]) (
 bcase (!(decide (t = ⟨#[]⟩))) (
 q (AV.tp [AV.ag [mkI .i64 0, mkS ⟨#[]⟩, mkS ⟨#[]⟩, mkS ⟨#[]⟩, mkS ⟨#[]⟩, mkS ⟨#[]⟩, mkS ⟨#[]⟩, mkS ⟨#[]⟩, mkI .u32 0, mkI .i64 0, mkB false, AV.nl], mkI .i64 3]) [Ob.map KK.str [(Key.s kId, AV.fn (Fn.func 40) [] [])], Ob.gh [], Ob.box [mkI .i64 j, AV.jk, AV.d (D.v (.map Option.none))], Ob.box [mkS n, AV.d (.sl (atsD l)), mkS t, AV.d (.sl (ksD k))], Ob.box [mkI .i64 0, mkS ⟨#[]⟩, mkS ⟨#[]⟩, mkS ⟨#[]⟩, mkS ⟨#[]⟩, mkS ⟨#[]⟩, mkS ⟨#[]⟩, mkS ⟨#[]⟩, mkI .u32 0, mkI .i64 0, mkB false, AV.nl], Ob.gone, Ob.gone]) (
 ((List.length (ksD k)) ≤ LIM) →
 bcase (decide (((List.length (ksD k)) : Int) > (0 : Int))) (
 q (AV.tp [AV.ag [mkI .i64 0, mkS ⟨#[]⟩, mkS ⟨#[]⟩, mkS ⟨#[]⟩, mkS ⟨#[]⟩, mkS ⟨#[]⟩, mkS ⟨#[]⟩, mkS ⟨#[]⟩, mkI .u32 0, mkI .i64 0, mkB false, AV.nl], mkI .i64 3]) [Ob.map KK.str [(Key.s kId, AV.fn (Fn.func 40) [] [])], Ob.gh [], Ob.box [mkI .i64 j, AV.jk, AV.d (D.v (.map Option.none))], Ob.box [mkS n, AV.d (.sl (atsD l)), mkS t, AV.d (.sl (ksD k))], Ob.box [mkI .i64 0, mkS ⟨#[]⟩, mkS ⟨#[]⟩, mkS ⟨#[]⟩, mkS ⟨#[]⟩, mkS ⟨#[]⟩, mkS ⟨#[]⟩, mkS ⟨#[]⟩, mkI .u32 0, mkI .i64 0, mkB false, AV.nl], Ob.gone, Ob.gone]) (
 (∃ (n_2 : ByteArray), ∃ (l_2 : List At), ∃ (t_2 : ByteArray), ∃ (k_2 : List El), ∃ (x : ByteArray), ([AV.ag [mkS n, AV.d (.sl (atsD l)), mkS t, AV.d (.sl (ksD k))], mkS ⟨#[104]⟩] = [AV.ag [mkS n_2, AV.d (.sl (atsD l_2)), mkS t_2, AV.d (.sl (ksD k_2))], mkS x]) ∧ ((((List.length l_2) ≤ LIM) ∧ (∀ (a : At), (a ∈ l_2) → ((ByteArray.size (Prod.fst a)) ≤ LIM) ∧ ((ByteArray.size (Prod.snd a)) ≤ LIM))) ∧ ((rSmId_e0 j n l t k q l_2 x) ∧ (rSmId_e0 j n l t k q l_2 x)))) ∧ (
 ∃ (n_2 : ByteArray),
 ∃ (l_2 : List At),
 ∃ (t_2 : ByteArray),
 ∃ (k_2 : List El),
 ∃ (x : ByteArray),
 ([AV.ag [mkS n, AV.d (.sl (atsD l)), mkS t, AV.d (.sl (ksD k))], mkS ⟨#[104]⟩] = [AV.ag [mkS n_2, AV.d (.sl (atsD l_2)), mkS t_2, AV.d (.sl (ksD k_2))], mkS x]) ∧
 (((List.length l_2) ≤ LIM) ∧ (∀ (a : At), (a ∈ l_2) → ((ByteArray.size (Prod.fst a)) ≤ LIM) ∧ ((ByteArray.size (Prod.snd a)) ≤ LIM))) ∧ (
 ∃ (n_3 : ByteArray),
 ∃ (l_3 : List At),
 ∃ (t_3 : ByteArray),
 ∃ (k_3 : List El),
 ∃ (x_1 : ByteArray),
 ([AV.ag [mkS n, AV.d (.sl (atsD l)), mkS t, AV.d (.sl (ksD k))], mkS ⟨#[112, 114, 101, 118, 105, 100]⟩] = [AV.ag [mkS n_3, AV.d (.sl (atsD l_3)), mkS t_3, AV.d (.sl (ksD k_3))], mkS x_1]) ∧
 ((List.length l_3) ≤ LIM) ∧
 bcase (j == (7 : Int)) (
 ∃ (n_4 : ByteArray),
 ∃ (l_4 : List At),
 ∃ (t_4 : ByteArray),
 ∃ (k_4 : List El),
 ∃ (x_2 : ByteArray),
 ([AV.ag [mkS n, AV.d (.sl (atsD l)), mkS t, AV.d (.sl (ksD k))], mkS ⟨#[105, 100]⟩] = [AV.ag [mkS n_4, AV.d (.sl (atsD l_4)), mkS t_4, AV.d (.sl (ksD k_4))], mkS x_2]) ∧
 ((List.length l_4) ≤ LIM) ∧
 q (AV.tp [AV.ag [mkI .i64 j, mkS ⟨#[]⟩, mkS ⟨#[]⟩, mkS ⟨#[]⟩, mkS ⟨#[]⟩, mkS ⟨#[]⟩, mkS (valueM l_4 x_2), mkS ⟨#[]⟩, mkI .u32 (numOf (valueM l_2 x)), mkI .i64 0, mkB false, AV.nl], mkI .i64 0]) [Ob.map KK.str [(Key.s kId, AV.fn (Fn.func 40) [] [])], Ob.gh [], Ob.box [mkI .i64 j, AV.jk, AV.d (D.v (.map Option.none))], Ob.box [mkS n, AV.d (.sl (atsD l)), mkS t, AV.d (.sl (ksD k))], Ob.box [mkI .i64 j, mkS ⟨#[]⟩, mkS ⟨#[]⟩, mkS ⟨#[]⟩, mkS ⟨#[]⟩, mkS ⟨#[]⟩, mkS (valueM l_4 x_2), mkS ⟨#[]⟩, mkI .u32 (numOf (valueM l_2 x)), mkI .i64 0, mkB false, AV.nl], Ob.gone, Ob.gone, Ob.box [mkI .i64 j, mkS ⟨#[]⟩, mkS ⟨#[]⟩, mkS ⟨#[]⟩, mkS ⟨#[]⟩, mkS ⟨#[]⟩, mkS (valueM l_4 x_2), mkS ⟨#[]⟩, mkI .u32 (numOf (valueM l_2 x)), mkI .i64 0, mkB false, AV.nl]]) (
 q (AV.tp [AV.ag [mkI .i64 j, mkS ⟨#[]⟩, mkS ⟨#[]⟩, mkS ⟨#[]⟩, mkS ⟨#[]⟩, mkS ⟨#[]⟩, mkS (valueM l_3 x_1), mkS ⟨#[]⟩, mkI .u32 (numOf (valueM l_2 x)), mkI .i64 0, mkB false, AV.nl], mkI .i64 0]) [Ob.map KK.str [(Key.s kId, AV.fn (Fn.func 40) [] [])], Ob.gh [], Ob.box [mkI .i64 j, AV.jk, AV.d (D.v (.map Option.none))], Ob.box [mkS n, AV.d (.sl (atsD l)), mkS t, AV.d (.sl (ksD k))], Ob.box [mkI .i64 j, mkS ⟨#[]⟩, mkS ⟨#[]⟩, mkS ⟨#[]⟩, mkS ⟨#[]⟩, mkS ⟨#[]⟩, mkS (valueM l_3 x_1), mkS ⟨#[]⟩, mkI .u32 (numOf (valueM l_2 x)), mkI .i64 0, mkB false, AV.nl], Ob.gone, Ob.gone, Ob.box [mkI .i64 j, mkS ⟨#[]⟩, mkS ⟨#[]⟩, mkS ⟨#[]⟩, mkS ⟨#[]⟩, mkS ⟨#[]⟩, mkS (valueM l_3 x_1), mkS ⟨#[]⟩, mkI .u32 (numOf (valueM l_2 x)), mkI .i64 0, mkB false, AV.nl]]))))))) := by kernel_rfl
noncomputable abbrev rSmH_e0 (j : Int) (n : BA) (l : List At) (t : BA) (k : List El) (q : AV → List Ob → Prop) (l_2 : List At) (x : ByteArray) : Prop := (∃ (n_3 : ByteArray), ∃ (l_3 : List At), ∃ (t_3 : ByteArray), ∃ (k_3 : List El), ∃ (x_1 : ByteArray), ([AV.ag [mkS n, AV.d (.sl (atsD l)), mkS t, AV.d (.sl (ksD k))], mkS ⟨#[112, 114, 101, 118, 105, 100]⟩] = [AV.ag [mkS n_3, AV.d (.sl (atsD l_3)), mkS t_3, AV.d (.sl (ksD k_3))], mkS x_1]) ∧ (((List.length l_3) ≤ LIM) ∧ (bcase (j == (7 : Int)) (∃ (n_4 : ByteArray), ∃ (l_4 : List At), ∃ (t_4 : ByteArray), ∃ (k_4 : List El), ∃ (x_2 : ByteArray), ([AV.ag [mkS n, AV.d (.sl (atsD l)), mkS t, AV.d (.sl (ksD k))], mkS ⟨#[105, 100]⟩] = [AV.ag [mkS n_4, AV.d (.sl (atsD l_4)), mkS t_4, AV.d (.sl (ksD k_4))], mkS x_2]) ∧ (((List.length l_4) ≤ LIM) ∧ (q (AV.tp [AV.ag [mkI .i64 j, mkS ⟨#[]⟩, mkS ⟨#[]⟩, mkS ⟨#[]⟩, mkS ⟨#[]⟩, mkS ⟨#[]⟩, mkS (valueM l_4 x_2), mkS ⟨#[]⟩, mkI .u32 (numOf (valueM l_2 x)), mkI .i64 0, mkB false, AV.nl], mkI .i64 0]) [Ob.map KK.str [(Key.s kH, AV.fn (Fn.func 42) [] [])], Ob.gh [], Ob.box [mkI .i64 j, AV.jk, AV.d (D.v (.map Option.none))], Ob.box [mkS n, AV.d (.sl (atsD l)), mkS t, AV.d (.sl (ksD k))], Ob.box [mkI .i64 j, mkS ⟨#[]⟩, mkS ⟨#[]⟩, mkS ⟨#[]⟩, mkS ⟨#[]⟩, mkS ⟨#[]⟩, mkS (valueM l_4 x_2), mkS ⟨#[]⟩, mkI .u32 (numOf (valueM l_2 x)), mkI .i64 0, mkB false, AV.nl], Ob.gone, Ob.gone, Ob.box [mkI .i64 j, mkS ⟨#[]⟩, mkS ⟨#[]⟩, mkS ⟨#[]⟩, mkS ⟨#[]⟩, mkS ⟨#[]⟩, mkS (valueM l_4 x_2), mkS ⟨#[]⟩, mkI .u32 (numOf (valueM l_2 x)), mkI .i64 0, mkB false, AV.nl]]))) (q (AV.tp [AV.ag [mkI .i64 j, mkS ⟨#[]⟩, mkS ⟨#[]⟩, mkS ⟨#[]⟩, mkS ⟨#[]⟩, mkS ⟨#[]⟩, mkS (valueM l_3 x_1), mkS ⟨#[]⟩, mkI .u32 (numOf (valueM l_2 x)), mkI .i64 0, mkB false, AV.nl], mkI .i64 0]) [Ob.map KK.str [(Key.s kH, AV.fn (Fn.func 42) [] [])], Ob.gh [], Ob.box [mkI .i64 j, AV.jk, AV.d (D.v (.map Option.none))], Ob.box [mkS n, AV.d (.sl (atsD l)), mkS t, AV.d (.sl (ksD k))], Ob.box [mkI .i64 j, mkS ⟨#[]⟩, mkS ⟨#[]⟩, mkS ⟨#[]⟩, mkS ⟨#[]⟩, mkS ⟨#[]⟩, mkS (valueM l_3 x_1), mkS ⟨#[]⟩, mkI .u32 (numOf (valueM l_2 x)), mkI .i64 0, mkB false, AV.nl], Ob.gone, Ob.gone, Ob.box [mkI .i64 j, mkS ⟨#[]⟩, mkS ⟨#[]⟩, mkS ⟨#[]⟩, mkS ⟨#[]⟩, mkS ⟨#[]⟩, mkS (valueM l_3 x_1), mkS ⟨#[]⟩, mkI .u32 (numOf (valueM l_2 x)), mkI .i64 0, mkB false, AV.nl]]))))
theorem rSmH (j : Int) (n : BA) (l : List At) (t : BA) (k : List El) (q : AV → List Ob → Prop) :
 (aCode KS (GSm EFH) Tryz.b23 (kRetF KS Tryz.f23.results.toList q) ⟨[.ag [mkI .i64 j, .mp 0, nilM], .ag [mkS n, .d (.sl (atsD l)), mkS t, .d (.sl (ksD k))]] ++ List.replicate (Tryz.f23.ntmps - 2) .jk, obsH⟩) = (
 ∃ (n_1 : ByteArray),
 ∃ (l_1 : List At),
 ∃ (t_1 : ByteArray),
 ∃ (k_1 : List El),
 ([AV.ag [AV.mp 0, AV.d (D.v (.map Option.none))], AV.ag [mkS n, AV.d (.sl (atsD l)), mkS t, AV.d (.sl (ksD k))]] = [AV.ag [AV.mp 0, AV.d (D.v (.map Option.none))], AV.ag [mkS n_1, AV.d (.sl (atsD l_1)), mkS t_1, AV.d (.sl (ksD k_1))]]) ∧
 ([Ob.map KK.str [(Key.s kH, AV.fn (Fn.func 42) [] [])], Ob.gh []] = [Ob.map KK.str [(Key.s kH, AV.fn (Fn.func 42) [] [])], Ob.gh []]) ∧
 (((List.length l_1) ≤ LIM) ∧ (∀ (a : At), (a ∈ l_1) → ((ByteArray.size (Prod.fst a)) ≤ LIM) ∧ ((ByteArray.size (Prod.snd a)) ≤ LIM))) ∧
 ((Option.some (Ob.gh [])) = (Option.some (Ob.gh []))) ∧
 bcase (!(fitsM [(kH, cntB)] [] l_1)) (
 q (AV.tp [AV.ag [mkI .i64 0, mkS ⟨#[]⟩, mkS ⟨#[]⟩, mkS ⟨#[]⟩, mkS ⟨#[]⟩, mkS ⟨#[]⟩, mkS ⟨#[]⟩, mkS ⟨#[]⟩, mkI .u32 0, mkI .i64 0, mkB false, AV.nl], mkI .i64 3]) [Ob.map KK.str [(Key.s kH, AV.fn (Fn.func 42) [] [])], Ob.gh [], Ob.box [mkI .i64 j, AV.jk, AV.d (D.v (.map Option.none))], Ob.box [mkS n, AV.d (.sl (atsD l)), mkS t, AV.d (.sl (ksD k))], Ob.box [mkI .i64 0, mkS ⟨#[]⟩, mkS ⟨#[]⟩, mkS ⟨#[]⟩, mkS ⟨#[]⟩, mkS ⟨#[]⟩, mkS ⟨#[]⟩, mkS ⟨#[]⟩, mkI .u32 0, mkI .i64 0, mkB false, AV.nl], Ob.gone, Ob.gone]) (
 bcase (!(decide (t = ⟨#[]⟩))) (
 q (AV.tp [AV.ag [mkI .i64 0, mkS ⟨#[]⟩, mkS ⟨#[]⟩, mkS ⟨#[]⟩, mkS ⟨#[]⟩, mkS ⟨#[]⟩, mkS ⟨#[]⟩, mkS ⟨#[]⟩, mkI .u32 0, mkI .i64 0, mkB false, AV.nl], mkI .i64 3]) [Ob.map KK.str [(Key.s kH, AV.fn (Fn.func 42) [] [])], Ob.gh [], Ob.box [mkI .i64 j, AV.jk, AV.d (D.v (.map Option.none))], Ob.box [mkS n, AV.d (.sl (atsD l)), mkS t, AV.d (.sl (ksD k))], Ob.box [mkI .i64 0, mkS ⟨#[]⟩, mkS ⟨#[]⟩, mkS ⟨#[]⟩, mkS ⟨#[]⟩, mkS ⟨#[]⟩, mkS ⟨#[]⟩, mkS ⟨#[]⟩, mkI .u32 0, mkI .i64 0, mkB false, AV.nl], Ob.gone, Ob.gone]) (
 ((List.length (ksD k)) ≤ LIM) →
 bcase (decide (((List.length (ksD k)) : Int) > (0 : Int))) (
 q (AV.tp [AV.ag [mkI .i64 0, mkS ⟨#[]⟩, mkS ⟨#[]⟩, mkS ⟨#[]⟩, mkS ⟨#[]⟩, mkS ⟨#[]⟩, mkS ⟨#[]⟩, mkS ⟨#[]⟩, mkI .u32 0, mkI .i64 0, mkB false, AV.nl], mkI .i64 3]) [Ob.map KK.str [(Key.s kH, AV.fn (Fn.func 42) [] [])], Ob.gh [], Ob.box [mkI .i64 j, AV.jk, AV.d (D.v (.map Option.none))], Ob.box [mkS n, AV.d (.sl (atsD l)), mkS t, AV.d (.sl (ksD k))], Ob.box [mkI .i64 0, mkS ⟨#[]⟩, mkS ⟨#[]⟩, mkS ⟨#[]⟩, mkS ⟨#[]⟩, mkS ⟨#[]⟩, mkS ⟨#[]⟩, mkS ⟨#[]⟩, mkI .u32 0, mkI .i64 0, mkB false, AV.nl], Ob.gone, Ob.gone]) (
 (∃ (n_2 : ByteArray), ∃ (l_2 : List At), ∃ (t_2 : ByteArray), ∃ (k_2 : List El), ∃ (x : ByteArray), ([AV.ag [mkS n, AV.d (.sl (atsD l)), mkS t, AV.d (.sl (ksD k))], mkS ⟨#[104]⟩] = [AV.ag [mkS n_2, AV.d (.sl (atsD l_2)), mkS t_2, AV.d (.sl (ksD k_2))], mkS x]) ∧ ((((List.length l_2) ≤ LIM) ∧ (∀ (a : At), (a ∈ l_2) → ((ByteArray.size (Prod.fst a)) ≤ LIM) ∧ ((ByteArray.size (Prod.snd a)) ≤ LIM))) ∧ ((rSmH_e0 j n l t k q l_2 x) ∧ (rSmH_e0 j n l t k q l_2 x)))) ∧ (
 ∃ (n_2 : ByteArray),
 ∃ (l_2 : List At),
 ∃ (t_2 : ByteArray),
 ∃ (k_2 : List El),
 ∃ (x : ByteArray),
 ([AV.ag [mkS n, AV.d (.sl (atsD l)), mkS t, AV.d (.sl (ksD k))], mkS ⟨#[104]⟩] = [AV.ag [mkS n_2, AV.d (.sl (atsD l_2)), mkS t_2, AV.d (.sl (ksD k_2))], mkS x]) ∧
 (((List.length l_2) ≤ LIM) ∧ (∀ (a : At), (a ∈ l_2) → ((ByteArray.size (Prod.fst a)) ≤ LIM) ∧ ((ByteArray.size (Prod.snd a)) ≤ LIM))) ∧ (
 ∃ (n_3 : ByteArray),
 ∃ (l_3 : List At),
 ∃ (t_3 : ByteArray),
 ∃ (k_3 : List El),
 ∃ (x_1 : ByteArray),
 ([AV.ag [mkS n, AV.d (.sl (atsD l)), mkS t, AV.d (.sl (ksD k))], mkS ⟨#[112, 114, 101, 118, 105, 100]⟩] = [AV.ag [mkS n_3, AV.d (.sl (atsD l_3)), mkS t_3, AV.d (.sl (ksD k_3))], mkS x_1]) ∧
 ((List.length l_3) ≤ LIM) ∧
 bcase (j == (7 : Int)) (
 ∃ (n_4 : ByteArray),
 ∃ (l_4 : List At),
 ∃ (t_4 : ByteArray),
 ∃ (k_4 : List El),
 ∃ (x_2 : ByteArray),
 ([AV.ag [mkS n, AV.d (.sl (atsD l)), mkS t, AV.d (.sl (ksD k))], mkS ⟨#[105, 100]⟩] = [AV.ag [mkS n_4, AV.d (.sl (atsD l_4)), mkS t_4, AV.d (.sl (ksD k_4))], mkS x_2]) ∧
 ((List.length l_4) ≤ LIM) ∧
 q (AV.tp [AV.ag [mkI .i64 j, mkS ⟨#[]⟩, mkS ⟨#[]⟩, mkS ⟨#[]⟩, mkS ⟨#[]⟩, mkS ⟨#[]⟩, mkS (valueM l_4 x_2), mkS ⟨#[]⟩, mkI .u32 (numOf (valueM l_2 x)), mkI .i64 0, mkB false, AV.nl], mkI .i64 0]) [Ob.map KK.str [(Key.s kH, AV.fn (Fn.func 42) [] [])], Ob.gh [], Ob.box [mkI .i64 j, AV.jk, AV.d (D.v (.map Option.none))], Ob.box [mkS n, AV.d (.sl (atsD l)), mkS t, AV.d (.sl (ksD k))], Ob.box [mkI .i64 j, mkS ⟨#[]⟩, mkS ⟨#[]⟩, mkS ⟨#[]⟩, mkS ⟨#[]⟩, mkS ⟨#[]⟩, mkS (valueM l_4 x_2), mkS ⟨#[]⟩, mkI .u32 (numOf (valueM l_2 x)), mkI .i64 0, mkB false, AV.nl], Ob.gone, Ob.gone, Ob.box [mkI .i64 j, mkS ⟨#[]⟩, mkS ⟨#[]⟩, mkS ⟨#[]⟩, mkS ⟨#[]⟩, mkS ⟨#[]⟩, mkS (valueM l_4 x_2), mkS ⟨#[]⟩, mkI .u32 (numOf (valueM l_2 x)), mkI .i64 0, mkB false, AV.nl]]) (
 q (AV.tp [AV.ag [mkI .i64 j, mkS ⟨#[]⟩, mkS ⟨#[]⟩, mkS ⟨#[]⟩, mkS ⟨#[]⟩, mkS ⟨#[]⟩, mkS (valueM l_3 x_1), mkS ⟨#[]⟩, mkI .u32 (numOf (valueM l_2 x)), mkI .i64 0, mkB false, AV.nl], mkI .i64 0]) [Ob.map KK.str [(Key.s kH, AV.fn (Fn.func 42) [] [])], Ob.gh [], Ob.box [mkI .i64 j, AV.jk, AV.d (D.v (.map Option.none))], Ob.box [mkS n, AV.d (.sl (atsD l)), mkS t, AV.d (.sl (ksD k))], Ob.box [mkI .i64 j, mkS ⟨#[]⟩, mkS ⟨#[]⟩, mkS ⟨#[]⟩, mkS ⟨#[]⟩, mkS ⟨#[]⟩, mkS (valueM l_3 x_1), mkS ⟨#[]⟩, mkI .u32 (numOf (valueM l_2 x)), mkI .i64 0, mkB false, AV.nl], Ob.gone, Ob.gone, Ob.box [mkI .i64 j, mkS ⟨#[]⟩, mkS ⟨#[]⟩, mkS ⟨#[]⟩, mkS ⟨#[]⟩, mkS ⟨#[]⟩, mkS (valueM l_3 x_1), mkS ⟨#[]⟩, mkI .u32 (numOf (valueM l_2 x)), mkI .i64 0, mkB false, AV.nl]]))))))) := by kernel_rfl
noncomputable abbrev rSmBoth_e0 (j : Int) (n : BA) (l : List At) (t : BA) (k : List El) (q : AV → List Ob → Prop) (l_2 : List At) (x : ByteArray) : Prop := (∃ (n_3 : ByteArray), ∃ (l_3 : List At), ∃ (t_3 : ByteArray), ∃ (k_3 : List El), ∃ (x_1 : ByteArray), ([AV.ag [mkS n, AV.d (.sl (atsD l)), mkS t, AV.d (.sl (ksD k))], mkS ⟨#[112, 114, 101, 118, 105, 100]⟩] = [AV.ag [mkS n_3, AV.d (.sl (atsD l_3)), mkS t_3, AV.d (.sl (ksD k_3))], mkS x_1]) ∧ (((List.length l_3) ≤ LIM) ∧ (bcase (j == (7 : Int)) (∃ (n_4 : ByteArray), ∃ (l_4 : List At), ∃ (t_4 : ByteArray), ∃ (k_4 : List El), ∃ (x_2 : ByteArray), ([AV.ag [mkS n, AV.d (.sl (atsD l)), mkS t, AV.d (.sl (ksD k))], mkS ⟨#[105, 100]⟩] = [AV.ag [mkS n_4, AV.d (.sl (atsD l_4)), mkS t_4, AV.d (.sl (ksD k_4))], mkS x_2]) ∧ (((List.length l_4) ≤ LIM) ∧ (q (AV.tp [AV.ag [mkI .i64 j, mkS ⟨#[]⟩, mkS ⟨#[]⟩, mkS ⟨#[]⟩, mkS ⟨#[]⟩, mkS ⟨#[]⟩, mkS (valueM l_4 x_2), mkS ⟨#[]⟩, mkI .u32 (numOf (valueM l_2 x)), mkI .i64 0, mkB false, AV.nl], mkI .i64 0]) [Ob.map KK.str [(Key.s kH, AV.fn (Fn.func 42) [] []), (Key.s kPrev, AV.fn (Fn.func 40) [] [])], Ob.gh [], Ob.box [mkI .i64 j, AV.jk, AV.d (D.v (.map Option.none))], Ob.box [mkS n, AV.d (.sl (atsD l)), mkS t, AV.d (.sl (ksD k))], Ob.box [mkI .i64 j, mkS ⟨#[]⟩, mkS ⟨#[]⟩, mkS ⟨#[]⟩, mkS ⟨#[]⟩, mkS ⟨#[]⟩, mkS (valueM l_4 x_2), mkS ⟨#[]⟩, mkI .u32 (numOf (valueM l_2 x)), mkI .i64 0, mkB false, AV.nl], Ob.gone, Ob.gone, Ob.box [mkI .i64 j, mkS ⟨#[]⟩, mkS ⟨#[]⟩, mkS ⟨#[]⟩, mkS ⟨#[]⟩, mkS ⟨#[]⟩, mkS (valueM l_4 x_2), mkS ⟨#[]⟩, mkI .u32 (numOf (valueM l_2 x)), mkI .i64 0, mkB false, AV.nl]]))) (q (AV.tp [AV.ag [mkI .i64 j, mkS ⟨#[]⟩, mkS ⟨#[]⟩, mkS ⟨#[]⟩, mkS ⟨#[]⟩, mkS ⟨#[]⟩, mkS (valueM l_3 x_1), mkS ⟨#[]⟩, mkI .u32 (numOf (valueM l_2 x)), mkI .i64 0, mkB false, AV.nl], mkI .i64 0]) [Ob.map KK.str [(Key.s kH, AV.fn (Fn.func 42) [] []), (Key.s kPrev, AV.fn (Fn.func 40) [] [])], Ob.gh [], Ob.box [mkI .i64 j, AV.jk, AV.d (D.v (.map Option.none))], Ob.box [mkS n, AV.d (.sl (atsD l)), mkS t, AV.d (.sl (ksD k))], Ob.box [mkI .i64 j, mkS ⟨#[]⟩, mkS ⟨#[]⟩, mkS ⟨#[]⟩, mkS ⟨#[]⟩, mkS ⟨#[]⟩, mkS (valueM l_3 x_1), mkS ⟨#[]⟩, mkI .u32 (numOf (valueM l_2 x)), mkI .i64 0, mkB false, AV.nl], Ob.gone, Ob.gone, Ob.box [mkI .i64 j, mkS ⟨#[]⟩, mkS ⟨#[]⟩, mkS ⟨#[]⟩, mkS ⟨#[]⟩, mkS ⟨#[]⟩, mkS (valueM l_3 x_1), mkS ⟨#[]⟩, mkI .u32 (numOf (valueM l_2 x)), mkI .i64 0, mkB false, AV.nl]]))))
theorem rSmBoth (j : Int) (n : BA) (l : List At) (t : BA) (k : List El) (q : AV → List Ob → Prop) :
 (aCode KS (GSm EFBoth) Tryz.b23 (kRetF KS Tryz.f23.results.toList q) ⟨[.ag [mkI .i64 j, .mp 0, nilM], .ag [mkS n, .d (.sl (atsD l)), mkS t, .d (.sl (ksD k))]] ++ List.replicate (Tryz.f23.ntmps - 2) .jk, obsBoth⟩) = (
 ∃ (n_1 : ByteArray),
 ∃ (l_1 : List At),
 ∃ (t_1 : ByteArray),
 ∃ (k_1 : List El),
 ([AV.ag [AV.mp 0, AV.d (D.v (.map Option.none))], AV.ag [mkS n, AV.d (.sl (atsD l)), mkS t, AV.d (.sl (ksD k))]] = [AV.ag [AV.mp 0, AV.d (D.v (.map Option.none))], AV.ag [mkS n_1, AV.d (.sl (atsD l_1)), mkS t_1, AV.d (.sl (ksD k_1))]]) ∧
 ([Ob.map KK.str [(Key.s kH, AV.fn (Fn.func 42) [] []), (Key.s kPrev, AV.fn (Fn.func 40) [] [])], Ob.gh []] = [Ob.map KK.str [(Key.s kH, AV.fn (Fn.func 42) [] []), (Key.s kPrev, AV.fn (Fn.func 40) [] [])], Ob.gh []]) ∧
 (((List.length l_1) ≤ LIM) ∧ (∀ (a : At), (a ∈ l_1) → ((ByteArray.size (Prod.fst a)) ≤ LIM) ∧ ((ByteArray.size (Prod.snd a)) ≤ LIM))) ∧
 ((Option.some (Ob.gh [])) = (Option.some (Ob.gh []))) ∧
 bcase (!(fitsM [(kH, cntB), (kPrev, wordB)] [] l_1)) (
 q (AV.tp [AV.ag [mkI .i64 0, mkS ⟨#[]⟩, mkS ⟨#[]⟩, mkS ⟨#[]⟩, mkS ⟨#[]⟩, mkS ⟨#[]⟩, mkS ⟨#[]⟩, mkS ⟨#[]⟩, mkI .u32 0, mkI .i64 0, mkB false, AV.nl], mkI .i64 3]) [Ob.map KK.str [(Key.s kH, AV.fn (Fn.func 42) [] []), (Key.s kPrev, AV.fn (Fn.func 40) [] [])], Ob.gh [], Ob.box [mkI .i64 j, AV.jk, AV.d (D.v (.map Option.none))], Ob.box [mkS n, AV.d (.sl (atsD l)), mkS t, AV.d (.sl (ksD k))], Ob.box [mkI .i64 0, mkS ⟨#[]⟩, mkS ⟨#[]⟩, mkS ⟨#[]⟩, mkS ⟨#[]⟩, mkS ⟨#[]⟩, mkS ⟨#[]⟩, mkS ⟨#[]⟩, mkI .u32 0, mkI .i64 0, mkB false, AV.nl], Ob.gone, Ob.gone]) (
 bcase (!(decide (t = ⟨#[]⟩))) (
 q (AV.tp [AV.ag [mkI .i64 0, mkS ⟨#[]⟩, mkS ⟨#[]⟩, mkS ⟨#[]⟩, mkS ⟨#[]⟩, mkS ⟨#[]⟩, mkS ⟨#[]⟩, mkS ⟨#[]⟩, mkI .u32 0, mkI .i64 0, mkB false, AV.nl], mkI .i64 3]) [Ob.map KK.str [(Key.s kH, AV.fn (Fn.func 42) [] []), (Key.s kPrev, AV.fn (Fn.func 40) [] [])], Ob.gh [], Ob.box [mkI .i64 j, AV.jk, AV.d (D.v (.map Option.none))], Ob.box [mkS n, AV.d (.sl (atsD l)), mkS t, AV.d (.sl (ksD k))], Ob.box [mkI .i64 0, mkS ⟨#[]⟩, mkS ⟨#[]⟩, mkS ⟨#[]⟩, mkS ⟨#[]⟩, mkS ⟨#[]⟩, mkS ⟨#[]⟩, mkS ⟨#[]⟩, mkI .u32 0, mkI .i64 0, mkB false, AV.nl], Ob.gone, Ob.gone]) (
 ((List.length (ksD k)) ≤ LIM) →
 bcase (decide (((List.length (ksD k)) : Int) > (0 : Int))) (
 q (AV.tp [AV.ag [mkI .i64 0, mkS ⟨#[]⟩, mkS ⟨#[]⟩, mkS ⟨#[]⟩, mkS ⟨#[]⟩, mkS ⟨#[]⟩, mkS ⟨#[]⟩, mkS ⟨#[]⟩, mkI .u32 0, mkI .i64 0, mkB false, AV.nl], mkI .i64 3]) [Ob.map KK.str [(Key.s kH, AV.fn (Fn.func 42) [] []), (Key.s kPrev, AV.fn (Fn.func 40) [] [])], Ob.gh [], Ob.box [mkI .i64 j, AV.jk, AV.d (D.v (.map Option.none))], Ob.box [mkS n, AV.d (.sl (atsD l)), mkS t, AV.d (.sl (ksD k))], Ob.box [mkI .i64 0, mkS ⟨#[]⟩, mkS ⟨#[]⟩, mkS ⟨#[]⟩, mkS ⟨#[]⟩, mkS ⟨#[]⟩, mkS ⟨#[]⟩, mkS ⟨#[]⟩, mkI .u32 0, mkI .i64 0, mkB false, AV.nl], Ob.gone, Ob.gone]) (
 (∃ (n_2 : ByteArray), ∃ (l_2 : List At), ∃ (t_2 : ByteArray), ∃ (k_2 : List El), ∃ (x : ByteArray), ([AV.ag [mkS n, AV.d (.sl (atsD l)), mkS t, AV.d (.sl (ksD k))], mkS ⟨#[104]⟩] = [AV.ag [mkS n_2, AV.d (.sl (atsD l_2)), mkS t_2, AV.d (.sl (ksD k_2))], mkS x]) ∧ ((((List.length l_2) ≤ LIM) ∧ (∀ (a : At), (a ∈ l_2) → ((ByteArray.size (Prod.fst a)) ≤ LIM) ∧ ((ByteArray.size (Prod.snd a)) ≤ LIM))) ∧ ((rSmBoth_e0 j n l t k q l_2 x) ∧ (rSmBoth_e0 j n l t k q l_2 x)))) ∧ (
 ∃ (n_2 : ByteArray),
 ∃ (l_2 : List At),
 ∃ (t_2 : ByteArray),
 ∃ (k_2 : List El),
 ∃ (x : ByteArray),
 ([AV.ag [mkS n, AV.d (.sl (atsD l)), mkS t, AV.d (.sl (ksD k))], mkS ⟨#[104]⟩] = [AV.ag [mkS n_2, AV.d (.sl (atsD l_2)), mkS t_2, AV.d (.sl (ksD k_2))], mkS x]) ∧
 (((List.length l_2) ≤ LIM) ∧ (∀ (a : At), (a ∈ l_2) → ((ByteArray.size (Prod.fst a)) ≤ LIM) ∧ ((ByteArray.size (Prod.snd a)) ≤ LIM))) ∧ (
 ∃ (n_3 : ByteArray),
 ∃ (l_3 : List At),
 ∃ (t_3 : ByteArray),
 ∃ (k_3 : List El),
 ∃ (x_1 : ByteArray),
 ([AV.ag [mkS n, AV.d (.sl (atsD l)), mkS t, AV.d (.sl (ksD k))], mkS ⟨#[112, 114, 101, 118, 105, 100]⟩] = [AV.ag [mkS n_3, AV.d (.sl (atsD l_3)), mkS t_3, AV.d (.sl (ksD k_3))], mkS x_1]) ∧
 ((List.length l_3) ≤ LIM) ∧
 bcase (j == (7 : Int)) (
 ∃ (n_4 : ByteArray),
 ∃ (l_4 : List At),
 ∃ (t_4 : ByteArray),
 ∃ (k_4 : List El),
 ∃ (x_2 : ByteArray),
 ([AV.ag [mkS n, AV.d (.sl (atsD l)), mkS t, AV.d (.sl (ksD k))], mkS ⟨#[105, 100]⟩] = [AV.ag [mkS n_4, AV.d (.sl (atsD l_4)), mkS t_4, AV.d (.sl (ksD k_4))], mkS x_2]) ∧
 ((List.length l_4) ≤ LIM) ∧
 q (AV.tp [AV.ag [mkI .i64 j, mkS ⟨#[]⟩, mkS ⟨#[]⟩, mkS ⟨#[]⟩, mkS ⟨#[]⟩, mkS ⟨#[]⟩, mkS (valueM l_4 x_2), mkS ⟨#[]⟩, mkI .u32 (numOf (valueM l_2 x)), mkI .i64 0, mkB false, AV.nl], mkI .i64 0]) [Ob.map KK.str [(Key.s kH, AV.fn (Fn.func 42) [] []), (Key.s kPrev, AV.fn (Fn.func 40) [] [])], Ob.gh [], Ob.box [mkI .i64 j, AV.jk, AV.d (D.v (.map Option.none))], Ob.box [mkS n, AV.d (.sl (atsD l)), mkS t, AV.d (.sl (ksD k))], Ob.box [mkI .i64 j, mkS ⟨#[]⟩, mkS ⟨#[]⟩, mkS ⟨#[]⟩, mkS ⟨#[]⟩, mkS ⟨#[]⟩, mkS (valueM l_4 x_2), mkS ⟨#[]⟩, mkI .u32 (numOf (valueM l_2 x)), mkI .i64 0, mkB false, AV.nl], Ob.gone, Ob.gone, Ob.box [mkI .i64 j, mkS ⟨#[]⟩, mkS ⟨#[]⟩, mkS ⟨#[]⟩, mkS ⟨#[]⟩, mkS ⟨#[]⟩, mkS (valueM l_4 x_2), mkS ⟨#[]⟩, mkI .u32 (numOf (valueM l_2 x)), mkI .i64 0, mkB false, AV.nl]]) (
 q (AV.tp [AV.ag [mkI .i64 j, mkS ⟨#[]⟩, mkS ⟨#[]⟩, mkS ⟨#[]⟩, mkS ⟨#[]⟩, mkS ⟨#[]⟩, mkS (valueM l_3 x_1), mkS ⟨#[]⟩, mkI .u32 (numOf (valueM l_2 x)), mkI .i64 0, mkB false, AV.nl], mkI .i64 0]) [Ob.map KK.str [(Key.s kH, AV.fn (Fn.func 42) [] []), (Key.s kPrev, AV.fn (Fn.func 40) [] [])], Ob.gh [], Ob.box [mkI .i64 j, AV.jk, AV.d (D.v (.map Option.none))], Ob.box [mkS n, AV.d (.sl (atsD l)), mkS t, AV.d (.sl (ksD k))], Ob.box [mkI .i64 j, mkS ⟨#[]⟩, mkS ⟨#[]⟩, mkS ⟨#[]⟩, mkS ⟨#[]⟩, mkS ⟨#[]⟩, mkS (valueM l_3 x_1), mkS ⟨#[]⟩, mkI .u32 (numOf (valueM l_2 x)), mkI .i64 0, mkB false, AV.nl], Ob.gone, Ob.gone, Ob.box [mkI .i64 j, mkS ⟨#[]⟩, mkS ⟨#[]⟩, mkS ⟨#[]⟩, mkS ⟨#[]⟩, mkS ⟨#[]⟩, mkS (valueM l_3 x_1), mkS ⟨#[]⟩, mkI .u32 (numOf (valueM l_2 x)), mkI .i64 0, mkB false, AV.nl]]))))))) := by kernel_rfl
def EOneN : List AV → (AV → List Ob → Prop) → Prop := fun al q => ∃ l, al = [mkSS l] ∧ q (.fn (.func 58) [] [.rf 0 0]) [.box [mkSS l]]
noncomputable abbrev GPr : List (FuncId × En) := [(38, .ref (frameX EFPres)), (39, .pure EVal), (35, .new EOneN), (58, .ref (frameX EOne1))]
noncomputable def rPr_k0 (q : AV → Prop) : Kont := kBlk (0 : Nat) (kSeq (aCode KS GPr (cAt [1, 1, 1, 1, 1, 1, 1] Tryz.b20) (kRet KS (Array.toList (Func.results Tryz.f20)) q)) (kRet KS (Array.toList (Func.results Tryz.f20)) q))
noncomputable abbrev rPr_e0 (n : BA) (l : List At) (t : BA) (k : List El) (q : AV → Prop) (l_2 : List At) (l_3 : List At) (x : ByteArray) (l_4 : List At) (x_1 : ByteArray) : Prop := (∃ (n_4 : ByteArray), ∃ (l_5 : List At), ∃ (t_4 : ByteArray), ∃ (k_4 : List El), ∃ (x_2 : ByteArray), ([AV.ag [mkS n, AV.d (.sl (atsD l)), mkS t, AV.d (.sl (ksD k))], mkS ⟨#[116, 111]⟩] = [AV.ag [mkS n_4, AV.d (.sl (atsD l_5)), mkS t_4, AV.d (.sl (ksD k_4))], mkS x_2]) ∧ (((List.length l_5) ≤ LIM) ∧ (((List.length (ksD k)) ≤ LIM) → ALoop (aCode KS GPr (cAt [1, 1, 1, 1, 1, 1, 0, 1, 0, 0] Tryz.b20)) (rPr_k0 q) ⟨[.ag [mkS n, .d (.sl (atsD l)), mkS t, .d (.sl (ksD k))], .rf 0 0, .rf 1 0, mkI .i64 0, .fn (Fn.func 58) [] [.jk], .fn (Fn.func 36) [] [], .rf 5 0, .rf 8 0, .jk, .jk, .jk, .d (.sl [[D.v (.string ⟨#[117, 110, 97, 118, 97, 105, 108, 97, 98, 108, 101]⟩)], [D.v (.string ⟨#[115, 117, 98, 115, 99, 114, 105, 98, 101]⟩)], [D.v (.string ⟨#[115, 117, 98, 115, 99, 114, 105, 98, 101, 100]⟩)], [D.v (.string ⟨#[117, 110, 115, 117, 98, 115, 99, 114, 105, 98, 101]⟩)], [D.v (.string ⟨#[117, 110, 115, 117, 98, 115, 99, 114, 105, 98, 101, 100]⟩)]]), .fn (Fn.func 58) [] [.jk], .jk, .fn (Fn.func 58) [] [.jk], .fn (Fn.func 36) [] [], .fn (Fn.func 36) [] [], .jk, .ag [.d (D.v (.map Option.none)), .jk], .ag [.d (D.v (.map Option.none)), .jk], .ag [mkS n, .d (.sl (atsD l)), mkS t, .d (.sl (ksD k))], mkB (fitsM [] [(kType, typesB), (kFrom, placeB), (kTo, placeB)] l_2), mkB (!(fitsM [] [(kType, typesB), (kFrom, placeB), (kTo, placeB)] l_2)), mkB false, .rf 0 (0 + 2), mkS t, mkB (!(decide (t = ⟨#[]⟩))), mkB (!(decide (t = ⟨#[]⟩))), mkB false, .rf 0 (0 + 3), .d (.sl (ksD k)), mkI .i64 ((List.length (ksD k)) : Int), mkB (decide (((List.length (ksD k)) : Int) > (1 : Int))), mkB false, .jk, .ag [mkS n, .d (.sl (atsD l)), mkS t, .d (.sl (ksD k))], mkS (valueM l_3 x), .ag [mkS n, .d (.sl (atsD l)), mkS t, .d (.sl (ksD k))], mkS (valueM l_4 x_1), .ag [mkS n, .d (.sl (atsD l)), mkS t, .d (.sl (ksD k))], mkS (valueM l_5 x_2), .ag [mkI .i64 1, mkS (valueM l_3 x), mkS ⟨#[]⟩, mkS (valueM l_4 x_1), mkS (valueM l_5 x_2), mkS ⟨#[]⟩, mkS ⟨#[]⟩, mkS ⟨#[]⟩, mkI .u32 0, mkI .i64 0, mkB false, .nl], .rf 0 (0 + 3), .d (.sl (ksD k)), mkI .i64 ((List.length (ksD k)) : Int), mkI .i64 0] ++ (jks 38), [.box [mkS n, .d (.sl (atsD l)), mkS t, .d (.sl (ksD k))], .box [mkI .i64 0, mkS ⟨#[]⟩, mkS ⟨#[]⟩, mkS ⟨#[]⟩, mkS ⟨#[]⟩, mkS ⟨#[]⟩, mkS ⟨#[]⟩, mkS ⟨#[]⟩, mkI .u32 0, mkI .i64 0, mkB false, .nl], .gone, .box [.d (.sl (strsD [sUnav, sSubscribe, sSubscribed, sUnsub, sUnsubd]))], .map KK.str [(Key.s kType, .fn (Fn.func 58) [] [.rf (if 1 < 2 then 3 else 7 + (1 - 2)) 0]), (Key.s kFrom, .fn (Fn.func 36) [] []), (Key.s kTo, .fn (Fn.func 36) [] [])], .box [.d (D.v (.map Option.none)), .jk], .gone, .gone, .box [mkI .i64 1, mkS (valueM l_3 x), mkS ⟨#[]⟩, mkS (valueM l_4 x_1), mkS (valueM l_5 x_2), mkS ⟨#[]⟩, mkS ⟨#[]⟩, mkS ⟨#[]⟩, mkI .u32 0, mkI .i64 0, mkB false, .nl]]⟩)))
theorem rPr (n : BA) (l : List At) (t : BA) (k : List El) (q : AV → Prop) :
 (aCode KS GPr Tryz.b20 (kRet KS Tryz.f20.results.toList q) ⟨[.ag [mkS n, .d (.sl (atsD l)), mkS t, .d (.sl (ksD k))]] ++ List.replicate (Tryz.f20.ntmps - 1) .jk, []⟩) = (
 ∃ (l_1 : List ByteArray),
 ([AV.d (.sl [[D.v (.string ⟨#[117, 110, 97, 118, 97, 105, 108, 97, 98, 108, 101]⟩)], [D.v (.string ⟨#[115, 117, 98, 115, 99, 114, 105, 98, 101]⟩)], [D.v (.string ⟨#[115, 117, 98, 115, 99, 114, 105, 98, 101, 100]⟩)], [D.v (.string ⟨#[117, 110, 115, 117, 98, 115, 99, 114, 105, 98, 101]⟩)], [D.v (.string ⟨#[117, 110, 115, 117, 98, 115, 99, 114, 105, 98, 101, 100]⟩)]])] = [mkSS l_1]) ∧ (
 ∃ (n_1 : ByteArray),
 ∃ (l_2 : List At),
 ∃ (t_1 : ByteArray),
 ∃ (k_1 : List El),
 ([AV.ag [AV.d (D.v (.map Option.none)), AV.mp 0], AV.ag [mkS n, AV.d (.sl (atsD l)), mkS t, AV.d (.sl (ksD k))]] = [AV.ag [AV.d (D.v (.map Option.none)), AV.mp 0], AV.ag [mkS n_1, AV.d (.sl (atsD l_2)), mkS t_1, AV.d (.sl (ksD k_1))]]) ∧
 ([Ob.map KK.str [(Key.s (⟨#[116, 121, 112, 101]⟩ : ByteArray), AV.fn (Fn.func 58) [] [AV.rf (0 + 1) 0]), (Key.s (⟨#[102, 114, 111, 109]⟩ : ByteArray), AV.fn (Fn.func 36) [] []), (Key.s (⟨#[116, 111]⟩ : ByteArray), AV.fn (Fn.func 36) [] [])], Ob.box [AV.d (.sl (strsD l_1))], Ob.gh []] = [Ob.map KK.str [(Key.s kType, AV.fn (Fn.func 58) [] [AV.rf 1 0]), (Key.s kFrom, AV.fn (Fn.func 36) [] []), (Key.s kTo, AV.fn (Fn.func 36) [] [])], Ob.box [mkSS [sUnav, sSubscribe, sSubscribed, sUnsub, sUnsubd]], Ob.gh []]) ∧
 (((List.length l_2) ≤ LIM) ∧ (∀ (a : At), (a ∈ l_2) → ((ByteArray.size (Prod.fst a)) ≤ LIM) ∧ ((ByteArray.size (Prod.snd a)) ≤ LIM))) ∧
 ((Option.some (Ob.gh [])) = (Option.some (Ob.gh []))) ∧
 bcase (!(fitsM [] [(kType, typesB), (kFrom, placeB), (kTo, placeB)] l_2)) (
 q (AV.tp [AV.ag [mkI .i64 0, mkS ⟨#[]⟩, mkS ⟨#[]⟩, mkS ⟨#[]⟩, mkS ⟨#[]⟩, mkS ⟨#[]⟩, mkS ⟨#[]⟩, mkS ⟨#[]⟩, mkI .u32 0, mkI .i64 0, mkB false, AV.d (.sl [])], mkI .i64 3])) (
 bcase (!(decide (t = ⟨#[]⟩))) (
 q (AV.tp [AV.ag [mkI .i64 0, mkS ⟨#[]⟩, mkS ⟨#[]⟩, mkS ⟨#[]⟩, mkS ⟨#[]⟩, mkS ⟨#[]⟩, mkS ⟨#[]⟩, mkS ⟨#[]⟩, mkI .u32 0, mkI .i64 0, mkB false, AV.d (.sl [])], mkI .i64 3])) (
 ((List.length (ksD k)) ≤ LIM) →
 bcase (decide (((List.length (ksD k)) : Int) > (1 : Int))) (
 q (AV.tp [AV.ag [mkI .i64 0, mkS ⟨#[]⟩, mkS ⟨#[]⟩, mkS ⟨#[]⟩, mkS ⟨#[]⟩, mkS ⟨#[]⟩, mkS ⟨#[]⟩, mkS ⟨#[]⟩, mkI .u32 0, mkI .i64 0, mkB false, AV.d (.sl [])], mkI .i64 3])) (
 (∃ (n_2 : ByteArray), ∃ (l_3 : List At), ∃ (t_2 : ByteArray), ∃ (k_2 : List El), ∃ (x : ByteArray), ([AV.ag [mkS n, AV.d (.sl (atsD l)), mkS t, AV.d (.sl (ksD k))], mkS ⟨#[116, 121, 112, 101]⟩] = [AV.ag [mkS n_2, AV.d (.sl (atsD l_3)), mkS t_2, AV.d (.sl (ksD k_2))], mkS x]) ∧ (((List.length l_3) ≤ LIM) ∧ ((∃ (n_3 : ByteArray), ∃ (l_4 : List At), ∃ (t_3 : ByteArray), ∃ (k_3 : List El), ∃ (x_1 : ByteArray), ([AV.ag [mkS n, AV.d (.sl (atsD l)), mkS t, AV.d (.sl (ksD k))], mkS ⟨#[102, 114, 111, 109]⟩] = [AV.ag [mkS n_3, AV.d (.sl (atsD l_4)), mkS t_3, AV.d (.sl (ksD k_3))], mkS x_1]) ∧ (((List.length l_4) ≤ LIM) ∧ ((rPr_e0 n l t k q l_2 l_3 x l_4 x_1) ∧ (rPr_e0 n l t k q l_2 l_3 x l_4 x_1)))) ∧ (∃ (n_3 : ByteArray), ∃ (l_4 : List At), ∃ (t_3 : ByteArray), ∃ (k_3 : List El), ∃ (x_1 : ByteArray), ([AV.ag [mkS n, AV.d (.sl (atsD l)), mkS t, AV.d (.sl (ksD k))], mkS ⟨#[102, 114, 111, 109]⟩] = [AV.ag [mkS n_3, AV.d (.sl (atsD l_4)), mkS t_3, AV.d (.sl (ksD k_3))], mkS x_1]) ∧ (((List.length l_4) ≤ LIM) ∧ (rPr_e0 n l t k q l_2 l_3 x l_4 x_1)))))) ∧ (
 ∃ (n_2 : ByteArray),
 ∃ (l_3 : List At),
 ∃ (t_2 : ByteArray),
 ∃ (k_2 : List El),
 ∃ (x : ByteArray),
 ([AV.ag [mkS n, AV.d (.sl (atsD l)), mkS t, AV.d (.sl (ksD k))], mkS ⟨#[116, 121, 112, 101]⟩] = [AV.ag [mkS n_2, AV.d (.sl (atsD l_3)), mkS t_2, AV.d (.sl (ksD k_2))], mkS x]) ∧
 ((List.length l_3) ≤ LIM) ∧ (
 ∃ (n_3 : ByteArray),
 ∃ (l_4 : List At),
 ∃ (t_3 : ByteArray),
 ∃ (k_3 : List El),
 ∃ (x_1 : ByteArray),
 ([AV.ag [mkS n, AV.d (.sl (atsD l)), mkS t, AV.d (.sl (ksD k))], mkS ⟨#[102, 114, 111, 109]⟩] = [AV.ag [mkS n_3, AV.d (.sl (atsD l_4)), mkS t_3, AV.d (.sl (ksD k_3))], mkS x_1]) ∧
 ((List.length l_4) ≤ LIM) ∧ (
 ∃ (n_4 : ByteArray),
 ∃ (l_5 : List At),
 ∃ (t_4 : ByteArray),
 ∃ (k_4 : List El),
 ∃ (x_2 : ByteArray),
 ([AV.ag [mkS n, AV.d (.sl (atsD l)), mkS t, AV.d (.sl (ksD k))], mkS ⟨#[116, 111]⟩] = [AV.ag [mkS n_4, AV.d (.sl (atsD l_5)), mkS t_4, AV.d (.sl (ksD k_4))], mkS x_2]) ∧
 ((List.length l_5) ≤ LIM) ∧ (
 ((List.length (ksD k)) ≤ LIM) →
 ALoop (aCode KS GPr (cAt [1, 1, 1, 1, 1, 1, 0, 1, 0, 0] Tryz.b20)) (rPr_k0 q) ⟨[.ag [mkS n, .d (.sl (atsD l)), mkS t, .d (.sl (ksD k))], .rf 0 0, .rf 1 0, mkI .i64 0, .fn (Fn.func 58) [] [.jk], .fn (Fn.func 36) [] [], .rf 5 0, .rf 8 0, .jk, .jk, .jk, .d (.sl [[D.v (.string ⟨#[117, 110, 97, 118, 97, 105, 108, 97, 98, 108, 101]⟩)], [D.v (.string ⟨#[115, 117, 98, 115, 99, 114, 105, 98, 101]⟩)], [D.v (.string ⟨#[115, 117, 98, 115, 99, 114, 105, 98, 101, 100]⟩)], [D.v (.string ⟨#[117, 110, 115, 117, 98, 115, 99, 114, 105, 98, 101]⟩)], [D.v (.string ⟨#[117, 110, 115, 117, 98, 115, 99, 114, 105, 98, 101, 100]⟩)]]), .fn (Fn.func 58) [] [.jk], .jk, .fn (Fn.func 58) [] [.jk], .fn (Fn.func 36) [] [], .fn (Fn.func 36) [] [], .jk, .ag [.d (D.v (.map Option.none)), .jk], .ag [.d (D.v (.map Option.none)), .jk], .ag [mkS n, .d (.sl (atsD l)), mkS t, .d (.sl (ksD k))], mkB (fitsM [] [(kType, typesB), (kFrom, placeB), (kTo, placeB)] l_2), mkB (!(fitsM [] [(kType, typesB), (kFrom, placeB), (kTo, placeB)] l_2)), mkB false, .rf 0 (0 + 2), mkS t, mkB (!(decide (t = ⟨#[]⟩))), mkB (!(decide (t = ⟨#[]⟩))), mkB false, .rf 0 (0 + 3), .d (.sl (ksD k)), mkI .i64 ((List.length (ksD k)) : Int), mkB (decide (((List.length (ksD k)) : Int) > (1 : Int))), mkB false, .jk, .ag [mkS n, .d (.sl (atsD l)), mkS t, .d (.sl (ksD k))], mkS (valueM l_3 x), .ag [mkS n, .d (.sl (atsD l)), mkS t, .d (.sl (ksD k))], mkS (valueM l_4 x_1), .ag [mkS n, .d (.sl (atsD l)), mkS t, .d (.sl (ksD k))], mkS (valueM l_5 x_2), .ag [mkI .i64 1, mkS (valueM l_3 x), mkS ⟨#[]⟩, mkS (valueM l_4 x_1), mkS (valueM l_5 x_2), mkS ⟨#[]⟩, mkS ⟨#[]⟩, mkS ⟨#[]⟩, mkI .u32 0, mkI .i64 0, mkB false, .nl], .rf 0 (0 + 3), .d (.sl (ksD k)), mkI .i64 ((List.length (ksD k)) : Int), mkI .i64 0] ++ (jks 38), [.box [mkS n, .d (.sl (atsD l)), mkS t, .d (.sl (ksD k))], .box [mkI .i64 0, mkS ⟨#[]⟩, mkS ⟨#[]⟩, mkS ⟨#[]⟩, mkS ⟨#[]⟩, mkS ⟨#[]⟩, mkS ⟨#[]⟩, mkS ⟨#[]⟩, mkI .u32 0, mkI .i64 0, mkB false, .nl], .gone, .box [.d (.sl (strsD [sUnav, sSubscribe, sSubscribed, sUnsub, sUnsubd]))], .map KK.str [(Key.s kType, .fn (Fn.func 58) [] [.rf (if 1 < 2 then 3 else 7 + (1 - 2)) 0]), (Key.s kFrom, .fn (Fn.func 36) [] []), (Key.s kTo, .fn (Fn.func 36) [] [])], .box [.d (D.v (.map Option.none)), .jk], .gone, .gone, .box [mkI .i64 1, mkS (valueM l_3 x), mkS ⟨#[]⟩, mkS (valueM l_4 x_1), mkS (valueM l_5 x_2), mkS ⟨#[]⟩, mkS ⟨#[]⟩, mkS ⟨#[]⟩, mkI .u32 0, mkI .i64 0, mkB false, .nl]]⟩))))))))) := by kernel_rfl
def szB (k : Int) (ty i f t sh tk re : BA) (h v : Int) (r : Bool) : List AV := [mkI .i64 k, mkS ty, mkS i, mkS f, mkS t, mkS sh, mkS tk, mkS re, mkI .u32 h, mkI .i64 v, mkB r, .nl]
def szZ : List AV := szB 0 ⟨#[]⟩ ⟨#[]⟩ ⟨#[]⟩ ⟨#[]⟩ ⟨#[]⟩ ⟨#[]⟩ ⟨#[]⟩ 0 0 false
def stPr (n : BA) (l : List At) (t : BA) (k : List El) (sh : BA) (i : Int) : S := ⟨[.ag [mkS n, .d (.sl (atsD l)), mkS t, .d (.sl (ksD k))], .rf 0 0, .rf 1 0, mkI .i64 0, .jk, .jk, .jk, .rf 8 0] ++ jks 35 ++ [.d (.sl (ksD k)), mkI .i64 (ksD k).length, mkI .i64 i] ++ jks 38,
  [.box [mkS n, .d (.sl (atsD l)), mkS t, .d (.sl (ksD k))], .box szZ, .gone, .gone, .gone, .gone, .gone, .gone, .box (szB 1 (valueM l kType) ⟨#[]⟩ (valueM l kFrom) (valueM l kTo) sh ⟨#[]⟩ ⟨#[]⟩ 0 0 false)]⟩
theorem rPr_b {ι : Type} (st : ι → S) (inv : ι → Prop) (μ : ι → Nat) (kk : ι) (n : BA) (l : List At) (t : BA) (k : List El) (sh : BA) (i : Int) (q : AV → Prop) :
 (aCode KS GPr (cAt [1, 1, 1, 1, 1, 1, 0, 1, 0, 0] Tryz.b20) (kFamM [] (maskOf (stPr n l t k sh i)) st inv μ kk (rPr_k0 q)) (stPr n l t k sh i)) = (
 bcase (decide (i < ((List.length (ksD k)) : Int))) (
 (((0 : Int) ≤ i) ∧ (i < ((List.length (ksD k)) : Int))) ∧
 ((List.length (List.getD (ksD k) (Int.toNat i) [])) = 4) ∧
 (4 ≤ (List.length (List.getD (ksD k) (Int.toNat i) []))) ∧
 (((List.getD (List.getD (ksD k) (Int.toNat i) []) 0 d0) = (D.v (.string (strD (List.getD (List.getD (ksD k) (Int.toNat i) []) 0 d0))))) ∧ (((List.getD (List.drop 1 (List.getD (ksD k) (Int.toNat i) [])) 0 d0) = (D.sl (slD (List.getD (List.drop 1 (List.getD (ksD k) (Int.toNat i) [])) 0 d0)))) ∧ (((List.getD (List.drop 1 (List.drop 1 (List.getD (ksD k) (Int.toNat i) []))) 0 d0) = (D.v (.string (strD (List.getD (List.drop 1 (List.drop 1 (List.getD (ksD k) (Int.toNat i) []))) 0 d0))))) ∧ (((List.getD (List.drop 1 (List.drop 1 (List.drop 1 (List.getD (ksD k) (Int.toNat i) [])))) 0 d0) = (D.sl (slD (List.getD (List.drop 1 (List.drop 1 (List.drop 1 (List.getD (ksD k) (Int.toNat i) [])))) 0 d0)))) ∧ True)))) ∧
 (Nat.le (ByteArray.size (strD (List.getD (List.drop 1 (List.drop 1 (List.getD (ksD k) (Int.toNat i) []))) 0 d0))) LIM) ∧
 ((mkS (strD (List.getD (List.drop 1 (List.drop 1 (List.getD (ksD k) (Int.toNat i) []))) 0 d0))) = (mkS (strD (List.getD (List.drop 1 (List.drop 1 (List.getD (ksD k) (Int.toNat i) []))) 0 d0)))) ∧ (
 ∃ (l_1 : List ByteArray),
 ([AV.d (.sl [[D.v (.string ⟨#[97, 119, 97, 121]⟩)], [D.v (.string ⟨#[99, 104, 97, 116]⟩)], [D.v (.string ⟨#[100, 110, 100]⟩)], [D.v (.string ⟨#[120, 97]⟩)]])] = [mkSS l_1]) ∧ (
 ∃ (l_2 : List ByteArray),
 ∃ (x : ByteArray),
 ([mkS (strD (List.getD (List.drop 1 (List.drop 1 (List.getD (ksD k) (Int.toNat i) []))) 0 d0)), AV.rf 0 0] = [mkS x, AV.rf 0 0]) ∧
 ([Ob.box [AV.d (.sl (strsD l_1))], Ob.gh [AV.rf 0 0]] = [Ob.box [mkSS l_2], Ob.gh [AV.rf 0 0]]) ∧
 ((ByteArray.size x) ≤ LIM) ∧
 ((Option.some (Ob.gh [AV.rf 0 0])) = (Option.some (Ob.gh [AV.rf 0 0]))) ∧
 ((mkS (strD (List.getD (List.drop 1 (List.drop 1 (List.getD (ksD k) (Int.toNat i) []))) 0 d0))) = (mkS (strD (List.getD (List.drop 1 (List.drop 1 (List.getD (ksD k) (Int.toNat i) []))) 0 d0)))) ∧
 bcase (!(decide ((valueM l kType) = ⟨#[]⟩))) (
 q (AV.tp [AV.ag [mkI .i64 0, mkS ⟨#[]⟩, mkS ⟨#[]⟩, mkS ⟨#[]⟩, mkS ⟨#[]⟩, mkS ⟨#[]⟩, mkS ⟨#[]⟩, mkS ⟨#[]⟩, mkI .u32 0, mkI .i64 0, mkB false, AV.d (.sl [])], mkI .i64 3])) (
 bcase (!(decide ((strD (List.getD (List.getD (ksD k) (Int.toNat i) []) 0 d0)) = ⟨#[115, 104, 111, 119]⟩))) (
 q (AV.tp [AV.ag [mkI .i64 0, mkS ⟨#[]⟩, mkS ⟨#[]⟩, mkS ⟨#[]⟩, mkS ⟨#[]⟩, mkS ⟨#[]⟩, mkS ⟨#[]⟩, mkS ⟨#[]⟩, mkI .u32 0, mkI .i64 0, mkB false, AV.d (.sl [])], mkI .i64 3])) (
 bcase (!(oneB l_2 x)) (
 q (AV.tp [AV.ag [mkI .i64 0, mkS ⟨#[]⟩, mkS ⟨#[]⟩, mkS ⟨#[]⟩, mkS ⟨#[]⟩, mkS ⟨#[]⟩, mkS ⟨#[]⟩, mkS ⟨#[]⟩, mkI .u32 0, mkI .i64 0, mkB false, AV.d (.sl [])], mkI .i64 3])) (
 ((List.length (slD (List.getD (List.drop 1 (List.getD (ksD k) (Int.toNat i) [])) 0 d0))) ≤ LIM) →
 bcase (decide (((List.length (slD (List.getD (List.drop 1 (List.getD (ksD k) (Int.toNat i) [])) 0 d0))) : Int) > (0 : Int))) (
 q (AV.tp [AV.ag [mkI .i64 0, mkS ⟨#[]⟩, mkS ⟨#[]⟩, mkS ⟨#[]⟩, mkS ⟨#[]⟩, mkS ⟨#[]⟩, mkS ⟨#[]⟩, mkS ⟨#[]⟩, mkI .u32 0, mkI .i64 0, mkB false, AV.d (.sl [])], mkI .i64 3])) (
 ((List.length (slD (List.getD (List.drop 1 (List.drop 1 (List.drop 1 (List.getD (ksD k) (Int.toNat i) [])))) 0 d0))) ≤ LIM) →
 bcase (decide (((List.length (slD (List.getD (List.drop 1 (List.drop 1 (List.drop 1 (List.getD (ksD k) (Int.toNat i) [])))) 0 d0))) : Int) > (0 : Int))) (
 q (AV.tp [AV.ag [mkI .i64 0, mkS ⟨#[]⟩, mkS ⟨#[]⟩, mkS ⟨#[]⟩, mkS ⟨#[]⟩, mkS ⟨#[]⟩, mkS ⟨#[]⟩, mkS ⟨#[]⟩, mkI .u32 0, mkI .i64 0, mkB false, AV.d (.sl [])], mkI .i64 3])) (
 FamNext st inv μ kk ⟨[.ag [mkS n, .d (.sl (atsD l)), mkS t, .d (.sl (ksD k))], .rf 0 0, .rf 1 0, mkI .i64 0, .jk, .jk, .jk, .rf 8 0] ++ (jks 35 ++ ([.d (.sl (ksD k)), mkI .i64 ((List.length (ksD k)) : Int), mkI .i64 (IntKind.wrap .i64 (i + (1 : Int)))] ++ (jks 38))), [.box [mkS n, .d (.sl (atsD l)), mkS t, .d (.sl (ksD k))], .box [mkI .i64 0, mkS ⟨#[]⟩, mkS ⟨#[]⟩, mkS ⟨#[]⟩, mkS ⟨#[]⟩, mkS ⟨#[]⟩, mkS ⟨#[]⟩, mkS ⟨#[]⟩, mkI .u32 0, mkI .i64 0, mkB false, .nl], .gone, .gone, .gone, .gone, .gone, .gone, .box [mkI .i64 1, mkS (valueM l kType), mkS ⟨#[]⟩, mkS (valueM l kFrom), mkS (valueM l kTo), mkS (strD (List.getD (List.drop 1 (List.drop 1 (List.getD (ksD k) (Int.toNat i) []))) 0 d0)), mkS ⟨#[]⟩, mkS ⟨#[]⟩, mkI .u32 0, mkI .i64 0, mkB false, .nl], .box [mkS (strD (List.getD (List.getD (ksD k) (Int.toNat i) []) 0 d0)), .d (.sl (slD (List.getD (List.drop 1 (List.getD (ksD k) (Int.toNat i) [])) 0 d0))), mkS (strD (List.getD (List.drop 1 (List.drop 1 (List.getD (ksD k) (Int.toNat i) []))) 0 d0)), .d (.sl (slD (List.getD (List.drop 1 (List.drop 1 (List.drop 1 (List.getD (ksD k) (Int.toNat i) [])))) 0 d0)))], .gone, .box [.d (.sl (strsD l_1))], .gone, .gone]⟩)))))))) (
 q (AV.tp [AV.ag [mkI .i64 1, mkS (valueM l kType), mkS ⟨#[]⟩, mkS (valueM l kFrom), mkS (valueM l kTo), mkS sh, mkS ⟨#[]⟩, mkS ⟨#[]⟩, mkI .u32 0, mkI .i64 0, mkB false, AV.d (.sl [])], mkI .i64 0]))) := by kernel_rfl
def ESubs : List AV → (AV → List Ob → Prop) → Prop := fun al q => al = [] ∧ q (.mp 0) [.map .str [(Key.s kTo, mkI .i64 1), (Key.s kFrom, mkI .i64 2), (Key.s sBoth, mkI .i64 3)]]
theorem rSubs (q : AV → List Ob → Prop) :
 (aCode KS [] Tryz.b83 (kRetF KS Tryz.f83.results.toList q) ⟨List.replicate (Tryz.f83.ntmps) .jk, []⟩) = (
 q (AV.mp 0) [Ob.map KK.str [(Key.s (⟨#[116, 111]⟩ : ByteArray), mkI .i64 1), (Key.s (⟨#[102, 114, 111, 109]⟩ : ByteArray), mkI .i64 2), (Key.s (⟨#[98, 111, 116, 104]⟩ : ByteArray), mkI .i64 3)]]) := by kernel_rfl
def EFItem : REnt := fun al o q => EFItemS al o q ∨ EFItemG al o q
noncomputable abbrev GIt : List (FuncId × En) := [(38, .ref (frameX EFItem)), (39, .pure EVal), (35, .new EOneN), (83, .new ESubs)]
noncomputable abbrev rIt_e0 (n : BA) (l : List At) (t : BA) (k : List El) (q : AV → Prop) : Prop := (bcase (!(decide (t = ⟨#[]⟩))) (q (AV.tp [AV.ag [mkS ⟨#[]⟩, mkS ⟨#[]⟩, mkI .i64 0, mkB false], mkB false, mkB false])) (((List.length (ksD k)) ≤ LIM) → bcase (decide (((List.length (ksD k)) : Int) > (0 : Int))) (q (AV.tp [AV.ag [mkS ⟨#[]⟩, mkS ⟨#[]⟩, mkI .i64 0, mkB false], mkB false, mkB false])) (∃ (n_2 : ByteArray), ∃ (l_5 : List At), ∃ (t_2 : ByteArray), ∃ (k_2 : List El), ∃ (x : ByteArray), ([AV.ag [mkS n, AV.d (.sl (atsD l)), mkS t, AV.d (.sl (ksD k))], mkS ⟨#[115, 117, 98, 115, 99, 114, 105, 112, 116, 105, 111, 110]⟩] = [AV.ag [mkS n_2, AV.d (.sl (atsD l_5)), mkS t_2, AV.d (.sl (ksD k_2))], mkS x]) ∧ (((List.length l_5) ≤ LIM) ∧ (∃ (n_3 : ByteArray), ∃ (l_6 : List At), ∃ (t_3 : ByteArray), ∃ (k_3 : List El), ∃ (x_1 : ByteArray), ([AV.ag [mkS n, AV.d (.sl (atsD l)), mkS t, AV.d (.sl (ksD k))], mkS ⟨#[106, 105, 100]⟩] = [AV.ag [mkS n_3, AV.d (.sl (atsD l_6)), mkS t_3, AV.d (.sl (ksD k_3))], mkS x_1]) ∧ (((List.length l_6) ≤ LIM) ∧ (∃ (n_4 : ByteArray), ∃ (l_7 : List At), ∃ (t_4 : ByteArray), ∃ (k_4 : List El), ∃ (x_2 : ByteArray), ([AV.ag [mkS n, AV.d (.sl (atsD l)), mkS t, AV.d (.sl (ksD k))], mkS ⟨#[110, 97, 109, 101]⟩] = [AV.ag [mkS n_4, AV.d (.sl (atsD l_7)), mkS t_4, AV.d (.sl (ksD k_4))], mkS x_2]) ∧ (((List.length l_7) ≤ LIM) ∧ ((([] : List AV) = []) ∧ (bcase (decide (kTo = (valueM l_5 x))) (∃ (n_5 : ByteArray), ∃ (l_8 : List At), ∃ (t_5 : ByteArray), ∃ (k_5 : List El), ∃ (x_3 : ByteArray), ([AV.ag [mkS n, AV.d (.sl (atsD l)), mkS t, AV.d (.sl (ksD k))], mkS ⟨#[97, 115, 107]⟩] = [AV.ag [mkS n_5, AV.d (.sl (atsD l_8)), mkS t_5, AV.d (.sl (ksD k_5))], mkS x_3]) ∧ (((List.length l_8) ≤ LIM) ∧ (q (AV.tp [AV.ag [mkS (valueM l_6 x_1), mkS (valueM l_7 x_2), mkI .i64 1, mkB (!(decide ((valueM l_8 x_3) = ⟨#[]⟩)))], mkB (decide ((valueM l_5 x) = ⟨#[114, 101, 109, 111, 118, 101]⟩)), mkB true])))) (bcase (decide (kFrom = (valueM l_5 x))) (∃ (n_5 : ByteArray), ∃ (l_8 : List At), ∃ (t_5 : ByteArray), ∃ (k_5 : List El), ∃ (x_3 : ByteArray), ([AV.ag [mkS n, AV.d (.sl (atsD l)), mkS t, AV.d (.sl (ksD k))], mkS ⟨#[97, 115, 107]⟩] = [AV.ag [mkS n_5, AV.d (.sl (atsD l_8)), mkS t_5, AV.d (.sl (ksD k_5))], mkS x_3]) ∧ (((List.length l_8) ≤ LIM) ∧ (q (AV.tp [AV.ag [mkS (valueM l_6 x_1), mkS (valueM l_7 x_2), mkI .i64 2, mkB (!(decide ((valueM l_8 x_3) = ⟨#[]⟩)))], mkB (decide ((valueM l_5 x) = ⟨#[114, 101, 109, 111, 118, 101]⟩)), mkB true])))) (bcase (decide (sBoth = (valueM l_5 x))) (∃ (n_5 : ByteArray), ∃ (l_8 : List At), ∃ (t_5 : ByteArray), ∃ (k_5 : List El), ∃ (x_3 : ByteArray), ([AV.ag [mkS n, AV.d (.sl (atsD l)), mkS t, AV.d (.sl (ksD k))], mkS ⟨#[97, 115, 107]⟩] = [AV.ag [mkS n_5, AV.d (.sl (atsD l_8)), mkS t_5, AV.d (.sl (ksD k_5))], mkS x_3]) ∧ (((List.length l_8) ≤ LIM) ∧ (q (AV.tp [AV.ag [mkS (valueM l_6 x_1), mkS (valueM l_7 x_2), mkI .i64 3, mkB (!(decide ((valueM l_8 x_3) = ⟨#[]⟩)))], mkB (decide ((valueM l_5 x) = ⟨#[114, 101, 109, 111, 118, 101]⟩)), mkB true])))) (∃ (n_5 : ByteArray), ∃ (l_8 : List At), ∃ (t_5 : ByteArray), ∃ (k_5 : List El), ∃ (x_3 : ByteArray), ([AV.ag [mkS n, AV.d (.sl (atsD l)), mkS t, AV.d (.sl (ksD k))], mkS ⟨#[97, 115, 107]⟩] = [AV.ag [mkS n_5, AV.d (.sl (atsD l_8)), mkS t_5, AV.d (.sl (ksD k_5))], mkS x_3]) ∧ (((List.length l_8) ≤ LIM) ∧ (q (AV.tp [AV.ag [mkS (valueM l_6 x_1), mkS (valueM l_7 x_2), mkI .i64 0, mkB (!(decide ((valueM l_8 x_3) = ⟨#[]⟩)))], mkB (decide ((valueM l_5 x) = ⟨#[114, 101, 109, 111, 118, 101]⟩)), mkB true]))))))))))))))))
noncomputable abbrev rIt_e1 (n : BA) (l : List At) (t : BA) (k : List El) (q : AV → Prop) : Prop := (bcase (!(decide (t = ⟨#[]⟩))) (q (AV.tp [AV.ag [mkS ⟨#[]⟩, mkS ⟨#[]⟩, mkI .i64 0, mkB false], mkB false, mkB false])) (((List.length (ksD k)) ≤ LIM) → bcase (decide (((List.length (ksD k)) : Int) > (0 : Int))) (q (AV.tp [AV.ag [mkS ⟨#[]⟩, mkS ⟨#[]⟩, mkI .i64 0, mkB false], mkB false, mkB false])) (∃ (n_2 : ByteArray), ∃ (l_4 : List At), ∃ (t_2 : ByteArray), ∃ (k_2 : List El), ∃ (x : ByteArray), ([AV.ag [mkS n, AV.d (.sl (atsD l)), mkS t, AV.d (.sl (ksD k))], mkS ⟨#[115, 117, 98, 115, 99, 114, 105, 112, 116, 105, 111, 110]⟩] = [AV.ag [mkS n_2, AV.d (.sl (atsD l_4)), mkS t_2, AV.d (.sl (ksD k_2))], mkS x]) ∧ (((List.length l_4) ≤ LIM) ∧ (∃ (n_3 : ByteArray), ∃ (l_5 : List At), ∃ (t_3 : ByteArray), ∃ (k_3 : List El), ∃ (x_1 : ByteArray), ([AV.ag [mkS n, AV.d (.sl (atsD l)), mkS t, AV.d (.sl (ksD k))], mkS ⟨#[106, 105, 100]⟩] = [AV.ag [mkS n_3, AV.d (.sl (atsD l_5)), mkS t_3, AV.d (.sl (ksD k_3))], mkS x_1]) ∧ (((List.length l_5) ≤ LIM) ∧ (∃ (n_4 : ByteArray), ∃ (l_6 : List At), ∃ (t_4 : ByteArray), ∃ (k_4 : List El), ∃ (x_2 : ByteArray), ([AV.ag [mkS n, AV.d (.sl (atsD l)), mkS t, AV.d (.sl (ksD k))], mkS ⟨#[110, 97, 109, 101]⟩] = [AV.ag [mkS n_4, AV.d (.sl (atsD l_6)), mkS t_4, AV.d (.sl (ksD k_4))], mkS x_2]) ∧ (((List.length l_6) ≤ LIM) ∧ ((([] : List AV) = []) ∧ (bcase (decide (kTo = (valueM l_4 x))) (∃ (n_5 : ByteArray), ∃ (l_7 : List At), ∃ (t_5 : ByteArray), ∃ (k_5 : List El), ∃ (x_3 : ByteArray), ([AV.ag [mkS n, AV.d (.sl (atsD l)), mkS t, AV.d (.sl (ksD k))], mkS ⟨#[97, 115, 107]⟩] = [AV.ag [mkS n_5, AV.d (.sl (atsD l_7)), mkS t_5, AV.d (.sl (ksD k_5))], mkS x_3]) ∧ (((List.length l_7) ≤ LIM) ∧ (q (AV.tp [AV.ag [mkS (valueM l_5 x_1), mkS (valueM l_6 x_2), mkI .i64 1, mkB (!(decide ((valueM l_7 x_3) = ⟨#[]⟩)))], mkB (decide ((valueM l_4 x) = ⟨#[114, 101, 109, 111, 118, 101]⟩)), mkB true])))) (bcase (decide (kFrom = (valueM l_4 x))) (∃ (n_5 : ByteArray), ∃ (l_7 : List At), ∃ (t_5 : ByteArray), ∃ (k_5 : List El), ∃ (x_3 : ByteArray), ([AV.ag [mkS n, AV.d (.sl (atsD l)), mkS t, AV.d (.sl (ksD k))], mkS ⟨#[97, 115, 107]⟩] = [AV.ag [mkS n_5, AV.d (.sl (atsD l_7)), mkS t_5, AV.d (.sl (ksD k_5))], mkS x_3]) ∧ (((List.length l_7) ≤ LIM) ∧ (q (AV.tp [AV.ag [mkS (valueM l_5 x_1), mkS (valueM l_6 x_2), mkI .i64 2, mkB (!(decide ((valueM l_7 x_3) = ⟨#[]⟩)))], mkB (decide ((valueM l_4 x) = ⟨#[114, 101, 109, 111, 118, 101]⟩)), mkB true])))) (bcase (decide (sBoth = (valueM l_4 x))) (∃ (n_5 : ByteArray), ∃ (l_7 : List At), ∃ (t_5 : ByteArray), ∃ (k_5 : List El), ∃ (x_3 : ByteArray), ([AV.ag [mkS n, AV.d (.sl (atsD l)), mkS t, AV.d (.sl (ksD k))], mkS ⟨#[97, 115, 107]⟩] = [AV.ag [mkS n_5, AV.d (.sl (atsD l_7)), mkS t_5, AV.d (.sl (ksD k_5))], mkS x_3]) ∧ (((List.length l_7) ≤ LIM) ∧ (q (AV.tp [AV.ag [mkS (valueM l_5 x_1), mkS (valueM l_6 x_2), mkI .i64 3, mkB (!(decide ((valueM l_7 x_3) = ⟨#[]⟩)))], mkB (decide ((valueM l_4 x) = ⟨#[114, 101, 109, 111, 118, 101]⟩)), mkB true])))) (∃ (n_5 : ByteArray), ∃ (l_7 : List At), ∃ (t_5 : ByteArray), ∃ (k_5 : List El), ∃ (x_3 : ByteArray), ([AV.ag [mkS n, AV.d (.sl (atsD l)), mkS t, AV.d (.sl (ksD k))], mkS ⟨#[97, 115, 107]⟩] = [AV.ag [mkS n_5, AV.d (.sl (atsD l_7)), mkS t_5, AV.d (.sl (ksD k_5))], mkS x_3]) ∧ (((List.length l_7) ≤ LIM) ∧ (q (AV.tp [AV.ag [mkS (valueM l_5 x_1), mkS (valueM l_6 x_2), mkI .i64 0, mkB (!(decide ((valueM l_7 x_3) = ⟨#[]⟩)))], mkB (decide ((valueM l_4 x) = ⟨#[114, 101, 109, 111, 118, 101]⟩)), mkB true]))))))))))))))))
theorem rIt (n : BA) (l : List At) (t : BA) (k : List El) (j : Int) (q : AV → Prop) :
 (aCode KS GIt Tryz.b64 (kRet KS Tryz.f64.results.toList q) ⟨[.ag [mkS n, .d (.sl (atsD l)), mkS t, .d (.sl (ksD k))], mkI .i64 j] ++ List.replicate (Tryz.f64.ntmps - 2) .jk, []⟩) = (
 ∃ (l_1 : List ByteArray),
 ([AV.d (.sl [[D.v (.string ⟨#[116, 111]⟩)], [D.v (.string ⟨#[102, 114, 111, 109]⟩)], [D.v (.string ⟨#[98, 111, 116, 104]⟩)]])] = [mkSS l_1]) ∧
 bcase (j == (3 : Int)) (
 ∃ (l_2 : List ByteArray),
 ([AV.d (.sl [[D.v (.string ⟨#[116, 111]⟩)], [D.v (.string ⟨#[102, 114, 111, 109]⟩)], [D.v (.string ⟨#[98, 111, 116, 104]⟩)], [D.v (.string ⟨#[114, 101, 109, 111, 118, 101]⟩)]])] = [mkSS l_2]) ∧ (
 ∃ (l_3 : List ByteArray),
 ([AV.d (.sl [[D.v (.string ⟨#[115, 117, 98, 115, 99, 114, 105, 98, 101]⟩)]])] = [mkSS l_3]) ∧
 bcase (!(decide (n = ⟨#[105, 116, 101, 109]⟩))) (
 q (AV.tp [AV.ag [mkS ⟨#[]⟩, mkS ⟨#[]⟩, mkI .i64 0, mkB false], mkB false, mkB false])) (
 (∃ (n_1 : ByteArray), ∃ (l_4 : List At), ∃ (t_1 : ByteArray), ∃ (k_1 : List El), ([AV.ag [AV.mp 0, AV.mp (0 + 1)], AV.ag [mkS n, AV.d (.sl (atsD l)), mkS t, AV.d (.sl (ksD k))]] = [AV.ag [AV.mp 0, AV.mp 1], AV.ag [mkS n_1, AV.d (.sl (atsD l_4)), mkS t_1, AV.d (.sl (ksD k_1))]]) ∧ (([Ob.map KK.str [(Key.s (⟨#[106, 105, 100]⟩ : ByteArray), AV.fn (Fn.func 12) [] [])], Ob.map KK.str [(Key.s (⟨#[110, 97, 109, 101]⟩ : ByteArray), AV.fn (Fn.func 40) [] []), (Key.s (⟨#[115, 117, 98, 115, 99, 114, 105, 112, 116, 105, 111, 110]⟩ : ByteArray), AV.fn (Fn.func 58) [] [AV.rf ((0 + 1) + 1) 0]), (Key.s (⟨#[97, 115, 107]⟩ : ByteArray), AV.fn (Fn.func 58) [] [AV.rf (((0 + 1) + 1) + 1) 0])], Ob.box [AV.d (.sl (strsD l_2))], Ob.box [AV.d (.sl (strsD l_3))], Ob.gh []] = [Ob.map KK.str [(Key.s kJid, AV.fn (Fn.func 12) [] [])], Ob.map KK.str [(Key.s kName, AV.fn (Fn.func 40) [] []), (Key.s kSub, AV.fn (Fn.func 58) [] [AV.rf 2 0]), (Key.s kAsk, AV.fn (Fn.func 58) [] [AV.rf 3 0])], Ob.box [mkSS [kTo, kFrom, sBoth, sRemove]], Ob.box [mkSS [sSubscribe]], Ob.gh []]) ∧ ((((List.length l_4) ≤ LIM) ∧ (∀ (a : At), (a ∈ l_4) → ((ByteArray.size (Prod.fst a)) ≤ LIM) ∧ ((ByteArray.size (Prod.snd a)) ≤ LIM))) ∧ (((Option.some (Ob.gh [])) = (Option.some (Ob.gh []))) ∧ (bcase (!(fitsM [(kJid, userB)] [(kName, wordB), (kSub, statesB true), (kAsk, oneB [sSubscribe])] l_4)) (q (AV.tp [AV.ag [mkS ⟨#[]⟩, mkS ⟨#[]⟩, mkI .i64 0, mkB false], mkB false, mkB false])) (rIt_e0 n l t k q)))))) ∨ (∃ (n_1 : ByteArray), ∃ (l_4 : List At), ∃ (t_1 : ByteArray), ∃ (k_1 : List El), ([AV.ag [AV.mp 0, AV.mp (0 + 1)], AV.ag [mkS n, AV.d (.sl (atsD l)), mkS t, AV.d (.sl (ksD k))]] = [AV.ag [AV.mp 0, AV.mp 1], AV.ag [mkS n_1, AV.d (.sl (atsD l_4)), mkS t_1, AV.d (.sl (ksD k_1))]]) ∧ (([Ob.map KK.str [(Key.s (⟨#[106, 105, 100]⟩ : ByteArray), AV.fn (Fn.func 12) [] [])], Ob.map KK.str [(Key.s (⟨#[110, 97, 109, 101]⟩ : ByteArray), AV.fn (Fn.func 40) [] []), (Key.s (⟨#[115, 117, 98, 115, 99, 114, 105, 112, 116, 105, 111, 110]⟩ : ByteArray), AV.fn (Fn.func 58) [] [AV.rf ((0 + 1) + 1) 0]), (Key.s (⟨#[97, 115, 107]⟩ : ByteArray), AV.fn (Fn.func 58) [] [AV.rf (((0 + 1) + 1) + 1) 0])], Ob.box [AV.d (.sl (strsD l_2))], Ob.box [AV.d (.sl (strsD l_3))], Ob.gh []] = [Ob.map KK.str [(Key.s kJid, AV.fn (Fn.func 12) [] [])], Ob.map KK.str [(Key.s kName, AV.fn (Fn.func 40) [] []), (Key.s kSub, AV.fn (Fn.func 58) [] [AV.rf 2 0]), (Key.s kAsk, AV.fn (Fn.func 58) [] [AV.rf 3 0])], Ob.box [mkSS [kTo, kFrom, sBoth]], Ob.box [mkSS [sSubscribe]], Ob.gh []]) ∧ ((((List.length l_4) ≤ LIM) ∧ (∀ (a : At), (a ∈ l_4) → ((ByteArray.size (Prod.fst a)) ≤ LIM) ∧ ((ByteArray.size (Prod.snd a)) ≤ LIM))) ∧ (((Option.some (Ob.gh [])) = (Option.some (Ob.gh []))) ∧ (bcase (!(fitsM [(kJid, userB)] [(kName, wordB), (kSub, statesB false), (kAsk, oneB [sSubscribe])] l_4)) (q (AV.tp [AV.ag [mkS ⟨#[]⟩, mkS ⟨#[]⟩, mkI .i64 0, mkB false], mkB false, mkB false])) (rIt_e0 n l t k q))))))))) (
 ∃ (l_2 : List ByteArray),
 ([AV.d (.sl [[D.v (.string ⟨#[115, 117, 98, 115, 99, 114, 105, 98, 101]⟩)]])] = [mkSS l_2]) ∧
 bcase (!(decide (n = ⟨#[105, 116, 101, 109]⟩))) (
 q (AV.tp [AV.ag [mkS ⟨#[]⟩, mkS ⟨#[]⟩, mkI .i64 0, mkB false], mkB false, mkB false])) (
 (∃ (n_1 : ByteArray), ∃ (l_3 : List At), ∃ (t_1 : ByteArray), ∃ (k_1 : List El), ([AV.ag [AV.mp 0, AV.mp (0 + 1)], AV.ag [mkS n, AV.d (.sl (atsD l)), mkS t, AV.d (.sl (ksD k))]] = [AV.ag [AV.mp 0, AV.mp 1], AV.ag [mkS n_1, AV.d (.sl (atsD l_3)), mkS t_1, AV.d (.sl (ksD k_1))]]) ∧ (([Ob.map KK.str [(Key.s (⟨#[106, 105, 100]⟩ : ByteArray), AV.fn (Fn.func 12) [] [])], Ob.map KK.str [(Key.s (⟨#[110, 97, 109, 101]⟩ : ByteArray), AV.fn (Fn.func 40) [] []), (Key.s (⟨#[115, 117, 98, 115, 99, 114, 105, 112, 116, 105, 111, 110]⟩ : ByteArray), AV.fn (Fn.func 58) [] [AV.rf ((0 + 1) + 1) 0]), (Key.s (⟨#[97, 115, 107]⟩ : ByteArray), AV.fn (Fn.func 58) [] [AV.rf (((0 + 1) + 1) + 1) 0])], Ob.box [AV.d (.sl (strsD l_1))], Ob.box [AV.d (.sl (strsD l_2))], Ob.gh []] = [Ob.map KK.str [(Key.s kJid, AV.fn (Fn.func 12) [] [])], Ob.map KK.str [(Key.s kName, AV.fn (Fn.func 40) [] []), (Key.s kSub, AV.fn (Fn.func 58) [] [AV.rf 2 0]), (Key.s kAsk, AV.fn (Fn.func 58) [] [AV.rf 3 0])], Ob.box [mkSS [kTo, kFrom, sBoth, sRemove]], Ob.box [mkSS [sSubscribe]], Ob.gh []]) ∧ ((((List.length l_3) ≤ LIM) ∧ (∀ (a : At), (a ∈ l_3) → ((ByteArray.size (Prod.fst a)) ≤ LIM) ∧ ((ByteArray.size (Prod.snd a)) ≤ LIM))) ∧ (((Option.some (Ob.gh [])) = (Option.some (Ob.gh []))) ∧ (bcase (!(fitsM [(kJid, userB)] [(kName, wordB), (kSub, statesB true), (kAsk, oneB [sSubscribe])] l_3)) (q (AV.tp [AV.ag [mkS ⟨#[]⟩, mkS ⟨#[]⟩, mkI .i64 0, mkB false], mkB false, mkB false])) (rIt_e1 n l t k q)))))) ∨ (∃ (n_1 : ByteArray), ∃ (l_3 : List At), ∃ (t_1 : ByteArray), ∃ (k_1 : List El), ([AV.ag [AV.mp 0, AV.mp (0 + 1)], AV.ag [mkS n, AV.d (.sl (atsD l)), mkS t, AV.d (.sl (ksD k))]] = [AV.ag [AV.mp 0, AV.mp 1], AV.ag [mkS n_1, AV.d (.sl (atsD l_3)), mkS t_1, AV.d (.sl (ksD k_1))]]) ∧ (([Ob.map KK.str [(Key.s (⟨#[106, 105, 100]⟩ : ByteArray), AV.fn (Fn.func 12) [] [])], Ob.map KK.str [(Key.s (⟨#[110, 97, 109, 101]⟩ : ByteArray), AV.fn (Fn.func 40) [] []), (Key.s (⟨#[115, 117, 98, 115, 99, 114, 105, 112, 116, 105, 111, 110]⟩ : ByteArray), AV.fn (Fn.func 58) [] [AV.rf ((0 + 1) + 1) 0]), (Key.s (⟨#[97, 115, 107]⟩ : ByteArray), AV.fn (Fn.func 58) [] [AV.rf (((0 + 1) + 1) + 1) 0])], Ob.box [AV.d (.sl (strsD l_1))], Ob.box [AV.d (.sl (strsD l_2))], Ob.gh []] = [Ob.map KK.str [(Key.s kJid, AV.fn (Fn.func 12) [] [])], Ob.map KK.str [(Key.s kName, AV.fn (Fn.func 40) [] []), (Key.s kSub, AV.fn (Fn.func 58) [] [AV.rf 2 0]), (Key.s kAsk, AV.fn (Fn.func 58) [] [AV.rf 3 0])], Ob.box [mkSS [kTo, kFrom, sBoth]], Ob.box [mkSS [sSubscribe]], Ob.gh []]) ∧ ((((List.length l_3) ≤ LIM) ∧ (∀ (a : At), (a ∈ l_3) → ((ByteArray.size (Prod.fst a)) ≤ LIM) ∧ ((ByteArray.size (Prod.snd a)) ≤ LIM))) ∧ (((Option.some (Ob.gh [])) = (Option.some (Ob.gh []))) ∧ (bcase (!(fitsM [(kJid, userB)] [(kName, wordB), (kSub, statesB false), (kAsk, oneB [sSubscribe])] l_3)) (q (AV.tp [AV.ag [mkS ⟨#[]⟩, mkS ⟨#[]⟩, mkI .i64 0, mkB false], mkB false, mkB false])) (rIt_e1 n l t k q))))))))) := by kernel_rfl
theorem cOneN : NSound Tryz.prog 35 EOneN := new_fnN id ghost_id mixed KS_ok gsound_nil Tryz.func35 rfl rfl Tryz.call35 fun al q ⟨l, h, hq⟩ => by
  subst h
  exact cast (rOne l q).symm hq
theorem cSubs : NSound Tryz.prog 83 ESubs := new_fnN id ghost_id mixed KS_ok gsound_nil Tryz.func83 rfl rfl Tryz.call83 fun al q ⟨h, hq⟩ => by
  subst h
  exact cast (rSubs q).symm hq
theorem not_t {b : Bool} (h : (!b) = true) : b = false := by cases b <;> simp_all
theorem not_f {b : Bool} (h : (!b) = false) : b = true := by cases b <;> simp_all
def leNL : List AV → List AV → Prop
  | [], [] => True
  | x :: l, y :: r => LeN x y ∧ leNL l r
  | _, _ => False
theorem leNL_spec : ∀ {l r : List AV}, leNL l r → l.length = r.length ∧ ∀ (i : Nat) (h1 : i < l.length) (h2 : i < r.length), LeN l[i] r[i]
  | [], [], _ => ⟨rfl, fun i h => absurd h (by simp)⟩
  | x :: l, y :: r, h => by
    obtain ⟨h1, h2⟩ := leNL_spec h.2
    refine ⟨by simp [h1], fun i g1 g2 => ?_⟩
    cases i with
    | zero => exact h.1
    | succ i => exact h2 i (by simpa using g1) (by simpa using g2)
  | [], _ :: _, h => h.elim
  | _ :: _, [], h => h.elim
theorem leN_agL {l r : List AV} (h : leNL l r) : LeN (.ag l) (.ag r) := .ag (leNL_spec h).1 (leNL_spec h).2
theorem sz_le {a : Int} {b c d e f g h : BA} {i j : Int} {m : Bool} : LeN (.ag [mkI .i64 a, mkS b, mkS c, mkS d, mkS e, mkS f, mkS g, mkS h, mkI .u32 i, mkI .i64 j, mkB m, .nl]) (szV ⟨a, b, c, d, e, f, g, h, i, j, m, []⟩) :=
  leN_agL ⟨.refl _, .refl _, .refl _, .refl _, .refl _, .refl _, .refl _, .refl _, .refl _, .refl _, .refl _, .nil, trivial⟩
theorem szV_fits (s : Sz) (n : Nat) : (szV s).fits n = true := by simp [szV, AV.fits, fitsL, mkI, mkS, mkB]
theorem gsm_ok {E : REnt} (h : RSound Tryz.prog 38 E) : GSound Tryz.prog (GSm E) := gsound_ref (RSound.frameX h) (gsound_pure cHn (gsound_pure cVal gsound_nil))
def ESmZ : REnt := fun al o q => ∃ j n l t k, al = [.ag [mkI .i64 j, nilM, nilM], .ag [mkS n, .d (.sl (atsD l)), mkS t, .d (.sl (ksD k))]] ∧ o = obsZ ∧ (l.length ≤ LIM ∧ atsFit l) ∧ q (.tp [szV (simpleM j [] (.mk n l t k)).1, mkI .i64 (simpleM j [] (.mk n l t k)).2]) obsZ
theorem cSmZ : RSound Tryz.prog 23 ESmZ := by
  refine ref_gen trimN trimN_ok (code_bsound (c := Tryz.b23) mixed KS_ok (gsm_ok cFZ)) KS_ok Tryz.func23 rfl rfl Tryz.call23 fun al o q ⟨j, n, l, t, k, h1, h2, ⟨hll, hfit⟩, hq⟩ => ?_
  subst h1 h2
  have fin : ∀ (s : Sz) (e : Int) (x : AV) (o : List Ob), simpleM j [] (.mk n l t k) = (s, e) → LeN x (szV s) → trimN q (.tp [x, mkI .i64 e]) (obsZ ++ o) := fun s e x o h1 h2 => by
    rw [h1] at hq
    exact ⟨_, obsZ, leN_tp2 h2 (.refl _), by simp [leO, obsZ], by simp [szV_fits, obsZ, Ob.fits, KK.isSy, AV.fits, fitsL, fnV, mkI], hq⟩
  refine cast (rSmZ j n l t k (trimN q)).symm ⟨n, l, t, k, rfl, rfl, ⟨hll, hfit⟩, rfl, bcase_mk (fun h => ?_) (fun h => bcase_mk (fun h2 => ?_) (fun h2 hkl => bcase_dec (fun h3 => ?_) (fun h3 => ?_)))⟩
  · have h : fitsM [] [] l = false := not_t h
    exact fin zS 3 _ _ (by simp [simpleM, El.ats, h]) sz_le
  · have h2 : ¬ t = ⟨#[]⟩ := by simpa using h2
    exact fin zS 3 _ _ (by simp [simpleM, El.t, h2]) sz_le
  · rw [ksD_len] at h3
    have h3 : k.isEmpty = false := by cases k <;> simp at h3 ⊢
    exact fin zS 3 _ _ (by simp [simpleM, El.ks, h3]) sz_le
  · rw [ksD_len] at h3
    have h3 : k.isEmpty = true := by cases k <;> simp at h3 ⊢ <;> omega
    have h : fitsM [] [] l = true := not_f h
    have h2 : t = ⟨#[]⟩ := by simpa using h2
    have s0 : simpleM j [] (.mk n l t k) = ({ kind := j, h := numOf (valueM l kH), tok := if j = 7 then valueM l kId else valueM l kPrev }, 0) := by simp [simpleM, El.ats, El.t, El.ks, h, h2, h3]
    have f7 : (j == 7) = true → ∀ o, trimN q (.tp [.ag [mkI .i64 j, mkS ⟨#[]⟩, mkS ⟨#[]⟩, mkS ⟨#[]⟩, mkS ⟨#[]⟩, mkS ⟨#[]⟩, mkS (valueM l kId), mkS ⟨#[]⟩, mkI .u32 (numOf (valueM l kH)), mkI .i64 0, mkB false, .nl], mkI .i64 0]) (obsZ ++ o) := fun h7 o => by
      rw [if_pos (by simpa using h7)] at s0
      exact fin _ 0 _ o s0 sz_le
    have f8 : (j == 7) = false → ∀ o, trimN q (.tp [.ag [mkI .i64 j, mkS ⟨#[]⟩, mkS ⟨#[]⟩, mkS ⟨#[]⟩, mkS ⟨#[]⟩, mkS ⟨#[]⟩, mkS (valueM l kPrev), mkS ⟨#[]⟩, mkI .u32 (numOf (valueM l kH)), mkI .i64 0, mkB false, .nl], mkI .i64 0]) (obsZ ++ o) := fun h7 o => by
      rw [if_neg (by simpa using h7)] at s0
      exact fin _ 0 _ o s0 sz_le
    repeat' (first | exact f7 (by assumption) _ | exact f8 (by assumption) _ | exact ⟨hll, hfit⟩ | exact hll | rfl | refine bcase_mk (fun _ => ?_) (fun _ => ?_) | refine ⟨n, l, t, k, _, rfl, ?_, ?_⟩ | refine And.intro ?_ ?_)
def ESmId : REnt := fun al o q => ∃ j n l t k, al = [.ag [mkI .i64 j, .mp 0, nilM], .ag [mkS n, .d (.sl (atsD l)), mkS t, .d (.sl (ksD k))]] ∧ o = obsId ∧ (l.length ≤ LIM ∧ atsFit l) ∧ q (.tp [szV (simpleM j shId (.mk n l t k)).1, mkI .i64 (simpleM j shId (.mk n l t k)).2]) obsId
theorem cSmId : RSound Tryz.prog 23 ESmId := by
  refine ref_gen trimN trimN_ok (code_bsound (c := Tryz.b23) mixed KS_ok (gsm_ok cFId)) KS_ok Tryz.func23 rfl rfl Tryz.call23 fun al o q ⟨j, n, l, t, k, h1, h2, ⟨hll, hfit⟩, hq⟩ => ?_
  subst h1 h2
  have fin : ∀ (s : Sz) (e : Int) (x : AV) (o : List Ob), simpleM j shId (.mk n l t k) = (s, e) → LeN x (szV s) → trimN q (.tp [x, mkI .i64 e]) (obsId ++ o) := fun s e x o h1 h2 => by
    rw [h1] at hq
    exact ⟨_, obsId, leN_tp2 h2 (.refl _), by simp [leO, obsId], by simp [szV_fits, obsId, Ob.fits, KK.isSy, AV.fits, fitsL, fnV, mkI], hq⟩
  refine cast (rSmId j n l t k (trimN q)).symm ⟨n, l, t, k, rfl, rfl, ⟨hll, hfit⟩, rfl, bcase_mk (fun h => ?_) (fun h => bcase_mk (fun h2 => ?_) (fun h2 hkl => bcase_dec (fun h3 => ?_) (fun h3 => ?_)))⟩
  · have h : fitsM shId [] l = false := not_t h
    exact fin zS 3 _ _ (by simp [simpleM, El.ats, h]) sz_le
  · have h2 : ¬ t = ⟨#[]⟩ := by simpa using h2
    exact fin zS 3 _ _ (by simp [simpleM, El.t, h2]) sz_le
  · rw [ksD_len] at h3
    have h3 : k.isEmpty = false := by cases k <;> simp at h3 ⊢
    exact fin zS 3 _ _ (by simp [simpleM, El.ks, h3]) sz_le
  · rw [ksD_len] at h3
    have h3 : k.isEmpty = true := by cases k <;> simp at h3 ⊢ <;> omega
    have h : fitsM shId [] l = true := not_f h
    have h2 : t = ⟨#[]⟩ := by simpa using h2
    have s0 : simpleM j shId (.mk n l t k) = ({ kind := j, h := numOf (valueM l kH), tok := if j = 7 then valueM l kId else valueM l kPrev }, 0) := by simp [simpleM, El.ats, El.t, El.ks, h, h2, h3]
    have f7 : (j == 7) = true → ∀ o, trimN q (.tp [.ag [mkI .i64 j, mkS ⟨#[]⟩, mkS ⟨#[]⟩, mkS ⟨#[]⟩, mkS ⟨#[]⟩, mkS ⟨#[]⟩, mkS (valueM l kId), mkS ⟨#[]⟩, mkI .u32 (numOf (valueM l kH)), mkI .i64 0, mkB false, .nl], mkI .i64 0]) (obsId ++ o) := fun h7 o => by
      rw [if_pos (by simpa using h7)] at s0
      exact fin _ 0 _ o s0 sz_le
    have f8 : (j == 7) = false → ∀ o, trimN q (.tp [.ag [mkI .i64 j, mkS ⟨#[]⟩, mkS ⟨#[]⟩, mkS ⟨#[]⟩, mkS ⟨#[]⟩, mkS ⟨#[]⟩, mkS (valueM l kPrev), mkS ⟨#[]⟩, mkI .u32 (numOf (valueM l kH)), mkI .i64 0, mkB false, .nl], mkI .i64 0]) (obsId ++ o) := fun h7 o => by
      rw [if_neg (by simpa using h7)] at s0
      exact fin _ 0 _ o s0 sz_le
    repeat' (first | exact f7 (by assumption) _ | exact f8 (by assumption) _ | exact ⟨hll, hfit⟩ | exact hll | rfl | refine bcase_mk (fun _ => ?_) (fun _ => ?_) | refine ⟨n, l, t, k, _, rfl, ?_, ?_⟩ | refine And.intro ?_ ?_)
def ESmH : REnt := fun al o q => ∃ j n l t k, al = [.ag [mkI .i64 j, .mp 0, nilM], .ag [mkS n, .d (.sl (atsD l)), mkS t, .d (.sl (ksD k))]] ∧ o = obsH ∧ (l.length ≤ LIM ∧ atsFit l) ∧ q (.tp [szV (simpleM j shH (.mk n l t k)).1, mkI .i64 (simpleM j shH (.mk n l t k)).2]) obsH
theorem cSmH : RSound Tryz.prog 23 ESmH := by
  refine ref_gen trimN trimN_ok (code_bsound (c := Tryz.b23) mixed KS_ok (gsm_ok cFH)) KS_ok Tryz.func23 rfl rfl Tryz.call23 fun al o q ⟨j, n, l, t, k, h1, h2, ⟨hll, hfit⟩, hq⟩ => ?_
  subst h1 h2
  have fin : ∀ (s : Sz) (e : Int) (x : AV) (o : List Ob), simpleM j shH (.mk n l t k) = (s, e) → LeN x (szV s) → trimN q (.tp [x, mkI .i64 e]) (obsH ++ o) := fun s e x o h1 h2 => by
    rw [h1] at hq
    exact ⟨_, obsH, leN_tp2 h2 (.refl _), by simp [leO, obsH], by simp [szV_fits, obsH, Ob.fits, KK.isSy, AV.fits, fitsL, fnV, mkI], hq⟩
  refine cast (rSmH j n l t k (trimN q)).symm ⟨n, l, t, k, rfl, rfl, ⟨hll, hfit⟩, rfl, bcase_mk (fun h => ?_) (fun h => bcase_mk (fun h2 => ?_) (fun h2 hkl => bcase_dec (fun h3 => ?_) (fun h3 => ?_)))⟩
  · have h : fitsM shH [] l = false := not_t h
    exact fin zS 3 _ _ (by simp [simpleM, El.ats, h]) sz_le
  · have h2 : ¬ t = ⟨#[]⟩ := by simpa using h2
    exact fin zS 3 _ _ (by simp [simpleM, El.t, h2]) sz_le
  · rw [ksD_len] at h3
    have h3 : k.isEmpty = false := by cases k <;> simp at h3 ⊢
    exact fin zS 3 _ _ (by simp [simpleM, El.ks, h3]) sz_le
  · rw [ksD_len] at h3
    have h3 : k.isEmpty = true := by cases k <;> simp at h3 ⊢ <;> omega
    have h : fitsM shH [] l = true := not_f h
    have h2 : t = ⟨#[]⟩ := by simpa using h2
    have s0 : simpleM j shH (.mk n l t k) = ({ kind := j, h := numOf (valueM l kH), tok := if j = 7 then valueM l kId else valueM l kPrev }, 0) := by simp [simpleM, El.ats, El.t, El.ks, h, h2, h3]
    have f7 : (j == 7) = true → ∀ o, trimN q (.tp [.ag [mkI .i64 j, mkS ⟨#[]⟩, mkS ⟨#[]⟩, mkS ⟨#[]⟩, mkS ⟨#[]⟩, mkS ⟨#[]⟩, mkS (valueM l kId), mkS ⟨#[]⟩, mkI .u32 (numOf (valueM l kH)), mkI .i64 0, mkB false, .nl], mkI .i64 0]) (obsH ++ o) := fun h7 o => by
      rw [if_pos (by simpa using h7)] at s0
      exact fin _ 0 _ o s0 sz_le
    have f8 : (j == 7) = false → ∀ o, trimN q (.tp [.ag [mkI .i64 j, mkS ⟨#[]⟩, mkS ⟨#[]⟩, mkS ⟨#[]⟩, mkS ⟨#[]⟩, mkS ⟨#[]⟩, mkS (valueM l kPrev), mkS ⟨#[]⟩, mkI .u32 (numOf (valueM l kH)), mkI .i64 0, mkB false, .nl], mkI .i64 0]) (obsH ++ o) := fun h7 o => by
      rw [if_neg (by simpa using h7)] at s0
      exact fin _ 0 _ o s0 sz_le
    repeat' (first | exact f7 (by assumption) _ | exact f8 (by assumption) _ | exact ⟨hll, hfit⟩ | exact hll | rfl | refine bcase_mk (fun _ => ?_) (fun _ => ?_) | refine ⟨n, l, t, k, _, rfl, ?_, ?_⟩ | refine And.intro ?_ ?_)
def ESmBoth : REnt := fun al o q => ∃ j n l t k, al = [.ag [mkI .i64 j, .mp 0, nilM], .ag [mkS n, .d (.sl (atsD l)), mkS t, .d (.sl (ksD k))]] ∧ o = obsBoth ∧ (l.length ≤ LIM ∧ atsFit l) ∧ q (.tp [szV (simpleM j shBoth (.mk n l t k)).1, mkI .i64 (simpleM j shBoth (.mk n l t k)).2]) obsBoth
theorem cSmBoth : RSound Tryz.prog 23 ESmBoth := by
  refine ref_gen trimN trimN_ok (code_bsound (c := Tryz.b23) mixed KS_ok (gsm_ok cFBoth)) KS_ok Tryz.func23 rfl rfl Tryz.call23 fun al o q ⟨j, n, l, t, k, h1, h2, ⟨hll, hfit⟩, hq⟩ => ?_
  subst h1 h2
  have fin : ∀ (s : Sz) (e : Int) (x : AV) (o : List Ob), simpleM j shBoth (.mk n l t k) = (s, e) → LeN x (szV s) → trimN q (.tp [x, mkI .i64 e]) (obsBoth ++ o) := fun s e x o h1 h2 => by
    rw [h1] at hq
    exact ⟨_, obsBoth, leN_tp2 h2 (.refl _), by simp [leO, obsBoth], by simp [szV_fits, obsBoth, Ob.fits, KK.isSy, AV.fits, fitsL, fnV, mkI], hq⟩
  refine cast (rSmBoth j n l t k (trimN q)).symm ⟨n, l, t, k, rfl, rfl, ⟨hll, hfit⟩, rfl, bcase_mk (fun h => ?_) (fun h => bcase_mk (fun h2 => ?_) (fun h2 hkl => bcase_dec (fun h3 => ?_) (fun h3 => ?_)))⟩
  · have h : fitsM shBoth [] l = false := not_t h
    exact fin zS 3 _ _ (by simp [simpleM, El.ats, h]) sz_le
  · have h2 : ¬ t = ⟨#[]⟩ := by simpa using h2
    exact fin zS 3 _ _ (by simp [simpleM, El.t, h2]) sz_le
  · rw [ksD_len] at h3
    have h3 : k.isEmpty = false := by cases k <;> simp at h3 ⊢
    exact fin zS 3 _ _ (by simp [simpleM, El.ks, h3]) sz_le
  · rw [ksD_len] at h3
    have h3 : k.isEmpty = true := by cases k <;> simp at h3 ⊢ <;> omega
    have h : fitsM shBoth [] l = true := not_f h
    have h2 : t = ⟨#[]⟩ := by simpa using h2
    have s0 : simpleM j shBoth (.mk n l t k) = ({ kind := j, h := numOf (valueM l kH), tok := if j = 7 then valueM l kId else valueM l kPrev }, 0) := by simp [simpleM, El.ats, El.t, El.ks, h, h2, h3]
    have f7 : (j == 7) = true → ∀ o, trimN q (.tp [.ag [mkI .i64 j, mkS ⟨#[]⟩, mkS ⟨#[]⟩, mkS ⟨#[]⟩, mkS ⟨#[]⟩, mkS ⟨#[]⟩, mkS (valueM l kId), mkS ⟨#[]⟩, mkI .u32 (numOf (valueM l kH)), mkI .i64 0, mkB false, .nl], mkI .i64 0]) (obsBoth ++ o) := fun h7 o => by
      rw [if_pos (by simpa using h7)] at s0
      exact fin _ 0 _ o s0 sz_le
    have f8 : (j == 7) = false → ∀ o, trimN q (.tp [.ag [mkI .i64 j, mkS ⟨#[]⟩, mkS ⟨#[]⟩, mkS ⟨#[]⟩, mkS ⟨#[]⟩, mkS ⟨#[]⟩, mkS (valueM l kPrev), mkS ⟨#[]⟩, mkI .u32 (numOf (valueM l kH)), mkI .i64 0, mkB false, .nl], mkI .i64 0]) (obsBoth ++ o) := fun h7 o => by
      rw [if_neg (by simpa using h7)] at s0
      exact fin _ 0 _ o s0 sz_le
    repeat' (first | exact f7 (by assumption) _ | exact f8 (by assumption) _ | exact ⟨hll, hfit⟩ | exact hll | rfl | refine bcase_mk (fun _ => ?_) (fun _ => ?_) | refine ⟨n, l, t, k, _, rfl, ?_, ?_⟩ | refine And.intro ?_ ?_)
def EPres : List AV → (AV → Prop) → Prop := fun al q => ∃ n l t k, al = [.ag [mkS n, .d (.sl (atsD l)), mkS t, .d (.sl (ksD k))]] ∧ ((l.length ≤ LIM ∧ atsFit l) ∧ ∀ e ∈ k, e.t.size ≤ LIM) ∧ q (.tp [szV (presM (.mk n l t k)).1, mkI .i64 (presM (.mk n l t k)).2])
theorem gpr_ok : GSound Tryz.prog GPr := gsound_ref (RSound.frameX cFPres) (gsound_pure cVal (gsound_new cOneN (gsound_ref (RSound.frameX cOne1) gsound_nil)))
theorem len_pos {α : Type} (l : List α) (h : (l.length : Int) > 0) : l.isEmpty = false := by cases l <;> simp at h ⊢
theorem len_zero {α : Type} (l : List α) (h : ¬ (l.length : Int) > 0) : l.isEmpty = true := by
  cases l with
  | nil => rfl
  | cons a l => exact absurd (by simp only [List.length_cons]; omega) h
def shOf (k : List El) (i : Nat) : BA := if i = 0 then ⟨#[]⟩ else ((k.head?).map El.t).getD ⟨#[]⟩
theorem cPres : PSound Tryz.prog 20 EPres := by
  refine pure_fn (c := Tryz.b20) mixed KS_ok gpr_ok Tryz.func20 rfl rfl Tryz.call20 fun al q ⟨n, l, t, k, h1, ⟨⟨hll, hfit⟩, hkf⟩, hq⟩ => ?_
  subst h1
  have er : presM (.mk n l t k) = (zS, 3) → q (.tp [.ag (szB 0 ⟨#[]⟩ ⟨#[]⟩ ⟨#[]⟩ ⟨#[]⟩ ⟨#[]⟩ ⟨#[]⟩ ⟨#[]⟩ 0 0 false |>.set 11 (.d (.sl []))), mkI .i64 3]) := fun h => by rw [h] at hq; exact hq
  refine cast (rPr n l t k q).symm ⟨[sUnav, sSubscribe, sSubscribed, sUnsub, sUnsubd], rfl, n, l, t, k, rfl, rfl, ⟨hll, hfit⟩, rfl, bcase_mk (fun h => ?_) (fun h => bcase_mk (fun h2 => ?_) (fun h2 hkl => bcase_dec (fun h3 => ?_) (fun h3 => ?_)))⟩
  · have h : fitsM [] shPres l = false := not_t h
    exact er (by simp [presM, El.ats, h])
  · have h2 : ¬ t = ⟨#[]⟩ := by simpa using h2
    exact er (by simp [presM, El.t, h2])
  · rw [ksD_len] at h3
    refine er ?_
    unfold presM
    split
    · match k, h3 with
      | [], h3 => simp at h3
      | [a], h3 => simp at h3
      | a :: b :: r, _ => simp [El.ks]
    · rfl
  · rw [ksD_len] at h3
    have h3 : k.length ≤ 1 := by omega
    have h : fitsM [] shPres l = true := not_f h
    have h2 : t = ⟨#[]⟩ := by simpa using h2
    have lp : ∀ s0 : S, s0.le (stPr n l t k ⟨#[]⟩ 0) → ALoop (aCode KS GPr (cAt [1, 1, 1, 1, 1, 1, 0, 1, 0, 0] Tryz.b20)) (rPr_k0 q) s0 := fun s0 hs0 => by
      refine ALoop.introM [] (maskOf (stPr n l t k ⟨#[]⟩ 0)) (fun i : Nat => stPr n l t k (shOf k i) i) (fun i => i ≤ k.length ∧ (0 < i → ∃ a, k = [a] ∧ (decide (valueM l kType = ⟨#[]⟩) && decide (a.n = sShow) && showsB a.t && a.ats.isEmpty && a.ks.isEmpty) = true)) (fun i => k.length - i) ⟨[], 0, hs0, Nat.zero_le _, fun h => absurd h (by omega)⟩ fun i ⟨hi, hI⟩ => ?_
      refine cast (rPr_b _ _ _ i n l t k (shOf k i) i q).symm (bcase_dec (fun hlt => ?_) (fun hge => ?_))
      · rw [ksD_len] at hlt
        have hlt : i < k.length := by omega
        have hi0 : i = 0 := by omega
        subst hi0
        obtain ⟨a, rfl⟩ : ∃ a, k = [a] := by
          match k, h3, hlt with
          | [a], _, _ => exact ⟨a, rfl⟩
        have hat := hkf a (by simp)
        have bad : (decide (valueM l kType = ⟨#[]⟩) && decide (a.n = sShow) && showsB a.t && a.ats.isEmpty && a.ks.isEmpty) = false → presM (.mk n l t [a]) = (zS, 3) := fun hb => by
          simp only [presM, El.ats_mk, El.t_mk, El.ks_mk, h, h2, decide_true, Bool.and_self, if_true, hb, Bool.false_eq_true, if_false]
        obtain ⟨an, al, at_, ak⟩ := a
        simp only [El.n, El.ats, El.t, El.ks] at bad hat hI
        have hgd := ksD_getD [El.mk an al at_ ak] 0 (by simp)
        simp only [List.getElem_cons_zero, elD] at hgd
        simp only [Int.toNat_natCast, hgd, List.getD_cons_zero, List.drop_succ_cons, List.drop_zero, strD, slD]
        refine ⟨⟨by omega, by simp [ksD]⟩, rfl, Nat.le_refl _, ⟨by trivial, by trivial, by trivial, by trivial, trivial⟩, hat, by trivial, [sAway, sChat, sDnd, sXa], rfl, _, _, rfl, rfl, hat, by trivial, by trivial, bcase_mk (fun g => ?_) (fun g => bcase_mk (fun g2 => ?_) (fun g2 => bcase_mk (fun g3 => ?_) (fun g3 _ => bcase_dec (fun g4 => ?_) (fun g4 _ => bcase_dec (fun g5 => ?_) (fun g5 => ?_)))))⟩
        · have g : ¬ valueM l kType = ⟨#[]⟩ := by simpa using g
          exact er (bad (by simp [g]))
        · have g2 : ¬ an = sShow := by simpa [sShow] using g2
          exact er (bad (by simp [g2]))
        · have g3 : showsB at_ = false := not_t g3
          exact er (bad (by simp [g3]))
        · rw [atsD_len] at g4
          exact er (bad (by rw [len_pos _ g4]; simp))
        · rw [ksD_len] at g5
          exact er (bad (by rw [len_pos _ g5]; simp))
        · rw [atsD_len] at g4
          rw [ksD_len] at g5
          have g : valueM l kType = ⟨#[]⟩ := by simpa using g
          have g2 : an = sShow := by simpa [sShow] using g2
          have g3 : showsB at_ = true := not_f g3
          refine .mk [] 1 ?_ ⟨by simp, fun _ => ⟨_, rfl, by simp [El.n, El.ats, El.t, El.ks, g, g2, g3, len_zero _ g4, len_zero _ g5]⟩⟩ (by simp)
          simp [S.le, sealAll, leL, leA, leO, jks, stPr, szB, szZ, S.fits, fitsL, AV.fits, Ob.fits, KK.isSy, mkSS, mkS, mkI, mkB, El.t, shOf]
          decide
      · rw [ksD_len] at hge
        have e : i = k.length := by omega
        subst e
        match k, h3, hI with
        | [], _, _ =>
          simp only [presM, El.ats_mk, El.t_mk, El.ks_mk, h, h2, decide_true, Bool.and_self, if_true] at hq
          exact hq
        | [a], _, hI =>
          obtain ⟨a', e, hok⟩ := hI (by simp)
          cases e
          simp only [presM, El.ats_mk, El.t_mk, El.ks_mk, h, h2, decide_true, Bool.and_self, if_true, hok] at hq
          exact hq
    have le0 : ∀ s0 : S, s0.le (stPr n l t k ⟨#[]⟩ 0) → s0.le (stPr n l t k ⟨#[]⟩ 0) := fun _ h => h
    repeat' (first | exact lp _ (by simp [S.le, sealAll, leL, leA, leO, jks, stPr, szB, szZ, S.fits, fitsL, AV.fits, Ob.fits, KK.isSy, mkSS, mkS, mkI, mkB, kType, kFrom, kTo]) | exact hll | rfl | (intro _) | refine ⟨n, l, t, k, _, rfl, ?_, ?_⟩ | refine And.intro ?_ ?_)
end Go.Proofs.YtfdmmgiefhhnoaaGreatDoor
