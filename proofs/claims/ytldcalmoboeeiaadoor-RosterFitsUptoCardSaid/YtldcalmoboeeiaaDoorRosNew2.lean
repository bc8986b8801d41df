import Derived.Test.YtldcalmoboeeiaaDoorRosSort
import Derived.Test.YtldcalmoboeeiaaDoorBindUser
import Derived.Test.YtldcalmoboeeiaaDoorAmRow
import Derived.Test.YtldcalmoboeeiaaDoorAmPart
set_option linter.unusedSimpArgs false
set_option linter.unusedVariables false
namespace Go.Proofs.YtldcalmoboeeiaaDoor
open Go Go.AM Go.RowKit
attribute [local irreducible] aCode aUnr aUnS aOut
theorem cClone : RSound Tryd.prog 56 cloneE := by
  refine clone_sound Tryd.call56 fun b off c l w hl hc => ?_
  refine (Tryd.slices_Clone_string b off l.length c l w (Nat.le_refl _) (by omega) (fun j hj => ?_)).mono ?_
  · rw [hc j hj, List.getD_eq_getElem?_getD, List.getElem?_eq_getElem hj]; rfl
  · rintro e w' ⟨v', h1, h2, h3, h4⟩
    rw [List.take_length] at h2
    exact ⟨v', _, h1, h2, h3, h4⟩
def nAnn : BA := ⟨#[97, 110, 110]⟩
def nBob : BA := ⟨#[98, 111, 98]⟩
def nCy : BA := ⟨#[99, 121]⟩
def nDee : BA := ⟨#[100, 101, 101]⟩
def nEve : BA := ⟨#[101, 118, 101]⟩
def nFlo : BA := ⟨#[102, 108, 111]⟩
def nGus : BA := ⟨#[103, 117, 115]⟩
def nHal : BA := ⟨#[104, 97, 108]⟩
def u2 : List BA := [nBob, nAnn]
def t2 : List BA := [nAnn, nBob]
def u5 : List BA := [nAnn, nBob, nCy, nDee, nEve]
def u8 : List BA := [nAnn, nBob, nCy, nDee, nEve, nFlo, nGus, nHal]
noncomputable abbrev GL : List (FuncId × En) := inlΓS Tryd.K [] tabI 3 1
theorem gl_ok : GSound Tryd.prog GL := inlS_sound mixed Tryd.K_ok gsound_nil tabI_ok 1
theorem rLess (a b : BA) (q : AV → Prop) :
  (aUnS Tryd.K GL 1 Tryd.b136 (kRet Tryd.K Tryd.f136.results.toList q) ⟨[mkS a, mkS b] ++ List.replicate (Tryd.f136.ntmps - 2) .jk, []⟩) = (
  bcase (!(decide (a = a))) (
   bcase (!(!(decide (b = b)))) (
    q (mkB true)) (
    q (mkB (Op.bytesLess (ByteArray.toList a) (ByteArray.toList b))))) (
   q (mkB (Op.bytesLess (ByteArray.toList a) (ByteArray.toList b))))) := by kernel_rfl
def FLess : List AV → Option (Prop × AV) := fun al => match al with
  | [.d (.v (.string a)), .d (.v (.string b))] => some (True, mkB (lessB a b))
  | _ => none
theorem cLess : PSound Tryd.prog 136 (detE FLess) := by
  refine det_gen (unS_bsound (c := Tryd.b136) 1 mixed Tryd.K_ok gl_ok) Tryd.K_ok Tryd.func136 rfl rfl Tryd.call136 fun al p r q hF hp hq => ?_
  unfold FLess at hF; split at hF <;> cases hF
  refine cast (rLess _ _ q).symm ?_
  simp only [decide_true, Bool.not_true, bcase]
  exact hq
def FOdd : List AV → Option (Prop × AV) := fun al => match al with
  | [.d (.v (.string s))] => some (True, mkB (!userB s))
  | _ => none
noncomputable abbrev GO : List (FuncId × En) := [(38, .det F19)]
theorem rOdd (s : BA) (q : AV → Prop) :
  (aCode Tryd.K GO Tryd.b71 (kRet Tryd.K Tryd.f71.results.toList q) ⟨[mkS s] ++ List.replicate (Tryd.f71.ntmps - 1) .jk, []⟩) = (
  True ∧
  q (mkB (!(userB s)))) := by kernel_rfl
theorem cOdd : PSound Tryd.prog 71 (detE FOdd) := by
  refine det_fn (c := Tryd.b71) mixed Tryd.K_ok (gsound_det c19 gsound_nil) Tryd.func71 rfl rfl Tryd.call71 fun al p r q hF hp hq => ?_
  unfold FOdd at hF; split at hF <;> cases hF
  exact cast (rOdd _ q).symm ⟨trivial, hq⟩
/-- The parts of New at names that are in order. -/
noncomputable def GB0 : List (FuncId × En) := [(136, .det FLess), (106, .det FLen), (71, .det FOdd)]
noncomputable abbrev GB1 : List (FuncId × En) := inlΓ Tryd.K GB0 tabI 9 3
theorem gb0_ok : GSound Tryd.prog GB0 := gsound_det cLess (gsound_det cLen (gsound_det cOdd gsound_nil))
theorem gb1_ok : GSound Tryd.prog GB1 := inl_sound mixed Tryd.K_ok gb0_ok tabI_ok 3
def isO (l : List BA) : List Ob := [.row 1 (strsD l), .gh [.vw 0 l.length]]
theorem rSo2 (q : AV → List Ob → Prop) :
  (aUnr Tryd.K GB1 9 Tryd.b70 (kRetF Tryd.K Tryd.f70.results.toList q) ⟨[.vw 0 2] ++ List.replicate (Tryd.f70.ntmps - 1) .jk, isO u2⟩) = (
  (((0 : Int) ≤ ((1 + (1 : Nat)) : Int)) ∧ (((1 + (1 : Nat)) : Int) ≤ (18446744073709551615 : Int))) ∧
  (((0 : Int) ≤ ((0 + (1 : Nat)) : Int)) ∧ (((0 + (1 : Nat)) : Int) < ((1 + (1 : Nat)) : Int))) ∧
  ((Int.toNat ((0 + (1 : Nat)) : Int)) < 2) ∧
  ((0 : Nat) ≤ 1) ∧
  ((1 : Nat) ≤ 1) ∧
  ((D.v (.string nAnn)) = (D.v (.string (strD (D.v (.string nAnn)))))) ∧
  (((0 : Int) ≤ (IntKind.wrap .i64 (((0 + (1 : Nat)) : Int) - (1 : Int)))) ∧ ((IntKind.wrap .i64 (((0 + (1 : Nat)) : Int) - (1 : Int))) < ((1 + (1 : Nat)) : Int))) ∧
  ((Int.toNat (IntKind.wrap .i64 (((0 + (1 : Nat)) : Int) - (1 : Int)))) < 2) ∧
  ((0 : Nat) ≤ 1) ∧
  ((1 : Nat) ≤ 1) ∧
  ((D.v (.string nBob)) = (D.v (.string (strD (D.v (.string nBob)))))) ∧
  True ∧
  True ∧
  (((0 : Int) ≤ (IntKind.wrap .i64 (((0 + (1 : Nat)) : Int) - (1 : Int)))) ∧ ((IntKind.wrap .i64 (((0 + (1 : Nat)) : Int) - (1 : Int))) < ((1 + (1 : Nat)) : Int))) ∧
  (((0 : Int) ≤ ((0 + (1 : Nat)) : Int)) ∧ (((0 + (1 : Nat)) : Int) < ((1 + (1 : Nat)) : Int))) ∧
  (((Int.toNat (IntKind.wrap .i64 (((0 + (1 : Nat)) : Int) - (1 : Int)))) < 2) ∧ (((0 : Nat) ≤ 1) ∧ (((1 : Nat) ≤ 1) ∧ (((D.v (.string nBob)) = (D.v (.string (strD (D.v (.string nBob)))))) ∧ (((Int.toNat ((0 + (1 : Nat)) : Int)) < 2) ∧ (((0 : Nat) ≤ 1) ∧ (((1 : Nat) ≤ 1) ∧ (((D.v (.string nAnn)) = (D.v (.string (strD (D.v (.string nAnn)))))) ∧ ((((0 : Int) ≤ ((0 + (1 : Nat)) : Int)) ∧ (((0 + (1 : Nat)) : Int) < ((1 + (1 : Nat)) : Int))) ∧ ((((Int.toNat ((0 + (1 : Nat)) : Int)) < 2) ∧ (((0 : Nat) + 1) ≤ 1)) ∧ ((((0 : Int) ≤ (IntKind.wrap .i64 (((0 + (1 : Nat)) : Int) - (1 : Int)))) ∧ ((IntKind.wrap .i64 (((0 + (1 : Nat)) : Int) - (1 : Int))) < ((1 + (1 : Nat)) : Int))) ∧ ((((Int.toNat (IntKind.wrap .i64 (((0 + (1 : Nat)) : Int) - (1 : Int)))) < 2) ∧ (((0 : Nat) + 1) ≤ 1)) ∧ (q (AV.tp []) [Ob.row 1 [[D.v (.string (strD (D.v (.string nAnn))))], [D.v (.string (strD (D.v (.string nBob))))]], Ob.gh [AV.vw 0 2], Ob.gone, Ob.gone]))))))))))))) ∧
  ((Int.toNat ((0 + (1 : Nat)) : Int)) < 2) ∧
  ((0 : Nat) ≤ 1) ∧
  ((1 : Nat) ≤ 1) ∧
  ((D.v (.string nAnn)) = (D.v (.string (strD (D.v (.string nAnn)))))) ∧
  ((Int.toNat (IntKind.wrap .i64 (((0 + (1 : Nat)) : Int) - (1 : Int)))) < 2) ∧
  ((0 : Nat) ≤ 1) ∧
  ((1 : Nat) ≤ 1) ∧
  ((D.v (.string nBob)) = (D.v (.string (strD (D.v (.string nBob)))))) ∧
  (((0 : Int) ≤ ((0 + (1 : Nat)) : Int)) ∧ (((0 + (1 : Nat)) : Int) < ((1 + (1 : Nat)) : Int))) ∧
  (((Int.toNat ((0 + (1 : Nat)) : Int)) < 2) ∧ (((0 : Nat) + 1) ≤ 1)) ∧
  (((0 : Int) ≤ (IntKind.wrap .i64 (((0 + (1 : Nat)) : Int) - (1 : Int)))) ∧ ((IntKind.wrap .i64 (((0 + (1 : Nat)) : Int) - (1 : Int))) < ((1 + (1 : Nat)) : Int))) ∧
  (((Int.toNat (IntKind.wrap .i64 (((0 + (1 : Nat)) : Int) - (1 : Int)))) < 2) ∧ (((0 : Nat) + 1) ≤ 1)) ∧
  q (AV.tp []) [Ob.row 1 [[D.v (.string (strD (D.v (.string nAnn))))], [D.v (.string (strD (D.v (.string nBob))))]], Ob.gh [AV.vw 0 2], Ob.gone, Ob.gone]) := by kernel_rfl
theorem rCf2 (q : AV → Prop) :
  (aUnr Tryd.K GB1 9 Tryd.b72 (kRet Tryd.K Tryd.f72.results.toList q) ⟨[mkSS t2, .d (.fn (.func 71) [] [])] ++ List.replicate (Tryd.f72.ntmps - 2) .jk, []⟩) = (
  (2 ≤ LIM) →
  (((0 : Int) ≤ ((0 : Nat) : Int)) ∧ (((0 : Nat) : Int) < (2 : Int))) ∧
  (1 = 1) ∧
  ((1 : Nat) ≤ 1) ∧
  ((D.v (.string nAnn)) = (D.v (.string (strD (D.v (.string nAnn)))))) ∧
  True ∧
  (((0 : Int) ≤ ((0 + (1 : Nat)) : Int)) ∧ (((0 + (1 : Nat)) : Int) < (2 : Int))) ∧
  (1 = 1) ∧
  ((1 : Nat) ≤ 1) ∧
  ((D.v (.string nBob)) = (D.v (.string (strD (D.v (.string nBob)))))) ∧
  True ∧
  q (mkB false)) := by kernel_rfl
theorem rCo2 (q : AV → List Ob → Prop) :
  (aUnr Tryd.K GB1 9 Tryd.b73 (kRetF Tryd.K Tryd.f73.results.toList q) ⟨[.vw 0 2] ++ List.replicate (Tryd.f73.ntmps - 1) .jk, isO t2⟩) = (
  (((0 : Int) ≤ ((0 + (1 : Nat)) : Int)) ∧ (((0 + (1 : Nat)) : Int) < ((2 : Nat) : Int))) ∧
  ((Int.toNat ((0 + (1 : Nat)) : Int)) < 2) ∧
  ((0 : Nat) ≤ 1) ∧
  ((1 : Nat) ≤ 1) ∧
  ((D.v (.string nBob)) = (D.v (.string (strD (D.v (.string nBob)))))) ∧
  (((0 : Int) ≤ (IntKind.wrap .i64 (((0 + (1 : Nat)) : Int) - (1 : Int)))) ∧ ((IntKind.wrap .i64 (((0 + (1 : Nat)) : Int) - (1 : Int))) < ((2 : Nat) : Int))) ∧
  ((Int.toNat (IntKind.wrap .i64 (((0 + (1 : Nat)) : Int) - (1 : Int)))) < 2) ∧
  ((0 : Nat) ≤ 1) ∧
  ((1 : Nat) ≤ 1) ∧
  ((D.v (.string nAnn)) = (D.v (.string (strD (D.v (.string nAnn)))))) ∧
  q (AV.vw 0 (1 + 1)) [Ob.row 1 [[D.v (.string nAnn)], [D.v (.string nBob)]], Ob.gh [AV.vw 0 2]]) := by kernel_rfl
theorem rSo8 (q : AV → List Ob → Prop) :
  (aUnr Tryd.K GB1 9 Tryd.b70 (kRetF Tryd.K Tryd.f70.results.toList q) ⟨[.vw 0 8] ++ List.replicate (Tryd.f70.ntmps - 1) .jk, isO u8⟩) = (
  (((0 : Int) ≤ ((7 + (1 : Nat)) : Int)) ∧ (((7 + (1 : Nat)) : Int) ≤ (18446744073709551615 : Int))) ∧
  (((0 : Int) ≤ ((0 + (1 : Nat)) : Int)) ∧ (((0 + (1 : Nat)) : Int) < ((7 + (1 : Nat)) : Int))) ∧
  ((Int.toNat ((0 + (1 : Nat)) : Int)) < 8) ∧
  ((0 : Nat) ≤ 1) ∧
  ((1 : Nat) ≤ 1) ∧
  ((D.v (.string nBob)) = (D.v (.string (strD (D.v (.string nBob)))))) ∧
  (((0 : Int) ≤ (IntKind.wrap .i64 (((0 + (1 : Nat)) : Int) - (1 : Int)))) ∧ ((IntKind.wrap .i64 (((0 + (1 : Nat)) : Int) - (1 : Int))) < ((7 + (1 : Nat)) : Int))) ∧
  ((Int.toNat (IntKind.wrap .i64 (((0 + (1 : Nat)) : Int) - (1 : Int)))) < 8) ∧
  ((0 : Nat) ≤ 1) ∧
  ((1 : Nat) ≤ 1) ∧
  ((D.v (.string nAnn)) = (D.v (.string (strD (D.v (.string nAnn)))))) ∧
  True ∧
  True ∧
  (((0 : Int) ≤ ((1 + (1 : Nat)) : Int)) ∧ (((1 + (1 : Nat)) : Int) < ((7 + (1 : Nat)) : Int))) ∧
  ((Int.toNat ((1 + (1 : Nat)) : Int)) < 8) ∧
  ((0 : Nat) ≤ 1) ∧
  ((1 : Nat) ≤ 1) ∧
  ((D.v (.string nCy)) = (D.v (.string (strD (D.v (.string nCy)))))) ∧
  (((0 : Int) ≤ (IntKind.wrap .i64 (((1 + (1 : Nat)) : Int) - (1 : Int)))) ∧ ((IntKind.wrap .i64 (((1 + (1 : Nat)) : Int) - (1 : Int))) < ((7 + (1 : Nat)) : Int))) ∧
  ((Int.toNat (IntKind.wrap .i64 (((1 + (1 : Nat)) : Int) - (1 : Int)))) < 8) ∧
  ((0 : Nat) ≤ 1) ∧
  ((1 : Nat) ≤ 1) ∧
  ((D.v (.string nBob)) = (D.v (.string (strD (D.v (.string nBob)))))) ∧
  True ∧
  True ∧
  (((0 : Int) ≤ ((2 + (1 : Nat)) : Int)) ∧ (((2 + (1 : Nat)) : Int) < ((7 + (1 : Nat)) : Int))) ∧
  ((Int.toNat ((2 + (1 : Nat)) : Int)) < 8) ∧
  ((0 : Nat) ≤ 1) ∧
  ((1 : Nat) ≤ 1) ∧
  ((D.v (.string nDee)) = (D.v (.string (strD (D.v (.string nDee)))))) ∧
  (((0 : Int) ≤ (IntKind.wrap .i64 (((2 + (1 : Nat)) : Int) - (1 : Int)))) ∧ ((IntKind.wrap .i64 (((2 + (1 : Nat)) : Int) - (1 : Int))) < ((7 + (1 : Nat)) : Int))) ∧
  ((Int.toNat (IntKind.wrap .i64 (((2 + (1 : Nat)) : Int) - (1 : Int)))) < 8) ∧
  ((0 : Nat) ≤ 1) ∧
  ((1 : Nat) ≤ 1) ∧
  ((D.v (.string nCy)) = (D.v (.string (strD (D.v (.string nCy)))))) ∧
  True ∧
  True ∧
  (((0 : Int) ≤ ((3 + (1 : Nat)) : Int)) ∧ (((3 + (1 : Nat)) : Int) < ((7 + (1 : Nat)) : Int))) ∧
  ((Int.toNat ((3 + (1 : Nat)) : Int)) < 8) ∧
  ((0 : Nat) ≤ 1) ∧
  ((1 : Nat) ≤ 1) ∧
  ((D.v (.string nEve)) = (D.v (.string (strD (D.v (.string nEve)))))) ∧
  (((0 : Int) ≤ (IntKind.wrap .i64 (((3 + (1 : Nat)) : Int) - (1 : Int)))) ∧ ((IntKind.wrap .i64 (((3 + (1 : Nat)) : Int) - (1 : Int))) < ((7 + (1 : Nat)) : Int))) ∧
  ((Int.toNat (IntKind.wrap .i64 (((3 + (1 : Nat)) : Int) - (1 : Int)))) < 8) ∧
  ((0 : Nat) ≤ 1) ∧
  ((1 : Nat) ≤ 1) ∧
  ((D.v (.string nDee)) = (D.v (.string (strD (D.v (.string nDee)))))) ∧
  True ∧
  True ∧
  (((0 : Int) ≤ ((4 + (1 : Nat)) : Int)) ∧ (((4 + (1 : Nat)) : Int) < ((7 + (1 : Nat)) : Int))) ∧
  ((Int.toNat ((4 + (1 : Nat)) : Int)) < 8) ∧
  ((0 : Nat) ≤ 1) ∧
  ((1 : Nat) ≤ 1) ∧
  ((D.v (.string nFlo)) = (D.v (.string (strD (D.v (.string nFlo)))))) ∧
  (((0 : Int) ≤ (IntKind.wrap .i64 (((4 + (1 : Nat)) : Int) - (1 : Int)))) ∧ ((IntKind.wrap .i64 (((4 + (1 : Nat)) : Int) - (1 : Int))) < ((7 + (1 : Nat)) : Int))) ∧
  ((Int.toNat (IntKind.wrap .i64 (((4 + (1 : Nat)) : Int) - (1 : Int)))) < 8) ∧
  ((0 : Nat) ≤ 1) ∧
  ((1 : Nat) ≤ 1) ∧
  ((D.v (.string nEve)) = (D.v (.string (strD (D.v (.string nEve)))))) ∧
  True ∧
  True ∧
  (((0 : Int) ≤ ((5 + (1 : Nat)) : Int)) ∧ (((5 + (1 : Nat)) : Int) < ((7 + (1 : Nat)) : Int))) ∧
  ((Int.toNat ((5 + (1 : Nat)) : Int)) < 8) ∧
  ((0 : Nat) ≤ 1) ∧
  ((1 : Nat) ≤ 1) ∧
  ((D.v (.string nGus)) = (D.v (.string (strD (D.v (.string nGus)))))) ∧
  (((0 : Int) ≤ (IntKind.wrap .i64 (((5 + (1 : Nat)) : Int) - (1 : Int)))) ∧ ((IntKind.wrap .i64 (((5 + (1 : Nat)) : Int) - (1 : Int))) < ((7 + (1 : Nat)) : Int))) ∧
  ((Int.toNat (IntKind.wrap .i64 (((5 + (1 : Nat)) : Int) - (1 : Int)))) < 8) ∧
  ((0 : Nat) ≤ 1) ∧
  ((1 : Nat) ≤ 1) ∧
  ((D.v (.string nFlo)) = (D.v (.string (strD (D.v (.string nFlo)))))) ∧
  True ∧
  True ∧
  (((0 : Int) ≤ ((6 + (1 : Nat)) : Int)) ∧ (((6 + (1 : Nat)) : Int) < ((7 + (1 : Nat)) : Int))) ∧
  ((Int.toNat ((6 + (1 : Nat)) : Int)) < 8) ∧
  ((0 : Nat) ≤ 1) ∧
  ((1 : Nat) ≤ 1) ∧
  ((D.v (.string nHal)) = (D.v (.string (strD (D.v (.string nHal)))))) ∧
  (((0 : Int) ≤ (IntKind.wrap .i64 (((6 + (1 : Nat)) : Int) - (1 : Int)))) ∧ ((IntKind.wrap .i64 (((6 + (1 : Nat)) : Int) - (1 : Int))) < ((7 + (1 : Nat)) : Int))) ∧
  ((Int.toNat (IntKind.wrap .i64 (((6 + (1 : Nat)) : Int) - (1 : Int)))) < 8) ∧
  ((0 : Nat) ≤ 1) ∧
  ((1 : Nat) ≤ 1) ∧
  ((D.v (.string nGus)) = (D.v (.string (strD (D.v (.string nGus)))))) ∧
  True ∧
  True ∧
  q (AV.tp []) [Ob.row 1 [[D.v (.string nAnn)], [D.v (.string nBob)], [D.v (.string nCy)], [D.v (.string nDee)], [D.v (.string nEve)], [D.v (.string nFlo)], [D.v (.string nGus)], [D.v (.string nHal)]], Ob.gh [AV.vw 0 8], Ob.gone, Ob.gone]) := by kernel_rfl
theorem rCf8 (q : AV → Prop) :
  (aUnr Tryd.K GB1 9 Tryd.b72 (kRet Tryd.K Tryd.f72.results.toList q) ⟨[mkSS u8, .d (.fn (.func 71) [] [])] ++ List.replicate (Tryd.f72.ntmps - 2) .jk, []⟩) = (
  (8 ≤ LIM) →
  (((0 : Int) ≤ ((0 : Nat) : Int)) ∧ (((0 : Nat) : Int) < (8 : Int))) ∧
  (1 = 1) ∧
  ((1 : Nat) ≤ 1) ∧
  ((D.v (.string nAnn)) = (D.v (.string (strD (D.v (.string nAnn)))))) ∧
  True ∧
  (((0 : Int) ≤ ((0 + (1 : Nat)) : Int)) ∧ (((0 + (1 : Nat)) : Int) < (8 : Int))) ∧
  (1 = 1) ∧
  ((1 : Nat) ≤ 1) ∧
  ((D.v (.string nBob)) = (D.v (.string (strD (D.v (.string nBob)))))) ∧
  True ∧
  (((0 : Int) ≤ ((1 + (1 : Nat)) : Int)) ∧ (((1 + (1 : Nat)) : Int) < (8 : Int))) ∧
  (1 = 1) ∧
  ((1 : Nat) ≤ 1) ∧
  ((D.v (.string nCy)) = (D.v (.string (strD (D.v (.string nCy)))))) ∧
  True ∧
  (((0 : Int) ≤ ((2 + (1 : Nat)) : Int)) ∧ (((2 + (1 : Nat)) : Int) < (8 : Int))) ∧
  (1 = 1) ∧
  ((1 : Nat) ≤ 1) ∧
  ((D.v (.string nDee)) = (D.v (.string (strD (D.v (.string nDee)))))) ∧
  True ∧
  (((0 : Int) ≤ ((3 + (1 : Nat)) : Int)) ∧ (((3 + (1 : Nat)) : Int) < (8 : Int))) ∧
  (1 = 1) ∧
  ((1 : Nat) ≤ 1) ∧
  ((D.v (.string nEve)) = (D.v (.string (strD (D.v (.string nEve)))))) ∧
  True ∧
  (((0 : Int) ≤ ((4 + (1 : Nat)) : Int)) ∧ (((4 + (1 : Nat)) : Int) < (8 : Int))) ∧
  (1 = 1) ∧
  ((1 : Nat) ≤ 1) ∧
  ((D.v (.string nFlo)) = (D.v (.string (strD (D.v (.string nFlo)))))) ∧
  True ∧
  (((0 : Int) ≤ ((5 + (1 : Nat)) : Int)) ∧ (((5 + (1 : Nat)) : Int) < (8 : Int))) ∧
  (1 = 1) ∧
  ((1 : Nat) ≤ 1) ∧
  ((D.v (.string nGus)) = (D.v (.string (strD (D.v (.string nGus)))))) ∧
  True ∧
  (((0 : Int) ≤ ((6 + (1 : Nat)) : Int)) ∧ (((6 + (1 : Nat)) : Int) < (8 : Int))) ∧
  (1 = 1) ∧
  ((1 : Nat) ≤ 1) ∧
  ((D.v (.string nHal)) = (D.v (.string (strD (D.v (.string nHal)))))) ∧
  True ∧
  q (mkB false)) := by kernel_rfl
theorem rCo8 (q : AV → List Ob → Prop) :
  (aUnr Tryd.K GB1 9 Tryd.b73 (kRetF Tryd.K Tryd.f73.results.toList q) ⟨[.vw 0 8] ++ List.replicate (Tryd.f73.ntmps - 1) .jk, isO u8⟩) = (
  (((0 : Int) ≤ ((0 + (1 : Nat)) : Int)) ∧ (((0 + (1 : Nat)) : Int) < ((8 : Nat) : Int))) ∧
  ((Int.toNat ((0 + (1 : Nat)) : Int)) < 8) ∧
  ((0 : Nat) ≤ 1) ∧
  ((1 : Nat) ≤ 1) ∧
  ((D.v (.string nBob)) = (D.v (.string (strD (D.v (.string nBob)))))) ∧
  (((0 : Int) ≤ (IntKind.wrap .i64 (((0 + (1 : Nat)) : Int) - (1 : Int)))) ∧ ((IntKind.wrap .i64 (((0 + (1 : Nat)) : Int) - (1 : Int))) < ((8 : Nat) : Int))) ∧
  ((Int.toNat (IntKind.wrap .i64 (((0 + (1 : Nat)) : Int) - (1 : Int)))) < 8) ∧
  ((0 : Nat) ≤ 1) ∧
  ((1 : Nat) ≤ 1) ∧
  ((D.v (.string nAnn)) = (D.v (.string (strD (D.v (.string nAnn)))))) ∧
  (((0 : Int) ≤ ((1 + (1 : Nat)) : Int)) ∧ (((1 + (1 : Nat)) : Int) < ((7 + (1 : Nat)) : Int))) ∧
  ((Int.toNat ((1 + (1 : Nat)) : Int)) < 8) ∧
  ((0 : Nat) ≤ 1) ∧
  ((1 : Nat) ≤ 1) ∧
  ((D.v (.string nCy)) = (D.v (.string (strD (D.v (.string nCy)))))) ∧
  (((0 : Int) ≤ (IntKind.wrap .i64 (((1 + (1 : Nat)) : Int) - (1 : Int)))) ∧ ((IntKind.wrap .i64 (((1 + (1 : Nat)) : Int) - (1 : Int))) < ((7 + (1 : Nat)) : Int))) ∧
  ((Int.toNat (IntKind.wrap .i64 (((1 + (1 : Nat)) : Int) - (1 : Int)))) < 8) ∧
  ((0 : Nat) ≤ 1) ∧
  ((1 : Nat) ≤ 1) ∧
  ((D.v (.string nBob)) = (D.v (.string (strD (D.v (.string nBob)))))) ∧
  (((0 : Int) ≤ ((2 + (1 : Nat)) : Int)) ∧ (((2 + (1 : Nat)) : Int) < ((7 + (1 : Nat)) : Int))) ∧
  ((Int.toNat ((2 + (1 : Nat)) : Int)) < 8) ∧
  ((0 : Nat) ≤ 1) ∧
  ((1 : Nat) ≤ 1) ∧
  ((D.v (.string nDee)) = (D.v (.string (strD (D.v (.string nDee)))))) ∧
  (((0 : Int) ≤ (IntKind.wrap .i64 (((2 + (1 : Nat)) : Int) - (1 : Int)))) ∧ ((IntKind.wrap .i64 (((2 + (1 : Nat)) : Int) - (1 : Int))) < ((7 + (1 : Nat)) : Int))) ∧
  ((Int.toNat (IntKind.wrap .i64 (((2 + (1 : Nat)) : Int) - (1 : Int)))) < 8) ∧
  ((0 : Nat) ≤ 1) ∧
  ((1 : Nat) ≤ 1) ∧
  ((D.v (.string nCy)) = (D.v (.string (strD (D.v (.string nCy)))))) ∧
  (((0 : Int) ≤ ((3 + (1 : Nat)) : Int)) ∧ (((3 + (1 : Nat)) : Int) < ((7 + (1 : Nat)) : Int))) ∧
  ((Int.toNat ((3 + (1 : Nat)) : Int)) < 8) ∧
  ((0 : Nat) ≤ 1) ∧
  ((1 : Nat) ≤ 1) ∧
  ((D.v (.string nEve)) = (D.v (.string (strD (D.v (.string nEve)))))) ∧
  (((0 : Int) ≤ (IntKind.wrap .i64 (((3 + (1 : Nat)) : Int) - (1 : Int)))) ∧ ((IntKind.wrap .i64 (((3 + (1 : Nat)) : Int) - (1 : Int))) < ((7 + (1 : Nat)) : Int))) ∧
  ((Int.toNat (IntKind.wrap .i64 (((3 + (1 : Nat)) : Int) - (1 : Int)))) < 8) ∧
  ((0 : Nat) ≤ 1) ∧
  ((1 : Nat) ≤ 1) ∧
  ((D.v (.string nDee)) = (D.v (.string (strD (D.v (.string nDee)))))) ∧
  (((0 : Int) ≤ ((4 + (1 : Nat)) : Int)) ∧ (((4 + (1 : Nat)) : Int) < ((7 + (1 : Nat)) : Int))) ∧
  ((Int.toNat ((4 + (1 : Nat)) : Int)) < 8) ∧
  ((0 : Nat) ≤ 1) ∧
  ((1 : Nat) ≤ 1) ∧
  ((D.v (.string nFlo)) = (D.v (.string (strD (D.v (.string nFlo)))))) ∧
  (((0 : Int) ≤ (IntKind.wrap .i64 (((4 + (1 : Nat)) : Int) - (1 : Int)))) ∧ ((IntKind.wrap .i64 (((4 + (1 : Nat)) : Int) - (1 : Int))) < ((7 + (1 : Nat)) : Int))) ∧
  ((Int.toNat (IntKind.wrap .i64 (((4 + (1 : Nat)) : Int) - (1 : Int)))) < 8) ∧
  ((0 : Nat) ≤ 1) ∧
  ((1 : Nat) ≤ 1) ∧
  ((D.v (.string nEve)) = (D.v (.string (strD (D.v (.string nEve)))))) ∧
  (((0 : Int) ≤ ((5 + (1 : Nat)) : Int)) ∧ (((5 + (1 : Nat)) : Int) < ((7 + (1 : Nat)) : Int))) ∧
  ((Int.toNat ((5 + (1 : Nat)) : Int)) < 8) ∧
  ((0 : Nat) ≤ 1) ∧
  ((1 : Nat) ≤ 1) ∧
  ((D.v (.string nGus)) = (D.v (.string (strD (D.v (.string nGus)))))) ∧
  (((0 : Int) ≤ (IntKind.wrap .i64 (((5 + (1 : Nat)) : Int) - (1 : Int)))) ∧ ((IntKind.wrap .i64 (((5 + (1 : Nat)) : Int) - (1 : Int))) < ((7 + (1 : Nat)) : Int))) ∧
  ((Int.toNat (IntKind.wrap .i64 (((5 + (1 : Nat)) : Int) - (1 : Int)))) < 8) ∧
  ((0 : Nat) ≤ 1) ∧
  ((1 : Nat) ≤ 1) ∧
  ((D.v (.string nFlo)) = (D.v (.string (strD (D.v (.string nFlo)))))) ∧
  (((0 : Int) ≤ ((6 + (1 : Nat)) : Int)) ∧ (((6 + (1 : Nat)) : Int) < ((7 + (1 : Nat)) : Int))) ∧
  ((Int.toNat ((6 + (1 : Nat)) : Int)) < 8) ∧
  ((0 : Nat) ≤ 1) ∧
  ((1 : Nat) ≤ 1) ∧
  ((D.v (.string nHal)) = (D.v (.string (strD (D.v (.string nHal)))))) ∧
  (((0 : Int) ≤ (IntKind.wrap .i64 (((6 + (1 : Nat)) : Int) - (1 : Int)))) ∧ ((IntKind.wrap .i64 (((6 + (1 : Nat)) : Int) - (1 : Int))) < ((7 + (1 : Nat)) : Int))) ∧
  ((Int.toNat (IntKind.wrap .i64 (((6 + (1 : Nat)) : Int) - (1 : Int)))) < 8) ∧
  ((0 : Nat) ≤ 1) ∧
  ((1 : Nat) ≤ 1) ∧
  ((D.v (.string nGus)) = (D.v (.string (strD (D.v (.string nGus)))))) ∧
  q (AV.vw 0 (7 + 1)) [Ob.row 1 [[D.v (.string nAnn)], [D.v (.string nBob)], [D.v (.string nCy)], [D.v (.string nDee)], [D.v (.string nEve)], [D.v (.string nFlo)], [D.v (.string nGus)], [D.v (.string nHal)]], Ob.gh [AV.vw 0 8]]) := by kernel_rfl
theorem isO2_trim {q : AV → List Ob → Prop} {av : AV} {o : List Ob} (hf : av.fits 2 = true) (hq : q av (isO t2)) : trimN q av (isO t2 ++ o) :=
  ⟨av, isO t2, LeN.refl _, by simp [leO, isO], by simp [isO, hf, Ob.fits, AV.fits, fitsL], hq⟩
def ESo2 : REnt := fun al o q => al = [.vw 0 2] ∧ o = isO u2 ∧ q (.tp []) (isO t2)
theorem cSo2 : RSound Tryd.prog 70 ESo2 := by
  refine ref_gen trimN trimN_ok (unr_bsound (c := Tryd.b70) 9 mixed Tryd.K_ok gb1_ok) Tryd.K_ok Tryd.func70 rfl rfl Tryd.call70 fun al o q ⟨h1, h2, hq⟩ => ?_
  subst h1 h2
  refine cast (rSo2 (trimN q)).symm ?_
  have fin : ∀ o, trimN q (.tp []) (isO t2 ++ o) := fun o => isO2_trim rfl hq
  repeat' (first | exact fin [.gone, .gone] | trivial | (refine And.intro ?_ ?_) | rfl | decide)
def FCf2 : List AV → Option (Prop × AV) := fun al => match al with
  | [.d (.sl es), .d (.fn (.func 71) [] [])] => some (es = strsD t2, mkB false)
  | _ => none
theorem cCf2 : PSound Tryd.prog 72 (detE FCf2) := by
  refine det_unr (c := Tryd.b72) 9 mixed Tryd.K_ok gb1_ok Tryd.func72 rfl rfl Tryd.call72 fun al p r q hF hp hq => ?_
  unfold FCf2 at hF; split at hF <;> cases hF
  subst hp
  refine cast (rCf2 q).symm fun _ => ?_
  repeat' (first | exact hq | trivial | (refine And.intro ?_ ?_) | rfl | decide)
def ECo2 : REnt := fun al o q => al = [.vw 0 2] ∧ o = isO t2 ∧ q (.vw 0 2) (isO t2)
theorem cCo2 : RSound Tryd.prog 73 ECo2 := by
  refine ref_gen trimN trimN_ok (unr_bsound (c := Tryd.b73) 9 mixed Tryd.K_ok gb1_ok) Tryd.K_ok Tryd.func73 rfl rfl Tryd.call73 fun al o q ⟨h1, h2, hq⟩ => ?_
  subst h1 h2
  refine cast (rCo2 (trimN q)).symm ?_
  have fin : ∀ o, trimN q (.vw 0 2) (isO t2 ++ o) := fun o => isO2_trim rfl hq
  repeat' (first | exact fin [] | trivial | (refine And.intro ?_ ?_) | rfl | decide)
theorem isO8_trim {q : AV → List Ob → Prop} {av : AV} {o : List Ob} (hf : av.fits 2 = true) (hq : q av (isO u8)) : trimN q av (isO u8 ++ o) :=
  ⟨av, isO u8, LeN.refl _, by simp [leO, isO], by simp [isO, hf, Ob.fits, AV.fits, fitsL], hq⟩
def ESo8 : REnt := fun al o q => al = [.vw 0 8] ∧ o = isO u8 ∧ q (.tp []) (isO u8)
set_option maxRecDepth 100000 in
theorem cSo8 : RSound Tryd.prog 70 ESo8 := by
  refine ref_gen trimN trimN_ok (unr_bsound (c := Tryd.b70) 9 mixed Tryd.K_ok gb1_ok) Tryd.K_ok Tryd.func70 rfl rfl Tryd.call70 fun al o q ⟨h1, h2, hq⟩ => ?_
  subst h1 h2
  refine cast (rSo8 (trimN q)).symm ?_
  have fin : ∀ o, trimN q (.tp []) (isO u8 ++ o) := fun o => isO8_trim rfl hq
  repeat' (first | exact fin [.gone, .gone] | trivial | (refine And.intro ?_ ?_) | rfl | decide)
def FCf8 : List AV → Option (Prop × AV) := fun al => match al with
  | [.d (.sl es), .d (.fn (.func 71) [] [])] => some (es = strsD u8, mkB false)
  | _ => none
theorem cCf8 : PSound Tryd.prog 72 (detE FCf8) := by
  refine det_unr (c := Tryd.b72) 9 mixed Tryd.K_ok gb1_ok Tryd.func72 rfl rfl Tryd.call72 fun al p r q hF hp hq => ?_
  unfold FCf8 at hF; split at hF <;> cases hF
  subst hp
  refine cast (rCf8 q).symm fun _ => ?_
  repeat' (first | exact hq | trivial | (refine And.intro ?_ ?_) | rfl | decide)
def ECo8 : REnt := fun al o q => al = [.vw 0 8] ∧ o = isO u8 ∧ q (.vw 0 8) (isO u8)
set_option maxRecDepth 100000 in
theorem cCo8 : RSound Tryd.prog 73 ECo8 := by
  refine ref_gen trimN trimN_ok (unr_bsound (c := Tryd.b73) 9 mixed Tryd.K_ok gb1_ok) Tryd.K_ok Tryd.func73 rfl rfl Tryd.call73 fun al o q ⟨h1, h2, hq⟩ => ?_
  subst h1 h2
  refine cast (rCo8 (trimN q)).symm ?_
  have fin : ∀ o, trimN q (.vw 0 8) (isO u8 ++ o) := fun o => isO8_trim rfl hq
  repeat' (first | exact fin [] | trivial | (refine And.intro ?_ ?_) | rfl | decide)
end Go.Proofs.YtldcalmoboeeiaaDoor

namespace Go.Proofs.YtldcalmoboeeiaaDoor
open Go Go.AM Go.RowKit
attribute [local irreducible] aCode aUnr aUnS aOut
noncomputable abbrev K3 : TypeId → Option TK := symK Tryd.K [91, 92, 93]
theorem k3_ok : KOk Tryd.prog K3 := symK_ok Tryd.K_ok [91, 92, 93]
noncomputable def GW2 : List (FuncId × En) := [(56, .ref cloneF), (70, .ref (frameV ESo2)), (72, .det FCf2), (73, .ref (frameV ECo2))]
noncomputable def GW8 : List (FuncId × En) := [(56, .ref cloneF), (70, .ref (frameV ESo8)), (72, .det FCf8), (73, .ref (frameV ECo8))]
theorem rNew2 (q : AV → List Ob → Prop) :
  (aUnr K3 GW2 9 Tryd.b41 (kRetF K3 Tryd.f41.results.toList q) ⟨[.vw 0 2] ++ List.replicate (Tryd.f41.ntmps - 1) .jk, [.row 1 (strsD u2), .gh []]⟩) = (
  (((1 : Nat) = (1 : Nat)) ∧ (((1 + (1 : Nat)) = 2) ∧ (((strsD u2) = (strsD (unSS (strsD u2)))) ∧ ((((strsD u2) = []) → False) ∧ (2 ≤ (65536 : Nat)))))) ∧
  ([AV.vw 0 (1 + 1)] = [AV.vw 0 2]) ∧
  ([Ob.row 1 [[D.v (.string nBob)], [D.v (.string nAnn)]], Ob.gh [AV.vw 0 (1 + 1)]] = [Ob.row 1 (strsD u2), Ob.gh [AV.vw 0 2]]) ∧
  ((Option.some (Ob.gh [AV.vw 0 2])) = (Option.some (Ob.gh [AV.vw 0 (1 + 1)]))) ∧
  (2 = 2) ∧
  ([[D.v (.string nAnn)], [D.v (.string nBob)]] = (strsD t2)) ∧
  (((1 : Nat) = (1 : Nat)) ∧ (((1 + (1 : Nat)) = 2) ∧ (([[D.v (.string nAnn)], [D.v (.string nBob)]] = (strsD (unSS [[D.v (.string nAnn)], [D.v (.string nBob)]]))) ∧ ((([[D.v (.string nAnn)], [D.v (.string nBob)]] = []) → False) ∧ (2 ≤ (65536 : Nat)))))) ∧
  ([AV.vw 0 (1 + 1)] = [AV.vw 0 2]) ∧
  ([Ob.row 1 [[D.v (.string nAnn)], [D.v (.string nBob)]], Ob.gh [AV.vw 0 (1 + 1)]] = [Ob.row 1 (strsD t2), Ob.gh [AV.vw 0 2]]) ∧
  ((Option.some (Ob.gh [AV.vw 0 2])) = (Option.some (Ob.gh [AV.vw 0 (1 + 1)]))) ∧
  (2 = 2) ∧
  (((0 : Int) ≤ ((0 : Nat) : Int)) ∧ (((0 : Nat) : Int) < ((1 + (1 : Nat)) : Int))) ∧
  ((0 : Nat) < 2) ∧
  ((0 : Nat) ≤ 1) ∧
  ((1 : Nat) ≤ 1) ∧
  ((D.v (.string nAnn)) = (D.v (.string (strD (D.v (.string nAnn)))))) ∧
  (((0 : Int) ≤ ((0 + (1 : Nat)) : Int)) ∧ (((0 + (1 : Nat)) : Int) < ((1 + (1 : Nat)) : Int))) ∧
  ((0 + (1 : Nat)) < 2) ∧
  ((0 : Nat) ≤ 1) ∧
  ((1 : Nat) ≤ 1) ∧
  ((D.v (.string nBob)) = (D.v (.string (strD (D.v (.string nBob)))))) ∧
  q (AV.rf (12 + 1) 0) [Ob.row 1 [[D.v (.string nBob)], [D.v (.string nAnn)]], Ob.gh [], Ob.gone, Ob.row 1 [[D.v (.string nAnn)], [D.v (.string nBob)]], Ob.gone, Ob.gone, Ob.gone, Ob.row 1 [[D.v (.string nAnn)], [D.v (.string nBob)]], Ob.gone, Ob.gone, Ob.map (KK.ystrs 2) [], Ob.map (KK.ystrs 2) [], Ob.map KK.ystr [(Key.s (strD (D.v (.string nAnn))), mkI .i64 (1 : Int)), (Key.s (strD (D.v (.string nBob))), mkI .i64 (1 : Int))], Ob.box [AV.vw (2 + 1) (1 + 1), AV.mp (9 + 1), AV.mp (10 + 1), AV.mp (11 + 1)]]) := by kernel_rfl
theorem rNew8 (q : AV → List Ob → Prop) :
  (aUnr K3 GW8 9 Tryd.b41 (kRetF K3 Tryd.f41.results.toList q) ⟨[mkSS u8] ++ List.replicate (Tryd.f41.ntmps - 1) .jk, [.gh []]⟩) = (
  (((strsD u8) = (strsD (unSS (strsD u8)))) ∧ ((((strsD u8) = []) → False) ∧ (8 ≤ (65536 : Nat)))) ∧
  ([AV.vw 0 (7 + 1)] = [AV.vw 0 8]) ∧
  ([Ob.row 1 [[D.v (.string nAnn)], [D.v (.string nBob)], [D.v (.string nCy)], [D.v (.string nDee)], [D.v (.string nEve)], [D.v (.string nFlo)], [D.v (.string nGus)], [D.v (.string nHal)]], Ob.gh [AV.vw 0 (7 + 1)]] = [Ob.row 1 (strsD u8), Ob.gh [AV.vw 0 8]]) ∧
  ((Option.some (Ob.gh [AV.vw 0 8])) = (Option.some (Ob.gh [AV.vw 0 (7 + 1)]))) ∧
  (8 = 8) ∧
  ([[D.v (.string nAnn)], [D.v (.string nBob)], [D.v (.string nCy)], [D.v (.string nDee)], [D.v (.string nEve)], [D.v (.string nFlo)], [D.v (.string nGus)], [D.v (.string nHal)]] = (strsD u8)) ∧
  (((1 : Nat) = (1 : Nat)) ∧ (((7 + (1 : Nat)) = 8) ∧ (([[D.v (.string nAnn)], [D.v (.string nBob)], [D.v (.string nCy)], [D.v (.string nDee)], [D.v (.string nEve)], [D.v (.string nFlo)], [D.v (.string nGus)], [D.v (.string nHal)]] = (strsD (unSS [[D.v (.string nAnn)], [D.v (.string nBob)], [D.v (.string nCy)], [D.v (.string nDee)], [D.v (.string nEve)], [D.v (.string nFlo)], [D.v (.string nGus)], [D.v (.string nHal)]]))) ∧ ((([[D.v (.string nAnn)], [D.v (.string nBob)], [D.v (.string nCy)], [D.v (.string nDee)], [D.v (.string nEve)], [D.v (.string nFlo)], [D.v (.string nGus)], [D.v (.string nHal)]] = []) → False) ∧ (8 ≤ (65536 : Nat)))))) ∧
  ([AV.vw 0 (7 + 1)] = [AV.vw 0 8]) ∧
  ([Ob.row 1 [[D.v (.string nAnn)], [D.v (.string nBob)], [D.v (.string nCy)], [D.v (.string nDee)], [D.v (.string nEve)], [D.v (.string nFlo)], [D.v (.string nGus)], [D.v (.string nHal)]], Ob.gh [AV.vw 0 (7 + 1)]] = [Ob.row 1 (strsD u8), Ob.gh [AV.vw 0 8]]) ∧
  ((Option.some (Ob.gh [AV.vw 0 8])) = (Option.some (Ob.gh [AV.vw 0 (7 + 1)]))) ∧
  (8 = 8) ∧
  (((0 : Int) ≤ ((0 : Nat) : Int)) ∧ (((0 : Nat) : Int) < ((7 + (1 : Nat)) : Int))) ∧
  ((0 : Nat) < 8) ∧
  ((0 : Nat) ≤ 1) ∧
  ((1 : Nat) ≤ 1) ∧
  ((D.v (.string nAnn)) = (D.v (.string (strD (D.v (.string nAnn)))))) ∧
  (((0 : Int) ≤ ((0 + (1 : Nat)) : Int)) ∧ (((0 + (1 : Nat)) : Int) < ((7 + (1 : Nat)) : Int))) ∧
  ((0 + (1 : Nat)) < 8) ∧
  ((0 : Nat) ≤ 1) ∧
  ((1 : Nat) ≤ 1) ∧
  ((D.v (.string nBob)) = (D.v (.string (strD (D.v (.string nBob)))))) ∧
  (((0 : Int) ≤ ((1 + (1 : Nat)) : Int)) ∧ (((1 + (1 : Nat)) : Int) < ((7 + (1 : Nat)) : Int))) ∧
  ((1 + (1 : Nat)) < 8) ∧
  ((0 : Nat) ≤ 1) ∧
  ((1 : Nat) ≤ 1) ∧
  ((D.v (.string nCy)) = (D.v (.string (strD (D.v (.string nCy)))))) ∧
  (((0 : Int) ≤ ((2 + (1 : Nat)) : Int)) ∧ (((2 + (1 : Nat)) : Int) < ((7 + (1 : Nat)) : Int))) ∧
  ((2 + (1 : Nat)) < 8) ∧
  ((0 : Nat) ≤ 1) ∧
  ((1 : Nat) ≤ 1) ∧
  ((D.v (.string nDee)) = (D.v (.string (strD (D.v (.string nDee)))))) ∧
  (((0 : Int) ≤ ((3 + (1 : Nat)) : Int)) ∧ (((3 + (1 : Nat)) : Int) < ((7 + (1 : Nat)) : Int))) ∧
  ((3 + (1 : Nat)) < 8) ∧
  ((0 : Nat) ≤ 1) ∧
  ((1 : Nat) ≤ 1) ∧
  ((D.v (.string nEve)) = (D.v (.string (strD (D.v (.string nEve)))))) ∧
  (((0 : Int) ≤ ((4 + (1 : Nat)) : Int)) ∧ (((4 + (1 : Nat)) : Int) < ((7 + (1 : Nat)) : Int))) ∧
  ((4 + (1 : Nat)) < 8) ∧
  ((0 : Nat) ≤ 1) ∧
  ((1 : Nat) ≤ 1) ∧
  ((D.v (.string nFlo)) = (D.v (.string (strD (D.v (.string nFlo)))))) ∧
  (((0 : Int) ≤ ((5 + (1 : Nat)) : Int)) ∧ (((5 + (1 : Nat)) : Int) < ((7 + (1 : Nat)) : Int))) ∧
  ((5 + (1 : Nat)) < 8) ∧
  ((0 : Nat) ≤ 1) ∧
  ((1 : Nat) ≤ 1) ∧
  ((D.v (.string nGus)) = (D.v (.string (strD (D.v (.string nGus)))))) ∧
  (((0 : Int) ≤ ((6 + (1 : Nat)) : Int)) ∧ (((6 + (1 : Nat)) : Int) < ((7 + (1 : Nat)) : Int))) ∧
  ((6 + (1 : Nat)) < 8) ∧
  ((0 : Nat) ≤ 1) ∧
  ((1 : Nat) ≤ 1) ∧
  ((D.v (.string nHal)) = (D.v (.string (strD (D.v (.string nHal)))))) ∧
  q (AV.rf (11 + 1) 0) [Ob.gh [], Ob.gone, Ob.row 1 [[D.v (.string nAnn)], [D.v (.string nBob)], [D.v (.string nCy)], [D.v (.string nDee)], [D.v (.string nEve)], [D.v (.string nFlo)], [D.v (.string nGus)], [D.v (.string nHal)]], Ob.gone, Ob.gone, Ob.gone, Ob.row 1 [[D.v (.string nAnn)], [D.v (.string nBob)], [D.v (.string nCy)], [D.v (.string nDee)], [D.v (.string nEve)], [D.v (.string nFlo)], [D.v (.string nGus)], [D.v (.string nHal)]], Ob.gone, Ob.gone, Ob.map (KK.ystrs 2) [], Ob.map (KK.ystrs 2) [], Ob.map KK.ystr [(Key.s (strD (D.v (.string nAnn))), mkI .i64 (1 : Int)), (Key.s (strD (D.v (.string nBob))), mkI .i64 (1 : Int)), (Key.s (strD (D.v (.string nCy))), mkI .i64 (1 : Int)), (Key.s (strD (D.v (.string nDee))), mkI .i64 (1 : Int)), (Key.s (strD (D.v (.string nEve))), mkI .i64 (1 : Int)), (Key.s (strD (D.v (.string nFlo))), mkI .i64 (1 : Int)), (Key.s (strD (D.v (.string nGus))), mkI .i64 (1 : Int)), (Key.s (strD (D.v (.string nHal))), mkI .i64 (1 : Int))], Ob.box [AV.vw (1 + 1) (7 + 1), AV.mp (8 + 1), AV.mp (9 + 1), AV.mp (10 + 1)]]) := by kernel_rfl
/-- The versions at the beginning. -/
def v0 (us : List BA) : Vss := us.map fun u => (u, 1)
def newT (n : Nat) (us : List BA) : List Ob := List.replicate 8 .gone ++ [.map (.ystrs 2) (sdE []), .map (.ystrs 2) (nmE []), .map .ystr (vsE (v0 us)), .box [mkSS us, .mp (n + 8), .mp (n + 9), .mp (n + 10)]]
def ENew2 : REnt := fun al o q => al = [.vw 0 2] ∧ o = [.row 1 (strsD u2), .gh []] ∧ q (.rf 13 0) ([.row 1 (strsD u2), .gh []] ++ newT 2 t2)
def ENew8 : REnt := fun al o q => al = [mkSS u8] ∧ o = [.gh []] ∧ q (.rf 12 0) ([.gh []] ++ newT 1 u8)
theorem gw2_ok : GSound Tryd.prog GW2 := gsound_ref (cloneF_sound cClone) (gsound_ref (RSound.frameV cSo2) (gsound_det cCf2 (gsound_ref (RSound.frameV cCo2) gsound_nil)))
set_option maxRecDepth 100000 in
theorem cNew2 : RSound Tryd.prog 41 ENew2 := by
  refine ref_gen trimM trimM_ok (unr_bsound (c := Tryd.b41) 9 mixed k3_ok gw2_ok) k3_ok Tryd.func41 rfl rfl Tryd.call41 fun al o q ⟨h1, h2, hq⟩ => ?_
  subst h1 h2
  refine cast (rNew2 (trimM q)).symm ?_
  have fin : ∀ o2 o, sealAll [3] ⟨[.rf 13 0], o⟩ = ⟨[.rf 13 0], o2⟩ → leO o2 ([.row 1 (strsD u2), .gh []] ++ newT 2 t2) → trimM q (.rf 13 0) o := fun o2 o e h => by
    refine ⟨[3], ?_⟩
    rw [e]
    exact ⟨_, _, LeN.refl _, h, by rfl, hq⟩
  repeat' (first | (refine fin _ _ rfl ?_; simp [leO, newT, S.sealR, Ob.subO, subL, AV.sub, sdE, nmE, encM, vsE, v0, mkSS, strsD, sK, strD, t2, u2, u5, u8]; done) | trivial | (refine And.intro ?_ ?_) | rfl | decide | (intro h; cases h))
theorem gw8_ok : GSound Tryd.prog GW8 := gsound_ref (cloneF_sound cClone) (gsound_ref (RSound.frameV cSo8) (gsound_det cCf8 (gsound_ref (RSound.frameV cCo8) gsound_nil)))
set_option maxRecDepth 100000 in
theorem cNew8 : RSound Tryd.prog 41 ENew8 := by
  refine ref_gen trimM trimM_ok (unr_bsound (c := Tryd.b41) 9 mixed k3_ok gw8_ok) k3_ok Tryd.func41 rfl rfl Tryd.call41 fun al o q ⟨h1, h2, hq⟩ => ?_
  subst h1 h2
  refine cast (rNew8 (trimM q)).symm ?_
  have fin : ∀ o2 o, sealAll [2] ⟨[.rf 12 0], o⟩ = ⟨[.rf 12 0], o2⟩ → leO o2 ([.gh []] ++ newT 1 u8) → trimM q (.rf 12 0) o := fun o2 o e h => by
    refine ⟨[2], ?_⟩
    rw [e]
    exact ⟨_, _, LeN.refl _, h, by rfl, hq⟩
  repeat' (first | (refine fin _ _ rfl ?_; simp [leO, newT, S.sealR, Ob.subO, subL, AV.sub, sdE, nmE, encM, vsE, v0, mkSS, strsD, sK, strD, t2, u2, u5, u8]; done) | trivial | (refine And.intro ?_ ?_) | rfl | decide | (intro h; cases h))
end Go.Proofs.YtldcalmoboeeiaaDoor
