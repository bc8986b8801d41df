import Derived.Test.YtchpfeblinnoiaaGreatDoorTrLives
set_option linter.unusedSimpArgs false
set_option linter.unusedVariables false
set_option maxRecDepth 10000
namespace Go.Proofs.YtchpfeblinnoiaaGreatDoor
open Go Go.AM Go.RowKit
attribute [local irreducible] aUnr aUnS aCode
theorem rRd0 (q : AV → Prop) :
  (aUnr KT GLvI 30 Tryz.b15 (kRet KT Tryz.f15.results.toList q) ⟨[mkS ⟨#[60, 115, 62]⟩] ++ List.replicate (Tryz.f15.ntmps - 1) .jk, []⟩) = (
  (([] : List AV) = []) ∧
  ([Ob.box [AV.vw (0 + 1) 0, mkB false, mkI .i64 0], Ob.row 1 [], Ob.gh [AV.rf 0 0]] = [Ob.box [AV.vw 1 0, mkB false, mkI .i64 0], Ob.row 1 [], Ob.gh [AV.rf 0 0]]) ∧
  ((Option.some (Ob.gh [AV.rf 0 0])) = (Option.some (Ob.gh [AV.rf 0 0]))) ∧ (
   (1 ≤ LIM) →
   (((0 : Int) ≤ ((0 : Nat) : Int)) ∧ (((0 : Nat) : Int) < (1 : Int))) ∧
   (4 = 4) ∧
   (4 ≤ 4) ∧
   (((D.v (.int IntKind.i64 (Tok.kind tS))) = (D.v (.int IntKind.i64 (intD (D.v (.int IntKind.i64 (Tok.kind tS))))))) ∧ (((D.v (.string (Tok.name tS))) = (D.v (.string (strD (D.v (.string (Tok.name tS))))))) ∧ (((D.sl []) = (D.sl (slD (D.sl [])))) ∧ (((D.v (.string (Tok.text tS))) = (D.v (.string (strD (D.v (.string (Tok.text tS))))))) ∧ True)))) ∧
   (∀ (c : List D), (c ∈ (slD (D.sl []))) → (List.length c) = (2 : Nat)) ∧
   (1 ≤ LIM) ∧
   (∀ (c : List D), (c ∈ (slD (D.sl []))) → (List.length c) = (2 : Nat)) ∧
   (∀ (c : List D), (c ∈ [[D.v (.int IntKind.i64 ((0 + (1 : Nat)) : Int)), D.v (.string (strD (D.v (.string (Tok.name tS))))), D.sl (slD (D.sl [])), D.v (.string ⟨#[]⟩), D.sl []]]) → (List.length c) = 5) ∧
   (1 ≤ LIM) ∧ (
    (1 ≤ LIM) →
    q (AV.tp [AV.d (.sl [[D.v (.int IntKind.i64 ((0 + (1 : Nat)) : Int)), D.v (.string (strD (D.v (.string (Tok.name tS))))), D.sl (slD (D.sl [])), D.v (.string ⟨#[]⟩), D.sl []]]), mkI .i64 ((0 : Nat) : Int), mkI .i64 ((0 + (1 : Nat)) : Int)])))) := by kernel_rfl
theorem rRd1 (q : AV → Prop) :
  (aUnr KT GLvI 30 Tryz.b15 (kRet KT Tryz.f15.results.toList q) ⟨[mkS ⟨#[60, 115, 62, 60, 97, 62, 60, 47, 97, 62]⟩] ++ List.replicate (Tryz.f15.ntmps - 1) .jk, []⟩) = (
  (([] : List AV) = []) ∧
  ([Ob.box [AV.vw (0 + 1) 0, mkB false, mkI .i64 0], Ob.row 1 [], Ob.gh [AV.rf 0 0]] = [Ob.box [AV.vw 1 0, mkB false, mkI .i64 0], Ob.row 1 [], Ob.gh [AV.rf 0 0]]) ∧
  ((Option.some (Ob.gh [AV.rf 0 0])) = (Option.some (Ob.gh [AV.rf 0 0]))) ∧ (
   (3 ≤ LIM) →
   (((0 : Int) ≤ ((0 : Nat) : Int)) ∧ (((0 : Nat) : Int) < (3 : Int))) ∧
   (4 = 4) ∧
   (4 ≤ 4) ∧
   (((D.v (.int IntKind.i64 (Tok.kind tS))) = (D.v (.int IntKind.i64 (intD (D.v (.int IntKind.i64 (Tok.kind tS))))))) ∧ (((D.v (.string (Tok.name tS))) = (D.v (.string (strD (D.v (.string (Tok.name tS))))))) ∧ (((D.sl []) = (D.sl (slD (D.sl [])))) ∧ (((D.v (.string (Tok.text tS))) = (D.v (.string (strD (D.v (.string (Tok.text tS))))))) ∧ True)))) ∧
   (∀ (c : List D), (c ∈ (slD (D.sl []))) → (List.length c) = (2 : Nat)) ∧
   (1 ≤ LIM) ∧
   (∀ (c : List D), (c ∈ (slD (D.sl []))) → (List.length c) = (2 : Nat)) ∧
   (∀ (c : List D), (c ∈ [[D.v (.int IntKind.i64 ((0 + (1 : Nat)) : Int)), D.v (.string (strD (D.v (.string (Tok.name tS))))), D.sl (slD (D.sl [])), D.v (.string ⟨#[]⟩), D.sl []]]) → (List.length c) = 5) ∧
   (1 ≤ LIM) ∧ (
    (3 ≤ LIM) →
    (((0 : Int) ≤ ((0 + (1 : Nat)) : Int)) ∧ (((0 + (1 : Nat)) : Int) < (3 : Int))) ∧
    (4 = 4) ∧
    (4 ≤ 4) ∧
    (((D.v (.int IntKind.i64 (Tok.kind tA))) = (D.v (.int IntKind.i64 (intD (D.v (.int IntKind.i64 (Tok.kind tA))))))) ∧ (((D.v (.string (Tok.name tA))) = (D.v (.string (strD (D.v (.string (Tok.name tA))))))) ∧ (((D.sl []) = (D.sl (slD (D.sl [])))) ∧ (((D.v (.string (Tok.text tA))) = (D.v (.string (strD (D.v (.string (Tok.text tA))))))) ∧ True)))) ∧
    (∀ (c : List D), (c ∈ (slD (D.sl []))) → (List.length c) = (2 : Nat)) ∧
    ((0 + (1 : Nat)) = 1) ∧
    ((1 + 1) ≤ LIM) ∧ (
     (3 ≤ LIM) →
     (((0 : Int) ≤ ((1 + (1 : Nat)) : Int)) ∧ (((1 + (1 : Nat)) : Int) < (3 : Int))) ∧
     (4 = 4) ∧
     (4 ≤ 4) ∧
     (((D.v (.int IntKind.i64 (Tok.kind tZ))) = (D.v (.int IntKind.i64 (intD (D.v (.int IntKind.i64 (Tok.kind tZ))))))) ∧ (((D.v (.string (Tok.name tZ))) = (D.v (.string (strD (D.v (.string (Tok.name tZ))))))) ∧ (((D.sl []) = (D.sl (slD (D.sl [])))) ∧ (((D.v (.string (Tok.text tZ))) = (D.v (.string (strD (D.v (.string (Tok.text tZ))))))) ∧ True)))) ∧
     (((0 : Int) ≤ (IntKind.wrap .i64 (((1 + (1 : Nat)) : Int) - (1 : Int)))) ∧ ((IntKind.wrap .i64 (((1 + (1 : Nat)) : Int) - (1 : Int))) < ((1 + (1 : Nat)) : Int))) ∧
     ((Int.toNat (IntKind.wrap .i64 (((1 + (1 : Nat)) : Int) - (1 : Int)))) < 2) ∧
     (((0 : Int) ≤ (IntKind.wrap .i64 (((1 + (1 : Nat)) : Int) - (1 : Int)))) ∧ ((IntKind.wrap .i64 (((1 + (1 : Nat)) : Int) - (1 : Int))) ≤ ((1 + (1 : Nat)) : Int))) ∧
     (∀ (c : List D), (c ∈ [[D.v (.int IntKind.i64 ((1 + (1 : Nat)) : Int)), D.v (.string (strD (D.v (.string (Tok.name tA))))), D.sl (slD (D.sl [])), D.v (.string ⟨#[]⟩), D.sl []]]) → (List.length c) = 5) ∧
     ((0 + (1 : Nat)) = 1) ∧
     ((1 + 1) ≤ LIM) ∧ (
      (3 ≤ LIM) →
      q (AV.tp [AV.d (.sl [[D.v (.int IntKind.i64 ((0 + (1 : Nat)) : Int)), D.v (.string (strD (D.v (.string (Tok.name tS))))), D.sl (slD (D.sl [])), D.v (.string ⟨#[]⟩), D.sl []], [D.v (.int IntKind.i64 ((1 + (1 : Nat)) : Int)), D.v (.string (strD (D.v (.string (Tok.name tA))))), D.sl (slD (D.sl [])), D.v (.string ⟨#[]⟩), D.sl []]]), mkI .i64 ((0 : Nat) : Int), mkI .i64 ((0 + (1 : Nat)) : Int)])))))) := by kernel_rfl
theorem rRd2 (q : AV → Prop) :
  (aUnr KT GLvI 30 Tryz.b15 (kRet KT Tryz.f15.results.toList q) ⟨[mkS ⟨#[60, 115, 62, 60, 97, 62, 60, 97, 62, 60, 47, 97, 62, 60, 47, 97, 62]⟩] ++ List.replicate (Tryz.f15.ntmps - 1) .jk, []⟩) = (
  (([] : List AV) = []) ∧
  ([Ob.box [AV.vw (0 + 1) 0, mkB false, mkI .i64 0], Ob.row 1 [], Ob.gh [AV.rf 0 0]] = [Ob.box [AV.vw 1 0, mkB false, mkI .i64 0], Ob.row 1 [], Ob.gh [AV.rf 0 0]]) ∧
  ((Option.some (Ob.gh [AV.rf 0 0])) = (Option.some (Ob.gh [AV.rf 0 0]))) ∧ (
   (5 ≤ LIM) →
   (((0 : Int) ≤ ((0 : Nat) : Int)) ∧ (((0 : Nat) : Int) < (5 : Int))) ∧
   (4 = 4) ∧
   (4 ≤ 4) ∧
   (((D.v (.int IntKind.i64 (Tok.kind tS))) = (D.v (.int IntKind.i64 (intD (D.v (.int IntKind.i64 (Tok.kind tS))))))) ∧ (((D.v (.string (Tok.name tS))) = (D.v (.string (strD (D.v (.string (Tok.name tS))))))) ∧ (((D.sl []) = (D.sl (slD (D.sl [])))) ∧ (((D.v (.string (Tok.text tS))) = (D.v (.string (strD (D.v (.string (Tok.text tS))))))) ∧ True)))) ∧
   (∀ (c : List D), (c ∈ (slD (D.sl []))) → (List.length c) = (2 : Nat)) ∧
   (1 ≤ LIM) ∧
   (∀ (c : List D), (c ∈ (slD (D.sl []))) → (List.length c) = (2 : Nat)) ∧
   (∀ (c : List D), (c ∈ [[D.v (.int IntKind.i64 ((0 + (1 : Nat)) : Int)), D.v (.string (strD (D.v (.string (Tok.name tS))))), D.sl (slD (D.sl [])), D.v (.string ⟨#[]⟩), D.sl []]]) → (List.length c) = 5) ∧
   (1 ≤ LIM) ∧ (
    (5 ≤ LIM) →
    (((0 : Int) ≤ ((0 + (1 : Nat)) : Int)) ∧ (((0 + (1 : Nat)) : Int) < (5 : Int))) ∧
    (4 = 4) ∧
    (4 ≤ 4) ∧
    (((D.v (.int IntKind.i64 (Tok.kind tA))) = (D.v (.int IntKind.i64 (intD (D.v (.int IntKind.i64 (Tok.kind tA))))))) ∧ (((D.v (.string (Tok.name tA))) = (D.v (.string (strD (D.v (.string (Tok.name tA))))))) ∧ (((D.sl []) = (D.sl (slD (D.sl [])))) ∧ (((D.v (.string (Tok.text tA))) = (D.v (.string (strD (D.v (.string (Tok.text tA))))))) ∧ True)))) ∧
    (∀ (c : List D), (c ∈ (slD (D.sl []))) → (List.length c) = (2 : Nat)) ∧
    ((0 + (1 : Nat)) = 1) ∧
    ((1 + 1) ≤ LIM) ∧ (
     (5 ≤ LIM) →
     (((0 : Int) ≤ ((1 + (1 : Nat)) : Int)) ∧ (((1 + (1 : Nat)) : Int) < (5 : Int))) ∧
     (4 = 4) ∧
     (4 ≤ 4) ∧
     (((D.v (.int IntKind.i64 (Tok.kind tA))) = (D.v (.int IntKind.i64 (intD (D.v (.int IntKind.i64 (Tok.kind tA))))))) ∧ (((D.v (.string (Tok.name tA))) = (D.v (.string (strD (D.v (.string (Tok.name tA))))))) ∧ (((D.sl []) = (D.sl (slD (D.sl [])))) ∧ (((D.v (.string (Tok.text tA))) = (D.v (.string (strD (D.v (.string (Tok.text tA))))))) ∧ True)))) ∧
     (∀ (c : List D), (c ∈ (slD (D.sl []))) → (List.length c) = (2 : Nat)) ∧
     (((0 : Int) ≤ (IntKind.wrap .i64 (((1 + (1 : Nat)) : Int) - (1 : Int)))) ∧ ((IntKind.wrap .i64 (((1 + (1 : Nat)) : Int) - (1 : Int))) < ((1 + (1 : Nat)) : Int))) ∧
     ((Int.toNat (IntKind.wrap .i64 (((1 + (1 : Nat)) : Int) - (1 : Int)))) < 2) ∧
     (((0 : Int) ≤ (IntKind.wrap .i64 (((1 + (1 : Nat)) : Int) - (1 : Int)))) ∧ ((IntKind.wrap .i64 (((1 + (1 : Nat)) : Int) - (1 : Int))) < ((1 + (1 : Nat)) : Int))) ∧
     ((Int.toNat (IntKind.wrap .i64 (((1 + (1 : Nat)) : Int) - (1 : Int)))) < 2) ∧
     (((0 : Int) ≤ (IntKind.wrap .i64 (((1 + (1 : Nat)) : Int) - (1 : Int)))) ∧ ((IntKind.wrap .i64 (((1 + (1 : Nat)) : Int) - (1 : Int))) < ((1 + (1 : Nat)) : Int))) ∧
     ((Int.toNat (IntKind.wrap .i64 (((1 + (1 : Nat)) : Int) - (1 : Int)))) < 2) ∧
     (∀ (c : List D), (c ∈ [[D.v (.string ⟨#[]⟩), D.sl [], D.v (.string ⟨#[]⟩), D.sl []]]) → (List.length c) = 4) ∧
     (1 ≤ LIM) ∧
     ((1 + (1 : Nat)) = 2) ∧
     ((2 + 1) ≤ LIM) ∧ (
      (5 ≤ LIM) →
      (((0 : Int) ≤ ((2 + (1 : Nat)) : Int)) ∧ (((2 + (1 : Nat)) : Int) < (5 : Int))) ∧
      (4 = 4) ∧
      (4 ≤ 4) ∧
      (((D.v (.int IntKind.i64 (Tok.kind tZ))) = (D.v (.int IntKind.i64 (intD (D.v (.int IntKind.i64 (Tok.kind tZ))))))) ∧ (((D.v (.string (Tok.name tZ))) = (D.v (.string (strD (D.v (.string (Tok.name tZ))))))) ∧ (((D.sl []) = (D.sl (slD (D.sl [])))) ∧ (((D.v (.string (Tok.text tZ))) = (D.v (.string (strD (D.v (.string (Tok.text tZ))))))) ∧ True)))) ∧
      (((0 : Int) ≤ (IntKind.wrap .i64 (((2 + (1 : Nat)) : Int) - (1 : Int)))) ∧ ((IntKind.wrap .i64 (((2 + (1 : Nat)) : Int) - (1 : Int))) < ((2 + (1 : Nat)) : Int))) ∧
      ((Int.toNat (IntKind.wrap .i64 (((2 + (1 : Nat)) : Int) - (1 : Int)))) < 3) ∧
      (((0 : Int) ≤ (IntKind.wrap .i64 (((2 + (1 : Nat)) : Int) - (1 : Int)))) ∧ ((IntKind.wrap .i64 (((2 + (1 : Nat)) : Int) - (1 : Int))) ≤ ((2 + (1 : Nat)) : Int))) ∧
      (((0 : Int) ≤ (IntKind.wrap .i64 (((1 + (1 : Nat)) : Int) - (1 : Int)))) ∧ ((IntKind.wrap .i64 (((1 + (1 : Nat)) : Int) - (1 : Int))) < ((1 + (1 : Nat)) : Int))) ∧
      ((Int.toNat (IntKind.wrap .i64 (((1 + (1 : Nat)) : Int) - (1 : Int)))) < 2) ∧
      (((0 : Int) ≤ ((0 : Nat) : Int)) ∧ (((0 : Nat) : Int) < ((0 + (1 : Nat)) : Int))) ∧
      (((0 : Nat) < 1) ∧ (((0 : Nat) + 4) ≤ 4)) ∧ (
       (5 ≤ LIM) →
       (((0 : Int) ≤ ((3 + (1 : Nat)) : Int)) ∧ (((3 + (1 : Nat)) : Int) < (5 : Int))) ∧
       (4 = 4) ∧
       (4 ≤ 4) ∧
       (((D.v (.int IntKind.i64 (Tok.kind tZ))) = (D.v (.int IntKind.i64 (intD (D.v (.int IntKind.i64 (Tok.kind tZ))))))) ∧ (((D.v (.string (Tok.name tZ))) = (D.v (.string (strD (D.v (.string (Tok.name tZ))))))) ∧ (((D.sl []) = (D.sl (slD (D.sl [])))) ∧ (((D.v (.string (Tok.text tZ))) = (D.v (.string (strD (D.v (.string (Tok.text tZ))))))) ∧ True)))) ∧
       (((0 : Int) ≤ (IntKind.wrap .i64 (((1 + (1 : Nat)) : Int) - (1 : Int)))) ∧ ((IntKind.wrap .i64 (((1 + (1 : Nat)) : Int) - (1 : Int))) < ((1 + (1 : Nat)) : Int))) ∧
       ((Int.toNat (IntKind.wrap .i64 (((1 + (1 : Nat)) : Int) - (1 : Int)))) < 2) ∧
       (((0 : Int) ≤ (IntKind.wrap .i64 (((1 + (1 : Nat)) : Int) - (1 : Int)))) ∧ ((IntKind.wrap .i64 (((1 + (1 : Nat)) : Int) - (1 : Int))) ≤ ((1 + (1 : Nat)) : Int))) ∧
       (∀ (c : List D), (c ∈ [[D.v (.int IntKind.i64 ((1 + (1 : Nat)) : Int)), D.v (.string (strD (D.v (.string (Tok.name tA))))), D.sl (slD (D.sl [])), D.v (.string ⟨#[]⟩), D.sl [[D.v (.string (strD (D.v (.string (Tok.name tA))))), D.sl (slD (D.sl [])), D.v (.string ⟨#[]⟩), D.sl []]]]]) → (List.length c) = 5) ∧
       ((0 + (1 : Nat)) = 1) ∧
       ((1 + 1) ≤ LIM) ∧ (
        (5 ≤ LIM) →
        q (AV.tp [AV.d (.sl [[D.v (.int IntKind.i64 ((0 + (1 : Nat)) : Int)), D.v (.string (strD (D.v (.string (Tok.name tS))))), D.sl (slD (D.sl [])), D.v (.string ⟨#[]⟩), D.sl []], [D.v (.int IntKind.i64 ((1 + (1 : Nat)) : Int)), D.v (.string (strD (D.v (.string (Tok.name tA))))), D.sl (slD (D.sl [])), D.v (.string ⟨#[]⟩), D.sl [[D.v (.string (strD (D.v (.string (Tok.name tA))))), D.sl (slD (D.sl [])), D.v (.string ⟨#[]⟩), D.sl []]]]]), mkI .i64 ((0 : Nat) : Int), mkI .i64 ((0 + (1 : Nat)) : Int)])))))))) := by kernel_rfl
theorem rRd3 (q : AV → Prop) :
  (aUnr KT GLvI 30 Tryz.b15 (kRet KT Tryz.f15.results.toList q) ⟨[mkS ⟨#[60, 115, 62, 60, 97, 62, 60, 97, 62, 60, 97, 62, 60, 47, 97, 62, 60, 47, 97, 62, 60, 47, 97, 62]⟩] ++ List.replicate (Tryz.f15.ntmps - 1) .jk, []⟩) = (
  (([] : List AV) = []) ∧
  ([Ob.box [AV.vw (0 + 1) 0, mkB false, mkI .i64 0], Ob.row 1 [], Ob.gh [AV.rf 0 0]] = [Ob.box [AV.vw 1 0, mkB false, mkI .i64 0], Ob.row 1 [], Ob.gh [AV.rf 0 0]]) ∧
  ((Option.some (Ob.gh [AV.rf 0 0])) = (Option.some (Ob.gh [AV.rf 0 0]))) ∧ (
   (7 ≤ LIM) →
   (((0 : Int) ≤ ((0 : Nat) : Int)) ∧ (((0 : Nat) : Int) < (7 : Int))) ∧
   (4 = 4) ∧
   (4 ≤ 4) ∧
   (((D.v (.int IntKind.i64 (Tok.kind tS))) = (D.v (.int IntKind.i64 (intD (D.v (.int IntKind.i64 (Tok.kind tS))))))) ∧ (((D.v (.string (Tok.name tS))) = (D.v (.string (strD (D.v (.string (Tok.name tS))))))) ∧ (((D.sl []) = (D.sl (slD (D.sl [])))) ∧ (((D.v (.string (Tok.text tS))) = (D.v (.string (strD (D.v (.string (Tok.text tS))))))) ∧ True)))) ∧
   (∀ (c : List D), (c ∈ (slD (D.sl []))) → (List.length c) = (2 : Nat)) ∧
   (1 ≤ LIM) ∧
   (∀ (c : List D), (c ∈ (slD (D.sl []))) → (List.length c) = (2 : Nat)) ∧
   (∀ (c : List D), (c ∈ [[D.v (.int IntKind.i64 ((0 + (1 : Nat)) : Int)), D.v (.string (strD (D.v (.string (Tok.name tS))))), D.sl (slD (D.sl [])), D.v (.string ⟨#[]⟩), D.sl []]]) → (List.length c) = 5) ∧
   (1 ≤ LIM) ∧ (
    (7 ≤ LIM) →
    (((0 : Int) ≤ ((0 + (1 : Nat)) : Int)) ∧ (((0 + (1 : Nat)) : Int) < (7 : Int))) ∧
    (4 = 4) ∧
    (4 ≤ 4) ∧
    (((D.v (.int IntKind.i64 (Tok.kind tA))) = (D.v (.int IntKind.i64 (intD (D.v (.int IntKind.i64 (Tok.kind tA))))))) ∧ (((D.v (.string (Tok.name tA))) = (D.v (.string (strD (D.v (.string (Tok.name tA))))))) ∧ (((D.sl []) = (D.sl (slD (D.sl [])))) ∧ (((D.v (.string (Tok.text tA))) = (D.v (.string (strD (D.v (.string (Tok.text tA))))))) ∧ True)))) ∧
    (∀ (c : List D), (c ∈ (slD (D.sl []))) → (List.length c) = (2 : Nat)) ∧
    ((0 + (1 : Nat)) = 1) ∧
    ((1 + 1) ≤ LIM) ∧ (
     (7 ≤ LIM) →
     (((0 : Int) ≤ ((1 + (1 : Nat)) : Int)) ∧ (((1 + (1 : Nat)) : Int) < (7 : Int))) ∧
     (4 = 4) ∧
     (4 ≤ 4) ∧
     (((D.v (.int IntKind.i64 (Tok.kind tA))) = (D.v (.int IntKind.i64 (intD (D.v (.int IntKind.i64 (Tok.kind tA))))))) ∧ (((D.v (.string (Tok.name tA))) = (D.v (.string (strD (D.v (.string (Tok.name tA))))))) ∧ (((D.sl []) = (D.sl (slD (D.sl [])))) ∧ (((D.v (.string (Tok.text tA))) = (D.v (.string (strD (D.v (.string (Tok.text tA))))))) ∧ True)))) ∧
     (∀ (c : List D), (c ∈ (slD (D.sl []))) → (List.length c) = (2 : Nat)) ∧
     (((0 : Int) ≤ (IntKind.wrap .i64 (((1 + (1 : Nat)) : Int) - (1 : Int)))) ∧ ((IntKind.wrap .i64 (((1 + (1 : Nat)) : Int) - (1 : Int))) < ((1 + (1 : Nat)) : Int))) ∧
     ((Int.toNat (IntKind.wrap .i64 (((1 + (1 : Nat)) : Int) - (1 : Int)))) < 2) ∧
     (((0 : Int) ≤ (IntKind.wrap .i64 (((1 + (1 : Nat)) : Int) - (1 : Int)))) ∧ ((IntKind.wrap .i64 (((1 + (1 : Nat)) : Int) - (1 : Int))) < ((1 + (1 : Nat)) : Int))) ∧
     ((Int.toNat (IntKind.wrap .i64 (((1 + (1 : Nat)) : Int) - (1 : Int)))) < 2) ∧
     (((0 : Int) ≤ (IntKind.wrap .i64 (((1 + (1 : Nat)) : Int) - (1 : Int)))) ∧ ((IntKind.wrap .i64 (((1 + (1 : Nat)) : Int) - (1 : Int))) < ((1 + (1 : Nat)) : Int))) ∧
     ((Int.toNat (IntKind.wrap .i64 (((1 + (1 : Nat)) : Int) - (1 : Int)))) < 2) ∧
     (∀ (c : List D), (c ∈ [[D.v (.string ⟨#[]⟩), D.sl [], D.v (.string ⟨#[]⟩), D.sl []]]) → (List.length c) = 4) ∧
     (1 ≤ LIM) ∧
     ((1 + (1 : Nat)) = 2) ∧
     ((2 + 1) ≤ LIM) ∧ (
      (7 ≤ LIM) →
      (((0 : Int) ≤ ((2 + (1 : Nat)) : Int)) ∧ (((2 + (1 : Nat)) : Int) < (7 : Int))) ∧
      (4 = 4) ∧
      (4 ≤ 4) ∧
      (((D.v (.int IntKind.i64 (Tok.kind tA))) = (D.v (.int IntKind.i64 (intD (D.v (.int IntKind.i64 (Tok.kind tA))))))) ∧ (((D.v (.string (Tok.name tA))) = (D.v (.string (strD (D.v (.string (Tok.name tA))))))) ∧ (((D.sl []) = (D.sl (slD (D.sl [])))) ∧ (((D.v (.string (Tok.text tA))) = (D.v (.string (strD (D.v (.string (Tok.text tA))))))) ∧ True)))) ∧
      (∀ (c : List D), (c ∈ (slD (D.sl []))) → (List.length c) = (2 : Nat)) ∧
      (((0 : Int) ≤ (IntKind.wrap .i64 (((2 + (1 : Nat)) : Int) - (1 : Int)))) ∧ ((IntKind.wrap .i64 (((2 + (1 : Nat)) : Int) - (1 : Int))) < ((2 + (1 : Nat)) : Int))) ∧
      ((Int.toNat (IntKind.wrap .i64 (((2 + (1 : Nat)) : Int) - (1 : Int)))) < 3) ∧
      (((0 : Int) ≤ (IntKind.wrap .i64 (((2 + (1 : Nat)) : Int) - (1 : Int)))) ∧ ((IntKind.wrap .i64 (((2 + (1 : Nat)) : Int) - (1 : Int))) < ((2 + (1 : Nat)) : Int))) ∧
      ((Int.toNat (IntKind.wrap .i64 (((2 + (1 : Nat)) : Int) - (1 : Int)))) < 3) ∧
      (((0 : Int) ≤ (IntKind.wrap .i64 (((2 + (1 : Nat)) : Int) - (1 : Int)))) ∧ ((IntKind.wrap .i64 (((2 + (1 : Nat)) : Int) - (1 : Int))) < ((2 + (1 : Nat)) : Int))) ∧
      ((Int.toNat (IntKind.wrap .i64 (((2 + (1 : Nat)) : Int) - (1 : Int)))) < 3) ∧
      (∀ (c : List D), (c ∈ [[D.v (.string ⟨#[]⟩), D.sl [], D.v (.string ⟨#[]⟩), D.sl []]]) → (List.length c) = 4) ∧
      (1 ≤ LIM) ∧
      ((2 + (1 : Nat)) = 3) ∧
      ((3 + 1) ≤ LIM) ∧ (
       (7 ≤ LIM) →
       (((0 : Int) ≤ ((3 + (1 : Nat)) : Int)) ∧ (((3 + (1 : Nat)) : Int) < (7 : Int))) ∧
       (4 = 4) ∧
       (4 ≤ 4) ∧
       (((D.v (.int IntKind.i64 (Tok.kind tZ))) = (D.v (.int IntKind.i64 (intD (D.v (.int IntKind.i64 (Tok.kind tZ))))))) ∧ (((D.v (.string (Tok.name tZ))) = (D.v (.string (strD (D.v (.string (Tok.name tZ))))))) ∧ (((D.sl []) = (D.sl (slD (D.sl [])))) ∧ (((D.v (.string (Tok.text tZ))) = (D.v (.string (strD (D.v (.string (Tok.text tZ))))))) ∧ True)))) ∧
       (((0 : Int) ≤ (IntKind.wrap .i64 (((3 + (1 : Nat)) : Int) - (1 : Int)))) ∧ ((IntKind.wrap .i64 (((3 + (1 : Nat)) : Int) - (1 : Int))) < ((3 + (1 : Nat)) : Int))) ∧
       ((Int.toNat (IntKind.wrap .i64 (((3 + (1 : Nat)) : Int) - (1 : Int)))) < 4) ∧
       (((0 : Int) ≤ (IntKind.wrap .i64 (((3 + (1 : Nat)) : Int) - (1 : Int)))) ∧ ((IntKind.wrap .i64 (((3 + (1 : Nat)) : Int) - (1 : Int))) ≤ ((3 + (1 : Nat)) : Int))) ∧
       (((0 : Int) ≤ (IntKind.wrap .i64 (((2 + (1 : Nat)) : Int) - (1 : Int)))) ∧ ((IntKind.wrap .i64 (((2 + (1 : Nat)) : Int) - (1 : Int))) < ((2 + (1 : Nat)) : Int))) ∧
       ((Int.toNat (IntKind.wrap .i64 (((2 + (1 : Nat)) : Int) - (1 : Int)))) < 3) ∧
       (((0 : Int) ≤ ((0 : Nat) : Int)) ∧ (((0 : Nat) : Int) < ((0 + (1 : Nat)) : Int))) ∧
       (((0 : Nat) < 1) ∧ (((0 : Nat) + 4) ≤ 4)) ∧ (
        (7 ≤ LIM) →
        (((0 : Int) ≤ ((4 + (1 : Nat)) : Int)) ∧ (((4 + (1 : Nat)) : Int) < (7 : Int))) ∧
        (4 = 4) ∧
        (4 ≤ 4) ∧
        (((D.v (.int IntKind.i64 (Tok.kind tZ))) = (D.v (.int IntKind.i64 (intD (D.v (.int IntKind.i64 (Tok.kind tZ))))))) ∧ (((D.v (.string (Tok.name tZ))) = (D.v (.string (strD (D.v (.string (Tok.name tZ))))))) ∧ (((D.sl []) = (D.sl (slD (D.sl [])))) ∧ (((D.v (.string (Tok.text tZ))) = (D.v (.string (strD (D.v (.string (Tok.text tZ))))))) ∧ True)))) ∧
        (((0 : Int) ≤ (IntKind.wrap .i64 (((2 + (1 : Nat)) : Int) - (1 : Int)))) ∧ ((IntKind.wrap .i64 (((2 + (1 : Nat)) : Int) - (1 : Int))) < ((2 + (1 : Nat)) : Int))) ∧
        ((Int.toNat (IntKind.wrap .i64 (((2 + (1 : Nat)) : Int) - (1 : Int)))) < 3) ∧
        (((0 : Int) ≤ (IntKind.wrap .i64 (((2 + (1 : Nat)) : Int) - (1 : Int)))) ∧ ((IntKind.wrap .i64 (((2 + (1 : Nat)) : Int) - (1 : Int))) ≤ ((2 + (1 : Nat)) : Int))) ∧
        (((0 : Int) ≤ (IntKind.wrap .i64 (((1 + (1 : Nat)) : Int) - (1 : Int)))) ∧ ((IntKind.wrap .i64 (((1 + (1 : Nat)) : Int) - (1 : Int))) < ((1 + (1 : Nat)) : Int))) ∧
        ((Int.toNat (IntKind.wrap .i64 (((1 + (1 : Nat)) : Int) - (1 : Int)))) < 2) ∧
        (((0 : Int) ≤ ((0 : Nat) : Int)) ∧ (((0 : Nat) : Int) < ((0 + (1 : Nat)) : Int))) ∧
        (((0 : Nat) < 1) ∧ (((0 : Nat) + 4) ≤ 4)) ∧ (
         (7 ≤ LIM) →
         (((0 : Int) ≤ ((5 + (1 : Nat)) : Int)) ∧ (((5 + (1 : Nat)) : Int) < (7 : Int))) ∧
         (4 = 4) ∧
         (4 ≤ 4) ∧
         (((D.v (.int IntKind.i64 (Tok.kind tZ))) = (D.v (.int IntKind.i64 (intD (D.v (.int IntKind.i64 (Tok.kind tZ))))))) ∧ (((D.v (.string (Tok.name tZ))) = (D.v (.string (strD (D.v (.string (Tok.name tZ))))))) ∧ (((D.sl []) = (D.sl (slD (D.sl [])))) ∧ (((D.v (.string (Tok.text tZ))) = (D.v (.string (strD (D.v (.string (Tok.text tZ))))))) ∧ True)))) ∧
         (((0 : Int) ≤ (IntKind.wrap .i64 (((1 + (1 : Nat)) : Int) - (1 : Int)))) ∧ ((IntKind.wrap .i64 (((1 + (1 : Nat)) : Int) - (1 : Int))) < ((1 + (1 : Nat)) : Int))) ∧
         ((Int.toNat (IntKind.wrap .i64 (((1 + (1 : Nat)) : Int) - (1 : Int)))) < 2) ∧
         (((0 : Int) ≤ (IntKind.wrap .i64 (((1 + (1 : Nat)) : Int) - (1 : Int)))) ∧ ((IntKind.wrap .i64 (((1 + (1 : Nat)) : Int) - (1 : Int))) ≤ ((1 + (1 : Nat)) : Int))) ∧
         (∀ (c : List D), (c ∈ [[D.v (.int IntKind.i64 ((1 + (1 : Nat)) : Int)), D.v (.string (strD (D.v (.string (Tok.name tA))))), D.sl (slD (D.sl [])), D.v (.string ⟨#[]⟩), D.sl [[D.v (.string (strD (D.v (.string (Tok.name tA))))), D.sl (slD (D.sl [])), D.v (.string ⟨#[]⟩), D.sl [[D.v (.string (strD (D.v (.string (Tok.name tA))))), D.sl (slD (D.sl [])), D.v (.string ⟨#[]⟩), D.sl []]]]]]]) → (List.length c) = 5) ∧
         ((0 + (1 : Nat)) = 1) ∧
         ((1 + 1) ≤ LIM) ∧ (
          (7 ≤ LIM) →
          q (AV.tp [AV.d (.sl [[D.v (.int IntKind.i64 ((0 + (1 : Nat)) : Int)), D.v (.string (strD (D.v (.string (Tok.name tS))))), D.sl (slD (D.sl [])), D.v (.string ⟨#[]⟩), D.sl []], [D.v (.int IntKind.i64 ((1 + (1 : Nat)) : Int)), D.v (.string (strD (D.v (.string (Tok.name tA))))), D.sl (slD (D.sl [])), D.v (.string ⟨#[]⟩), D.sl [[D.v (.string (strD (D.v (.string (Tok.name tA))))), D.sl (slD (D.sl [])), D.v (.string ⟨#[]⟩), D.sl [[D.v (.string (strD (D.v (.string (Tok.name tA))))), D.sl (slD (D.sl [])), D.v (.string ⟨#[]⟩), D.sl []]]]]]]), mkI .i64 ((0 : Nat) : Int), mkI .i64 ((0 + (1 : Nat)) : Int)])))))))))) := by kernel_rfl
theorem rRd4 (q : AV → Prop) :
  (aUnr KT GLvI 30 Tryz.b15 (kRet KT Tryz.f15.results.toList q) ⟨[mkS ⟨#[60, 115, 62, 60, 97, 62, 60, 97, 62, 60, 97, 62, 60, 97, 62, 60, 47, 97, 62, 60, 47, 97, 62, 60, 47, 97, 62, 60, 47, 97, 62]⟩] ++ List.replicate (Tryz.f15.ntmps - 1) .jk, []⟩) = (
  (([] : List AV) = []) ∧
  ([Ob.box [AV.vw (0 + 1) 0, mkB false, mkI .i64 0], Ob.row 1 [], Ob.gh [AV.rf 0 0]] = [Ob.box [AV.vw 1 0, mkB false, mkI .i64 0], Ob.row 1 [], Ob.gh [AV.rf 0 0]]) ∧
  ((Option.some (Ob.gh [AV.rf 0 0])) = (Option.some (Ob.gh [AV.rf 0 0]))) ∧ (
   (9 ≤ LIM) →
   (((0 : Int) ≤ ((0 : Nat) : Int)) ∧ (((0 : Nat) : Int) < (9 : Int))) ∧
   (4 = 4) ∧
   (4 ≤ 4) ∧
   (((D.v (.int IntKind.i64 (Tok.kind tS))) = (D.v (.int IntKind.i64 (intD (D.v (.int IntKind.i64 (Tok.kind tS))))))) ∧ (((D.v (.string (Tok.name tS))) = (D.v (.string (strD (D.v (.string (Tok.name tS))))))) ∧ (((D.sl []) = (D.sl (slD (D.sl [])))) ∧ (((D.v (.string (Tok.text tS))) = (D.v (.string (strD (D.v (.string (Tok.text tS))))))) ∧ True)))) ∧
   (∀ (c : List D), (c ∈ (slD (D.sl []))) → (List.length c) = (2 : Nat)) ∧
   (1 ≤ LIM) ∧
   (∀ (c : List D), (c ∈ (slD (D.sl []))) → (List.length c) = (2 : Nat)) ∧
   (∀ (c : List D), (c ∈ [[D.v (.int IntKind.i64 ((0 + (1 : Nat)) : Int)), D.v (.string (strD (D.v (.string (Tok.name tS))))), D.sl (slD (D.sl [])), D.v (.string ⟨#[]⟩), D.sl []]]) → (List.length c) = 5) ∧
   (1 ≤ LIM) ∧ (
    (9 ≤ LIM) →
    (((0 : Int) ≤ ((0 + (1 : Nat)) : Int)) ∧ (((0 + (1 : Nat)) : Int) < (9 : Int))) ∧
    (4 = 4) ∧
    (4 ≤ 4) ∧
    (((D.v (.int IntKind.i64 (Tok.kind tA))) = (D.v (.int IntKind.i64 (intD (D.v (.int IntKind.i64 (Tok.kind tA))))))) ∧ (((D.v (.string (Tok.name tA))) = (D.v (.string (strD (D.v (.string (Tok.name tA))))))) ∧ (((D.sl []) = (D.sl (slD (D.sl [])))) ∧ (((D.v (.string (Tok.text tA))) = (D.v (.string (strD (D.v (.string (Tok.text tA))))))) ∧ True)))) ∧
    (∀ (c : List D), (c ∈ (slD (D.sl []))) → (List.length c) = (2 : Nat)) ∧
    ((0 + (1 : Nat)) = 1) ∧
    ((1 + 1) ≤ LIM) ∧ (
     (9 ≤ LIM) →
     (((0 : Int) ≤ ((1 + (1 : Nat)) : Int)) ∧ (((1 + (1 : Nat)) : Int) < (9 : Int))) ∧
     (4 = 4) ∧
     (4 ≤ 4) ∧
     (((D.v (.int IntKind.i64 (Tok.kind tA))) = (D.v (.int IntKind.i64 (intD (D.v (.int IntKind.i64 (Tok.kind tA))))))) ∧ (((D.v (.string (Tok.name tA))) = (D.v (.string (strD (D.v (.string (Tok.name tA))))))) ∧ (((D.sl []) = (D.sl (slD (D.sl [])))) ∧ (((D.v (.string (Tok.text tA))) = (D.v (.string (strD (D.v (.string (Tok.text tA))))))) ∧ True)))) ∧
     (∀ (c : List D), (c ∈ (slD (D.sl []))) → (List.length c) = (2 : Nat)) ∧
     (((0 : Int) ≤ (IntKind.wrap .i64 (((1 + (1 : Nat)) : Int) - (1 : Int)))) ∧ ((IntKind.wrap .i64 (((1 + (1 : Nat)) : Int) - (1 : Int))) < ((1 + (1 : Nat)) : Int))) ∧
     ((Int.toNat (IntKind.wrap .i64 (((1 + (1 : Nat)) : Int) - (1 : Int)))) < 2) ∧
     (((0 : Int) ≤ (IntKind.wrap .i64 (((1 + (1 : Nat)) : Int) - (1 : Int)))) ∧ ((IntKind.wrap .i64 (((1 + (1 : Nat)) : Int) - (1 : Int))) < ((1 + (1 : Nat)) : Int))) ∧
     ((Int.toNat (IntKind.wrap .i64 (((1 + (1 : Nat)) : Int) - (1 : Int)))) < 2) ∧
     (((0 : Int) ≤ (IntKind.wrap .i64 (((1 + (1 : Nat)) : Int) - (1 : Int)))) ∧ ((IntKind.wrap .i64 (((1 + (1 : Nat)) : Int) - (1 : Int))) < ((1 + (1 : Nat)) : Int))) ∧
     ((Int.toNat (IntKind.wrap .i64 (((1 + (1 : Nat)) : Int) - (1 : Int)))) < 2) ∧
     (∀ (c : List D), (c ∈ [[D.v (.string ⟨#[]⟩), D.sl [], D.v (.string ⟨#[]⟩), D.sl []]]) → (List.length c) = 4) ∧
     (1 ≤ LIM) ∧
     ((1 + (1 : Nat)) = 2) ∧
     ((2 + 1) ≤ LIM) ∧ (
      (9 ≤ LIM) →
      (((0 : Int) ≤ ((2 + (1 : Nat)) : Int)) ∧ (((2 + (1 : Nat)) : Int) < (9 : Int))) ∧
      (4 = 4) ∧
      (4 ≤ 4) ∧
      (((D.v (.int IntKind.i64 (Tok.kind tA))) = (D.v (.int IntKind.i64 (intD (D.v (.int IntKind.i64 (Tok.kind tA))))))) ∧ (((D.v (.string (Tok.name tA))) = (D.v (.string (strD (D.v (.string (Tok.name tA))))))) ∧ (((D.sl []) = (D.sl (slD (D.sl [])))) ∧ (((D.v (.string (Tok.text tA))) = (D.v (.string (strD (D.v (.string (Tok.text tA))))))) ∧ True)))) ∧
      (∀ (c : List D), (c ∈ (slD (D.sl []))) → (List.length c) = (2 : Nat)) ∧
      (((0 : Int) ≤ (IntKind.wrap .i64 (((2 + (1 : Nat)) : Int) - (1 : Int)))) ∧ ((IntKind.wrap .i64 (((2 + (1 : Nat)) : Int) - (1 : Int))) < ((2 + (1 : Nat)) : Int))) ∧
      ((Int.toNat (IntKind.wrap .i64 (((2 + (1 : Nat)) : Int) - (1 : Int)))) < 3) ∧
      (((0 : Int) ≤ (IntKind.wrap .i64 (((2 + (1 : Nat)) : Int) - (1 : Int)))) ∧ ((IntKind.wrap .i64 (((2 + (1 : Nat)) : Int) - (1 : Int))) < ((2 + (1 : Nat)) : Int))) ∧
      ((Int.toNat (IntKind.wrap .i64 (((2 + (1 : Nat)) : Int) - (1 : Int)))) < 3) ∧
      (((0 : Int) ≤ (IntKind.wrap .i64 (((2 + (1 : Nat)) : Int) - (1 : Int)))) ∧ ((IntKind.wrap .i64 (((2 + (1 : Nat)) : Int) - (1 : Int))) < ((2 + (1 : Nat)) : Int))) ∧
      ((Int.toNat (IntKind.wrap .i64 (((2 + (1 : Nat)) : Int) - (1 : Int)))) < 3) ∧
      (∀ (c : List D), (c ∈ [[D.v (.string ⟨#[]⟩), D.sl [], D.v (.string ⟨#[]⟩), D.sl []]]) → (List.length c) = 4) ∧
      (1 ≤ LIM) ∧
      ((2 + (1 : Nat)) = 3) ∧
      ((3 + 1) ≤ LIM) ∧ (
       (9 ≤ LIM) →
       (((0 : Int) ≤ ((3 + (1 : Nat)) : Int)) ∧ (((3 + (1 : Nat)) : Int) < (9 : Int))) ∧
       (4 = 4) ∧
       (4 ≤ 4) ∧
       (((D.v (.int IntKind.i64 (Tok.kind tA))) = (D.v (.int IntKind.i64 (intD (D.v (.int IntKind.i64 (Tok.kind tA))))))) ∧ (((D.v (.string (Tok.name tA))) = (D.v (.string (strD (D.v (.string (Tok.name tA))))))) ∧ (((D.sl []) = (D.sl (slD (D.sl [])))) ∧ (((D.v (.string (Tok.text tA))) = (D.v (.string (strD (D.v (.string (Tok.text tA))))))) ∧ True)))) ∧
       (∀ (c : List D), (c ∈ (slD (D.sl []))) → (List.length c) = (2 : Nat)) ∧
       (((0 : Int) ≤ (IntKind.wrap .i64 (((3 + (1 : Nat)) : Int) - (1 : Int)))) ∧ ((IntKind.wrap .i64 (((3 + (1 : Nat)) : Int) - (1 : Int))) < ((3 + (1 : Nat)) : Int))) ∧
       ((Int.toNat (IntKind.wrap .i64 (((3 + (1 : Nat)) : Int) - (1 : Int)))) < 4) ∧
       (((0 : Int) ≤ (IntKind.wrap .i64 (((3 + (1 : Nat)) : Int) - (1 : Int)))) ∧ ((IntKind.wrap .i64 (((3 + (1 : Nat)) : Int) - (1 : Int))) < ((3 + (1 : Nat)) : Int))) ∧
       ((Int.toNat (IntKind.wrap .i64 (((3 + (1 : Nat)) : Int) - (1 : Int)))) < 4) ∧
       (((0 : Int) ≤ (IntKind.wrap .i64 (((3 + (1 : Nat)) : Int) - (1 : Int)))) ∧ ((IntKind.wrap .i64 (((3 + (1 : Nat)) : Int) - (1 : Int))) < ((3 + (1 : Nat)) : Int))) ∧
       ((Int.toNat (IntKind.wrap .i64 (((3 + (1 : Nat)) : Int) - (1 : Int)))) < 4) ∧
       (∀ (c : List D), (c ∈ [[D.v (.string ⟨#[]⟩), D.sl [], D.v (.string ⟨#[]⟩), D.sl []]]) → (List.length c) = 4) ∧
       (1 ≤ LIM) ∧
       ((3 + (1 : Nat)) = 4) ∧
       ((4 + 1) ≤ LIM) ∧ (
        (9 ≤ LIM) →
        (((0 : Int) ≤ ((4 + (1 : Nat)) : Int)) ∧ (((4 + (1 : Nat)) : Int) < (9 : Int))) ∧
        (4 = 4) ∧
        (4 ≤ 4) ∧
        (((D.v (.int IntKind.i64 (Tok.kind tZ))) = (D.v (.int IntKind.i64 (intD (D.v (.int IntKind.i64 (Tok.kind tZ))))))) ∧ (((D.v (.string (Tok.name tZ))) = (D.v (.string (strD (D.v (.string (Tok.name tZ))))))) ∧ (((D.sl []) = (D.sl (slD (D.sl [])))) ∧ (((D.v (.string (Tok.text tZ))) = (D.v (.string (strD (D.v (.string (Tok.text tZ))))))) ∧ True)))) ∧
        (((0 : Int) ≤ (IntKind.wrap .i64 (((4 + (1 : Nat)) : Int) - (1 : Int)))) ∧ ((IntKind.wrap .i64 (((4 + (1 : Nat)) : Int) - (1 : Int))) < ((4 + (1 : Nat)) : Int))) ∧
        ((Int.toNat (IntKind.wrap .i64 (((4 + (1 : Nat)) : Int) - (1 : Int)))) < 5) ∧
        (((0 : Int) ≤ (IntKind.wrap .i64 (((4 + (1 : Nat)) : Int) - (1 : Int)))) ∧ ((IntKind.wrap .i64 (((4 + (1 : Nat)) : Int) - (1 : Int))) ≤ ((4 + (1 : Nat)) : Int))) ∧
        (((0 : Int) ≤ (IntKind.wrap .i64 (((3 + (1 : Nat)) : Int) - (1 : Int)))) ∧ ((IntKind.wrap .i64 (((3 + (1 : Nat)) : Int) - (1 : Int))) < ((3 + (1 : Nat)) : Int))) ∧
        ((Int.toNat (IntKind.wrap .i64 (((3 + (1 : Nat)) : Int) - (1 : Int)))) < 4) ∧
        (((0 : Int) ≤ ((0 : Nat) : Int)) ∧ (((0 : Nat) : Int) < ((0 + (1 : Nat)) : Int))) ∧
        (((0 : Nat) < 1) ∧ (((0 : Nat) + 4) ≤ 4)) ∧ (
         (9 ≤ LIM) →
         (((0 : Int) ≤ ((5 + (1 : Nat)) : Int)) ∧ (((5 + (1 : Nat)) : Int) < (9 : Int))) ∧
         (4 = 4) ∧
         (4 ≤ 4) ∧
         (((D.v (.int IntKind.i64 (Tok.kind tZ))) = (D.v (.int IntKind.i64 (intD (D.v (.int IntKind.i64 (Tok.kind tZ))))))) ∧ (((D.v (.string (Tok.name tZ))) = (D.v (.string (strD (D.v (.string (Tok.name tZ))))))) ∧ (((D.sl []) = (D.sl (slD (D.sl [])))) ∧ (((D.v (.string (Tok.text tZ))) = (D.v (.string (strD (D.v (.string (Tok.text tZ))))))) ∧ True)))) ∧
         (((0 : Int) ≤ (IntKind.wrap .i64 (((3 + (1 : Nat)) : Int) - (1 : Int)))) ∧ ((IntKind.wrap .i64 (((3 + (1 : Nat)) : Int) - (1 : Int))) < ((3 + (1 : Nat)) : Int))) ∧
         ((Int.toNat (IntKind.wrap .i64 (((3 + (1 : Nat)) : Int) - (1 : Int)))) < 4) ∧
         (((0 : Int) ≤ (IntKind.wrap .i64 (((3 + (1 : Nat)) : Int) - (1 : Int)))) ∧ ((IntKind.wrap .i64 (((3 + (1 : Nat)) : Int) - (1 : Int))) ≤ ((3 + (1 : Nat)) : Int))) ∧
         (((0 : Int) ≤ (IntKind.wrap .i64 (((2 + (1 : Nat)) : Int) - (1 : Int)))) ∧ ((IntKind.wrap .i64 (((2 + (1 : Nat)) : Int) - (1 : Int))) < ((2 + (1 : Nat)) : Int))) ∧
         ((Int.toNat (IntKind.wrap .i64 (((2 + (1 : Nat)) : Int) - (1 : Int)))) < 3) ∧
         (((0 : Int) ≤ ((0 : Nat) : Int)) ∧ (((0 : Nat) : Int) < ((0 + (1 : Nat)) : Int))) ∧
         (((0 : Nat) < 1) ∧ (((0 : Nat) + 4) ≤ 4)) ∧ (
          (9 ≤ LIM) →
          (((0 : Int) ≤ ((6 + (1 : Nat)) : Int)) ∧ (((6 + (1 : Nat)) : Int) < (9 : Int))) ∧
          (4 = 4) ∧
          (4 ≤ 4) ∧
          (((D.v (.int IntKind.i64 (Tok.kind tZ))) = (D.v (.int IntKind.i64 (intD (D.v (.int IntKind.i64 (Tok.kind tZ))))))) ∧ (((D.v (.string (Tok.name tZ))) = (D.v (.string (strD (D.v (.string (Tok.name tZ))))))) ∧ (((D.sl []) = (D.sl (slD (D.sl [])))) ∧ (((D.v (.string (Tok.text tZ))) = (D.v (.string (strD (D.v (.string (Tok.text tZ))))))) ∧ True)))) ∧
          (((0 : Int) ≤ (IntKind.wrap .i64 (((2 + (1 : Nat)) : Int) - (1 : Int)))) ∧ ((IntKind.wrap .i64 (((2 + (1 : Nat)) : Int) - (1 : Int))) < ((2 + (1 : Nat)) : Int))) ∧
          ((Int.toNat (IntKind.wrap .i64 (((2 + (1 : Nat)) : Int) - (1 : Int)))) < 3) ∧
          (((0 : Int) ≤ (IntKind.wrap .i64 (((2 + (1 : Nat)) : Int) - (1 : Int)))) ∧ ((IntKind.wrap .i64 (((2 + (1 : Nat)) : Int) - (1 : Int))) ≤ ((2 + (1 : Nat)) : Int))) ∧
          (((0 : Int) ≤ (IntKind.wrap .i64 (((1 + (1 : Nat)) : Int) - (1 : Int)))) ∧ ((IntKind.wrap .i64 (((1 + (1 : Nat)) : Int) - (1 : Int))) < ((1 + (1 : Nat)) : Int))) ∧
          ((Int.toNat (IntKind.wrap .i64 (((1 + (1 : Nat)) : Int) - (1 : Int)))) < 2) ∧
          (((0 : Int) ≤ ((0 : Nat) : Int)) ∧ (((0 : Nat) : Int) < ((0 + (1 : Nat)) : Int))) ∧
          (((0 : Nat) < 1) ∧ (((0 : Nat) + 4) ≤ 4)) ∧ (
           (9 ≤ LIM) →
           (((0 : Int) ≤ ((7 + (1 : Nat)) : Int)) ∧ (((7 + (1 : Nat)) : Int) < (9 : Int))) ∧
           (4 = 4) ∧
           (4 ≤ 4) ∧
           (((D.v (.int IntKind.i64 (Tok.kind tZ))) = (D.v (.int IntKind.i64 (intD (D.v (.int IntKind.i64 (Tok.kind tZ))))))) ∧ (((D.v (.string (Tok.name tZ))) = (D.v (.string (strD (D.v (.string (Tok.name tZ))))))) ∧ (((D.sl []) = (D.sl (slD (D.sl [])))) ∧ (((D.v (.string (Tok.text tZ))) = (D.v (.string (strD (D.v (.string (Tok.text tZ))))))) ∧ True)))) ∧
           (((0 : Int) ≤ (IntKind.wrap .i64 (((1 + (1 : Nat)) : Int) - (1 : Int)))) ∧ ((IntKind.wrap .i64 (((1 + (1 : Nat)) : Int) - (1 : Int))) < ((1 + (1 : Nat)) : Int))) ∧
           ((Int.toNat (IntKind.wrap .i64 (((1 + (1 : Nat)) : Int) - (1 : Int)))) < 2) ∧
           (((0 : Int) ≤ (IntKind.wrap .i64 (((1 + (1 : Nat)) : Int) - (1 : Int)))) ∧ ((IntKind.wrap .i64 (((1 + (1 : Nat)) : Int) - (1 : Int))) ≤ ((1 + (1 : Nat)) : Int))) ∧
           (∀ (c : List D), (c ∈ [[D.v (.int IntKind.i64 ((1 + (1 : Nat)) : Int)), D.v (.string (strD (D.v (.string (Tok.name tA))))), D.sl (slD (D.sl [])), D.v (.string ⟨#[]⟩), D.sl [[D.v (.string (strD (D.v (.string (Tok.name tA))))), D.sl (slD (D.sl [])), D.v (.string ⟨#[]⟩), D.sl [[D.v (.string (strD (D.v (.string (Tok.name tA))))), D.sl (slD (D.sl [])), D.v (.string ⟨#[]⟩), D.sl [[D.v (.string (strD (D.v (.string (Tok.name tA))))), D.sl (slD (D.sl [])), D.v (.string ⟨#[]⟩), D.sl []]]]]]]]]) → (List.length c) = 5) ∧
           ((0 + (1 : Nat)) = 1) ∧
           ((1 + 1) ≤ LIM) ∧ (
            (9 ≤ LIM) →
            q (AV.tp [AV.d (.sl [[D.v (.int IntKind.i64 ((0 + (1 : Nat)) : Int)), D.v (.string (strD (D.v (.string (Tok.name tS))))), D.sl (slD (D.sl [])), D.v (.string ⟨#[]⟩), D.sl []], [D.v (.int IntKind.i64 ((1 + (1 : Nat)) : Int)), D.v (.string (strD (D.v (.string (Tok.name tA))))), D.sl (slD (D.sl [])), D.v (.string ⟨#[]⟩), D.sl [[D.v (.string (strD (D.v (.string (Tok.name tA))))), D.sl (slD (D.sl [])), D.v (.string ⟨#[]⟩), D.sl [[D.v (.string (strD (D.v (.string (Tok.name tA))))), D.sl (slD (D.sl [])), D.v (.string ⟨#[]⟩), D.sl [[D.v (.string (strD (D.v (.string (Tok.name tA))))), D.sl (slD (D.sl [])), D.v (.string ⟨#[]⟩), D.sl []]]]]]]]]), mkI .i64 ((0 : Nat) : Int), mkI .i64 ((0 + (1 : Nat)) : Int)])))))))))))) := by kernel_rfl
theorem rRd5 (q : AV → Prop) :
  (aUnr KT GLvI 30 Tryz.b15 (kRet KT Tryz.f15.results.toList q) ⟨[mkS ⟨#[60, 115, 62, 60, 97, 62, 60, 97, 62, 60, 97, 62, 60, 97, 62, 60, 97, 62, 60, 47, 97, 62, 60, 47, 97, 62, 60, 47, 97, 62, 60, 47, 97, 62, 60, 47, 97, 62]⟩] ++ List.replicate (Tryz.f15.ntmps - 1) .jk, []⟩) = (
  (([] : List AV) = []) ∧
  ([Ob.box [AV.vw (0 + 1) 0, mkB false, mkI .i64 0], Ob.row 1 [], Ob.gh [AV.rf 0 0]] = [Ob.box [AV.vw 1 0, mkB false, mkI .i64 0], Ob.row 1 [], Ob.gh [AV.rf 0 0]]) ∧
  ((Option.some (Ob.gh [AV.rf 0 0])) = (Option.some (Ob.gh [AV.rf 0 0]))) ∧ (
   (11 ≤ LIM) →
   (((0 : Int) ≤ ((0 : Nat) : Int)) ∧ (((0 : Nat) : Int) < (11 : Int))) ∧
   (4 = 4) ∧
   (4 ≤ 4) ∧
   (((D.v (.int IntKind.i64 (Tok.kind tS))) = (D.v (.int IntKind.i64 (intD (D.v (.int IntKind.i64 (Tok.kind tS))))))) ∧ (((D.v (.string (Tok.name tS))) = (D.v (.string (strD (D.v (.string (Tok.name tS))))))) ∧ (((D.sl []) = (D.sl (slD (D.sl [])))) ∧ (((D.v (.string (Tok.text tS))) = (D.v (.string (strD (D.v (.string (Tok.text tS))))))) ∧ True)))) ∧
   (∀ (c : List D), (c ∈ (slD (D.sl []))) → (List.length c) = (2 : Nat)) ∧
   (1 ≤ LIM) ∧
   (∀ (c : List D), (c ∈ (slD (D.sl []))) → (List.length c) = (2 : Nat)) ∧
   (∀ (c : List D), (c ∈ [[D.v (.int IntKind.i64 ((0 + (1 : Nat)) : Int)), D.v (.string (strD (D.v (.string (Tok.name tS))))), D.sl (slD (D.sl [])), D.v (.string ⟨#[]⟩), D.sl []]]) → (List.length c) = 5) ∧
   (1 ≤ LIM) ∧ (
    (11 ≤ LIM) →
    (((0 : Int) ≤ ((0 + (1 : Nat)) : Int)) ∧ (((0 + (1 : Nat)) : Int) < (11 : Int))) ∧
    (4 = 4) ∧
    (4 ≤ 4) ∧
    (((D.v (.int IntKind.i64 (Tok.kind tA))) = (D.v (.int IntKind.i64 (intD (D.v (.int IntKind.i64 (Tok.kind tA))))))) ∧ (((D.v (.string (Tok.name tA))) = (D.v (.string (strD (D.v (.string (Tok.name tA))))))) ∧ (((D.sl []) = (D.sl (slD (D.sl [])))) ∧ (((D.v (.string (Tok.text tA))) = (D.v (.string (strD (D.v (.string (Tok.text tA))))))) ∧ True)))) ∧
    (∀ (c : List D), (c ∈ (slD (D.sl []))) → (List.length c) = (2 : Nat)) ∧
    ((0 + (1 : Nat)) = 1) ∧
    ((1 + 1) ≤ LIM) ∧ (
     (11 ≤ LIM) →
     (((0 : Int) ≤ ((1 + (1 : Nat)) : Int)) ∧ (((1 + (1 : Nat)) : Int) < (11 : Int))) ∧
     (4 = 4) ∧
     (4 ≤ 4) ∧
     (((D.v (.int IntKind.i64 (Tok.kind tA))) = (D.v (.int IntKind.i64 (intD (D.v (.int IntKind.i64 (Tok.kind tA))))))) ∧ (((D.v (.string (Tok.name tA))) = (D.v (.string (strD (D.v (.string (Tok.name tA))))))) ∧ (((D.sl []) = (D.sl (slD (D.sl [])))) ∧ (((D.v (.string (Tok.text tA))) = (D.v (.string (strD (D.v (.string (Tok.text tA))))))) ∧ True)))) ∧
     (∀ (c : List D), (c ∈ (slD (D.sl []))) → (List.length c) = (2 : Nat)) ∧
     (((0 : Int) ≤ (IntKind.wrap .i64 (((1 + (1 : Nat)) : Int) - (1 : Int)))) ∧ ((IntKind.wrap .i64 (((1 + (1 : Nat)) : Int) - (1 : Int))) < ((1 + (1 : Nat)) : Int))) ∧
     ((Int.toNat (IntKind.wrap .i64 (((1 + (1 : Nat)) : Int) - (1 : Int)))) < 2) ∧
     (((0 : Int) ≤ (IntKind.wrap .i64 (((1 + (1 : Nat)) : Int) - (1 : Int)))) ∧ ((IntKind.wrap .i64 (((1 + (1 : Nat)) : Int) - (1 : Int))) < ((1 + (1 : Nat)) : Int))) ∧
     ((Int.toNat (IntKind.wrap .i64 (((1 + (1 : Nat)) : Int) - (1 : Int)))) < 2) ∧
     (((0 : Int) ≤ (IntKind.wrap .i64 (((1 + (1 : Nat)) : Int) - (1 : Int)))) ∧ ((IntKind.wrap .i64 (((1 + (1 : Nat)) : Int) - (1 : Int))) < ((1 + (1 : Nat)) : Int))) ∧
     ((Int.toNat (IntKind.wrap .i64 (((1 + (1 : Nat)) : Int) - (1 : Int)))) < 2) ∧
     (∀ (c : List D), (c ∈ [[D.v (.string ⟨#[]⟩), D.sl [], D.v (.string ⟨#[]⟩), D.sl []]]) → (List.length c) = 4) ∧
     (1 ≤ LIM) ∧
     ((1 + (1 : Nat)) = 2) ∧
     ((2 + 1) ≤ LIM) ∧ (
      (11 ≤ LIM) →
      (((0 : Int) ≤ ((2 + (1 : Nat)) : Int)) ∧ (((2 + (1 : Nat)) : Int) < (11 : Int))) ∧
      (4 = 4) ∧
      (4 ≤ 4) ∧
      (((D.v (.int IntKind.i64 (Tok.kind tA))) = (D.v (.int IntKind.i64 (intD (D.v (.int IntKind.i64 (Tok.kind tA))))))) ∧ (((D.v (.string (Tok.name tA))) = (D.v (.string (strD (D.v (.string (Tok.name tA))))))) ∧ (((D.sl []) = (D.sl (slD (D.sl [])))) ∧ (((D.v (.string (Tok.text tA))) = (D.v (.string (strD (D.v (.string (Tok.text tA))))))) ∧ True)))) ∧
      (∀ (c : List D), (c ∈ (slD (D.sl []))) → (List.length c) = (2 : Nat)) ∧
      (((0 : Int) ≤ (IntKind.wrap .i64 (((2 + (1 : Nat)) : Int) - (1 : Int)))) ∧ ((IntKind.wrap .i64 (((2 + (1 : Nat)) : Int) - (1 : Int))) < ((2 + (1 : Nat)) : Int))) ∧
      ((Int.toNat (IntKind.wrap .i64 (((2 + (1 : Nat)) : Int) - (1 : Int)))) < 3) ∧
      (((0 : Int) ≤ (IntKind.wrap .i64 (((2 + (1 : Nat)) : Int) - (1 : Int)))) ∧ ((IntKind.wrap .i64 (((2 + (1 : Nat)) : Int) - (1 : Int))) < ((2 + (1 : Nat)) : Int))) ∧
      ((Int.toNat (IntKind.wrap .i64 (((2 + (1 : Nat)) : Int) - (1 : Int)))) < 3) ∧
      (((0 : Int) ≤ (IntKind.wrap .i64 (((2 + (1 : Nat)) : Int) - (1 : Int)))) ∧ ((IntKind.wrap .i64 (((2 + (1 : Nat)) : Int) - (1 : Int))) < ((2 + (1 : Nat)) : Int))) ∧
      ((Int.toNat (IntKind.wrap .i64 (((2 + (1 : Nat)) : Int) - (1 : Int)))) < 3) ∧
      (∀ (c : List D), (c ∈ [[D.v (.string ⟨#[]⟩), D.sl [], D.v (.string ⟨#[]⟩), D.sl []]]) → (List.length c) = 4) ∧
      (1 ≤ LIM) ∧
      ((2 + (1 : Nat)) = 3) ∧
      ((3 + 1) ≤ LIM) ∧ (
       (11 ≤ LIM) →
       (((0 : Int) ≤ ((3 + (1 : Nat)) : Int)) ∧ (((3 + (1 : Nat)) : Int) < (11 : Int))) ∧
       (4 = 4) ∧
       (4 ≤ 4) ∧
       (((D.v (.int IntKind.i64 (Tok.kind tA))) = (D.v (.int IntKind.i64 (intD (D.v (.int IntKind.i64 (Tok.kind tA))))))) ∧ (((D.v (.string (Tok.name tA))) = (D.v (.string (strD (D.v (.string (Tok.name tA))))))) ∧ (((D.sl []) = (D.sl (slD (D.sl [])))) ∧ (((D.v (.string (Tok.text tA))) = (D.v (.string (strD (D.v (.string (Tok.text tA))))))) ∧ True)))) ∧
       (∀ (c : List D), (c ∈ (slD (D.sl []))) → (List.length c) = (2 : Nat)) ∧
       (((0 : Int) ≤ (IntKind.wrap .i64 (((3 + (1 : Nat)) : Int) - (1 : Int)))) ∧ ((IntKind.wrap .i64 (((3 + (1 : Nat)) : Int) - (1 : Int))) < ((3 + (1 : Nat)) : Int))) ∧
       ((Int.toNat (IntKind.wrap .i64 (((3 + (1 : Nat)) : Int) - (1 : Int)))) < 4) ∧
       (((0 : Int) ≤ (IntKind.wrap .i64 (((3 + (1 : Nat)) : Int) - (1 : Int)))) ∧ ((IntKind.wrap .i64 (((3 + (1 : Nat)) : Int) - (1 : Int))) < ((3 + (1 : Nat)) : Int))) ∧
       ((Int.toNat (IntKind.wrap .i64 (((3 + (1 : Nat)) : Int) - (1 : Int)))) < 4) ∧
       (((0 : Int) ≤ (IntKind.wrap .i64 (((3 + (1 : Nat)) : Int) - (1 : Int)))) ∧ ((IntKind.wrap .i64 (((3 + (1 : Nat)) : Int) - (1 : Int))) < ((3 + (1 : Nat)) : Int))) ∧
       ((Int.toNat (IntKind.wrap .i64 (((3 + (1 : Nat)) : Int) - (1 : Int)))) < 4) ∧
       (∀ (c : List D), (c ∈ [[D.v (.string ⟨#[]⟩), D.sl [], D.v (.string ⟨#[]⟩), D.sl []]]) → (List.length c) = 4) ∧
       (1 ≤ LIM) ∧
       ((3 + (1 : Nat)) = 4) ∧
       ((4 + 1) ≤ LIM) ∧ (
        (11 ≤ LIM) →
        (((0 : Int) ≤ ((4 + (1 : Nat)) : Int)) ∧ (((4 + (1 : Nat)) : Int) < (11 : Int))) ∧
        (4 = 4) ∧
        (4 ≤ 4) ∧
        (((D.v (.int IntKind.i64 (Tok.kind tA))) = (D.v (.int IntKind.i64 (intD (D.v (.int IntKind.i64 (Tok.kind tA))))))) ∧ (((D.v (.string (Tok.name tA))) = (D.v (.string (strD (D.v (.string (Tok.name tA))))))) ∧ (((D.sl []) = (D.sl (slD (D.sl [])))) ∧ (((D.v (.string (Tok.text tA))) = (D.v (.string (strD (D.v (.string (Tok.text tA))))))) ∧ True)))) ∧
        (∀ (c : List D), (c ∈ (slD (D.sl []))) → (List.length c) = (2 : Nat)) ∧
        q (AV.tp [AV.d (.sl [[D.v (.int IntKind.i64 ((0 + (1 : Nat)) : Int)), D.v (.string (strD (D.v (.string (Tok.name tS))))), D.sl (slD (D.sl [])), D.v (.string ⟨#[]⟩), D.sl []]]), mkI .i64 ((4 + (1 : Nat)) : Int), mkI .i64 ((0 : Nat) : Int)])))))))) := by kernel_rfl
theorem rRd6 (q : AV → Prop) :
  (aUnr KT GLvI 30 Tryz.b15 (kRet KT Tryz.f15.results.toList q) ⟨[mkS ⟨#[60, 115, 62, 60, 97, 62, 60, 97, 62, 60, 97, 62, 60, 97, 62, 60, 97, 62, 60, 97, 62, 60, 47, 97, 62, 60, 47, 97, 62, 60, 47, 97, 62, 60, 47, 97, 62, 60, 47, 97, 62, 60, 47, 97, 62]⟩] ++ List.replicate (Tryz.f15.ntmps - 1) .jk, []⟩) = (
  (([] : List AV) = []) ∧
  ([Ob.box [AV.vw (0 + 1) 0, mkB false, mkI .i64 0], Ob.row 1 [], Ob.gh [AV.rf 0 0]] = [Ob.box [AV.vw 1 0, mkB false, mkI .i64 0], Ob.row 1 [], Ob.gh [AV.rf 0 0]]) ∧
  ((Option.some (Ob.gh [AV.rf 0 0])) = (Option.some (Ob.gh [AV.rf 0 0]))) ∧ (
   (13 ≤ LIM) →
   (((0 : Int) ≤ ((0 : Nat) : Int)) ∧ (((0 : Nat) : Int) < (13 : Int))) ∧
   (4 = 4) ∧
   (4 ≤ 4) ∧
   (((D.v (.int IntKind.i64 (Tok.kind tS))) = (D.v (.int IntKind.i64 (intD (D.v (.int IntKind.i64 (Tok.kind tS))))))) ∧ (((D.v (.string (Tok.name tS))) = (D.v (.string (strD (D.v (.string (Tok.name tS))))))) ∧ (((D.sl []) = (D.sl (slD (D.sl [])))) ∧ (((D.v (.string (Tok.text tS))) = (D.v (.string (strD (D.v (.string (Tok.text tS))))))) ∧ True)))) ∧
   (∀ (c : List D), (c ∈ (slD (D.sl []))) → (List.length c) = (2 : Nat)) ∧
   (1 ≤ LIM) ∧
   (∀ (c : List D), (c ∈ (slD (D.sl []))) → (List.length c) = (2 : Nat)) ∧
   (∀ (c : List D), (c ∈ [[D.v (.int IntKind.i64 ((0 + (1 : Nat)) : Int)), D.v (.string (strD (D.v (.string (Tok.name tS))))), D.sl (slD (D.sl [])), D.v (.string ⟨#[]⟩), D.sl []]]) → (List.length c) = 5) ∧
   (1 ≤ LIM) ∧ (
    (13 ≤ LIM) →
    (((0 : Int) ≤ ((0 + (1 : Nat)) : Int)) ∧ (((0 + (1 : Nat)) : Int) < (13 : Int))) ∧
    (4 = 4) ∧
    (4 ≤ 4) ∧
    (((D.v (.int IntKind.i64 (Tok.kind tA))) = (D.v (.int IntKind.i64 (intD (D.v (.int IntKind.i64 (Tok.kind tA))))))) ∧ (((D.v (.string (Tok.name tA))) = (D.v (.string (strD (D.v (.string (Tok.name tA))))))) ∧ (((D.sl []) = (D.sl (slD (D.sl [])))) ∧ (((D.v (.string (Tok.text tA))) = (D.v (.string (strD (D.v (.string (Tok.text tA))))))) ∧ True)))) ∧
    (∀ (c : List D), (c ∈ (slD (D.sl []))) → (List.length c) = (2 : Nat)) ∧
    ((0 + (1 : Nat)) = 1) ∧
    ((1 + 1) ≤ LIM) ∧ (
     (13 ≤ LIM) →
     (((0 : Int) ≤ ((1 + (1 : Nat)) : Int)) ∧ (((1 + (1 : Nat)) : Int) < (13 : Int))) ∧
     (4 = 4) ∧
     (4 ≤ 4) ∧
     (((D.v (.int IntKind.i64 (Tok.kind tA))) = (D.v (.int IntKind.i64 (intD (D.v (.int IntKind.i64 (Tok.kind tA))))))) ∧ (((D.v (.string (Tok.name tA))) = (D.v (.string (strD (D.v (.string (Tok.name tA))))))) ∧ (((D.sl []) = (D.sl (slD (D.sl [])))) ∧ (((D.v (.string (Tok.text tA))) = (D.v (.string (strD (D.v (.string (Tok.text tA))))))) ∧ True)))) ∧
     (∀ (c : List D), (c ∈ (slD (D.sl []))) → (List.length c) = (2 : Nat)) ∧
     (((0 : Int) ≤ (IntKind.wrap .i64 (((1 + (1 : Nat)) : Int) - (1 : Int)))) ∧ ((IntKind.wrap .i64 (((1 + (1 : Nat)) : Int) - (1 : Int))) < ((1 + (1 : Nat)) : Int))) ∧
     ((Int.toNat (IntKind.wrap .i64 (((1 + (1 : Nat)) : Int) - (1 : Int)))) < 2) ∧
     (((0 : Int) ≤ (IntKind.wrap .i64 (((1 + (1 : Nat)) : Int) - (1 : Int)))) ∧ ((IntKind.wrap .i64 (((1 + (1 : Nat)) : Int) - (1 : Int))) < ((1 + (1 : Nat)) : Int))) ∧
     ((Int.toNat (IntKind.wrap .i64 (((1 + (1 : Nat)) : Int) - (1 : Int)))) < 2) ∧
     (((0 : Int) ≤ (IntKind.wrap .i64 (((1 + (1 : Nat)) : Int) - (1 : Int)))) ∧ ((IntKind.wrap .i64 (((1 + (1 : Nat)) : Int) - (1 : Int))) < ((1 + (1 : Nat)) : Int))) ∧
     ((Int.toNat (IntKind.wrap .i64 (((1 + (1 : Nat)) : Int) - (1 : Int)))) < 2) ∧
     (∀ (c : List D), (c ∈ [[D.v (.string ⟨#[]⟩), D.sl [], D.v (.string ⟨#[]⟩), D.sl []]]) → (List.length c) = 4) ∧
     (1 ≤ LIM) ∧
     ((1 + (1 : Nat)) = 2) ∧
     ((2 + 1) ≤ LIM) ∧ (
      (13 ≤ LIM) →
      (((0 : Int) ≤ ((2 + (1 : Nat)) : Int)) ∧ (((2 + (1 : Nat)) : Int) < (13 : Int))) ∧
      (4 = 4) ∧
      (4 ≤ 4) ∧
      (((D.v (.int IntKind.i64 (Tok.kind tA))) = (D.v (.int IntKind.i64 (intD (D.v (.int IntKind.i64 (Tok.kind tA))))))) ∧ (((D.v (.string (Tok.name tA))) = (D.v (.string (strD (D.v (.string (Tok.name tA))))))) ∧ (((D.sl []) = (D.sl (slD (D.sl [])))) ∧ (((D.v (.string (Tok.text tA))) = (D.v (.string (strD (D.v (.string (Tok.text tA))))))) ∧ True)))) ∧
      (∀ (c : List D), (c ∈ (slD (D.sl []))) → (List.length c) = (2 : Nat)) ∧
      (((0 : Int) ≤ (IntKind.wrap .i64 (((2 + (1 : Nat)) : Int) - (1 : Int)))) ∧ ((IntKind.wrap .i64 (((2 + (1 : Nat)) : Int) - (1 : Int))) < ((2 + (1 : Nat)) : Int))) ∧
      ((Int.toNat (IntKind.wrap .i64 (((2 + (1 : Nat)) : Int) - (1 : Int)))) < 3) ∧
      (((0 : Int) ≤ (IntKind.wrap .i64 (((2 + (1 : Nat)) : Int) - (1 : Int)))) ∧ ((IntKind.wrap .i64 (((2 + (1 : Nat)) : Int) - (1 : Int))) < ((2 + (1 : Nat)) : Int))) ∧
      ((Int.toNat (IntKind.wrap .i64 (((2 + (1 : Nat)) : Int) - (1 : Int)))) < 3) ∧
      (((0 : Int) ≤ (IntKind.wrap .i64 (((2 + (1 : Nat)) : Int) - (1 : Int)))) ∧ ((IntKind.wrap .i64 (((2 + (1 : Nat)) : Int) - (1 : Int))) < ((2 + (1 : Nat)) : Int))) ∧
      ((Int.toNat (IntKind.wrap .i64 (((2 + (1 : Nat)) : Int) - (1 : Int)))) < 3) ∧
      (∀ (c : List D), (c ∈ [[D.v (.string ⟨#[]⟩), D.sl [], D.v (.string ⟨#[]⟩), D.sl []]]) → (List.length c) = 4) ∧
      (1 ≤ LIM) ∧
      ((2 + (1 : Nat)) = 3) ∧
      ((3 + 1) ≤ LIM) ∧ (
       (13 ≤ LIM) →
       (((0 : Int) ≤ ((3 + (1 : Nat)) : Int)) ∧ (((3 + (1 : Nat)) : Int) < (13 : Int))) ∧
       (4 = 4) ∧
       (4 ≤ 4) ∧
       (((D.v (.int IntKind.i64 (Tok.kind tA))) = (D.v (.int IntKind.i64 (intD (D.v (.int IntKind.i64 (Tok.kind tA))))))) ∧ (((D.v (.string (Tok.name tA))) = (D.v (.string (strD (D.v (.string (Tok.name tA))))))) ∧ (((D.sl []) = (D.sl (slD (D.sl [])))) ∧ (((D.v (.string (Tok.text tA))) = (D.v (.string (strD (D.v (.string (Tok.text tA))))))) ∧ True)))) ∧
       (∀ (c : List D), (c ∈ (slD (D.sl []))) → (List.length c) = (2 : Nat)) ∧
       (((0 : Int) ≤ (IntKind.wrap .i64 (((3 + (1 : Nat)) : Int) - (1 : Int)))) ∧ ((IntKind.wrap .i64 (((3 + (1 : Nat)) : Int) - (1 : Int))) < ((3 + (1 : Nat)) : Int))) ∧
       ((Int.toNat (IntKind.wrap .i64 (((3 + (1 : Nat)) : Int) - (1 : Int)))) < 4) ∧
       (((0 : Int) ≤ (IntKind.wrap .i64 (((3 + (1 : Nat)) : Int) - (1 : Int)))) ∧ ((IntKind.wrap .i64 (((3 + (1 : Nat)) : Int) - (1 : Int))) < ((3 + (1 : Nat)) : Int))) ∧
       ((Int.toNat (IntKind.wrap .i64 (((3 + (1 : Nat)) : Int) - (1 : Int)))) < 4) ∧
       (((0 : Int) ≤ (IntKind.wrap .i64 (((3 + (1 : Nat)) : Int) - (1 : Int)))) ∧ ((IntKind.wrap .i64 (((3 + (1 : Nat)) : Int) - (1 : Int))) < ((3 + (1 : Nat)) : Int))) ∧
       ((Int.toNat (IntKind.wrap .i64 (((3 + (1 : Nat)) : Int) - (1 : Int)))) < 4) ∧
       (∀ (c : List D), (c ∈ [[D.v (.string ⟨#[]⟩), D.sl [], D.v (.string ⟨#[]⟩), D.sl []]]) → (List.length c) = 4) ∧
       (1 ≤ LIM) ∧
       ((3 + (1 : Nat)) = 4) ∧
       ((4 + 1) ≤ LIM) ∧ (
        (13 ≤ LIM) →
        (((0 : Int) ≤ ((4 + (1 : Nat)) : Int)) ∧ (((4 + (1 : Nat)) : Int) < (13 : Int))) ∧
        (4 = 4) ∧
        (4 ≤ 4) ∧
        (((D.v (.int IntKind.i64 (Tok.kind tA))) = (D.v (.int IntKind.i64 (intD (D.v (.int IntKind.i64 (Tok.kind tA))))))) ∧ (((D.v (.string (Tok.name tA))) = (D.v (.string (strD (D.v (.string (Tok.name tA))))))) ∧ (((D.sl []) = (D.sl (slD (D.sl [])))) ∧ (((D.v (.string (Tok.text tA))) = (D.v (.string (strD (D.v (.string (Tok.text tA))))))) ∧ True)))) ∧
        (∀ (c : List D), (c ∈ (slD (D.sl []))) → (List.length c) = (2 : Nat)) ∧
        q (AV.tp [AV.d (.sl [[D.v (.int IntKind.i64 ((0 + (1 : Nat)) : Int)), D.v (.string (strD (D.v (.string (Tok.name tS))))), D.sl (slD (D.sl [])), D.v (.string ⟨#[]⟩), D.sl []]]), mkI .i64 ((4 + (1 : Nat)) : Int), mkI .i64 ((0 : Nat) : Int)])))))))) := by kernel_rfl
theorem rRd7 (q : AV → Prop) :
  (aUnr KT GLvI 30 Tryz.b15 (kRet KT Tryz.f15.results.toList q) ⟨[mkS ⟨#[60, 115, 62, 60, 97, 62, 60, 97, 62, 60, 97, 62, 60, 97, 62, 60, 97, 62, 60, 97, 62, 60, 97, 62, 60, 47, 97, 62, 60, 47, 97, 62, 60, 47, 97, 62, 60, 47, 97, 62, 60, 47, 97, 62, 60, 47, 97, 62, 60, 47, 97, 62]⟩] ++ List.replicate (Tryz.f15.ntmps - 1) .jk, []⟩) = (
  (([] : List AV) = []) ∧
  ([Ob.box [AV.vw (0 + 1) 0, mkB false, mkI .i64 0], Ob.row 1 [], Ob.gh [AV.rf 0 0]] = [Ob.box [AV.vw 1 0, mkB false, mkI .i64 0], Ob.row 1 [], Ob.gh [AV.rf 0 0]]) ∧
  ((Option.some (Ob.gh [AV.rf 0 0])) = (Option.some (Ob.gh [AV.rf 0 0]))) ∧ (
   (15 ≤ LIM) →
   (((0 : Int) ≤ ((0 : Nat) : Int)) ∧ (((0 : Nat) : Int) < (15 : Int))) ∧
   (4 = 4) ∧
   (4 ≤ 4) ∧
   (((D.v (.int IntKind.i64 (Tok.kind tS))) = (D.v (.int IntKind.i64 (intD (D.v (.int IntKind.i64 (Tok.kind tS))))))) ∧ (((D.v (.string (Tok.name tS))) = (D.v (.string (strD (D.v (.string (Tok.name tS))))))) ∧ (((D.sl []) = (D.sl (slD (D.sl [])))) ∧ (((D.v (.string (Tok.text tS))) = (D.v (.string (strD (D.v (.string (Tok.text tS))))))) ∧ True)))) ∧
   (∀ (c : List D), (c ∈ (slD (D.sl []))) → (List.length c) = (2 : Nat)) ∧
   (1 ≤ LIM) ∧
   (∀ (c : List D), (c ∈ (slD (D.sl []))) → (List.length c) = (2 : Nat)) ∧
   (∀ (c : List D), (c ∈ [[D.v (.int IntKind.i64 ((0 + (1 : Nat)) : Int)), D.v (.string (strD (D.v (.string (Tok.name tS))))), D.sl (slD (D.sl [])), D.v (.string ⟨#[]⟩), D.sl []]]) → (List.length c) = 5) ∧
   (1 ≤ LIM) ∧ (
    (15 ≤ LIM) →
    (((0 : Int) ≤ ((0 + (1 : Nat)) : Int)) ∧ (((0 + (1 : Nat)) : Int) < (15 : Int))) ∧
    (4 = 4) ∧
    (4 ≤ 4) ∧
    (((D.v (.int IntKind.i64 (Tok.kind tA))) = (D.v (.int IntKind.i64 (intD (D.v (.int IntKind.i64 (Tok.kind tA))))))) ∧ (((D.v (.string (Tok.name tA))) = (D.v (.string (strD (D.v (.string (Tok.name tA))))))) ∧ (((D.sl []) = (D.sl (slD (D.sl [])))) ∧ (((D.v (.string (Tok.text tA))) = (D.v (.string (strD (D.v (.string (Tok.text tA))))))) ∧ True)))) ∧
    (∀ (c : List D), (c ∈ (slD (D.sl []))) → (List.length c) = (2 : Nat)) ∧
    ((0 + (1 : Nat)) = 1) ∧
    ((1 + 1) ≤ LIM) ∧ (
     (15 ≤ LIM) →
     (((0 : Int) ≤ ((1 + (1 : Nat)) : Int)) ∧ (((1 + (1 : Nat)) : Int) < (15 : Int))) ∧
     (4 = 4) ∧
     (4 ≤ 4) ∧
     (((D.v (.int IntKind.i64 (Tok.kind tA))) = (D.v (.int IntKind.i64 (intD (D.v (.int IntKind.i64 (Tok.kind tA))))))) ∧ (((D.v (.string (Tok.name tA))) = (D.v (.string (strD (D.v (.string (Tok.name tA))))))) ∧ (((D.sl []) = (D.sl (slD (D.sl [])))) ∧ (((D.v (.string (Tok.text tA))) = (D.v (.string (strD (D.v (.string (Tok.text tA))))))) ∧ True)))) ∧
     (∀ (c : List D), (c ∈ (slD (D.sl []))) → (List.length c) = (2 : Nat)) ∧
     (((0 : Int) ≤ (IntKind.wrap .i64 (((1 + (1 : Nat)) : Int) - (1 : Int)))) ∧ ((IntKind.wrap .i64 (((1 + (1 : Nat)) : Int) - (1 : Int))) < ((1 + (1 : Nat)) : Int))) ∧
     ((Int.toNat (IntKind.wrap .i64 (((1 + (1 : Nat)) : Int) - (1 : Int)))) < 2) ∧
     (((0 : Int) ≤ (IntKind.wrap .i64 (((1 + (1 : Nat)) : Int) - (1 : Int)))) ∧ ((IntKind.wrap .i64 (((1 + (1 : Nat)) : Int) - (1 : Int))) < ((1 + (1 : Nat)) : Int))) ∧
     ((Int.toNat (IntKind.wrap .i64 (((1 + (1 : Nat)) : Int) - (1 : Int)))) < 2) ∧
     (((0 : Int) ≤ (IntKind.wrap .i64 (((1 + (1 : Nat)) : Int) - (1 : Int)))) ∧ ((IntKind.wrap .i64 (((1 + (1 : Nat)) : Int) - (1 : Int))) < ((1 + (1 : Nat)) : Int))) ∧
     ((Int.toNat (IntKind.wrap .i64 (((1 + (1 : Nat)) : Int) - (1 : Int)))) < 2) ∧
     (∀ (c : List D), (c ∈ [[D.v (.string ⟨#[]⟩), D.sl [], D.v (.string ⟨#[]⟩), D.sl []]]) → (List.length c) = 4) ∧
     (1 ≤ LIM) ∧
     ((1 + (1 : Nat)) = 2) ∧
     ((2 + 1) ≤ LIM) ∧ (
      (15 ≤ LIM) →
      (((0 : Int) ≤ ((2 + (1 : Nat)) : Int)) ∧ (((2 + (1 : Nat)) : Int) < (15 : Int))) ∧
      (4 = 4) ∧
      (4 ≤ 4) ∧
      (((D.v (.int IntKind.i64 (Tok.kind tA))) = (D.v (.int IntKind.i64 (intD (D.v (.int IntKind.i64 (Tok.kind tA))))))) ∧ (((D.v (.string (Tok.name tA))) = (D.v (.string (strD (D.v (.string (Tok.name tA))))))) ∧ (((D.sl []) = (D.sl (slD (D.sl [])))) ∧ (((D.v (.string (Tok.text tA))) = (D.v (.string (strD (D.v (.string (Tok.text tA))))))) ∧ True)))) ∧
      (∀ (c : List D), (c ∈ (slD (D.sl []))) → (List.length c) = (2 : Nat)) ∧
      (((0 : Int) ≤ (IntKind.wrap .i64 (((2 + (1 : Nat)) : Int) - (1 : Int)))) ∧ ((IntKind.wrap .i64 (((2 + (1 : Nat)) : Int) - (1 : Int))) < ((2 + (1 : Nat)) : Int))) ∧
      ((Int.toNat (IntKind.wrap .i64 (((2 + (1 : Nat)) : Int) - (1 : Int)))) < 3) ∧
      (((0 : Int) ≤ (IntKind.wrap .i64 (((2 + (1 : Nat)) : Int) - (1 : Int)))) ∧ ((IntKind.wrap .i64 (((2 + (1 : Nat)) : Int) - (1 : Int))) < ((2 + (1 : Nat)) : Int))) ∧
      ((Int.toNat (IntKind.wrap .i64 (((2 + (1 : Nat)) : Int) - (1 : Int)))) < 3) ∧
      (((0 : Int) ≤ (IntKind.wrap .i64 (((2 + (1 : Nat)) : Int) - (1 : Int)))) ∧ ((IntKind.wrap .i64 (((2 + (1 : Nat)) : Int) - (1 : Int))) < ((2 + (1 : Nat)) : Int))) ∧
      ((Int.toNat (IntKind.wrap .i64 (((2 + (1 : Nat)) : Int) - (1 : Int)))) < 3) ∧
      (∀ (c : List D), (c ∈ [[D.v (.string ⟨#[]⟩), D.sl [], D.v (.string ⟨#[]⟩), D.sl []]]) → (List.length c) = 4) ∧
      (1 ≤ LIM) ∧
      ((2 + (1 : Nat)) = 3) ∧
      ((3 + 1) ≤ LIM) ∧ (
       (15 ≤ LIM) →
       (((0 : Int) ≤ ((3 + (1 : Nat)) : Int)) ∧ (((3 + (1 : Nat)) : Int) < (15 : Int))) ∧
       (4 = 4) ∧
       (4 ≤ 4) ∧
       (((D.v (.int IntKind.i64 (Tok.kind tA))) = (D.v (.int IntKind.i64 (intD (D.v (.int IntKind.i64 (Tok.kind tA))))))) ∧ (((D.v (.string (Tok.name tA))) = (D.v (.string (strD (D.v (.string (Tok.name tA))))))) ∧ (((D.sl []) = (D.sl (slD (D.sl [])))) ∧ (((D.v (.string (Tok.text tA))) = (D.v (.string (strD (D.v (.string (Tok.text tA))))))) ∧ True)))) ∧
       (∀ (c : List D), (c ∈ (slD (D.sl []))) → (List.length c) = (2 : Nat)) ∧
       (((0 : Int) ≤ (IntKind.wrap .i64 (((3 + (1 : Nat)) : Int) - (1 : Int)))) ∧ ((IntKind.wrap .i64 (((3 + (1 : Nat)) : Int) - (1 : Int))) < ((3 + (1 : Nat)) : Int))) ∧
       ((Int.toNat (IntKind.wrap .i64 (((3 + (1 : Nat)) : Int) - (1 : Int)))) < 4) ∧
       (((0 : Int) ≤ (IntKind.wrap .i64 (((3 + (1 : Nat)) : Int) - (1 : Int)))) ∧ ((IntKind.wrap .i64 (((3 + (1 : Nat)) : Int) - (1 : Int))) < ((3 + (1 : Nat)) : Int))) ∧
       ((Int.toNat (IntKind.wrap .i64 (((3 + (1 : Nat)) : Int) - (1 : Int)))) < 4) ∧
       (((0 : Int) ≤ (IntKind.wrap .i64 (((3 + (1 : Nat)) : Int) - (1 : Int)))) ∧ ((IntKind.wrap .i64 (((3 + (1 : Nat)) : Int) - (1 : Int))) < ((3 + (1 : Nat)) : Int))) ∧
       ((Int.toNat (IntKind.wrap .i64 (((3 + (1 : Nat)) : Int) - (1 : Int)))) < 4) ∧
       (∀ (c : List D), (c ∈ [[D.v (.string ⟨#[]⟩), D.sl [], D.v (.string ⟨#[]⟩), D.sl []]]) → (List.length c) = 4) ∧
       (1 ≤ LIM) ∧
       ((3 + (1 : Nat)) = 4) ∧
       ((4 + 1) ≤ LIM) ∧ (
        (15 ≤ LIM) →
        (((0 : Int) ≤ ((4 + (1 : Nat)) : Int)) ∧ (((4 + (1 : Nat)) : Int) < (15 : Int))) ∧
        (4 = 4) ∧
        (4 ≤ 4) ∧
        (((D.v (.int IntKind.i64 (Tok.kind tA))) = (D.v (.int IntKind.i64 (intD (D.v (.int IntKind.i64 (Tok.kind tA))))))) ∧ (((D.v (.string (Tok.name tA))) = (D.v (.string (strD (D.v (.string (Tok.name tA))))))) ∧ (((D.sl []) = (D.sl (slD (D.sl [])))) ∧ (((D.v (.string (Tok.text tA))) = (D.v (.string (strD (D.v (.string (Tok.text tA))))))) ∧ True)))) ∧
        (∀ (c : List D), (c ∈ (slD (D.sl []))) → (List.length c) = (2 : Nat)) ∧
        q (AV.tp [AV.d (.sl [[D.v (.int IntKind.i64 ((0 + (1 : Nat)) : Int)), D.v (.string (strD (D.v (.string (Tok.name tS))))), D.sl (slD (D.sl [])), D.v (.string ⟨#[]⟩), D.sl []]]), mkI .i64 ((4 + (1 : Nat)) : Int), mkI .i64 ((0 : Nat) : Int)])))))))) := by kernel_rfl
end Go.Proofs.YtchpfeblinnoiaaGreatDoor

namespace Go.Proofs.YtchpfeblinnoiaaGreatDoor
open Go Go.AM Go.RowKit
attribute [local irreducible] aUnr aUnS aCode
theorem rRd8 (q : AV → Prop) :
  (aUnr KT GLvI 30 Tryz.b15 (kRet KT Tryz.f15.results.toList q) ⟨[mkS ⟨#[60, 115, 62, 60, 97, 62, 60, 97, 62, 60, 97, 62, 60, 97, 62, 60, 97, 62, 60, 97, 62, 60, 97, 62, 60, 97, 62, 60, 47, 97, 62, 60, 47, 97, 62, 60, 47, 97, 62, 60, 47, 97, 62, 60, 47, 97, 62, 60, 47, 97, 62, 60, 47, 97, 62, 60, 47, 97, 62]⟩] ++ List.replicate (Tryz.f15.ntmps - 1) .jk, []⟩) = (
  (([] : List AV) = []) ∧
  ([Ob.box [AV.vw (0 + 1) 0, mkB false, mkI .i64 0], Ob.row 1 [], Ob.gh [AV.rf 0 0]] = [Ob.box [AV.vw 1 0, mkB false, mkI .i64 0], Ob.row 1 [], Ob.gh [AV.rf 0 0]]) ∧
  ((Option.some (Ob.gh [AV.rf 0 0])) = (Option.some (Ob.gh [AV.rf 0 0]))) ∧ (
   (17 ≤ LIM) →
   (((0 : Int) ≤ ((0 : Nat) : Int)) ∧ (((0 : Nat) : Int) < (17 : Int))) ∧
   (4 = 4) ∧
   (4 ≤ 4) ∧
   (((D.v (.int IntKind.i64 (Tok.kind tS))) = (D.v (.int IntKind.i64 (intD (D.v (.int IntKind.i64 (Tok.kind tS))))))) ∧ (((D.v (.string (Tok.name tS))) = (D.v (.string (strD (D.v (.string (Tok.name tS))))))) ∧ (((D.sl []) = (D.sl (slD (D.sl [])))) ∧ (((D.v (.string (Tok.text tS))) = (D.v (.string (strD (D.v (.string (Tok.text tS))))))) ∧ True)))) ∧
   (∀ (c : List D), (c ∈ (slD (D.sl []))) → (List.length c) = (2 : Nat)) ∧
   (1 ≤ LIM) ∧
   (∀ (c : List D), (c ∈ (slD (D.sl []))) → (List.length c) = (2 : Nat)) ∧
   (∀ (c : List D), (c ∈ [[D.v (.int IntKind.i64 ((0 + (1 : Nat)) : Int)), D.v (.string (strD (D.v (.string (Tok.name tS))))), D.sl (slD (D.sl [])), D.v (.string ⟨#[]⟩), D.sl []]]) → (List.length c) = 5) ∧
   (1 ≤ LIM) ∧ (
    (17 ≤ LIM) →
    (((0 : Int) ≤ ((0 + (1 : Nat)) : Int)) ∧ (((0 + (1 : Nat)) : Int) < (17 : Int))) ∧
    (4 = 4) ∧
    (4 ≤ 4) ∧
    (((D.v (.int IntKind.i64 (Tok.kind tA))) = (D.v (.int IntKind.i64 (intD (D.v (.int IntKind.i64 (Tok.kind tA))))))) ∧ (((D.v (.string (Tok.name tA))) = (D.v (.string (strD (D.v (.string (Tok.name tA))))))) ∧ (((D.sl []) = (D.sl (slD (D.sl [])))) ∧ (((D.v (.string (Tok.text tA))) = (D.v (.string (strD (D.v (.string (Tok.text tA))))))) ∧ True)))) ∧
    (∀ (c : List D), (c ∈ (slD (D.sl []))) → (List.length c) = (2 : Nat)) ∧
    ((0 + (1 : Nat)) = 1) ∧
    ((1 + 1) ≤ LIM) ∧ (
     (17 ≤ LIM) →
     (((0 : Int) ≤ ((1 + (1 : Nat)) : Int)) ∧ (((1 + (1 : Nat)) : Int) < (17 : Int))) ∧
     (4 = 4) ∧
     (4 ≤ 4) ∧
     (((D.v (.int IntKind.i64 (Tok.kind tA))) = (D.v (.int IntKind.i64 (intD (D.v (.int IntKind.i64 (Tok.kind tA))))))) ∧ (((D.v (.string (Tok.name tA))) = (D.v (.string (strD (D.v (.string (Tok.name tA))))))) ∧ (((D.sl []) = (D.sl (slD (D.sl [])))) ∧ (((D.v (.string (Tok.text tA))) = (D.v (.string (strD (D.v (.string (Tok.text tA))))))) ∧ True)))) ∧
     (∀ (c : List D), (c ∈ (slD (D.sl []))) → (List.length c) = (2 : Nat)) ∧
     (((0 : Int) ≤ (IntKind.wrap .i64 (((1 + (1 : Nat)) : Int) - (1 : Int)))) ∧ ((IntKind.wrap .i64 (((1 + (1 : Nat)) : Int) - (1 : Int))) < ((1 + (1 : Nat)) : Int))) ∧
     ((Int.toNat (IntKind.wrap .i64 (((1 + (1 : Nat)) : Int) - (1 : Int)))) < 2) ∧
     (((0 : Int) ≤ (IntKind.wrap .i64 (((1 + (1 : Nat)) : Int) - (1 : Int)))) ∧ ((IntKind.wrap .i64 (((1 + (1 : Nat)) : Int) - (1 : Int))) < ((1 + (1 : Nat)) : Int))) ∧
     ((Int.toNat (IntKind.wrap .i64 (((1 + (1 : Nat)) : Int) - (1 : Int)))) < 2) ∧
     (((0 : Int) ≤ (IntKind.wrap .i64 (((1 + (1 : Nat)) : Int) - (1 : Int)))) ∧ ((IntKind.wrap .i64 (((1 + (1 : Nat)) : Int) - (1 : Int))) < ((1 + (1 : Nat)) : Int))) ∧
     ((Int.toNat (IntKind.wrap .i64 (((1 + (1 : Nat)) : Int) - (1 : Int)))) < 2) ∧
     (∀ (c : List D), (c ∈ [[D.v (.string ⟨#[]⟩), D.sl [], D.v (.string ⟨#[]⟩), D.sl []]]) → (List.length c) = 4) ∧
     (1 ≤ LIM) ∧
     ((1 + (1 : Nat)) = 2) ∧
     ((2 + 1) ≤ LIM) ∧ (
      (17 ≤ LIM) →
      (((0 : Int) ≤ ((2 + (1 : Nat)) : Int)) ∧ (((2 + (1 : Nat)) : Int) < (17 : Int))) ∧
      (4 = 4) ∧
      (4 ≤ 4) ∧
      (((D.v (.int IntKind.i64 (Tok.kind tA))) = (D.v (.int IntKind.i64 (intD (D.v (.int IntKind.i64 (Tok.kind tA))))))) ∧ (((D.v (.string (Tok.name tA))) = (D.v (.string (strD (D.v (.string (Tok.name tA))))))) ∧ (((D.sl []) = (D.sl (slD (D.sl [])))) ∧ (((D.v (.string (Tok.text tA))) = (D.v (.string (strD (D.v (.string (Tok.text tA))))))) ∧ True)))) ∧
      (∀ (c : List D), (c ∈ (slD (D.sl []))) → (List.length c) = (2 : Nat)) ∧
      (((0 : Int) ≤ (IntKind.wrap .i64 (((2 + (1 : Nat)) : Int) - (1 : Int)))) ∧ ((IntKind.wrap .i64 (((2 + (1 : Nat)) : Int) - (1 : Int))) < ((2 + (1 : Nat)) : Int))) ∧
      ((Int.toNat (IntKind.wrap .i64 (((2 + (1 : Nat)) : Int) - (1 : Int)))) < 3) ∧
      (((0 : Int) ≤ (IntKind.wrap .i64 (((2 + (1 : Nat)) : Int) - (1 : Int)))) ∧ ((IntKind.wrap .i64 (((2 + (1 : Nat)) : Int) - (1 : Int))) < ((2 + (1 : Nat)) : Int))) ∧
      ((Int.toNat (IntKind.wrap .i64 (((2 + (1 : Nat)) : Int) - (1 : Int)))) < 3) ∧
      (((0 : Int) ≤ (IntKind.wrap .i64 (((2 + (1 : Nat)) : Int) - (1 : Int)))) ∧ ((IntKind.wrap .i64 (((2 + (1 : Nat)) : Int) - (1 : Int))) < ((2 + (1 : Nat)) : Int))) ∧
      ((Int.toNat (IntKind.wrap .i64 (((2 + (1 : Nat)) : Int) - (1 : Int)))) < 3) ∧
      (∀ (c : List D), (c ∈ [[D.v (.string ⟨#[]⟩), D.sl [], D.v (.string ⟨#[]⟩), D.sl []]]) → (List.length c) = 4) ∧
      (1 ≤ LIM) ∧
      ((2 + (1 : Nat)) = 3) ∧
      ((3 + 1) ≤ LIM) ∧ (
       (17 ≤ LIM) →
       (((0 : Int) ≤ ((3 + (1 : Nat)) : Int)) ∧ (((3 + (1 : Nat)) : Int) < (17 : Int))) ∧
       (4 = 4) ∧
       (4 ≤ 4) ∧
       (((D.v (.int IntKind.i64 (Tok.kind tA))) = (D.v (.int IntKind.i64 (intD (D.v (.int IntKind.i64 (Tok.kind tA))))))) ∧ (((D.v (.string (Tok.name tA))) = (D.v (.string (strD (D.v (.string (Tok.name tA))))))) ∧ (((D.sl []) = (D.sl (slD (D.sl [])))) ∧ (((D.v (.string (Tok.text tA))) = (D.v (.string (strD (D.v (.string (Tok.text tA))))))) ∧ True)))) ∧
       (∀ (c : List D), (c ∈ (slD (D.sl []))) → (List.length c) = (2 : Nat)) ∧
       (((0 : Int) ≤ (IntKind.wrap .i64 (((3 + (1 : Nat)) : Int) - (1 : Int)))) ∧ ((IntKind.wrap .i64 (((3 + (1 : Nat)) : Int) - (1 : Int))) < ((3 + (1 : Nat)) : Int))) ∧
       ((Int.toNat (IntKind.wrap .i64 (((3 + (1 : Nat)) : Int) - (1 : Int)))) < 4) ∧
       (((0 : Int) ≤ (IntKind.wrap .i64 (((3 + (1 : Nat)) : Int) - (1 : Int)))) ∧ ((IntKind.wrap .i64 (((3 + (1 : Nat)) : Int) - (1 : Int))) < ((3 + (1 : Nat)) : Int))) ∧
       ((Int.toNat (IntKind.wrap .i64 (((3 + (1 : Nat)) : Int) - (1 : Int)))) < 4) ∧
       (((0 : Int) ≤ (IntKind.wrap .i64 (((3 + (1 : Nat)) : Int) - (1 : Int)))) ∧ ((IntKind.wrap .i64 (((3 + (1 : Nat)) : Int) - (1 : Int))) < ((3 + (1 : Nat)) : Int))) ∧
       ((Int.toNat (IntKind.wrap .i64 (((3 + (1 : Nat)) : Int) - (1 : Int)))) < 4) ∧
       (∀ (c : List D), (c ∈ [[D.v (.string ⟨#[]⟩), D.sl [], D.v (.string ⟨#[]⟩), D.sl []]]) → (List.length c) = 4) ∧
       (1 ≤ LIM) ∧
       ((3 + (1 : Nat)) = 4) ∧
       ((4 + 1) ≤ LIM) ∧ (
        (17 ≤ LIM) →
        (((0 : Int) ≤ ((4 + (1 : Nat)) : Int)) ∧ (((4 + (1 : Nat)) : Int) < (17 : Int))) ∧
        (4 = 4) ∧
        (4 ≤ 4) ∧
        (((D.v (.int IntKind.i64 (Tok.kind tA))) = (D.v (.int IntKind.i64 (intD (D.v (.int IntKind.i64 (Tok.kind tA))))))) ∧ (((D.v (.string (Tok.name tA))) = (D.v (.string (strD (D.v (.string (Tok.name tA))))))) ∧ (((D.sl []) = (D.sl (slD (D.sl [])))) ∧ (((D.v (.string (Tok.text tA))) = (D.v (.string (strD (D.v (.string (Tok.text tA))))))) ∧ True)))) ∧
        (∀ (c : List D), (c ∈ (slD (D.sl []))) → (List.length c) = (2 : Nat)) ∧
        q (AV.tp [AV.d (.sl [[D.v (.int IntKind.i64 ((0 + (1 : Nat)) : Int)), D.v (.string (strD (D.v (.string (Tok.name tS))))), D.sl (slD (D.sl [])), D.v (.string ⟨#[]⟩), D.sl []]]), mkI .i64 ((4 + (1 : Nat)) : Int), mkI .i64 ((0 : Nat) : Int)])))))))) := by kernel_rfl
end Go.Proofs.YtchpfeblinnoiaaGreatDoor

namespace Go.Proofs.YtchpfeblinnoiaaGreatDoor
open Go Go.AM Go.RowKit
attribute [local irreducible] aUnr aUnS aCode
def resT : List (ByteArray × Nat × Int × Int) := [
  (⟨#[60, 115, 62]⟩, 1, 0, 1),
  (⟨#[60, 115, 62, 60, 97, 62, 60, 47, 97, 62]⟩, 2, 0, 1),
  (⟨#[60, 115, 62, 60, 97, 62, 60, 97, 62, 60, 47, 97, 62, 60, 47, 97, 62]⟩, 2, 0, 1),
  (⟨#[60, 115, 62, 60, 97, 62, 60, 97, 62, 60, 97, 62, 60, 47, 97, 62, 60, 47, 97, 62, 60, 47, 97, 62]⟩, 2, 0, 1),
  (⟨#[60, 115, 62, 60, 97, 62, 60, 97, 62, 60, 97, 62, 60, 97, 62, 60, 47, 97, 62, 60, 47, 97, 62, 60, 47, 97, 62, 60, 47, 97, 62]⟩, 2, 0, 1),
  (⟨#[60, 115, 62, 60, 97, 62, 60, 97, 62, 60, 97, 62, 60, 97, 62, 60, 97, 62, 60, 47, 97, 62, 60, 47, 97, 62, 60, 47, 97, 62, 60, 47, 97, 62, 60, 47, 97, 62]⟩, 1, 5, 0),
  (⟨#[60, 115, 62, 60, 97, 62, 60, 97, 62, 60, 97, 62, 60, 97, 62, 60, 97, 62, 60, 97, 62, 60, 47, 97, 62, 60, 47, 97, 62, 60, 47, 97, 62, 60, 47, 97, 62, 60, 47, 97, 62, 60, 47, 97, 62]⟩, 1, 5, 0),
  (⟨#[60, 115, 62, 60, 97, 62, 60, 97, 62, 60, 97, 62, 60, 97, 62, 60, 97, 62, 60, 97, 62, 60, 97, 62, 60, 47, 97, 62, 60, 47, 97, 62, 60, 47, 97, 62, 60, 47, 97, 62, 60, 47, 97, 62, 60, 47, 97, 62, 60, 47, 97, 62]⟩, 1, 5, 0),
  (⟨#[60, 115, 62, 60, 97, 62, 60, 97, 62, 60, 97, 62, 60, 97, 62, 60, 97, 62, 60, 97, 62, 60, 97, 62, 60, 97, 62, 60, 47, 97, 62, 60, 47, 97, 62, 60, 47, 97, 62, 60, 47, 97, 62, 60, 47, 97, 62, 60, 47, 97, 62, 60, 47, 97, 62, 60, 47, 97, 62]⟩, 1, 5, 0)]
def findR (s : ByteArray) : List (ByteArray × Nat × Int × Int) → Option (Nat × Int × Int)
  | [] => none
  | (t, x) :: r => if s = t then some x else findR s r
theorem findR_mem {s : ByteArray} {x : Nat × Int × Int} : ∀ {r : List (ByteArray × Nat × Int × Int)}, findR s r = some x → (s, x) ∈ r
  | (t, m) :: r, h => by
    unfold findR at h
    split at h
    · rename_i e; cases h; subst e; exact List.mem_cons_self
    · exact List.mem_cons_of_mem _ (findR_mem h)
def ERd : List AV → (AV → Prop) → Prop := fun al q => match al with
  | [.d (.v (.string s))] => match findR s resT with
    | some (k, e, d) => ∀ rows : List (List D), rows.length = k → q (.tp [.d (.sl rows), mkI .i64 e, mkI .i64 d])
    | none => False
  | _ => False
set_option maxHeartbeats 4000000 in
theorem wRd0 (q : AV → Prop) (h : ∀ rows : List (List D), rows.length = 1 → q (.tp [.d (.sl rows), mkI .i64 0, mkI .i64 1])) : aUnr KT GLvI 30 Tryz.b15 (kRet KT Tryz.f15.results.toList q) ⟨[mkS ⟨#[60, 115, 62]⟩] ++ List.replicate (Tryz.f15.ntmps - 1) .jk, []⟩ := by
  refine cast (rRd0 q).symm ?_
  repeat' (first | with_reducible exact trivial | with_reducible rfl | refine And.intro ?_ ?_ | exact h _ rfl | rfl | decide | (exact Nat.le_of_ble_eq_true (by decide +kernel)) | (intro c hc; simp [slD] at hc; done) | (intro c hc; simp [slD] at hc; rw [hc]; rfl) | intro _ | (unfold LIM; omega) | decide +kernel)
set_option maxHeartbeats 4000000 in
theorem wRd1 (q : AV → Prop) (h : ∀ rows : List (List D), rows.length = 2 → q (.tp [.d (.sl rows), mkI .i64 0, mkI .i64 1])) : aUnr KT GLvI 30 Tryz.b15 (kRet KT Tryz.f15.results.toList q) ⟨[mkS ⟨#[60, 115, 62, 60, 97, 62, 60, 47, 97, 62]⟩] ++ List.replicate (Tryz.f15.ntmps - 1) .jk, []⟩ := by
  refine cast (rRd1 q).symm ?_
  repeat' (first | with_reducible exact trivial | with_reducible rfl | refine And.intro ?_ ?_ | exact h _ rfl | rfl | decide | (exact Nat.le_of_ble_eq_true (by decide +kernel)) | (intro c hc; simp [slD] at hc; done) | (intro c hc; simp [slD] at hc; rw [hc]; rfl) | intro _ | (unfold LIM; omega) | decide +kernel)
set_option maxHeartbeats 4000000 in
theorem wRd2 (q : AV → Prop) (h : ∀ rows : List (List D), rows.length = 2 → q (.tp [.d (.sl rows), mkI .i64 0, mkI .i64 1])) : aUnr KT GLvI 30 Tryz.b15 (kRet KT Tryz.f15.results.toList q) ⟨[mkS ⟨#[60, 115, 62, 60, 97, 62, 60, 97, 62, 60, 47, 97, 62, 60, 47, 97, 62]⟩] ++ List.replicate (Tryz.f15.ntmps - 1) .jk, []⟩ := by
  refine cast (rRd2 q).symm ?_
  repeat' (first | with_reducible exact trivial | with_reducible rfl | refine And.intro ?_ ?_ | exact h _ rfl | rfl | decide | (exact Nat.le_of_ble_eq_true (by decide +kernel)) | (intro c hc; simp [slD] at hc; done) | (intro c hc; simp [slD] at hc; rw [hc]; rfl) | intro _ | (unfold LIM; omega) | decide +kernel)
set_option maxHeartbeats 4000000 in
theorem wRd3 (q : AV → Prop) (h : ∀ rows : List (List D), rows.length = 2 → q (.tp [.d (.sl rows), mkI .i64 0, mkI .i64 1])) : aUnr KT GLvI 30 Tryz.b15 (kRet KT Tryz.f15.results.toList q) ⟨[mkS ⟨#[60, 115, 62, 60, 97, 62, 60, 97, 62, 60, 97, 62, 60, 47, 97, 62, 60, 47, 97, 62, 60, 47, 97, 62]⟩] ++ List.replicate (Tryz.f15.ntmps - 1) .jk, []⟩ := by
  refine cast (rRd3 q).symm ?_
  repeat' (first | with_reducible exact trivial | with_reducible rfl | refine And.intro ?_ ?_ | exact h _ rfl | rfl | decide | (exact Nat.le_of_ble_eq_true (by decide +kernel)) | (intro c hc; simp [slD] at hc; done) | (intro c hc; simp [slD] at hc; rw [hc]; rfl) | intro _ | (unfold LIM; omega) | decide +kernel)
set_option maxHeartbeats 4000000 in
theorem wRd4 (q : AV → Prop) (h : ∀ rows : List (List D), rows.length = 2 → q (.tp [.d (.sl rows), mkI .i64 0, mkI .i64 1])) : aUnr KT GLvI 30 Tryz.b15 (kRet KT Tryz.f15.results.toList q) ⟨[mkS ⟨#[60, 115, 62, 60, 97, 62, 60, 97, 62, 60, 97, 62, 60, 97, 62, 60, 47, 97, 62, 60, 47, 97, 62, 60, 47, 97, 62, 60, 47, 97, 62]⟩] ++ List.replicate (Tryz.f15.ntmps - 1) .jk, []⟩ := by
  refine cast (rRd4 q).symm ?_
  repeat' (first | with_reducible exact trivial | with_reducible rfl | refine And.intro ?_ ?_ | exact h _ rfl | rfl | decide | (exact Nat.le_of_ble_eq_true (by decide +kernel)) | (intro c hc; simp [slD] at hc; done) | (intro c hc; simp [slD] at hc; rw [hc]; rfl) | intro _ | (unfold LIM; omega) | decide +kernel)
set_option maxHeartbeats 4000000 in
theorem wRd5 (q : AV → Prop) (h : ∀ rows : List (List D), rows.length = 1 → q (.tp [.d (.sl rows), mkI .i64 5, mkI .i64 0])) : aUnr KT GLvI 30 Tryz.b15 (kRet KT Tryz.f15.results.toList q) ⟨[mkS ⟨#[60, 115, 62, 60, 97, 62, 60, 97, 62, 60, 97, 62, 60, 97, 62, 60, 97, 62, 60, 47, 97, 62, 60, 47, 97, 62, 60, 47, 97, 62, 60, 47, 97, 62, 60, 47, 97, 62]⟩] ++ List.replicate (Tryz.f15.ntmps - 1) .jk, []⟩ := by
  refine cast (rRd5 q).symm ?_
  repeat' (first | with_reducible exact trivial | with_reducible rfl | refine And.intro ?_ ?_ | exact h _ rfl | rfl | decide | (exact Nat.le_of_ble_eq_true (by decide +kernel)) | (intro c hc; simp [slD] at hc; done) | (intro c hc; simp [slD] at hc; rw [hc]; rfl) | intro _ | (unfold LIM; omega) | decide +kernel)
set_option maxHeartbeats 4000000 in
theorem wRd6 (q : AV → Prop) (h : ∀ rows : List (List D), rows.length = 1 → q (.tp [.d (.sl rows), mkI .i64 5, mkI .i64 0])) : aUnr KT GLvI 30 Tryz.b15 (kRet KT Tryz.f15.results.toList q) ⟨[mkS ⟨#[60, 115, 62, 60, 97, 62, 60, 97, 62, 60, 97, 62, 60, 97, 62, 60, 97, 62, 60, 97, 62, 60, 47, 97, 62, 60, 47, 97, 62, 60, 47, 97, 62, 60, 47, 97, 62, 60, 47, 97, 62, 60, 47, 97, 62]⟩] ++ List.replicate (Tryz.f15.ntmps - 1) .jk, []⟩ := by
  refine cast (rRd6 q).symm ?_
  repeat' (first | with_reducible exact trivial | with_reducible rfl | refine And.intro ?_ ?_ | exact h _ rfl | rfl | decide | (exact Nat.le_of_ble_eq_true (by decide +kernel)) | (intro c hc; simp [slD] at hc; done) | (intro c hc; simp [slD] at hc; rw [hc]; rfl) | intro _ | (unfold LIM; omega) | decide +kernel)
set_option maxHeartbeats 4000000 in
theorem wRd7 (q : AV → Prop) (h : ∀ rows : List (List D), rows.length = 1 → q (.tp [.d (.sl rows), mkI .i64 5, mkI .i64 0])) : aUnr KT GLvI 30 Tryz.b15 (kRet KT Tryz.f15.results.toList q) ⟨[mkS ⟨#[60, 115, 62, 60, 97, 62, 60, 97, 62, 60, 97, 62, 60, 97, 62, 60, 97, 62, 60, 97, 62, 60, 97, 62, 60, 47, 97, 62, 60, 47, 97, 62, 60, 47, 97, 62, 60, 47, 97, 62, 60, 47, 97, 62, 60, 47, 97, 62, 60, 47, 97, 62]⟩] ++ List.replicate (Tryz.f15.ntmps - 1) .jk, []⟩ := by
  refine cast (rRd7 q).symm ?_
  repeat' (first | with_reducible exact trivial | with_reducible rfl | refine And.intro ?_ ?_ | exact h _ rfl | rfl | decide | (exact Nat.le_of_ble_eq_true (by decide +kernel)) | (intro c hc; simp [slD] at hc; done) | (intro c hc; simp [slD] at hc; rw [hc]; rfl) | intro _ | (unfold LIM; omega) | decide +kernel)
set_option maxHeartbeats 4000000 in
theorem wRd8 (q : AV → Prop) (h : ∀ rows : List (List D), rows.length = 1 → q (.tp [.d (.sl rows), mkI .i64 5, mkI .i64 0])) : aUnr KT GLvI 30 Tryz.b15 (kRet KT Tryz.f15.results.toList q) ⟨[mkS ⟨#[60, 115, 62, 60, 97, 62, 60, 97, 62, 60, 97, 62, 60, 97, 62, 60, 97, 62, 60, 97, 62, 60, 97, 62, 60, 97, 62, 60, 47, 97, 62, 60, 47, 97, 62, 60, 47, 97, 62, 60, 47, 97, 62, 60, 47, 97, 62, 60, 47, 97, 62, 60, 47, 97, 62, 60, 47, 97, 62]⟩] ++ List.replicate (Tryz.f15.ntmps - 1) .jk, []⟩ := by
  refine cast (rRd8 q).symm ?_
  repeat' (first | with_reducible exact trivial | with_reducible rfl | refine And.intro ?_ ?_ | exact h _ rfl | rfl | decide | (exact Nat.le_of_ble_eq_true (by decide +kernel)) | (intro c hc; simp [slD] at hc; done) | (intro c hc; simp [slD] at hc; rw [hc]; rfl) | intro _ | (unfold LIM; omega) | decide +kernel)
theorem cRd : PSound Tryz.prog 15 ERd := by
  refine pure_gen (unr_bsound 30 mixed KT_ok gLvI Tryz.b15) KT_ok Tryz.func15 rfl rfl Tryz.call15 fun al q h => ?_
  unfold ERd at h
  split at h
  · split at h
    · rename_i s k e d hl
      have hm := findR_mem hl
      clear hl
      simp only [resT, List.mem_cons, List.not_mem_nil, or_false, Prod.mk.injEq] at hm
      rcases hm with ⟨rfl, rfl, rfl, rfl⟩ | ⟨rfl, rfl, rfl, rfl⟩ | ⟨rfl, rfl, rfl, rfl⟩ | ⟨rfl, rfl, rfl, rfl⟩ | ⟨rfl, rfl, rfl, rfl⟩ | ⟨rfl, rfl, rfl, rfl⟩ | ⟨rfl, rfl, rfl, rfl⟩ | ⟨rfl, rfl, rfl, rfl⟩ | ⟨rfl, rfl, rfl, rfl⟩
      · exact wRd0 q h
      · exact wRd1 q h
      · exact wRd2 q h
      · exact wRd3 q h
      · exact wRd4 q h
      · exact wRd5 q h
      · exact wRd6 q h
      · exact wRd7 q h
      · exact wRd8 q h
    · exact h.elim
  · exact h.elim
end Go.Proofs.YtchpfeblinnoiaaGreatDoor
