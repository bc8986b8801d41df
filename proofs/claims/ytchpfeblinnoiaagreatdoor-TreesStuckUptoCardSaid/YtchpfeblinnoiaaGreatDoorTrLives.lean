import Derived.Test.YtchpfeblinnoiaaGreatDoorTrWr3
set_option linter.unusedSimpArgs false
set_option linter.unusedVariables false
namespace Go.Proofs.YtchpfeblinnoiaaGreatDoor
open Go Go.AM Go.RowKit
set_option maxRecDepth 10000
attribute [local irreducible] aUnr aUnS aCode
theorem rTn (q : AV → List Ob → Prop) :
  (aCode Tryz.K [] Tryz.b29 (kRetF Tryz.K Tryz.f29.results.toList q) ⟨[] ++ List.replicate (Tryz.f29.ntmps) .jk, []⟩) = (
  q (AV.rf 0 0) [Ob.box [AV.nl, mkB false, mkI .i64 0]]) := by kernel_rfl
def ETn : List AV → (AV → List Ob → Prop) → Prop := fun al q => al = [] ∧ q (.rf 0 0) [.box [.vw 1 0, mkB false, mkI .i64 0], .row 1 []]
theorem cTn : ESound Tryz.prog 29 (newE ETn) := by
  refine new_fnG (openNil 0 0 1) (openNil_ghost 0 0 1 (by omega)) (c := Tryz.b29) mixed Tryz.K_ok gsound_nil Tryz.func29 rfl rfl Tryz.call29 fun al q ⟨h, hq⟩ => ?_
  subst h
  exact cast (rTn _).symm hq
def tS : Tok := ⟨1, ⟨#[115]⟩, [], ⟨#[]⟩⟩
def tA : Tok := ⟨1, ⟨#[97]⟩, [], ⟨#[]⟩⟩
def tZ : Tok := ⟨2, ⟨#[97]⟩, [], ⟨#[]⟩⟩
def tX : Tok := ⟨3, ⟨#[]⟩, [], ⟨#[120, 60]⟩⟩
def tokT : List (ByteArray × List Tok) := [
  (⟨#[60, 115, 62, 60, 97, 62, 120, 38, 108, 116, 59, 60, 47, 97, 62]⟩, [tS, tA, tX, tZ]),
  (⟨#[60, 115, 62]⟩, [tS]),
  (⟨#[60, 115, 62, 60, 97, 62, 60, 47, 97, 62]⟩, [tS, tA, tZ]),
  (⟨#[60, 115, 62, 60, 97, 62, 60, 97, 62, 60, 47, 97, 62, 60, 47, 97, 62]⟩, [tS, tA, tA, tZ, tZ]),
  (⟨#[60, 115, 62, 60, 97, 62, 60, 97, 62, 60, 97, 62, 60, 47, 97, 62, 60, 47, 97, 62, 60, 47, 97, 62]⟩, [tS, tA, tA, tA, tZ, tZ, tZ]),
  (⟨#[60, 115, 62, 60, 97, 62, 60, 97, 62, 60, 97, 62, 60, 97, 62, 60, 47, 97, 62, 60, 47, 97, 62, 60, 47, 97, 62, 60, 47, 97, 62]⟩, [tS, tA, tA, tA, tA, tZ, tZ, tZ, tZ]),
  (⟨#[60, 115, 62, 60, 97, 62, 60, 97, 62, 60, 97, 62, 60, 97, 62, 60, 97, 62, 60, 47, 97, 62, 60, 47, 97, 62, 60, 47, 97, 62, 60, 47, 97, 62, 60, 47, 97, 62]⟩, [tS, tA, tA, tA, tA, tA, tZ, tZ, tZ, tZ, tZ]),
  (⟨#[60, 115, 62, 60, 97, 62, 60, 97, 62, 60, 97, 62, 60, 97, 62, 60, 97, 62, 60, 97, 62, 60, 47, 97, 62, 60, 47, 97, 62, 60, 47, 97, 62, 60, 47, 97, 62, 60, 47, 97, 62, 60, 47, 97, 62]⟩, [tS, tA, tA, tA, tA, tA, tA, tZ, tZ, tZ, tZ, tZ, tZ]),
  (⟨#[60, 115, 62, 60, 97, 62, 60, 97, 62, 60, 97, 62, 60, 97, 62, 60, 97, 62, 60, 97, 62, 60, 97, 62, 60, 47, 97, 62, 60, 47, 97, 62, 60, 47, 97, 62, 60, 47, 97, 62, 60, 47, 97, 62, 60, 47, 97, 62, 60, 47, 97, 62]⟩, [tS, tA, tA, tA, tA, tA, tA, tA, tZ, tZ, tZ, tZ, tZ, tZ, tZ]),
  (⟨#[60, 115, 62, 60, 97, 62, 60, 97, 62, 60, 97, 62, 60, 97, 62, 60, 97, 62, 60, 97, 62, 60, 97, 62, 60, 97, 62, 60, 47, 97, 62, 60, 47, 97, 62, 60, 47, 97, 62, 60, 47, 97, 62, 60, 47, 97, 62, 60, 47, 97, 62, 60, 47, 97, 62, 60, 47, 97, 62]⟩, [tS, tA, tA, tA, tA, tA, tA, tA, tA, tZ, tZ, tZ, tZ, tZ, tZ, tZ, tZ])]
def findT (s : ByteArray) : List (ByteArray × List Tok) → Option (List Tok)
  | [] => none
  | (t, l) :: r => if s = t then some l else findT s r
theorem findT_mem {s : ByteArray} {l : List Tok} : ∀ {r : List (ByteArray × List Tok)}, findT s r = some l → (s, l) ∈ r
  | (t, m) :: r, h => by
    unfold findT at h
    split at h
    · rename_i e; cases h; subst e; exact List.mem_cons_self
    · exact List.mem_cons_of_mem _ (findT_mem h)
theorem tokT_ok : ∀ x ∈ tokT, feedL x.1.data.toList ⟨#[]⟩ false 0 = (x.2, ⟨#[]⟩, false, 0) ∧ x.1.size ≤ 1000000000 := by decide +kernel
def EFd : List AV → List Ob → (AV → List Ob → Prop) → Prop := fun al o q => match al with
  | [.rf 0 0, .d (.v (.string s))] => match findT s tokT with
    | some l => o = rdO [] false 0 ∧ q (.tp [.d (.sl (toksD l)), mkI .i64 0]) (rdO [] false 0)
    | none => False
  | _ => False
theorem cFd : RSound Tryz.prog 30 EFd := RSound.mono c12 fun al o q h => by
  unfold EFd at h
  split at h
  · split at h
    · rename_i s l hl
      obtain ⟨rfl, hq⟩ := h
      obtain ⟨h1, h2⟩ := tokT_ok _ (findT_mem hl)
      refine ⟨⟨#[]⟩, false, 0, rfl, by decide, h2, ?_⟩
      simp only at h1
      rw [h1]
      exact hq
    · exact h.elim
  · exact h.elim
noncomputable abbrev GLv : List (FuncId × En) := [(29, .full (newE ETn)), (30, .ref (frameE EFd)), (59, .det FCl), (17, .det FWr)]
theorem gLv : GSound Tryz.prog GLv := gsound_full cTn (gsound_ref (RSound.frame cFd) (gsound_det cClD (gsound_det cWr gsound_nil)))
noncomputable abbrev GLvI : List (FuncId × En) := inlΓ KT GLv tabI 30 10
theorem rLv (q : AV → Prop) :
  (aUnr KT GLvI 30 Tryz.b8 (kRet KT Tryz.f8.results.toList q) ⟨List.replicate (Tryz.f8.ntmps) .jk, []⟩) = (
  (([] : List AV) = []) ∧
  ([Ob.box [AV.vw (0 + 1) 0, mkB false, mkI .i64 0], Ob.row 1 [], Ob.gh [AV.rf 0 0]] = [Ob.box [AV.vw 1 0, mkB false, mkI .i64 0], Ob.row 1 [], Ob.gh [AV.rf 0 0]]) ∧
  ((Option.some (Ob.gh [AV.rf 0 0])) = (Option.some (Ob.gh [AV.rf 0 0]))) ∧ (
   (4 ≤ LIM) →
   (((0 : Int) ≤ ((0 : Nat) : Int)) ∧ (((0 : Nat) : Int) < (4 : Int))) ∧
   (4 = 4) ∧
   (4 ≤ 4) ∧
   (((D.v (.int IntKind.i64 (Tok.kind tS))) = (D.v (.int IntKind.i64 (intD (D.v (.int IntKind.i64 (Tok.kind tS))))))) ∧ (((D.v (.string (Tok.name tS))) = (D.v (.string (strD (D.v (.string (Tok.name tS))))))) ∧ (((D.sl []) = (D.sl (slD (D.sl [])))) ∧ (((D.v (.string (Tok.text tS))) = (D.v (.string (strD (D.v (.string (Tok.text tS))))))) ∧ True)))) ∧
   (∀ (c : List D), (c ∈ (slD (D.sl []))) → (List.length c) = (2 : Nat)) ∧
   (1 ≤ LIM) ∧
   (∀ (c : List D), (c ∈ (slD (D.sl []))) → (List.length c) = (2 : Nat)) ∧
   (∀ (c : List D), (c ∈ [[D.v (.int IntKind.i64 ((0 + (1 : Nat)) : Int)), D.v (.string (strD (D.v (.string (Tok.name tS))))), D.sl (slD (D.sl [])), D.v (.string ⟨#[]⟩), D.sl []]]) → (List.length c) = 5) ∧
   (1 ≤ LIM) ∧ (
    (4 ≤ LIM) →
    (((0 : Int) ≤ ((0 + (1 : Nat)) : Int)) ∧ (((0 + (1 : Nat)) : Int) < (4 : Int))) ∧
    (4 = 4) ∧
    (4 ≤ 4) ∧
    (((D.v (.int IntKind.i64 (Tok.kind tA))) = (D.v (.int IntKind.i64 (intD (D.v (.int IntKind.i64 (Tok.kind tA))))))) ∧ (((D.v (.string (Tok.name tA))) = (D.v (.string (strD (D.v (.string (Tok.name tA))))))) ∧ (((D.sl []) = (D.sl (slD (D.sl [])))) ∧ (((D.v (.string (Tok.text tA))) = (D.v (.string (strD (D.v (.string (Tok.text tA))))))) ∧ True)))) ∧
    (∀ (c : List D), (c ∈ (slD (D.sl []))) → (List.length c) = (2 : Nat)) ∧
    ((0 + (1 : Nat)) = 1) ∧
    ((1 + 1) ≤ LIM) ∧ (
     (4 ≤ LIM) →
     (((0 : Int) ≤ ((1 + (1 : Nat)) : Int)) ∧ (((1 + (1 : Nat)) : Int) < (4 : Int))) ∧
     (4 = 4) ∧
     (4 ≤ 4) ∧
     (((D.v (.int IntKind.i64 (Tok.kind tX))) = (D.v (.int IntKind.i64 (intD (D.v (.int IntKind.i64 (Tok.kind tX))))))) ∧ (((D.v (.string (Tok.name tX))) = (D.v (.string (strD (D.v (.string (Tok.name tX))))))) ∧ (((D.sl []) = (D.sl (slD (D.sl [])))) ∧ (((D.v (.string (Tok.text tX))) = (D.v (.string (strD (D.v (.string (Tok.text tX))))))) ∧ True)))) ∧
     (Nat.le (ByteArray.size (strD (D.v (.string (Tok.text tX))))) LIM) ∧
     (((0 : Int) ≤ (IntKind.wrap .i64 (((1 + (1 : Nat)) : Int) - (1 : Int)))) ∧ ((IntKind.wrap .i64 (((1 + (1 : Nat)) : Int) - (1 : Int))) < ((1 + (1 : Nat)) : Int))) ∧
     ((Int.toNat (IntKind.wrap .i64 (((1 + (1 : Nat)) : Int) - (1 : Int)))) < 2) ∧
     ((mkS (strD (D.v (.string (Tok.text tX))))) = (mkS (strD (D.v (.string (Tok.text tX)))))) ∧
     (((ByteArray.size (⟨#[]⟩ : ByteArray)) + (ByteArray.size (strD (D.v (.string (Tok.text tX)))))) ≤ LIM) ∧
     ((mkS (strD (D.v (.string (Tok.text tX))))) = (mkS (strD (D.v (.string (Tok.text tX)))))) ∧ (
      (4 ≤ LIM) →
      (((0 : Int) ≤ ((2 + (1 : Nat)) : Int)) ∧ (((2 + (1 : Nat)) : Int) < (4 : Int))) ∧
      (4 = 4) ∧
      (4 ≤ 4) ∧
      (((D.v (.int IntKind.i64 (Tok.kind tZ))) = (D.v (.int IntKind.i64 (intD (D.v (.int IntKind.i64 (Tok.kind tZ))))))) ∧ (((D.v (.string (Tok.name tZ))) = (D.v (.string (strD (D.v (.string (Tok.name tZ))))))) ∧ (((D.sl []) = (D.sl (slD (D.sl [])))) ∧ (((D.v (.string (Tok.text tZ))) = (D.v (.string (strD (D.v (.string (Tok.text tZ))))))) ∧ True)))) ∧
      (((0 : Int) ≤ (IntKind.wrap .i64 (((1 + (1 : Nat)) : Int) - (1 : Int)))) ∧ ((IntKind.wrap .i64 (((1 + (1 : Nat)) : Int) - (1 : Int))) < ((1 + (1 : Nat)) : Int))) ∧
      ((Int.toNat (IntKind.wrap .i64 (((1 + (1 : Nat)) : Int) - (1 : Int)))) < 2) ∧
      (((0 : Int) ≤ (IntKind.wrap .i64 (((1 + (1 : Nat)) : Int) - (1 : Int)))) ∧ ((IntKind.wrap .i64 (((1 + (1 : Nat)) : Int) - (1 : Int))) ≤ ((1 + (1 : Nat)) : Int))) ∧
      (∀ (c : List D), (c ∈ [[D.v (.int IntKind.i64 ((1 + (1 : Nat)) : Int)), D.v (.string (strD (D.v (.string (Tok.name tA))))), D.sl (slD (D.sl [])), D.v (.string ((⟨#[]⟩ : ByteArray) ++ (strD (D.v (.string (Tok.text tX)))))), D.sl []]]) → (List.length c) = 5) ∧
      ((0 + (1 : Nat)) = 1) ∧
      ((1 + 1) ≤ LIM) ∧ (
       (4 ≤ LIM) →
       True ∧
       (((0 : Int) ≤ (1 : Int)) ∧ ((1 : Int) < ((1 + (1 : Nat)) : Int))) ∧
       ((0 + (1 : Nat)) < 2) ∧
       ((0 : Nat) ≤ 5) ∧
       ((1 : Nat) ≤ 5) ∧
       ((D.v (.int IntKind.i64 ((1 + (1 : Nat)) : Int))) = (D.v (.int IntKind.i64 (intD (D.v (.int IntKind.i64 ((1 + (1 : Nat)) : Int))))))) ∧
       (((0 : Int) ≤ (1 : Int)) ∧ ((1 : Int) < ((1 + (1 : Nat)) : Int))) ∧
       ((0 + (1 : Nat)) < 2) ∧
       ((2 + (1 : Nat)) ≤ 5) ∧
       ((1 : Nat) ≤ 2) ∧
       ((D.v (.string ((⟨#[]⟩ : ByteArray) ++ (strD (D.v (.string (Tok.text tX))))))) = (D.v (.string (strD (D.v (.string ((⟨#[]⟩ : ByteArray) ++ (strD (D.v (.string (Tok.text tX))))))))))) ∧
       q (mkB true))))))) := by kernel_rfl
theorem gLvI : GSound Tryz.prog GLvI := inl_sound mixed KT_ok gLv tabI_ok 10
def FLv : List AV → Option (Prop × AV) := fun al => match al with
  | [] => some (True, mkB true)
  | _ => none
theorem cLv : PSound Tryz.prog 8 (detE FLv) := by
  refine det_unr 30 (c := Tryz.b8) mixed KT_ok gLvI Tryz.func8 rfl rfl Tryz.call8 fun al p r q hF hp hq => ?_
  unfold FLv at hF; split at hF <;> cases hF
  refine cast (rLv q).symm ?_
  repeat' (first | exact hq | exact trivial | rfl | decide | decide +kernel | (exact Nat.le_of_ble_eq_true (by decide +kernel)) | (simp [slD]; done) | intro _ | (unfold LIM; omega) | refine And.intro ?_ ?_)
end Go.Proofs.YtchpfeblinnoiaaGreatDoor
