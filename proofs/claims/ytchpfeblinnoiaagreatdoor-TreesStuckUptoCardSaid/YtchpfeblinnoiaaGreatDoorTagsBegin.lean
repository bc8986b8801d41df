import Derived.Test.YtchpfeblinnoiaaGreatDoorTagsAny
import Derived.Test.YtchpfeblinnoiaaGreatDoorTagsNext
set_option linter.unusedSimpArgs false
set_option linter.unusedVariables false
namespace Go.Proofs.YtchpfeblinnoiaaGreatDoor
open Go Go.AM Go.RowKit
theorem r51 (b1 b2 a1 a2 : ByteArray) (q : AV → List Ob → Prop) :
  (aCode Tryz.K [] Tryz.b101 (kRetF Tryz.K Tryz.f101.results.toList q) ⟨[.ag [mkS b1, mkS b2], .rf 0 0] ++ List.replicate (Tryz.f101.ntmps - 2) .jk, [.box [mkS a1, mkS a2], .gh [.rf 0 0]]⟩) = (
  q (mkB (decide (b1 = a1))) [Ob.box [mkS a1, mkS a2], Ob.gh [AV.rf 0 0], Ob.box [mkS b1, mkS b2]]) := by kernel_rfl
def E51 : List AV → List Ob → (AV → List Ob → Prop) → Prop := fun al o q => ∃ b1 b2 a1 a2 : ByteArray, al = [.ag [mkS b1, mkS b2], .rf 0 0] ∧ o = [.box [mkS a1, mkS a2], .gh [.rf 0 0]] ∧ q (mkB (decide (b1 = a1))) [.box [mkS a1, mkS a2], .gh [.rf 0 0]]
theorem c51 : RSound Tryz.prog 101 E51 := by
  refine ref_fnT (c := Tryz.b101) mixed Tryz.K_ok gsound_nil Tryz.func101 rfl rfl Tryz.call101 fun al o q ⟨b1, b2, a1, a2, h1, h2, hq⟩ => ?_
  subst h1 h2
  refine cast (r51 b1 b2 a1 a2 (trimK q)).symm ?_
  exact ⟨_, by simp [leO], by simp [AV.fits, Ob.fits, fitsL], hq⟩
noncomputable abbrev G68 : List (FuncId × En) := [(101, .ref (frameE E51))]
noncomputable def r68_k0 (q : AV → (List Ob) → Prop) : Kont := kBlk (0 : Nat) (kSeq (aCode Tryz.K G68 (cAt [1, 1] Tryz.b38) (kRetF Tryz.K (Array.toList (Func.results Tryz.f38)) q)) (kRetF Tryz.K (Array.toList (Func.results Tryz.f38)) q))
theorem r68 (es : List (List D)) (a1 a2 : ByteArray) (q : AV → List Ob → Prop) :
  (aCode Tryz.K G68 Tryz.b38 (kRetF Tryz.K Tryz.f38.results.toList q) ⟨[.vw 0 es.length, .fn (.func 101) [] [.rf 1 0]] ++ List.replicate (Tryz.f38.ntmps - 2) .jk, [.row 2 es, .box [mkS a1, mkS a2], .gh [.vw 0 es.length, .rf 1 0]]⟩) = (
  ALoop (aCode Tryz.K G68 (cAt [1, 0, 1, 0, 0] Tryz.b38)) (r68_k0 q) ⟨[AV.vw 0 (List.length es), AV.fn (Fn.func 101) [] [AV.rf 1 0], AV.jk, AV.jk, mkI .i64 0, AV.jk, AV.vw 0 (List.length es), mkI .i64 ((List.length es) : Int), mkI .i64 0, AV.jk, AV.jk, AV.jk, AV.jk, AV.jk, AV.jk, AV.jk, AV.jk, AV.jk, AV.jk], [Ob.row 2 es, Ob.box [mkS a1, mkS a2], Ob.gh [AV.vw 0 (List.length es), AV.rf 1 0]]⟩) := by kernel_rfl
def st68 (es : List (List D)) (a1 a2 : ByteArray) (i : Int) : S := ⟨[.vw 0 es.length, .fn (.func 101) [] [.rf 1 0], .jk, .jk, .jk, .jk, .vw 0 es.length, mkI .i64 es.length, mkI .i64 i] ++ jks 10, [.row 2 es, .box [mkS a1, mkS a2], .gh [.vw 0 es.length, .rf 1 0]]⟩
def m68 : List Bool := maskOf (st68 [] ⟨#[]⟩ ⟨#[]⟩ 0)
theorem r68_b {ι : Type} (st : ι → S) (inv : ι → Prop) (μ : ι → Nat) (k : ι) (es : List (List D)) (a1 a2 : ByteArray) (i : Int) (q : AV → List Ob → Prop) :
  (aCode Tryz.K G68 (cAt [1, 0, 1, 0, 0] Tryz.b38) (kFamM [] m68 st inv μ k (r68_k0 q)) (st68 es a1 a2 i)) = (
  bcase (decide (i < ((List.length es) : Int))) (
   (((0 : Int) ≤ i) ∧ (i < ((List.length es) : Int))) ∧
   ((Int.toNat i) < (List.length es)) ∧
   ((0 : Nat) ≤ (List.length (List.getD es (Int.toNat i) []))) ∧
   (2 ≤ (List.length (List.drop 0 (List.getD es (Int.toNat i) [])))) ∧
   (((List.getD (List.drop 0 (List.getD es (Int.toNat i) [])) 0 d0) = (D.v (.string (strD (List.getD (List.drop 0 (List.getD es (Int.toNat i) [])) 0 d0))))) ∧ (((List.getD (List.drop 1 (List.drop 0 (List.getD es (Int.toNat i) []))) 0 d0) = (D.v (.string (strD (List.getD (List.drop 1 (List.drop 0 (List.getD es (Int.toNat i) []))) 0 d0))))) ∧ True)) ∧ (
    ∃ (b1 : ByteArray),
    ∃ (b2 : ByteArray),
    ∃ (a1_1 : ByteArray),
    ∃ (a2_1 : ByteArray),
    ([AV.ag [mkS (strD (List.getD (List.drop 0 (List.getD es (Int.toNat i) [])) 0 d0)), mkS (strD (List.getD (List.drop 1 (List.drop 0 (List.getD es (Int.toNat i) []))) 0 d0))], AV.rf 0 0] = [AV.ag [mkS b1, mkS b2], AV.rf 0 0]) ∧
    ([Ob.box [mkS a1, mkS a2], Ob.gh [AV.rf 0 0]] = [Ob.box [mkS a1_1, mkS a2_1], Ob.gh [AV.rf 0 0]]) ∧
    ((Option.some (Ob.gh [AV.rf 0 0])) = (Option.some (Ob.gh [AV.rf 0 0]))) ∧
    bcase (decide (b1 = a1_1)) (
     q (mkI .i64 i) [Ob.row 2 es, Ob.box [mkS a1_1, mkS a2_1], Ob.gh [AV.vw 0 (List.length es), AV.rf 1 0], Ob.gone, Ob.gone]) (
     FamNext st inv μ k ⟨[AV.vw 0 (List.length es), AV.fn (Fn.func 101) [] [AV.rf 1 0], AV.jk, AV.jk, AV.jk, AV.jk, AV.vw 0 (List.length es), mkI .i64 ((List.length es) : Int), mkI .i64 (IntKind.wrap .i64 (i + (1 : Int))), AV.jk, AV.jk, AV.jk, AV.jk, AV.jk, AV.jk, AV.jk, AV.jk, AV.jk, AV.jk], [Ob.row 2 es, Ob.box [mkS a1_1, mkS a2_1], Ob.gh [AV.vw 0 (List.length es), AV.rf 1 0], Ob.gone, Ob.gone]⟩))) (
   q (mkI .i64 (-(1 : Int))) [Ob.row 2 es, Ob.box [mkS a1, mkS a2], Ob.gh [AV.vw 0 (List.length es), AV.rf 1 0]])) := by kernel_rfl
theorem attrD_get (l : List (ByteArray × ByteArray)) (n : Nat) (h : n < l.length) : (l.map attrD).getD n [] = attrD (l[n]'h) := by
  simp [List.getD_eq_getElem?_getD, List.getElem?_eq_getElem h]
def anyA (l : List (ByteArray × ByteArray)) (a : ByteArray) : Bool := l.any fun x => decide (x.1 = a)
def E68 : List AV → List Ob → (AV → List Ob → Prop) → Prop := fun al o q => ∃ (l : List (ByteArray × ByteArray)) (a1 a2 : ByteArray), al = [.vw 0 l.length, .fn (.func 101) [] [.rf 1 0]] ∧ o = [.row 2 (l.map attrD), .box [mkS a1, mkS a2], .gh [.vw 0 l.length, .rf 1 0]] ∧ l.length ≤ 100 ∧
  ∀ i : Int, decide (i ≥ 0) = anyA l a1 → q (mkI .i64 i) [.row 2 (l.map attrD), .box [mkS a1, mkS a2], .gh [.vw 0 l.length, .rf 1 0]]
theorem c68 : RSound Tryz.prog 38 E68 := by
  refine ref_fnT (c := Tryz.b38) mixed Tryz.K_ok (gsound_ref (RSound.frame c51) gsound_nil) Tryz.func38 rfl rfl Tryz.call38 fun al o q ⟨l, a1, a2, h1, h2, h100, hq⟩ => ?_
  subst h1 h2
  have hlen : (l.map attrD).length = l.length := by simp
  refine cast (congrArg (fun n => aCode Tryz.K G68 Tryz.b38 (kRetF Tryz.K Tryz.f38.results.toList (trimK q)) ⟨[.vw 0 n, .fn (.func 101) [] [.rf 1 0]] ++ List.replicate (Tryz.f38.ntmps - 2) .jk, [.row 2 (l.map attrD), .box [mkS a1, mkS a2], .gh [.vw 0 n, .rf 1 0]]⟩) hlen) ?_
  refine cast (r68 (l.map attrD) a1 a2 (trimK q)).symm ?_
  refine ALoop.introM [] m68 (fun i : Nat => st68 (l.map attrD) a1 a2 i) (fun i => i ≤ l.length ∧ anyA (l.take i) a1 = false) (fun i => l.length - i) ⟨[], 0, by simp [S.le, sealAll, leL, jks, st68], by simp [anyA]⟩ fun i ⟨hi, hI⟩ => ?_
  refine cast (r68_b _ _ _ _ _ a1 a2 i (trimK q)).symm ?_
  rw [hlen]
  refine bcase_dec (fun h => ?_) (fun h => ?_)
  · have hlt : i < l.length := by omega
    simp only [Int.toNat_natCast, attrD_get l i hlt]
    have hsn : anyA (l.take (i + 1)) a1 = decide ((l[i]'hlt).1 = a1) := by
      rw [List.take_add_one, List.getElem?_eq_getElem hlt]
      simp only [anyA, List.any_append] at hI ⊢
      rw [hI]; simp
    refine ⟨by omega, hlt, Nat.zero_le _, Nat.le_refl _, ⟨rfl, rfl, trivial⟩, (l[i]'hlt).1, (l[i]'hlt).2, a1, a2, by first | trivial | rfl, by first | trivial | rfl, by first | trivial | rfl, bcase_dec (fun h => ?_) (fun h => ?_)⟩
    · refine ⟨_, by simp [leO], by simp [mkI, AV.fits, Ob.fits, fitsL], hq i ?_⟩
      have : anyA l a1 = true := by
        simp only [anyA, List.any_eq_true, decide_eq_true_eq]
        exact ⟨_, List.getElem_mem hlt, h⟩
      rw [this]; simp
    · refine .mk [] (i + 1) ?_ ⟨hlt, by rw [hsn]; simpa using h⟩ (show l.length - (i + 1) < l.length - i by omega)
      rw [wrap_succ hlt (by unfold LIM; omega)]
      simp [S.le, sealAll, leL, leO, jks, st68, S.fits, fitsL, AV.fits, Ob.fits]
  · have hge : i = l.length := by omega
    refine ⟨_, by simp [leO], by simp [mkI, AV.fits, Ob.fits, fitsL], hq (-1) ?_⟩
    rw [hge, List.take_length] at hI
    rw [hI]; rfl
noncomputable abbrev G50 : List (FuncId × En) := [(38, .ref (frameV E68))]
theorem r50 (n : Nat) (es : List (List D)) (a1 a2 : ByteArray) (q : AV → List Ob → Prop) :
  (aCode Tryz.K G50 Tryz.b100 (kRetF Tryz.K Tryz.f100.results.toList q) ⟨[.vw 0 n, .fn (.func 101) [] [.rf 1 0]] ++ List.replicate (Tryz.f100.ntmps - 2) .jk, [.row 2 es, .box [mkS a1, mkS a2], .gh [.vw 0 n, .rf 1 0]]⟩) = (
  ∃ (l : List (Prod ByteArray ByteArray)),
  ∃ (a1_1 : ByteArray),
  ∃ (a2_1 : ByteArray),
  ([AV.vw 0 n, AV.fn (Fn.func 101) [] [AV.rf (0 + 1) 0]] = [AV.vw 0 (List.length l), AV.fn (Fn.func 101) [] [AV.rf 1 0]]) ∧
  ([Ob.row 2 es, Ob.box [mkS a1, mkS a2], Ob.gh [AV.vw 0 n, AV.rf (0 + 1) 0]] = [Ob.row 2 (List.map attrD l), Ob.box [mkS a1_1, mkS a2_1], Ob.gh [AV.vw 0 (List.length l), AV.rf 1 0]]) ∧
  ((List.length l) ≤ (100 : Nat)) ∧ (
   ∀ (i : Int),
   ((decide (i ≥ (0 : Int))) = (anyA l a1_1)) →
   ((Option.some (Ob.gh [AV.vw 0 (List.length l), AV.rf 1 0])) = (Option.some (Ob.gh [AV.vw 0 n, AV.rf (0 + 1) 0]))) ∧
   ((List.length es) = (List.length (List.map attrD l))) ∧
   q (mkB (decide (i ≥ (0 : Int)))) [Ob.row 2 (List.map attrD l), Ob.box [mkS a1_1, mkS a2_1], Ob.gh [AV.vw 0 n, AV.rf 1 0], Ob.gone, Ob.gone])) := by kernel_rfl
def E50 : List AV → List Ob → (AV → List Ob → Prop) → Prop := fun al o q => ∃ (l : List (ByteArray × ByteArray)) (a1 a2 : ByteArray), al = [.vw 0 l.length, .fn (.func 101) [] [.rf 1 0]] ∧ o = [.row 2 (l.map attrD), .box [mkS a1, mkS a2], .gh [.vw 0 l.length, .rf 1 0]] ∧ l.length ≤ 100 ∧
  q (mkB (anyA l a1)) [.row 2 (l.map attrD), .box [mkS a1, mkS a2], .gh [.vw 0 l.length, .rf 1 0]]
theorem c50 : RSound Tryz.prog 100 E50 := by
  refine ref_fnT (c := Tryz.b100) mixed Tryz.K_ok (gsound_ref (RSound.frameV c68) gsound_nil) Tryz.func100 rfl rfl Tryz.call100 fun al o q ⟨l, a1, a2, h1, h2, h100, hq⟩ => ?_
  subst h1 h2
  refine cast (r50 l.length (l.map attrD) a1 a2 (trimK q)).symm ?_
  refine ⟨l, a1, a2, rfl, rfl, h100, fun i hi => ⟨rfl, rfl, [.row 2 (l.map attrD), .box [mkS a1, mkS a2], .gh [.vw 0 l.length, .rf 1 0]], by simp [leO], by simp [mkB, AV.fits, Ob.fits, fitsL], ?_⟩⟩
  rw [hi]; exact hq
end Go.Proofs.YtchpfeblinnoiaaGreatDoor
