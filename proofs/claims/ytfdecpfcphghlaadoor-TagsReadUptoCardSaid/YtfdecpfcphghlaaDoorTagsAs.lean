import Derived.Test.YtfdecpfcphghlaaDoorTagsNil
set_option linter.unusedSimpArgs false
set_option linter.unusedVariables false
namespace Go.Proofs.YtfdecpfcphghlaaDoor
open Go Go.AM Go.RowKit
attribute [local irreducible] aCode bcase

-- as, its slice told as one that the caller owns
def E15 : List AV → (AV → List Ob → Prop) → Prop := fun al q => match al with
  | [.d (.sl es)] => es = toksD (unToks es) ∧ q (.vw 0 es.length) [.row 4 es]
  | _ => False
noncomputable def r15n_k0 (q : AV → (List Ob) → Prop) : Kont := kBlk (0 : Nat) (kSeq (aCode Tryd.K [] (cAt [1, 1, 1] Tryd.b15) (kRetF Tryd.K (Array.toList (Func.results Tryd.f15)) q)) (kRetF Tryd.K (Array.toList (Func.results Tryd.f15)) q))
theorem r15n (es : List (List D)) (q : AV → List Ob → Prop) :
  (aCode Tryd.K [] Tryd.b15 (kRetF Tryd.K Tryd.f15.results.toList q) ⟨[.d (.sl es)] ++ List.replicate (Tryd.f15.ntmps - 1) .jk, []⟩) = (
  ALoop (aCode Tryd.K [] (cAt [1, 1, 0, 1, 0, 0] Tryd.b15)) (YtfdecpfcphghlaaDoor.r15n_k0 q) ⟨[AV.d (D.sl es), AV.jk, AV.nl, AV.nl, mkI IntKind.i64 (0 : Int), AV.jk, AV.jk, AV.jk, AV.jk, AV.jk, AV.jk, AV.jk, AV.jk, AV.jk, AV.jk, AV.jk, AV.jk, AV.jk, AV.jk, AV.jk, AV.jk, AV.jk, AV.jk, AV.jk, AV.jk, AV.jk, AV.jk, AV.jk, AV.jk, AV.jk, AV.jk, AV.jk, AV.jk, AV.jk, AV.jk, AV.jk], []⟩) := by kernel_rfl

theorem r15n_b {ι : Type} (st : ι → S) (inv : ι → Prop) (μ : ι → Nat) (k : ι) (es ts : List (List D)) (i : Int) (q : AV → List Ob → Prop) :
  (aCode Tryd.K [] (cAt [1, 1, 0, 1, 0, 0] Tryd.b15) (kFamM [] m15 st inv μ k (r15n_k0 q)) (st15 es ts i)) = (
  ((List.length es) ≤ LIM) →
  bcase (decide (i < ((List.length es) : Int))) (
   (((0 : Int) ≤ i) ∧ (i < ((List.length es) : Int))) ∧
   ((List.length (List.getD es (Int.toNat i) [])) = 4) ∧
   ((1 : Nat) ≤ (List.length (List.drop (0 : Nat) (List.getD es (Int.toNat i) [])))) ∧
   ((List.getD (List.drop (0 : Nat) (List.getD es (Int.toNat i) [])) (0 : Nat) d0) = (D.v (Value.int IntKind.i64 (intD (List.getD (List.drop (0 : Nat) (List.getD es (Int.toNat i) [])) (0 : Nat) d0))))) ∧
   (((0 : Int) ≤ i) ∧ (i < ((List.length es) : Int))) ∧
   ((List.length (List.getD es (Int.toNat i) [])) = 4) ∧
   ((1 : Nat) ≤ (List.length (List.drop (1 : Nat) (List.getD es (Int.toNat i) [])))) ∧
   ((List.getD (List.drop (1 : Nat) (List.getD es (Int.toNat i) [])) (0 : Nat) d0) = (D.v (Value.string (strD (List.getD (List.drop (1 : Nat) (List.getD es (Int.toNat i) [])) (0 : Nat) d0))))) ∧
   (((0 : Int) ≤ i) ∧ (i < ((List.length es) : Int))) ∧
   ((List.length (List.getD es (Int.toNat i) [])) = 4) ∧
   ((1 : Nat) ≤ (List.length (List.drop (2 : Nat) (List.getD es (Int.toNat i) [])))) ∧
   ((List.getD (List.drop (2 : Nat) (List.getD es (Int.toNat i) [])) (0 : Nat) d0) = (D.sl (slD (List.getD (List.drop (2 : Nat) (List.getD es (Int.toNat i) [])) (0 : Nat) d0)))) ∧
   (((0 : Int) ≤ i) ∧ (i < ((List.length es) : Int))) ∧
   ((List.length (List.getD es (Int.toNat i) [])) = 4) ∧
   ((1 : Nat) ≤ (List.length (List.drop (3 : Nat) (List.getD es (Int.toNat i) [])))) ∧
   ((List.getD (List.drop (3 : Nat) (List.getD es (Int.toNat i) [])) (0 : Nat) d0) = (D.v (Value.string (strD (List.getD (List.drop (3 : Nat) (List.getD es (Int.toNat i) [])) (0 : Nat) d0))))) ∧
   (∀ (c : List D), (c ∈ [[D.v (Value.int IntKind.i64 (intD (List.getD (List.drop (0 : Nat) (List.getD es (Int.toNat i) [])) (0 : Nat) d0))), D.v (Value.string (strD (List.getD (List.drop (1 : Nat) (List.getD es (Int.toNat i) [])) (0 : Nat) d0))), D.sl (slD (List.getD (List.drop (2 : Nat) (List.getD es (Int.toNat i) [])) (0 : Nat) d0)), D.v (Value.string (strD (List.getD (List.drop (3 : Nat) (List.getD es (Int.toNat i) [])) (0 : Nat) d0)))]]) → (List.length c) = 4) ∧
   ((List.length ts) = (List.length ts)) ∧
   (((List.length ts) + 1) ≤ LIM) ∧
   FamNext st inv μ k ⟨[AV.d (D.sl es), AV.jk, AV.jk, AV.vw (0 : Nat) ((List.length ts) + 1), mkI IntKind.i64 (IntKind.wrap IntKind.i64 (i + (1 : Int))), AV.jk, AV.jk, AV.jk, AV.jk, AV.jk, AV.jk, AV.jk, AV.jk, AV.jk, AV.jk, AV.jk, AV.jk, AV.jk, AV.jk, AV.jk, AV.jk, AV.jk, AV.jk, AV.jk, AV.jk, AV.jk, AV.jk, AV.jk, AV.jk, AV.jk, AV.jk, AV.jk, AV.jk, AV.jk, AV.jk, AV.jk], [Ob.row (4 : Nat) (ts ++ [[D.v (Value.int IntKind.i64 (intD (List.getD (List.drop (0 : Nat) (List.getD es (Int.toNat i) [])) (0 : Nat) d0))), D.v (Value.string (strD (List.getD (List.drop (1 : Nat) (List.getD es (Int.toNat i) [])) (0 : Nat) d0))), D.sl (slD (List.getD (List.drop (2 : Nat) (List.getD es (Int.toNat i) [])) (0 : Nat) d0)), D.v (Value.string (strD (List.getD (List.drop (3 : Nat) (List.getD es (Int.toNat i) [])) (0 : Nat) d0)))]]), Ob.row 4 [[D.v (Value.int IntKind.i64 (intD (List.getD (List.drop (0 : Nat) (List.getD es (Int.toNat i) [])) (0 : Nat) d0))), D.v (Value.string (strD (List.getD (List.drop (1 : Nat) (List.getD es (Int.toNat i) [])) (0 : Nat) d0))), D.sl (slD (List.getD (List.drop (2 : Nat) (List.getD es (Int.toNat i) [])) (0 : Nat) d0)), D.v (Value.string (strD (List.getD (List.drop (3 : Nat) (List.getD es (Int.toNat i) [])) (0 : Nat) d0)))]]]⟩) (
   q (AV.vw (0 : Nat) (List.length ts)) [Ob.row (4 : Nat) ts])) := by kernel_rfl

theorem c15n : ESound Tryd.prog 15 (newE E15) := by
  refine new_fn (c := Tryd.b15) mixed Tryd.K_ok gsound_nil Tryd.func15 rfl rfl Tryd.call15 fun al q hE => ?_
  unfold E15 at hE
  split at hE
  · rename_i es
    obtain ⟨hp, hq⟩ := hE
    generalize unToks es = l at hp
    subst hp
    have hll := toksD_len l
    refine cast (r15n (toksD l) q).symm (.openT 3 4 (by omega) ?_)
    refine ALoop.introM [] m15 (fun i : Nat => st15 (toksD l) (toksD (l.take i)) i) (fun i => i ≤ l.length) (fun i => l.length - i) ⟨[], 0, by simp [S.openT, S.le, sealAll, leL, jks, st15, toksD], Nat.zero_le _⟩ fun i hi => ?_
    have htl : (toksD (l.take i)).length = i := by rw [toksD_len, List.length_take]; omega
    refine cast (r15n_b _ _ _ _ (toksD l) (toksD (l.take i)) i q).symm fun hlim => ?_
    by_cases hlt : i < l.length
    · have hz : (i : Int) < ((toksD l).length : Int) := by omega
      have hg : (toksD l).getD ((i : Int)).toNat [] = tokD (l[i]'hlt) := by rw [show ((i : Int)).toNat = i from by simp, toksD_get l i hlt]
      have hw := wrap_succ hlt (show l.length ≤ LIM by omega)
      have hs : toksD (l.take (i + 1)) = toksD (l.take i) ++ [tokD (l[i]'hlt)] := by
        rw [List.take_add_one, List.getElem?_eq_getElem hlt]; unfold toksD; rw [List.map_append]; rfl
      have hb : (0 : Int) ≤ (i : Int) ∧ (i : Int) < ((toksD l).length : Int) := ⟨by omega, hz⟩
      have g4 : ((toksD l).getD ((i : Int)).toNat []).length = 4 := by rw [hg]; rfl
      refine bcaseT (decide_eq_true hz) ⟨hb, g4, by rw [hg]; exact Nat.le_add_left _ _, by rw [hg]; rfl, hb, g4, by rw [hg]; exact Nat.le_add_left _ _, by rw [hg]; rfl, hb, g4, by rw [hg]; exact Nat.le_add_left _ _, by rw [hg]; rfl, hb, g4, by rw [hg]; exact Nat.le_add_left _ _, by rw [hg]; rfl, by simp, rfl, by rw [htl]; exact Nat.le_trans hlt (by omega), ?_⟩
      refine .mk [] (i + 1) ?_ hlt (show l.length - (i + 1) < l.length - i by omega)
      simp only [hg]
      have h4 : [D.v (Value.int IntKind.i64 (intD (List.getD (List.drop 0 (tokD (l[i]'hlt))) 0 d0))), D.v (Value.string (strD (List.getD (List.drop 1 (tokD (l[i]'hlt))) 0 d0))), D.sl (slD (List.getD (List.drop 2 (tokD (l[i]'hlt))) 0 d0)), D.v (Value.string (strD (List.getD (List.drop 3 (tokD (l[i]'hlt))) 0 d0)))] = tokD (l[i]'hlt) := rfl
      simp only [h4]
      simp [S.le, sealAll, leL, leO, jks, st15, S.fits, fitsL, AV.fits, Ob.fits, hw, hs]
    · have hge : i = l.length := by omega
      have hz : ¬ (i : Int) < ((toksD l).length : Int) := by omega
      refine bcaseF (decide_eq_false hz) ?_
      rw [hge, List.take_length]
      exact hq
  · exact hE.elim

noncomputable abbrev GJ : List (FuncId × En) := [(9, .det F9), (10, .det F10), (11, .full (newE E11)), (12, .ref (frameE E12)), (16, .ref (frameE E16)), (15, .full (newE E15)), (14, .det F14)]
theorem gJ : GSound Tryd.prog GJ := gsound_det c9 (gsound_det c10 (gsound_full c11 (gsound_ref (RSound.frame c12) (gsound_ref (RSound.frame c16) (gsound_full c15n (gsound_det c14 gsound_nil))))))
end Go.Proofs.YtfdecpfcphghlaaDoor
