import Derived.Test.YtgidbnonalbeeaaDoorBindPick
set_option linter.unusedSimpArgs false
set_option linter.unusedVariables false
set_option linter.unnecessarySimpa false
namespace Go.Proofs.YtgidbnonalbeeaaDoor
open Go Go.AM Go.RowKit

noncomputable abbrev G5 : List (FuncId × En) := [(8, .det F8), (9, .det F9), (17, .det F19)]
noncomputable def r5_k0 (q : AV → Prop) : Kont := kBlk (0 : Nat) (kSeq (aCode Tryd.K YtgidbnonalbeeaaDoor.G5 (cAt [1, 1, 1, 1, 1] Tryd.b5) (kRet Tryd.K (Array.toList (Func.results Tryd.f5)) q)) (kRet Tryd.K (Array.toList (Func.results Tryd.f5)) q))
theorem r5 (ds : List (List D)) (q : AV → Prop) :
  (aCode Tryd.K G5 Tryd.b5 (kRet Tryd.K Tryd.f5.results.toList q) ⟨[.d (.sl ds)] ++ List.replicate (Tryd.f5.ntmps - 1) .jk, []⟩) = (
  True ∧ (
   ((List.length ds) ≤ LIM) →
   (IntKind.i64 = IntKind.i64) ∧
   (((0 : Int) ≤ (if (20 : Int) < ((List.length ds) : Int) then (20 : Int) else ((List.length ds) : Int))) ∧ ((if (20 : Int) < ((List.length ds) : Int) then (20 : Int) else ((List.length ds) : Int)) ≤ ((List.length ds) : Int))) ∧
   (∀ (c : List D), (c ∈ (List.take (Int.toNat (if (20 : Int) < ((List.length ds) : Int) then (20 : Int) else ((List.length ds) : Int))) ds)) → (List.length c) = 1) ∧
   ((List.length (List.take (Int.toNat (if (20 : Int) < ((List.length ds) : Int) then (20 : Int) else ((List.length ds) : Int))) ds)) ≤ LIM) ∧
   ALoop (aCode Tryd.K YtgidbnonalbeeaaDoor.G5 (cAt [1, 1, 1, 1, 0, 1, 0, 0] Tryd.b5)) (YtgidbnonalbeeaaDoor.r5_k0 q) ⟨[AV.d (D.sl ds), AV.jk, mkB false, AV.vw 0 (List.length (List.take (Int.toNat (if (20 : Int) < ((List.length ds) : Int) then (20 : Int) else ((List.length ds) : Int))) ds)), mkI IntKind.i64 (0 : Int), mkI IntKind.i64 (0 : Int), AV.jk, AV.jk, AV.jk, AV.jk, mkB true, mkB false, AV.d (D.sl ds), AV.d (D.sl ds), mkI IntKind.i64 ((List.length ds) : Int), mkI IntKind.i64 (if (20 : Int) < ((List.length ds) : Int) then (20 : Int) else ((List.length ds) : Int)), AV.d (D.sl (List.take (Int.toNat (if (20 : Int) < ((List.length ds) : Int) then (20 : Int) else ((List.length ds) : Int))) ds)), AV.vw 0 (List.length (List.take (Int.toNat (if (20 : Int) < ((List.length ds) : Int) then (20 : Int) else ((List.length ds) : Int))) ds)), AV.jk, AV.jk, AV.jk, AV.jk, AV.jk, AV.jk, AV.jk, AV.jk, AV.jk, AV.jk, AV.jk, AV.jk, AV.jk, AV.jk, AV.jk, AV.jk, AV.jk, AV.jk, AV.jk, AV.jk, AV.jk, AV.jk, AV.jk, AV.jk, AV.jk, AV.jk, AV.jk, AV.jk, AV.jk, AV.jk, AV.jk, AV.jk, AV.jk, AV.jk, AV.jk, AV.jk, AV.jk, AV.jk, AV.jk, AV.jk, AV.jk, AV.jk, AV.jk, AV.jk, AV.jk, AV.jk, AV.jk, AV.jk, AV.jk, AV.jk, AV.jk, AV.jk, AV.jk], [Ob.row 1 (List.take (Int.toNat (if (20 : Int) < ((List.length ds) : Int) then (20 : Int) else ((List.length ds) : Int))) ds)]⟩)) := by kernel_rfl

def st5 (ds es : List (List D)) (n i : Int) : S := ⟨[.d (.sl ds), .jk, mkB false, .vw 0 es.length, mkI .i64 n, mkI .i64 i] ++ jks 65, [.row 1 es]⟩
def m5 : List Bool := maskOf (st5 [] [] 0 0)
noncomputable def r5_b_k0 {ι : Type} (st : ι → S) (inv : ι → Prop) (μ : ι → Nat) (k : ι) (q : AV → Prop) : Kont := kBlk (2 : Nat) (kSeq (aCode Tryd.K YtgidbnonalbeeaaDoor.G5 (cAt [1, 1, 1, 1, 0, 1, 0, 0, 1, 0, 0, 1, 1, 1, 1] Tryd.b5) (kBlk (1 : Nat) (kSeq (aCode Tryd.K YtgidbnonalbeeaaDoor.G5 (cAt [1, 1, 1, 1, 0, 1, 0, 0, 1, 1] Tryd.b5) (kFamM [] YtgidbnonalbeeaaDoor.m5 st inv μ k (YtgidbnonalbeeaaDoor.r5_k0 q))) (kFamM [] YtgidbnonalbeeaaDoor.m5 st inv μ k (YtgidbnonalbeeaaDoor.r5_k0 q))))) (kBlk (1 : Nat) (kSeq (aCode Tryd.K YtgidbnonalbeeaaDoor.G5 (cAt [1, 1, 1, 1, 0, 1, 0, 0, 1, 1] Tryd.b5) (kFamM [] YtgidbnonalbeeaaDoor.m5 st inv μ k (YtgidbnonalbeeaaDoor.r5_k0 q))) (kFamM [] YtgidbnonalbeeaaDoor.m5 st inv μ k (YtgidbnonalbeeaaDoor.r5_k0 q)))))
theorem r5_b {ι : Type} (st : ι → S) (inv : ι → Prop) (μ : ι → Nat) (k : ι) (ds es : List (List D)) (n i : Int) (q : AV → Prop) :
  (aCode Tryd.K G5 (cAt [1, 1, 1, 1, 0, 1, 0, 0] Tryd.b5) (kFamM [] m5 st inv μ k (r5_k0 q)) (st5 ds es n i)) = (
  bcase (decide (i < (120 : Int))) (
   ((List.take (List.length es) es) = (strsD (unSS (List.take (List.length es) es)))) ∧
   bcase ((Prod.snd (false, Prod.snd (YtgidbnonalbeeaaDoor.pickFrom (unSS (List.take (List.length es) es)) (99 : Nat) (0 : Nat)))) != (0 : Int)) (
    bcase ((Prod.snd (false, Prod.snd (YtgidbnonalbeeaaDoor.pickFrom (unSS (List.take (List.length es) es)) (99 : Nat) (0 : Nat)))) == (9 : Int)) (
     bcase (decide ((Prod.fst (Prod.fst (YtgidbnonalbeeaaDoor.pickFrom (unSS (List.take (List.length es) es)) (99 : Nat) (0 : Nat)), (false, Prod.snd (YtgidbnonalbeeaaDoor.pickFrom (unSS (List.take (List.length es) es)) (99 : Nat) (0 : Nat))))) = (⟨#[]⟩ : ByteArray))) (
      bcase (decide (n ≤ (99 : Int))) (
       ((List.length ds) ≤ LIM) →
       q (mkB (decide (n ≥ (IntKind.wrap IntKind.i64 ((99 : Int) - ((List.length ds) : Int))))))) (
       q (mkB false))) (
      q (mkB false))) (
     q (mkB false))) (
    True ∧
    bcase (!(YtgidbnonalbeeaaDoor.userB (Prod.fst (Prod.fst (YtgidbnonalbeeaaDoor.pickFrom (unSS (List.take (List.length es) es)) (99 : Nat) (0 : Nat)), (false, Prod.snd (YtgidbnonalbeeaaDoor.pickFrom (unSS (List.take (List.length es) es)) (99 : Nat) (0 : Nat))))))) (
     q (mkB false)) (
     ALoop (aCode Tryd.K YtgidbnonalbeeaaDoor.G5 (cAt [1, 1, 1, 1, 0, 1, 0, 0, 1, 0, 0, 1, 1, 1, 0, 1, 0, 0] Tryd.b5)) (YtgidbnonalbeeaaDoor.r5_b_k0 st inv μ k q) ⟨[AV.d (D.sl ds), AV.jk, mkB false, AV.vw (0 : Nat) (List.length es), mkI IntKind.i64 n, mkI IntKind.i64 i, mkS (Prod.fst (Prod.fst (YtgidbnonalbeeaaDoor.pickFrom (unSS (List.take (List.length es) es)) (99 : Nat) (0 : Nat)), (false, Prod.snd (YtgidbnonalbeeaaDoor.pickFrom (unSS (List.take (List.length es) es)) (99 : Nat) (0 : Nat))))), mkB (Prod.fst (false, Prod.snd (YtgidbnonalbeeaaDoor.pickFrom (unSS (List.take (List.length es) es)) (99 : Nat) (0 : Nat)))), mkI IntKind.i64 (Prod.snd (false, Prod.snd (YtgidbnonalbeeaaDoor.pickFrom (unSS (List.take (List.length es) es)) (99 : Nat) (0 : Nat)))), mkI IntKind.i64 (0 : Int), AV.jk, AV.jk, AV.jk, AV.jk, AV.jk, AV.jk, AV.jk, AV.jk, mkI IntKind.i64 i, mkB true, AV.jk, AV.jk, AV.tp [mkS (Prod.fst (Prod.fst (YtgidbnonalbeeaaDoor.pickFrom (unSS (List.take (List.length es) es)) (99 : Nat) (0 : Nat)), (false, Prod.snd (YtgidbnonalbeeaaDoor.pickFrom (unSS (List.take (List.length es) es)) (99 : Nat) (0 : Nat))))), mkB (Prod.fst (false, Prod.snd (YtgidbnonalbeeaaDoor.pickFrom (unSS (List.take (List.length es) es)) (99 : Nat) (0 : Nat)))), mkI IntKind.i64 (Prod.snd (false, Prod.snd (YtgidbnonalbeeaaDoor.pickFrom (unSS (List.take (List.length es) es)) (99 : Nat) (0 : Nat))))], AV.vw (0 : Nat) (List.length es), AV.tp [mkS (Prod.fst (Prod.fst (YtgidbnonalbeeaaDoor.pickFrom (unSS (List.take (List.length es) es)) (99 : Nat) (0 : Nat)), (false, Prod.snd (YtgidbnonalbeeaaDoor.pickFrom (unSS (List.take (List.length es) es)) (99 : Nat) (0 : Nat))))), mkB (Prod.fst (false, Prod.snd (YtgidbnonalbeeaaDoor.pickFrom (unSS (List.take (List.length es) es)) (99 : Nat) (0 : Nat)))), mkI IntKind.i64 (Prod.snd (false, Prod.snd (YtgidbnonalbeeaaDoor.pickFrom (unSS (List.take (List.length es) es)) (99 : Nat) (0 : Nat))))], mkS (Prod.fst (Prod.fst (YtgidbnonalbeeaaDoor.pickFrom (unSS (List.take (List.length es) es)) (99 : Nat) (0 : Nat)), (false, Prod.snd (YtgidbnonalbeeaaDoor.pickFrom (unSS (List.take (List.length es) es)) (99 : Nat) (0 : Nat))))), mkB (Prod.fst (false, Prod.snd (YtgidbnonalbeeaaDoor.pickFrom (unSS (List.take (List.length es) es)) (99 : Nat) (0 : Nat)))), mkI IntKind.i64 (Prod.snd (false, Prod.snd (YtgidbnonalbeeaaDoor.pickFrom (unSS (List.take (List.length es) es)) (99 : Nat) (0 : Nat)))), mkI IntKind.i64 (Prod.snd (false, Prod.snd (YtgidbnonalbeeaaDoor.pickFrom (unSS (List.take (List.length es) es)) (99 : Nat) (0 : Nat)))), mkB false, AV.jk, AV.jk, AV.jk, AV.jk, AV.jk, AV.jk, AV.jk, AV.jk, AV.jk, AV.jk, AV.jk, AV.jk, AV.jk, AV.jk, AV.jk, AV.jk, AV.jk, mkB (Prod.fst (false, Prod.snd (YtgidbnonalbeeaaDoor.pickFrom (unSS (List.take (List.length es) es)) (99 : Nat) (0 : Nat)))), mkB false, mkS (Prod.fst (Prod.fst (YtgidbnonalbeeaaDoor.pickFrom (unSS (List.take (List.length es) es)) (99 : Nat) (0 : Nat)), (false, Prod.snd (YtgidbnonalbeeaaDoor.pickFrom (unSS (List.take (List.length es) es)) (99 : Nat) (0 : Nat))))), mkB (YtgidbnonalbeeaaDoor.userB (Prod.fst (Prod.fst (YtgidbnonalbeeaaDoor.pickFrom (unSS (List.take (List.length es) es)) (99 : Nat) (0 : Nat)), (false, Prod.snd (YtgidbnonalbeeaaDoor.pickFrom (unSS (List.take (List.length es) es)) (99 : Nat) (0 : Nat)))))), mkB (!(YtgidbnonalbeeaaDoor.userB (Prod.fst (Prod.fst (YtgidbnonalbeeaaDoor.pickFrom (unSS (List.take (List.length es) es)) (99 : Nat) (0 : Nat)), (false, Prod.snd (YtgidbnonalbeeaaDoor.pickFrom (unSS (List.take (List.length es) es)) (99 : Nat) (0 : Nat))))))), mkB false, AV.jk, AV.jk, AV.jk, AV.jk, AV.jk, AV.jk, AV.jk, AV.jk, AV.jk, AV.jk, AV.jk, AV.jk, AV.jk, AV.jk, AV.jk, AV.jk, AV.jk, AV.jk], [Ob.row (1 : Nat) es]⟩))) (
   q (mkB false))) := by kernel_rfl

def st5i (ds es : List (List D)) (n i : Int) (s : ByteArray) (k : Int) : S := ⟨[.d (.sl ds), .jk, mkB false, .vw 0 es.length, mkI .i64 n, mkI .i64 i, mkS s, .jk, .jk, mkI .i64 k] ++ jks 61, [.row 1 es]⟩
def m5i : List Bool := maskOf (st5i [] [] 0 0 ⟨#[]⟩ 0)
theorem r5_c {ι : Type} (st : ι → S) (inv : ι → Prop) (μ : ι → Nat) (k : ι) {ι2 : Type} (st2 : ι2 → S) (inv2 : ι2 → Prop) (μ2 : ι2 → Nat) (k2 : ι2) (ds es : List (List D)) (n i : Int) (s : ByteArray) (j : Int) (q : AV → Prop) :
  (aCode Tryd.K G5 (cAt [1, 1, 1, 1, 0, 1, 0, 0, 1, 0, 0, 1, 1, 1, 0, 1, 0, 0] Tryd.b5) (kFamM [] m5i st2 inv2 μ2 k2 (r5_b_k0 st inv μ k q)) (st5i ds es n i s j)) = (
  bcase (decide (j < ((List.length es) : Int))) (
   (((0 : Int) ≤ j) ∧ (j < ((List.length es) : Int))) ∧
   ((Int.toNat j) < (List.length es)) ∧
   ((0 : Nat) ≤ (List.length (List.getD es (Int.toNat j) []))) ∧
   ((1 : Nat) ≤ (List.length (List.drop (0 : Nat) (List.getD es (Int.toNat j) [])))) ∧
   ((List.getD (List.drop (0 : Nat) (List.getD es (Int.toNat j) [])) (0 : Nat) d0) = (D.v (Value.string (strD (List.getD (List.drop (0 : Nat) (List.getD es (Int.toNat j) [])) (0 : Nat) d0))))) ∧
   bcase (decide ((strD (List.getD (List.drop (0 : Nat) (List.getD es (Int.toNat j) [])) (0 : Nat) d0)) = s)) (
    q (mkB false)) (
    FamNext st2 inv2 μ2 k2 ⟨[AV.d (D.sl ds), AV.jk, mkB false, AV.vw (0 : Nat) (List.length es), mkI IntKind.i64 n, mkI IntKind.i64 i, mkS s, AV.jk, AV.jk, mkI IntKind.i64 (IntKind.wrap IntKind.i64 (j + (1 : Int))), AV.jk, AV.jk, AV.jk, AV.jk, AV.jk, AV.jk, AV.jk, AV.jk, AV.jk, AV.jk, AV.jk, AV.jk, AV.jk, AV.jk, AV.jk, AV.jk, AV.jk, AV.jk, AV.jk, AV.jk, AV.jk, AV.jk, AV.jk, AV.jk, AV.jk, AV.jk, AV.jk, AV.jk, AV.jk, AV.jk, AV.jk, AV.jk, AV.jk, AV.jk, AV.jk, AV.jk, AV.jk, AV.jk, AV.jk, AV.jk, AV.jk, AV.jk, AV.jk, AV.jk, AV.jk, AV.jk, AV.jk, AV.jk, AV.jk, AV.jk, AV.jk, AV.jk, AV.jk, AV.jk, AV.jk, AV.jk, AV.jk, AV.jk, AV.jk, AV.jk, AV.jk], [Ob.row (1 : Nat) es]⟩)) (
   (∀ (c : List D), (c ∈ [[D.v (Value.string s)]]) → (List.length c) = 1) ∧
   ((List.length es) = (List.length es)) ∧
   (((List.length es) + 1) ≤ LIM) ∧
   FamNext st inv μ k ⟨[AV.d (D.sl ds), AV.jk, mkB false, AV.vw (0 : Nat) ((List.length es) + 1), mkI IntKind.i64 (IntKind.wrap IntKind.i64 (n + (1 : Int))), mkI IntKind.i64 (IntKind.wrap IntKind.i64 (i + (1 : Int))), AV.jk, AV.jk, AV.jk, AV.jk, AV.jk, AV.jk, AV.jk, AV.jk, AV.jk, AV.jk, AV.jk, AV.jk, AV.jk, AV.jk, AV.jk, AV.jk, AV.jk, AV.jk, AV.jk, AV.jk, AV.jk, AV.jk, AV.jk, AV.jk, AV.jk, AV.jk, AV.jk, AV.jk, AV.jk, AV.jk, AV.jk, AV.jk, AV.jk, AV.jk, AV.jk, AV.jk, AV.jk, AV.jk, AV.jk, AV.jk, AV.jk, AV.jk, AV.jk, AV.jk, AV.jk, AV.jk, AV.jk, AV.jk, AV.jk, AV.jk, AV.jk, AV.jk, AV.jk, AV.jk, AV.jk, AV.jk, AV.jk, AV.jk, AV.jk, AV.jk, AV.jk, AV.jk, AV.jk, AV.jk, AV.jk], [Ob.row (1 : Nat) (es ++ [[D.v (Value.string s)]]), Ob.row 1 [[D.v (Value.string s)]]]⟩)) := by kernel_rfl

-- the plain law
theorem pick_spec (l : List ByteArray) : ∀ (f n : Nat), (∃ j : Nat, n ≤ j ∧ j < n + f ∧ pickFrom l f n = (devName ((j : Int) + 1), 0) ∧ memB (devName ((j : Int) + 1)) l = false) ∨
    (pickFrom l f n = (⟨#[]⟩, 9) ∧ ∀ j : Nat, n ≤ j → j < n + f → memB (devName ((j : Int) + 1)) l = true)
  | 0, n => .inr ⟨rfl, fun j h1 h2 => by omega⟩
  | f + 1, n => by
    unfold pickFrom
    by_cases h : memB (devName ((n : Int) + 1)) l = true
    · rw [if_pos h]
      rcases pick_spec l f (n + 1) with ⟨j, h1, h2, h3, h4⟩ | ⟨h1, h2⟩
      · exact .inl ⟨j, by omega, by omega, h3, h4⟩
      · refine .inr ⟨h1, fun j h3 h4 => ?_⟩
        by_cases e : j = n
        · subst e; exact h
        · exact h2 j (by omega) (by omega)
    · rw [if_neg h]
      exact .inl ⟨n, Nat.le_refl _, by omega, rfl, by simpa using h⟩
theorem ofNat_inj {a b : Nat} (ha : a < 256) (hb : b < 256) (h : UInt8.ofNat a = UInt8.ofNat b) : a = b := by
  have := congrArg UInt8.toNat h
  simpa [Nat.mod_eq_of_lt ha, Nat.mod_eq_of_lt hb] using this
theorem dig_list {a : Nat} (h : a < 100) : (a < 10 ∧ Lib.decDigits a = [UInt8.ofNat (48 + a)]) ∨ (10 ≤ a ∧ Lib.decDigits a = [UInt8.ofNat (48 + a / 10), UInt8.ofNat (48 + a % 10)]) := by
  by_cases h1 : a < 10
  · exact .inl ⟨h1, Lib.decDigits_one h1⟩
  · exact .inr ⟨by omega, Lib.decDigits_two h1 h⟩
theorem dev_list (n : Nat) : (devName ((n : Int) + 1)).data.toList = 100 :: Lib.decDigits (n + 1) := by
  unfold devName itoaS
  rw [ByteArray.data_append, show ((n : Int) + 1).toNat = n + 1 by omega]
  simp
theorem dev_inj {a b : Nat} (ha : a < 99) (hb : b < 99) (h : devName ((a : Int) + 1) = devName ((b : Int) + 1)) : a = b := by
  have h := congrArg (fun x => x.data.toList) h
  simp only [dev_list, List.cons.injEq, true_and] at h
  rcases dig_list (a := a + 1) (by omega) with ⟨h1, e1⟩ | ⟨h1, e1⟩ <;> rcases dig_list (a := b + 1) (by omega) with ⟨h2, e2⟩ | ⟨h2, e2⟩ <;> rw [e1, e2] at h
  · have := ofNat_inj (by omega) (by omega) (List.cons.inj h).1; omega
  · simp at h
  · simp at h
  · have i1 := ofNat_inj (by omega) (by omega) (List.cons.inj h).1
    have i2 := ofNat_inj (by omega) (by omega) (List.cons.inj (List.cons.inj h).2).1
    omega
theorem digit_letter {d : Nat} (h : d < 10) : UInt8.ofNat (48 + d) ∈ letters.data.toList := by
  rw [letter_iff]
  have : (UInt8.ofNat (48 + d)).toNat = 48 + d := by simp; omega
  omega
theorem dev_user {a : Nat} (ha : a < 99) : userB (devName ((a : Int) + 1)) = true := by
  have el : (devName ((a : Int) + 1)).data.toList.length = (devName ((a : Int) + 1)).size := Array.length_toList
  have hl := dev_list a
  have h100 : (100 : UInt8) ∈ letters.data.toList := by decide
  simp only [userB, Bool.and_eq_true, decide_eq_true_eq, List.all_eq_true]
  rw [hl] at el ⊢
  rcases dig_list (a := a + 1) (by omega) with ⟨h1, e1⟩ | ⟨h1, e1⟩ <;> rw [e1] at el ⊢ <;> simp only [List.length_cons, List.length_nil] at el
  · refine ⟨⟨by omega, by omega⟩, fun b hb => ?_⟩
    simp only [List.mem_cons, List.not_mem_nil, or_false] at hb
    rcases hb with rfl | rfl
    · exact h100
    · exact digit_letter h1
  · refine ⟨⟨by omega, by omega⟩, fun b hb => ?_⟩
    simp only [List.mem_cons, List.not_mem_nil, or_false] at hb
    rcases hb with rfl | rfl | rfl
    · exact h100
    · exact digit_letter (by omega)
    · exact digit_letter (by omega)

/-- How many of the 99 names are among these. -/
def cnt (l : List ByteArray) : Nat → Nat
  | 0 => 0
  | n + 1 => cnt l n + if memB (devName ((n : Int) + 1)) l = true then 1 else 0
theorem cnt_le (l : List ByteArray) : ∀ n, cnt l n ≤ n
  | 0 => Nat.le_refl _
  | n + 1 => by have := cnt_le l n; unfold cnt; split <;> omega
theorem cnt_all (l : List ByteArray) : ∀ n, (∀ j : Nat, j < n → memB (devName ((j : Int) + 1)) l = true) → cnt l n = n
  | 0, _ => rfl
  | n + 1, h => by unfold cnt; rw [cnt_all l n (fun j hj => h j (by omega)), if_pos (h n (by omega))]
theorem memB_snoc (x y : ByteArray) (l : List ByteArray) : memB x (l ++ [y]) = (memB x l || decide (y = x)) := by simp [memB]
theorem memB_cons (x y : ByteArray) (l : List ByteArray) : memB x (y :: l) = (decide (y = x) || memB x l) := by simp [memB]
theorem cnt_snoc (l : List ByteArray) {j : Nat} (hj : j < 99) (hm : memB (devName ((j : Int) + 1)) l = false) : ∀ n, n ≤ 99 → cnt (l ++ [devName ((j : Int) + 1)]) n = cnt l n + if j < n then 1 else 0
  | 0, _ => by simp [cnt]
  | n + 1, hn => by
    have ih := cnt_snoc l hj hm n (by omega)
    unfold cnt
    rw [ih, memB_snoc]
    by_cases e : j = n
    · subst e
      rw [hm]; simp
    · have : ¬ devName ((j : Int) + 1) = devName ((n : Int) + 1) := fun h => e (dev_inj hj (by omega) h)
      rw [decide_eq_false this, Bool.or_false]
      by_cases h1 : j < n
      · have : j < n + 1 := by omega
        simp only [h1, this, if_true]; omega
      · have : ¬ j < n + 1 := by omega
        simp only [h1, this, if_false]; omega
theorem cnt_cons (x : ByteArray) (l : List ByteArray) : ∀ n, n ≤ 99 → (cnt (x :: l) n ≤ cnt l n ∨ (cnt (x :: l) n ≤ cnt l n + 1 ∧ ∃ j : Nat, j < n ∧ x = devName ((j : Int) + 1)))
  | 0, _ => .inl (Nat.le_refl _)
  | n + 1, hn => by
    unfold cnt
    rw [memB_cons]
    by_cases e : x = devName ((n : Int) + 1)
    · rw [decide_eq_true e, Bool.true_or]
      rcases cnt_cons x l n (by omega) with h | ⟨_, j, hj, ej⟩
      · refine .inr ⟨?_, n, by omega, e⟩
        simp only [if_true]; split <;> omega
      · have := dev_inj (by omega) (by omega) (ej.symm.trans e)
        omega
    · rw [decide_eq_false e, Bool.false_or]
      rcases cnt_cons x l n (by omega) with h | ⟨h, j, hj, ej⟩
      · exact .inl (by omega)
      · exact .inr ⟨by omega, j, by omega, ej⟩
theorem cnt_len : ∀ (l : List ByteArray), cnt l 99 ≤ l.length
  | [] => by
    have : ∀ n, cnt [] n = 0 := by
      intro n; induction n with
      | zero => rfl
      | succ n ih => unfold cnt; rw [ih]; simp [memB]
    rw [this]; exact Nat.le_refl _
  | x :: l => by
    have := cnt_len l
    have h := cnt_cons x l 99 (Nat.le_refl _)
    simp only [List.length_cons]
    rcases h with h | ⟨h, _⟩ <;> omega

def F5 : List AV → Option (Prop × AV) := fun al => match al with
  | [.d (.sl ds)] => some (ds = strsD (unSS ds), mkB true)
  | _ => none
set_option maxRecDepth 4000 in
theorem c5 : PSound Tryd.prog 5 (detE F5) := by
  refine det_fn (c := Tryd.b5) mixed Tryd.K_ok (gsound_det c8 (gsound_det c9 (gsound_det c17 gsound_nil))) Tryd.func5 rfl rfl Tryd.call5 fun al p r q hF hp hq => ?_
  unfold F5 at hF; split at hF <;> cases hF
  rename_i ds
  generalize unSS ds = d at hp
  subst hp
  refine cast (r5 _ q).symm ⟨trivial, fun hlim => ⟨rfl, ⟨by split <;> omega, by split <;> omega⟩, ?_⟩⟩
  have hm : ((if (20 : Int) < ((strsD d).length : Int) then (20 : Int) else ((strsD d).length : Int)).toNat) = min d.length 20 := by
    simp only [strsD_len]; split <;> omega
  rw [hm, strsD_take]
  have hl0 : (d.take (min d.length 20)).length ≤ 20 := by simp; omega
  have hl1 : (d.take (min d.length 20)).length ≤ d.length := by simp; omega
  generalize d.take (min d.length 20) = l0 at hl0 hl1
  refine ⟨strsD_sz l0, by rw [strsD_len]; unfold LIM; omega, ?_⟩
  refine ALoop.introM [] m5 (fun x : List ByteArray × Nat => st5 (strsD d) (strsD x.1) x.2 x.2) (fun x => x.1.length = l0.length + x.2 ∧ cnt x.1 99 = cnt l0 99 + x.2) (fun x => 99 - x.2)
    ⟨[], (l0, 0), by simp [S.le, sealAll, leL, jks, st5, strsD_len], by simp⟩ fun x hx => ?_
  obtain ⟨l, n⟩ := x
  have hln : l.length = l0.length + n := hx.1
  have hc : cnt l 99 = cnt l0 99 + n := hx.2
  have hcl := cnt_le l 99
  have h0l := cnt_len l0
  refine cast (r5_b _ _ _ _ _ _ _ _ _).symm ?_
  have ht : List.take (strsD l).length (strsD l) = strsD l := List.take_of_length_le (Nat.le_refl _)
  simp only [ht, unSS_strsD]
  refine bcase_mk (fun _ => ?_) (fun h => absurd (show (n : Int) < 120 by omega) (of_decide_eq_false h))
  refine ⟨trivial, ?_⟩
  rcases pick_spec l 99 0 with ⟨j, _, hj, hp, hmem⟩ | ⟨hp, hall⟩
  · have hj : j < 99 := by omega
    simp only [hp]
    have hlen : l.length ≤ 2000 := by omega
    refine bcase_mk (fun h => by cases h) (fun _ => ⟨trivial, bcase_mk (fun h => by rw [dev_user hj] at h; cases h) (fun _ => ?_)⟩)
    refine ALoop.introM [] m5i (fun i : Nat => st5i (strsD d) (strsD l) n n (devName ((j : Int) + 1)) i) (fun i => i ≤ l.length) (fun i => l.length - i)
      ⟨[], 0, by simp [S.le, sealAll, leL, jks, st5i], by omega⟩ fun i hi => ?_
    refine cast (r5_c _ _ _ _ _ _ _ _ _ _ _ _ _ _ _).symm ?_
    simp only [strsD_len]
    refine bcase_mk (fun h => ?_) (fun h => ?_)
    · have hlt : i < l.length := by have h : (i : Int) < l.length := of_decide_eq_true h; omega
      rw [wrap_succ hlt (by unfold LIM; omega)]
      simp only [Int.toNat_natCast, strsD_getD l _ hlt, List.drop_zero, List.getD_cons_zero, strD_str]
      refine ⟨⟨by omega, by omega⟩, hlt, by simp, by simp, by simp, bcase_mk (fun h => ?_) (fun _ => ?_)⟩
      · have h : l.getD i ⟨#[]⟩ = devName ((j : Int) + 1) := of_decide_eq_true h
        have : memB (devName ((j : Int) + 1)) l = true := by
          rw [memB_iff, ← h, List.getD_eq_getElem?_getD, List.getElem?_eq_getElem hlt]; exact List.getElem_mem _
        rw [hmem] at this; cases this
      · exact ⟨[], i + 1, by simp [S.le, sealAll, leL, jks, st5i], hlt, show l.length - (i + 1) < l.length - i by omega⟩
    · have hcn := cnt_snoc l hj hmem 99 (Nat.le_refl _)
      rw [if_pos hj] at hcn
      have hcle := cnt_le (l ++ [devName ((j : Int) + 1)]) 99
      refine ⟨by simp, trivial, by unfold LIM; omega, ?_⟩
      rw [wrap_succ (n := n) (m := 2000) (by omega) (by decide), strsD_snoc]
      exact ⟨[1], (l ++ [devName ((j : Int) + 1)], n + 1), by
        simp [S.le, sealAll, S.sealR, leL, leO, jks, st5, subL, AV.sub, Ob.subO, S.fits, fitsL, AV.fits, Ob.fits, strsD_len], ⟨by simp; omega, by simp only; omega⟩, show 99 - (n + 1) < 99 - n by omega⟩
  · have hcn : cnt l 99 = 99 := cnt_all l 99 fun j hj => hall j (by omega) (by omega)
    simp only [hp]
    refine bcase_mk (fun _ => bcase_mk (fun _ => bcase_mk (fun _ => bcase_mk (fun _ hlim => ?_) (fun h => absurd (show (n : Int) ≤ 99 by omega) (of_decide_eq_false h))) (fun h => absurd trivial (of_decide_eq_false h))) (fun h => by cases h)) (fun h => by cases h)
    rw [strsD_len] at hlim ⊢
    unfold LIM at hlim
    rw [IntWalk.i64_in _ (by omega), decide_eq_true (by omega)]
    exact hq
theorem h5 : ∀ as', TyArgs Tryd.prog Tryd.f5.params.toList as' → ∃ p, F5 as' = some (p, mkB true) ∧ p := by
  intro as' h
  rw [Tryd.params5] at h
  match as', h with
  | [a], ⟨ha, _⟩ =>
    obtain ⟨y, rfl, _⟩ := arg_strs Tryd.underlying22 Tryd.underlying9 ha
    exact ⟨_, rfl, by simp⟩

end Go.Proofs.YtgidbnonalbeeaaDoor
