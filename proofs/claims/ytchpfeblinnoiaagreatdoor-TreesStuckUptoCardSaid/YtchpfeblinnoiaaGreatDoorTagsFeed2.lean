import Derived.Test.YtchpfeblinnoiaaGreatDoorTagsTag
set_option linter.unusedSimpArgs false
set_option linter.unusedVariables false
namespace Go.Proofs.YtchpfeblinnoiaaGreatDoor
open Go Go.AM Go.RowKit
noncomputable abbrev G22 : List (FuncId × En) := [(51, .det F30), (81, .det F31), (82, .det F32), (83, .det F33)]
theorem r22 (s : ByteArray) (q : AV → Prop) :
  (aCode Tryz.K G22 Tryz.b64 (kRet Tryz.K Tryz.f64.results.toList q) ⟨[mkS s] ++ List.replicate (Tryz.f64.ntmps - 1) .jk, []⟩) = (
  True ∧
  bcase ((if (rightB s) = true then (0 : Int) else (2 : Int)) != (0 : Int)) (
   q (AV.tp [AV.d (.sl []), mkI .i64 (if (rightB s) = true then (0 : Int) else (2 : Int))])) (
   (sSlash = sSlash) ∧
   bcase (pfxB s) (
    ((ByteArray.size (pfxS s)) ≤ LIM) ∧
    q (AV.tp [AV.d (.sl (toksD (Prod.fst (endT (pfxS s))))), mkI .i64 (Prod.snd (endT (pfxS s)))])) (
    (((ByteArray.size s) + (1 : Nat)) ≤ LIM) ∧
    q (AV.tp [AV.d (.sl (toksD (Prod.fst (beginT s)))), mkI .i64 (Prod.snd (beginT s))])))) := by kernel_rfl
def tagT (s : ByteArray) : List Tok × Int := if rightB s = true then (if pfxB s = true then endT (pfxS s) else beginT s) else ([], 2)
def F22 : List AV → Option (Prop × AV) := fun al => match al with
  | [.d (.v (.string s))] => some (s.size + 1 ≤ LIM, .tp [.d (.sl (toksD (tagT s).1)), mkI .i64 (tagT s).2])
  | _ => none
theorem c22 : PSound Tryz.prog 64 (detE F22) := by
  refine det_fn (c := Tryz.b64) mixed Tryz.K_ok (gsound_det c30 (gsound_det c31 (gsound_det c32 (gsound_det c33 gsound_nil)))) Tryz.func64 rfl rfl Tryz.call64 fun al p r q hF hp hq => ?_
  unfold F22 at hF; split at hF <;> cases hF
  rename_i s
  have hp : s.size + 1 ≤ LIM := hp
  refine cast (r22 s q).symm ⟨trivial, bcase_mk (fun h => ?_) (fun h => ⟨rfl, bcase_mk (fun h2 => ⟨Nat.le_trans (pfxS_size s) (by omega), ?_⟩) (fun h2 => ⟨hp, ?_⟩)⟩)⟩
  · have h1 : rightB s = false := by cases hr : rightB s <;> simp [hr] at h ⊢
    simp only [tagT, h1] at hq ⊢
    exact hq
  · have h1 : rightB s = true := by cases hr : rightB s <;> simp [hr] at h ⊢
    rw [tagT, if_pos h1, if_pos h2] at hq; exact hq
  · have h1 : rightB s = true := by cases hr : rightB s <;> simp [hr] at h ⊢
    rw [tagT, if_pos h1, if_neg (by rw [h2]; simp)] at hq; exact hq
def E21b : List AV → List Ob → (AV → List Ob → Prop) → Prop := fun al o q => ∃ (b : ByteArray) (w : Bool) (e : Int), al = [.rf 0 0] ∧ o = rdO (bytesD b) w e ∧ q (mkS b) (rdO [] w e)
theorem c21b : RSound Tryz.prog 63 E21b := RSound.mono c21 fun al o q ⟨b, w, e, h1, h2, hq⟩ => ⟨bytesD b, w, e, h1, h2, by rw [unB_bytesD], by rw [unB_bytesD]; exact hq⟩
noncomputable abbrev G17 : List (FuncId × En) := [(62, .det F20), (63, .ref (frameE E21b)), (64, .det F22)]
theorem r17 (b : List (List D)) (w : Bool) (e c : Int) (q : AV → List Ob → Prop) :
  (aCode Tryz.K G17 Tryz.b49 (kRetF Tryz.K Tryz.f49.results.toList q) ⟨[.rf 0 0, mkI .u8 c] ++ List.replicate (Tryz.f49.ntmps - 2) .jk, rdO b w e⟩) = (
  bcase (c == (60 : Int)) (
   bcase w (
    q (AV.tp [AV.nl, mkI .i64 3]) [Ob.box [AV.vw 1 (List.length b), mkB w, mkI .i64 e], Ob.row 1 b, Ob.gh [AV.rf 0 0]]) (
    bcase (c == (60 : Int)) (
     ∃ (b_1 : ByteArray),
     ∃ (w_1 : Bool),
     ∃ (e_1 : Int),
     ([AV.rf 0 0] = [AV.rf 0 0]) ∧
     ([Ob.box [AV.vw (0 + 1) (List.length b), mkB true, mkI .i64 e], Ob.row 1 b, Ob.gh [AV.rf 0 0]] = [Ob.box [AV.vw 1 (List.length (bytesD b_1)), mkB w_1, mkI .i64 e_1], Ob.row 1 (bytesD b_1), Ob.gh [AV.rf 0 0]]) ∧
     ((Option.some (Ob.gh [AV.rf 0 0])) = (Option.some (Ob.gh [AV.rf 0 0]))) ∧
     True ∧
     q (AV.tp [AV.d (.sl (toksD (Prod.fst (textT b_1)))), mkI .i64 (Prod.snd (textT b_1))]) [Ob.box [AV.vw (if 1 < 2 then 1 else 4 + (1 - 2)) 0, mkB w_1, mkI .i64 e_1], Ob.row 1 [], Ob.gh [AV.rf 0 0], Ob.gone, Ob.gone]) (
     bcase (c == (62 : Int)) (
      bcase w (
       ∃ (b_1 : ByteArray),
       ∃ (w_1 : Bool),
       ∃ (e_1 : Int),
       ([AV.rf 0 0] = [AV.rf 0 0]) ∧
       ([Ob.box [AV.vw (0 + 1) (List.length b), mkB false, mkI .i64 e], Ob.row 1 b, Ob.gh [AV.rf 0 0]] = [Ob.box [AV.vw 1 (List.length (bytesD b_1)), mkB w_1, mkI .i64 e_1], Ob.row 1 (bytesD b_1), Ob.gh [AV.rf 0 0]]) ∧
       ((Option.some (Ob.gh [AV.rf 0 0])) = (Option.some (Ob.gh [AV.rf 0 0]))) ∧
       (((ByteArray.size b_1) + (1 : Nat)) ≤ LIM) ∧
       q (AV.tp [AV.d (.sl (toksD (Prod.fst (tagT b_1)))), mkI .i64 (Prod.snd (tagT b_1))]) [Ob.box [AV.vw (if 1 < 2 then 1 else 4 + (1 - 2)) 0, mkB w_1, mkI .i64 e_1], Ob.row 1 [], Ob.gh [AV.rf 0 0], Ob.gone, Ob.gone]) (
       bcase (((List.length b) : Int) == (512 : Int)) (
        q (AV.tp [AV.nl, mkI .i64 4]) [Ob.box [AV.vw 1 (List.length b), mkB w, mkI .i64 e], Ob.row 1 b, Ob.gh [AV.rf 0 0]]) (
        (∀ (c_1 : List D), (c_1 ∈ [[D.v (.int IntKind.u8 c)]]) → (List.length c_1) = 1) ∧
        ((List.length b) = (List.length b)) ∧
        (((List.length b) + 1) ≤ LIM) ∧
        q (AV.tp [AV.nl, mkI .i64 0]) [Ob.box [AV.vw 1 ((List.length b) + 1), mkB w, mkI .i64 e], Ob.row 1 (b ++ [[D.v (.int IntKind.u8 c)]]), Ob.gh [AV.rf 0 0], Ob.row 1 [[D.v (.int IntKind.u8 c)]]]))) (
      bcase (((List.length b) : Int) == (512 : Int)) (
       q (AV.tp [AV.nl, mkI .i64 4]) [Ob.box [AV.vw 1 (List.length b), mkB w, mkI .i64 e], Ob.row 1 b, Ob.gh [AV.rf 0 0]]) (
       (∀ (c_1 : List D), (c_1 ∈ [[D.v (.int IntKind.u8 c)]]) → (List.length c_1) = 1) ∧
       ((List.length b) = (List.length b)) ∧
       (((List.length b) + 1) ≤ LIM) ∧
       q (AV.tp [AV.nl, mkI .i64 0]) [Ob.box [AV.vw 1 ((List.length b) + 1), mkB w, mkI .i64 e], Ob.row 1 (b ++ [[D.v (.int IntKind.u8 c)]]), Ob.gh [AV.rf 0 0], Ob.row 1 [[D.v (.int IntKind.u8 c)]]]))))) (
   bcase (c == (60 : Int)) (
    ∃ (b_1 : ByteArray),
    ∃ (w_1 : Bool),
    ∃ (e_1 : Int),
    ([AV.rf 0 0] = [AV.rf 0 0]) ∧
    ([Ob.box [AV.vw (0 + 1) (List.length b), mkB true, mkI .i64 e], Ob.row 1 b, Ob.gh [AV.rf 0 0]] = [Ob.box [AV.vw 1 (List.length (bytesD b_1)), mkB w_1, mkI .i64 e_1], Ob.row 1 (bytesD b_1), Ob.gh [AV.rf 0 0]]) ∧
    ((Option.some (Ob.gh [AV.rf 0 0])) = (Option.some (Ob.gh [AV.rf 0 0]))) ∧
    True ∧
    q (AV.tp [AV.d (.sl (toksD (Prod.fst (textT b_1)))), mkI .i64 (Prod.snd (textT b_1))]) [Ob.box [AV.vw (if 1 < 2 then 1 else 4 + (1 - 2)) 0, mkB w_1, mkI .i64 e_1], Ob.row 1 [], Ob.gh [AV.rf 0 0], Ob.gone, Ob.gone]) (
    bcase (c == (62 : Int)) (
     bcase w (
      ∃ (b_1 : ByteArray),
      ∃ (w_1 : Bool),
      ∃ (e_1 : Int),
      ([AV.rf 0 0] = [AV.rf 0 0]) ∧
      ([Ob.box [AV.vw (0 + 1) (List.length b), mkB false, mkI .i64 e], Ob.row 1 b, Ob.gh [AV.rf 0 0]] = [Ob.box [AV.vw 1 (List.length (bytesD b_1)), mkB w_1, mkI .i64 e_1], Ob.row 1 (bytesD b_1), Ob.gh [AV.rf 0 0]]) ∧
      ((Option.some (Ob.gh [AV.rf 0 0])) = (Option.some (Ob.gh [AV.rf 0 0]))) ∧
      (((ByteArray.size b_1) + (1 : Nat)) ≤ LIM) ∧
      q (AV.tp [AV.d (.sl (toksD (Prod.fst (tagT b_1)))), mkI .i64 (Prod.snd (tagT b_1))]) [Ob.box [AV.vw (if 1 < 2 then 1 else 4 + (1 - 2)) 0, mkB w_1, mkI .i64 e_1], Ob.row 1 [], Ob.gh [AV.rf 0 0], Ob.gone, Ob.gone]) (
      bcase (((List.length b) : Int) == (512 : Int)) (
       q (AV.tp [AV.nl, mkI .i64 4]) [Ob.box [AV.vw 1 (List.length b), mkB w, mkI .i64 e], Ob.row 1 b, Ob.gh [AV.rf 0 0]]) (
       (∀ (c_1 : List D), (c_1 ∈ [[D.v (.int IntKind.u8 c)]]) → (List.length c_1) = 1) ∧
       ((List.length b) = (List.length b)) ∧
       (((List.length b) + 1) ≤ LIM) ∧
       q (AV.tp [AV.nl, mkI .i64 0]) [Ob.box [AV.vw 1 ((List.length b) + 1), mkB w, mkI .i64 e], Ob.row 1 (b ++ [[D.v (.int IntKind.u8 c)]]), Ob.gh [AV.rf 0 0], Ob.row 1 [[D.v (.int IntKind.u8 c)]]]))) (
     bcase (((List.length b) : Int) == (512 : Int)) (
      q (AV.tp [AV.nl, mkI .i64 4]) [Ob.box [AV.vw 1 (List.length b), mkB w, mkI .i64 e], Ob.row 1 b, Ob.gh [AV.rf 0 0]]) (
      (∀ (c_1 : List D), (c_1 ∈ [[D.v (.int IntKind.u8 c)]]) → (List.length c_1) = 1) ∧
      ((List.length b) = (List.length b)) ∧
      (((List.length b) + 1) ≤ LIM) ∧
      q (AV.tp [AV.nl, mkI .i64 0]) [Ob.box [AV.vw 1 ((List.length b) + 1), mkB w, mkI .i64 e], Ob.row 1 (b ++ [[D.v (.int IntKind.u8 c)]]), Ob.gh [AV.rf 0 0], Ob.row 1 [[D.v (.int IntKind.u8 c)]]]))))) := by kernel_rfl
def nextT (b : ByteArray) (w : Bool) (c : UInt8) : List Tok × Int × ByteArray × Bool :=
  if c = 60 then (if w = true then ([], 3, b, w) else ((textT b).1, (textT b).2, ⟨#[]⟩, true))
  else if c = 62 ∧ w = true then ((tagT b).1, (tagT b).2, ⟨#[]⟩, false)
  else if b.size = 512 then ([], 4, b, w) else ([], 0, b.push c, w)
def E17 : List AV → List Ob → (AV → List Ob → Prop) → Prop := fun al o q => ∃ (b : ByteArray) (w : Bool) (e : Int) (c : UInt8), al = [.rf 0 0, mkI .u8 c.toNat] ∧ o = rdO (bytesD b) w e ∧ b.size ≤ 512 ∧
  q (.tp [.d (.sl (toksD (nextT b w c).1)), mkI .i64 (nextT b w c).2.1]) (rdO (bytesD (nextT b w c).2.2.1) (nextT b w c).2.2.2 e)
theorem c17 : RSound Tryz.prog 49 E17 := by
  refine ref_fnR (c := Tryz.b49) mixed Tryz.K_ok (gsound_det c20 (gsound_ref (RSound.frame c21b) (gsound_det c22 gsound_nil))) Tryz.func49 rfl rfl Tryz.call49 fun al o q ⟨b, w, e, c, h1, h2, hb, hq⟩ => ?_
  subst h1 h2
  have fin : ∀ (av : AV) (o' : List Ob) (t : List Tok) (k : Int) (b' : ByteArray) (w' : Bool), nextT b w c = (t, k, b', w') → leR av (.tp [.d (.sl (toksD t)), mkI .i64 k]) → leO o' (rdO (bytesD b') w' e) → trimR q av o' := by
    intro av o' t k b' w' hn h1 h2
    rw [hn] at hq
    exact ⟨_, _, h1, h2, by simp [rdO, AV.fits, Ob.fits, fitsL], hq⟩
  suffices key : ∀ T : AV → List Ob → Prop, (∀ (av : AV) (o' : List Ob) (t : List Tok) (k : Int) (b' : ByteArray) (w' : Bool), nextT b w c = (t, k, b', w') → leR av (.tp [.d (.sl (toksD t)), mkI .i64 k]) → leO o' (rdO (bytesD b') w' e) → T av o') →
      aCode Tryz.K G17 Tryz.b49 (kRetF Tryz.K Tryz.f49.results.toList T) ⟨[.rf 0 0, mkI .u8 c.toNat] ++ List.replicate (Tryz.f49.ntmps - 2) .jk, rdO (bytesD b) w e⟩ from key (trimR q) fin
  clear fin hq
  intro T fin
  refine cast (r17 (bytesD b) w e (c.toNat : Int) T).symm ?_
  have e60 : ((c.toNat : Int) == 60) = decide (c = 60) := by
    rw [Bool.eq_iff_iff, beq_iff_eq, decide_eq_true_eq, ← UInt8.toNat_inj]
    show _ ↔ c.toNat = 60
    omega
  have e62 : ((c.toNat : Int) == 62) = decide (c = 62) := by
    rw [Bool.eq_iff_iff, beq_iff_eq, decide_eq_true_eq, ← UInt8.toNat_inj]
    show _ ↔ c.toNat = 62
    omega
  have hl : (((bytesD b).length : Int) == 512) = decide (b.size = 512) := by
    rw [bytesD_len, Bool.eq_iff_iff, beq_iff_eq, decide_eq_true_eq]
    omega
  have nil0 : toksD [] = [] := rfl
  have held : ∀ (h60 : ¬ c = 60) (h62 : ¬ (c = 62 ∧ w = true)), bcase (((bytesD b).length : Int) == 512) (T (.tp [.nl, mkI .i64 4]) [.box [.vw 1 (bytesD b).length, mkB w, mkI .i64 e], .row 1 (bytesD b), .gh [.rf 0 0]])
      ((∀ (c_1 : List D), (c_1 ∈ [[D.v (Value.int IntKind.u8 (c.toNat : Int))]]) → c_1.length = 1) ∧ ((bytesD b).length = (bytesD b).length) ∧ ((bytesD b).length + 1 ≤ LIM) ∧
        T (.tp [.nl, mkI .i64 0]) [.box [.vw 1 ((bytesD b).length + 1), mkB w, mkI .i64 e], .row 1 (bytesD b ++ [[D.v (Value.int IntKind.u8 (c.toNat : Int))]]), .gh [.rf 0 0], .row 1 [[D.v (Value.int IntKind.u8 (c.toNat : Int))]]]) := by
    intro h60 h62
    rw [hl]
    refine bcase_dec (fun h => ?_) (fun h => ⟨by simp, rfl, by rw [bytesD_len]; unfold LIM; omega, ?_⟩)
    · exact fin _ _ [] 4 b w (by simp [nextT, h60, h62, h]) (by simp [leR, leL, nil0]) (by simp [leO, rdO])
    · refine fin _ _ [] 0 (b.push c) w (by simp [nextT, h60, h62, h]) (by simp [leR, leL, nil0]) ?_
      rw [bytesD_push, bytesD_len]
      simp [leO, rdO, bytesD_len, size_push]
  by_cases h60 : c = 60
  · rw [decide_eq_true h60] at e60
    refine bcaseT e60 ?_
    cases w with
    | true => exact bcaseT rfl (fin _ _ [] 3 b true (by simp [nextT, h60]) (by simp [leR, leL, nil0]) (by simp [leO, rdO]))
    | false =>
      refine bcaseF rfl (bcaseT e60 ⟨b, true, e, rfl, rfl, rfl, trivial, ?_⟩)
      exact fin _ _ (textT b).1 (textT b).2 ⟨#[]⟩ true (by simp [nextT, h60]) (by simp [leR, leL]) (by simp [leO, rdO, bytesD])
  · rw [decide_eq_false h60] at e60
    refine bcaseF e60 (bcaseF e60 ?_)
    by_cases h62 : c = 62
    · rw [decide_eq_true h62] at e62
      refine bcaseT e62 ?_
      cases w with
      | true =>
        refine bcaseT rfl ⟨b, false, e, rfl, rfl, rfl, by unfold LIM; omega, ?_⟩
        exact fin _ _ (tagT b).1 (tagT b).2 ⟨#[]⟩ false (by simp [nextT, h60, h62]) (by simp [leR, leL]) (by simp [leO, rdO, bytesD])
      | false => exact bcaseF rfl (held h60 (by simp))
    · rw [decide_eq_false h62] at e62
      refine bcaseF e62 (held h60 (by simp [h62]))
end Go.Proofs.YtchpfeblinnoiaaGreatDoor

namespace Go.Proofs.YtchpfeblinnoiaaGreatDoor
open Go Go.AM Go.RowKit
noncomputable abbrev G12 : List (FuncId × En) := [(49, .ref (frameE E17))]
theorem r12n (s : ByteArray) (q : AV → List Ob → Prop) :
  (aCode Tryz.K G12 Tryz.b30 (kRetF Tryz.K Tryz.f30.results.toList q) ⟨[.d (.v (.pointer none)), mkS s] ++ List.replicate (Tryz.f30.ntmps - 2) .jk, [.gh []]⟩) = (
  q (AV.tp [AV.nl, mkI .i64 1]) [Ob.gh []]) := by kernel_rfl
noncomputable def r12_k0 (q : AV → (List Ob) → Prop) : Kont := kBlk (0 : Nat) (kSeq (aCode Tryz.K G12 (cAt [1, 1, 1, 1] Tryz.b30) (kRetF Tryz.K (Array.toList (Func.results Tryz.f30)) q)) (kRetF Tryz.K (Array.toList (Func.results Tryz.f30)) q))
theorem r12 (s : ByteArray) (b : List (List D)) (w : Bool) (e : Int) (q : AV → List Ob → Prop) :
  (aCode Tryz.K G12 Tryz.b30 (kRetF Tryz.K Tryz.f30.results.toList q) ⟨[.rf 0 0, mkS s] ++ List.replicate (Tryz.f30.ntmps - 2) .jk, rdO b w e⟩) = (
  ((List.length (bytesD s)) ≤ LIM) →
  ALoop (aCode Tryz.K G12 (cAt [1, 1, 1, 0, 1, 0, 0] Tryz.b30)) (r12_k0 q) ⟨[AV.rf 0 0, mkS s, AV.jk, AV.jk, AV.nl, mkI .i64 0, AV.nl, AV.jk, AV.jk, AV.jk, AV.jk, AV.rf 0 0, mkB false, mkS s, AV.d (.sl (bytesD s)), mkI .i64 ((List.length (bytesD s)) : Int), mkI .i64 0, AV.jk, AV.jk, AV.jk, AV.jk, AV.jk, AV.jk, AV.jk, AV.jk, AV.jk, AV.jk, AV.jk, AV.jk, AV.jk, AV.jk, AV.jk, AV.jk, AV.jk, AV.jk, AV.jk, AV.jk, AV.jk, AV.jk, AV.jk, AV.jk, AV.jk, AV.jk, AV.jk], [Ob.box [AV.vw 1 (List.length b), mkB w, mkI .i64 e], Ob.row 1 b, Ob.gh [AV.rf 0 0]]⟩) := by kernel_rfl
def st12 (s : ByteArray) (b ts : List (List D)) (w : Bool) (e i : Int) : S := ⟨[.rf 0 0, .jk, .jk, .jk, .jk, .jk, .vw 3 ts.length] ++ jks 7 ++ [.d (.sl (bytesD s)), mkI .i64 (bytesD s).length, mkI .i64 i] ++ jks 27, rdO b w e ++ [.row 4 ts]⟩
def m12 : List Bool := maskOf (st12 ⟨#[]⟩ [] [] false 0 0)
theorem r12_b {ι : Type} (st : ι → S) (inv : ι → Prop) (μ : ι → Nat) (k : ι) (s : ByteArray) (b ts : List (List D)) (w : Bool) (e i : Int) (q : AV → List Ob → Prop) :
  (aCode Tryz.K G12 (cAt [1, 1, 1, 0, 1, 0, 0] Tryz.b30) (kFamM [] m12 st inv μ k (r12_k0 q)) (st12 s b ts w e i)) = (
  bcase (decide (i < ((List.length (bytesD s)) : Int))) (
   (((0 : Int) ≤ i) ∧ (i < ((List.length (bytesD s)) : Int))) ∧
   ((List.length (List.getD (bytesD s) (Int.toNat i) [])) = 1) ∧
   ((1 : Nat) ≤ (List.length (List.getD (bytesD s) (Int.toNat i) []))) ∧
   ((List.getD (List.getD (bytesD s) (Int.toNat i) []) 0 d0) = (D.v (.int IntKind.u8 (intD (List.getD (List.getD (bytesD s) (Int.toNat i) []) 0 d0))))) ∧
   bcase (e != (0 : Int)) (
    q (AV.tp [AV.vw 3 (List.length ts), mkI .i64 e]) [Ob.box [AV.vw 1 (List.length b), mkB w, mkI .i64 e], Ob.row 1 b, Ob.gh [AV.rf 0 0], Ob.row 4 ts]) (
    ∃ (b_1 : ByteArray),
    ∃ (w_1 : Bool),
    ∃ (e_1 : Int),
    ∃ (c : UInt8),
    ([AV.rf 0 0, mkI .u8 (intD (List.getD (List.getD (bytesD s) (Int.toNat i) []) 0 d0))] = [AV.rf 0 0, mkI .u8 ((UInt8.toNat c) : Int)]) ∧
    ([Ob.box [AV.vw (0 + 1) (List.length b), mkB w, mkI .i64 e], Ob.row 1 b, Ob.gh [AV.rf 0 0]] = [Ob.box [AV.vw 1 (List.length (bytesD b_1)), mkB w_1, mkI .i64 e_1], Ob.row 1 (bytesD b_1), Ob.gh [AV.rf 0 0]]) ∧
    ((ByteArray.size b_1) ≤ (512 : Nat)) ∧
    ((Option.some (Ob.gh [AV.rf 0 0])) = (Option.some (Ob.gh [AV.rf 0 0]))) ∧
    (∀ (c_1 : List D), (c_1 ∈ (toksD (Prod.fst (nextT b_1 w_1 c)))) → (List.length c_1) = 4) ∧
    ((List.length ts) = (List.length ts)) ∧
    (((List.length ts) + (List.length (toksD (Prod.fst (nextT b_1 w_1 c))))) ≤ LIM) ∧
    FamNext st inv μ k ⟨[AV.rf 0 0, AV.jk, AV.jk, AV.jk, AV.jk, AV.jk, AV.vw 3 ((List.length ts) + (List.length (toksD (Prod.fst (nextT b_1 w_1 c))))), AV.jk, AV.jk, AV.jk, AV.jk, AV.jk, AV.jk, AV.jk, AV.d (.sl (bytesD s)), mkI .i64 ((List.length (bytesD s)) : Int), mkI .i64 (IntKind.wrap .i64 (i + (1 : Int))), AV.jk, AV.jk, AV.jk, AV.jk, AV.jk, AV.jk, AV.jk, AV.jk, AV.jk, AV.jk, AV.jk, AV.jk, AV.jk, AV.jk, AV.jk, AV.jk, AV.jk, AV.jk, AV.jk, AV.jk, AV.jk, AV.jk, AV.jk, AV.jk, AV.jk, AV.jk, AV.jk], [Ob.box [AV.vw (if 1 < 2 then 1 else 5 + (1 - 2)) (List.length (bytesD (Prod.fst (Prod.snd (Prod.snd (nextT b_1 w_1 c)))))), mkB (Prod.snd (Prod.snd (Prod.snd (nextT b_1 w_1 c)))), mkI .i64 (Prod.fst (Prod.snd (nextT b_1 w_1 c)))], Ob.row 1 (bytesD (Prod.fst (Prod.snd (Prod.snd (nextT b_1 w_1 c))))), Ob.gh [AV.rf 0 0], Ob.row 4 (ts ++ (toksD (Prod.fst (nextT b_1 w_1 c)))), Ob.gone, Ob.gone]⟩)) (
   q (AV.tp [AV.vw 3 (List.length ts), mkI .i64 e]) [Ob.box [AV.vw 1 (List.length b), mkB w, mkI .i64 e], Ob.row 1 b, Ob.gh [AV.rf 0 0], Ob.row 4 ts])) := by kernel_rfl
theorem beginL_len (name : ByteArray) : ∀ (f : Nat) (s : ByteArray) (l : List (ByteArray × ByteArray)), (beginL name f s l).1.length ≤ 2
  | 0, _, _ => by simp [beginL]
  | f + 1, s, l => by
    unfold beginL
    repeat' split
    all_goals first | exact beginL_len name f _ _ | simp
theorem beginT_len (s : ByteArray) : (beginT s).1.length ≤ 2 := by
  unfold beginT
  split
  · exact beginL_len _ _ _ _
  · simp
theorem tagT_len (s : ByteArray) : (tagT s).1.length ≤ 2 := by
  unfold tagT
  split
  · split
    · unfold endT; split <;> simp
    · exact beginT_len s
  · simp
theorem nextT_len (b : ByteArray) (w : Bool) (c : UInt8) : (nextT b w c).1.length ≤ 2 := by
  unfold nextT
  split
  · split
    · simp
    · simp only [textT]; split
      · simp
      · split <;> simp
  · split
    · exact tagT_len b
    · split <;> simp
theorem nextT_size (b : ByteArray) (w : Bool) (c : UInt8) (h : b.size ≤ 512) : (nextT b w c).2.2.1.size ≤ 512 := by
  unfold nextT
  split
  · split
    · exact h
    · exact Nat.zero_le _
  · split
    · exact Nat.zero_le _
    · split
      · exact h
      · show (b.push c).size ≤ _
        rw [size_push]; omega
def feedL : List UInt8 → ByteArray → Bool → Int → List Tok × ByteArray × Bool × Int
  | [], b, w, e => ([], b, w, e)
  | c :: l, b, w, e => if e ≠ 0 then ([], b, w, e) else
    ((nextT b w c).1 ++ (feedL l (nextT b w c).2.2.1 (nextT b w c).2.2.2 (nextT b w c).2.1).1, (feedL l (nextT b w c).2.2.1 (nextT b w c).2.2.2 (nextT b w c).2.1).2)
theorem feedL_err (l : List UInt8) (b : ByteArray) (w : Bool) (e : Int) (h : e ≠ 0) : feedL l b w e = ([], b, w, e) := by
  cases l with
  | nil => rfl
  | cons c l => rw [feedL, if_pos h]
def E12 : List AV → List Ob → (AV → List Ob → Prop) → Prop := fun al o q => match al with
  | [.d (.v (.pointer none)), .d (.v (.string s))] => o = [.gh []] ∧ q (.tp [.d (.sl []), mkI .i64 1]) [.gh []]
  | [.rf 0 0, .d (.v (.string s))] => ∃ (b : ByteArray) (w : Bool) (e : Int), o = rdO (bytesD b) w e ∧ b.size ≤ 512 ∧ s.size ≤ 1000000000 ∧
    q (.tp [.d (.sl (toksD (feedL s.data.toList b w e).1)), mkI .i64 (feedL s.data.toList b w e).2.2.2]) (rdO (bytesD (feedL s.data.toList b w e).2.1) (feedL s.data.toList b w e).2.2.1 (feedL s.data.toList b w e).2.2.2)
  | _ => False
theorem toksD_sz (l : List Tok) : ∀ c ∈ toksD l, c.length = 4 := by simp [toksD, tokD]
theorem toksD_len (l : List Tok) : (toksD l).length = l.length := by simp [toksD]
theorem c12 : RSound Tryz.prog 30 E12 := by
  refine ref_fnZ (c := Tryz.b30) mixed Tryz.K_ok (gsound_ref (RSound.frame c17) gsound_nil) Tryz.func30 rfl rfl Tryz.call30 fun al o q hE => ?_
  unfold E12 at hE
  split at hE
  · rename_i s
    obtain ⟨rfl, hq⟩ := hE
    refine cast (r12n s (trimZ q)).symm ?_
    exact ⟨[], _, _, by simp [leR, leL], by simp [leO], by simp [AV.fits, Ob.fits, fitsL], hq⟩
  · rename_i s
    obtain ⟨b0, w0, e0, rfl, hb0, hs, hq⟩ := hE
    have hsl : s.data.toList.length = s.size := Array.length_toList
    obtain ⟨ANS, hA⟩ : ∃ ANS, feedL s.data.toList b0 w0 e0 = ANS := ⟨_, rfl⟩
    rw [hA] at hq
    suffices key : ∀ T : AV → List Ob → Prop, (∀ (ts : List Tok) (b : ByteArray) (w : Bool) (e : Int), (ts, b, w, e) = ANS → T (.tp [.vw 3 (toksD ts).length, mkI .i64 e]) [.box [.vw 1 (bytesD b).length, mkB w, mkI .i64 e], .row 1 (bytesD b), .gh [.rf 0 0], .row 4 (toksD ts)]) →
        aCode Tryz.K G12 Tryz.b30 (kRetF Tryz.K Tryz.f30.results.toList T) ⟨[.rf 0 0, mkS s] ++ List.replicate (Tryz.f30.ntmps - 2) .jk, rdO (bytesD b0) w0 e0⟩ by
      refine key (trimZ q) fun ts b w e h => ?_
      subst h
      refine ⟨[3], ?_⟩
      have tk : List.take (toksD ts).length (toksD ts) = toksD ts := List.take_of_length_le (Nat.le_refl _)
      simp only [sealAll, S.sealR, List.getElem?_cons_succ, List.getElem?_cons_zero, subL, AV.sub, List.map_cons, List.map_nil, Ob.subO, if_true, if_false, tk, sub_mkI, sub_mkB, List.set_cons_succ, List.set_cons_zero]
      exact ⟨_, rdO (bytesD b) w e, by simp [leR, leL], by simp [leO, rdO], by simp [AV.fits, Ob.fits, fitsL, rdO], hq⟩
    clear hq
    intro T fin
    refine cast (r12 s (bytesD b0) w0 e0 T).symm fun _ => ?_
    refine .openT 6 4 (by omega) ?_
    refine ALoop.introM [] m12 (fun x : Nat × List Tok × ByteArray × Bool × Int => st12 s (bytesD x.2.2.1) (toksD x.2.1) x.2.2.2.1 x.2.2.2.2 x.1)
      (fun x => x.1 ≤ s.size ∧ x.2.1.length ≤ 2 * x.1 ∧ x.2.2.1.size ≤ 512 ∧ (x.2.1 ++ (feedL (s.data.toList.drop x.1) x.2.2.1 x.2.2.2.1 x.2.2.2.2).1, (feedL (s.data.toList.drop x.1) x.2.2.1 x.2.2.2.1 x.2.2.2.2).2) = ANS) (fun x => s.size - x.1)
      ⟨[], (0, [], b0, w0, e0), by simp [S.openT, S.le, sealAll, leL, jks, st12, rdO, toksD], Nat.zero_le _, Nat.zero_le _, hb0, hA⟩ fun x ⟨hx1, hx2, hx3, hx4⟩ => ?_
    obtain ⟨i, ts, b, w, e⟩ := x
    simp only at hx1 hx2 hx3 hx4
    have hbl := bytesD_len s
    by_cases hlt : i < s.size
    · have hg : (bytesD s).getD ((i : Int)).toNat [] = [.v (.int .u8 (byteAt s i))] := by rw [show ((i : Int)).toNat = i from by simp, bytesD_get s i hlt]
      have g1 : ((bytesD s).getD ((i : Int)).toNat []).length = 1 := by rw [hg]; rfl
      have g2 : 1 ≤ ((bytesD s).getD ((i : Int)).toNat []).length := by rw [hg]; exact Nat.le_refl _
      have g3 : List.getD ((bytesD s).getD ((i : Int)).toNat []) 0 d0 = D.v (.int .u8 (intD (List.getD ((bytesD s).getD ((i : Int)).toNat []) 0 d0))) := by rw [hg]; rfl
      have hd : s.data.toList.drop i = s.data.toList.getD i 0 :: s.data.toList.drop (i + 1) := by
        rw [List.drop_eq_getElem_cons (by omega : i < s.data.toList.length), List.getD_eq_getElem?_getD, List.getElem?_eq_getElem (by omega : i < s.data.toList.length)]; rfl
      rw [hd] at hx4
      have hbyte : intD (List.getD (List.getD (bytesD s) (Int.toNat (i : Int)) []) 0 d0) = ((s.data.toList.getD i 0).toNat : Int) := by rw [hg]; rfl
      obtain ⟨c, hc⟩ : ∃ c, s.data.toList.getD i 0 = c := ⟨_, rfl⟩
      rw [hc] at hx4 hbyte
      have g4 : [AV.rf 0 0, mkI IntKind.u8 (intD (List.getD (List.getD (bytesD s) (Int.toNat (i : Int)) []) 0 d0))] = [AV.rf 0 0, mkI IntKind.u8 (c.toNat : Int)] := by rw [hbyte]
      have hw := wrap_succ hlt (show s.size ≤ LIM by unfold LIM; omega)
      have hlz : (i : Int) < ((bytesD s).length : Int) := by rw [hbl]; omega
      by_cases h0 : e ≠ 0
      · rw [feedL_err _ _ _ _ h0] at hx4
        refine cast (r12_b _ _ _ _ s (bytesD b) (toksD ts) w e i T).symm ?_
        exact bcaseT (decide_eq_true hlz) ⟨⟨by omega, hlz⟩, g1, g2, g3, bcaseT (by simpa using h0) (fin ts b w e (by simpa using hx4))⟩
      · rw [feedL, if_neg h0] at hx4
        have hl2 := nextT_len b w c
        have hs2 := nextT_size b w c hx3
        have hcap : (toksD ts).length + (toksD (nextT b w c).1).length ≤ LIM := by rw [toksD_len, toksD_len]; unfold LIM; omega
        refine cast (r12_b _ _ _ _ s (bytesD b) (toksD ts) w e i T).symm ?_
        refine bcaseT (decide_eq_true hlz) ⟨⟨by omega, hlz⟩, g1, g2, g3, bcaseF (by simpa using h0) ⟨b, w, e, c, g4, rfl, hx3, rfl, toksD_sz _, rfl, hcap, ?_⟩⟩
        refine .mk [] (i + 1, ts ++ (nextT b w c).1, (nextT b w c).2.2.1, (nextT b w c).2.2.2, (nextT b w c).2.1) ?_ ⟨hlt, by simp only [List.length_append]; omega, hs2, by rw [← hx4]; simp⟩ (by simp only; omega)
        simp [S.le, sealAll, leL, leO, jks, st12, rdO, S.fits, fitsL, AV.fits, Ob.fits, toksD, bytesD_len, hw]
    · have hge : i = s.size := by omega
      rw [hge, ← hsl, List.drop_length, feedL] at hx4
      have hlz : ¬ (i : Int) < ((bytesD s).length : Int) := by rw [hbl]; omega
      refine cast (r12_b _ _ _ _ s (bytesD b) (toksD ts) w e i T).symm ?_
      exact bcaseF (decide_eq_false hlz) (fin ts b w e (by simpa using hx4))
  · exact hE.elim
end Go.Proofs.YtchpfeblinnoiaaGreatDoor
