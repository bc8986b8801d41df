import Derived.Test.YtchpfeblinnoiaaGreatDoorTagsTag
set_option linter.unusedSimpArgs false
set_option linter.unusedVariables false
namespace Go.Proofs.YtchpfeblinnoiaaGreatDoor
open Go Go.AM Go.RowKit
noncomputable abbrev G22 : List (FuncId × En) := [(51, .det F30), (81, .det F31), (82, .det F32), (83, .det F33)]
theorem r22 (s : ByteArray) (q : AV → Prop) :
  (aCode Tryz.K G22 Tryz.b64 (kRet Tryz.K Tryz.f64.results.toList q) ⟨[mkS s] ++ List.replicate (Tryz.f64.ntmps - 1) .jk, []⟩) = (
  True ∧
  bcase ((if (rightB s) = true then (0 : Int) else (2 : Int)) != (0 : Int)) (
   q (AV.tp [AV.d (.sl []), mkI .i64 (if (rightB s) = true then (0 : Int) else (2 : Int))])) (
   (sSlash = sSlash) ∧
   bcase (pfxB s) (
    ((ByteArray.size (pfxS s)) ≤ LIM) ∧
    q (AV.tp [AV.d (.sl (toksD (Prod.fst (endT (pfxS s))))), mkI .i64 (Prod.snd (endT (pfxS s)))])) (
    (((ByteArray.size s) + (1 : Nat)) ≤ LIM) ∧
    q (AV.tp [AV.d (.sl (toksD (Prod.fst (beginT s)))), mkI .i64 (Prod.snd (beginT s))])))) := by kernel_rfl
def tagT (s : ByteArray) : List Tok × Int := if rightB s = true then (if pfxB s = true then endT (pfxS s) else beginT s) else ([], 2)
def F22 : List AV → Option (Prop × AV) := fun al => match al with
  | [.d (.v (.string s))] => some (s.size + 1 ≤ LIM, .tp [.d (.sl (toksD (tagT s).1)), mkI .i64 (tagT s).2])
  | _ => none
theorem c22 : PSound Tryz.prog 64 (detE F22) := by
  refine det_fn (c := Tryz.b64) mixed Tryz.K_ok (gsound_det c30 (gsound_det c31 (gsound_det c32 (gsound_det c33 gsound_nil)))) Tryz.func64 rfl rfl Tryz.call64 fun al p r q hF hp hq => ?_
  unfold F22 at hF; split at hF <;> cases hF
  rename_i s
  have hp : s.size + 1 ≤ LIM := hp
  refine cast (r22 s q).symm ⟨trivial, bcase_mk (fun h => ?_) (fun h => ⟨rfl, bcase_mk (fun h2 => ⟨Nat.le_trans (pfxS_size s) (by omega), ?_⟩) (fun h2 => ⟨hp, ?_⟩)⟩)⟩
  · have h1 : rightB s = false := by cases hr : rightB s <;> simp [hr] at h ⊢
    simp only [tagT, h1] at hq ⊢
    exact hq
  · have h1 : rightB s = true := by cases hr : rightB s <;> simp [hr] at h ⊢
    rw [tagT, if_pos h1, if_pos h2] at hq; exact hq
  · have h1 : rightB s = true := by cases hr : rightB s <;> simp [hr] at h ⊢
    rw [tagT, if_pos h1, if_neg (by rw [h2]; simp)] at hq; exact hq
def E21b : List AV → List Ob → (AV → List Ob → Prop) → Prop := fun al o q => ∃ (b : ByteArray) (w : Bool) (e : Int), al = [.rf 0 0] ∧ o = rdO (bytesD b) w e ∧ q (mkS b) (rdO [] w e)
theorem c21b : RSound Tryz.prog 63 E21b := RSound.mono c21 fun al o q ⟨b, w, e, h1, h2, hq⟩ => ⟨bytesD b, w, e, h1, h2, by rw [unB_bytesD], by rw [unB_bytesD]; exact hq⟩
noncomputable abbrev G17 : List (FuncId × En) := [(62, .det F20), (63, .ref (frameE E21b)), (64, .det F22)]
theorem r17 (b : List (List D)) (w : Bool) (e c : Int) (q : AV → List Ob → Prop) :
  (aCode Tryz.K G17 Tryz.b49 (kRetF Tryz.K Tryz.f49.results.toList q) ⟨[.rf 0 0, mkI .u8 c] ++ List.replicate (Tryz.f49.ntmps - 2) .jk, rdO b w e⟩) = (
  bcase (c == (60 : Int)) (
   bcase w (
    q (AV.tp [AV.nl, mkI .i64 3]) [Ob.box [AV.vw 1 (List.length b), mkB w, mkI .i64 e], Ob.row 1 b, Ob.gh [AV.rf 0 0]]) (
    bcase (c == (60 : Int)) (
     ∃ (b_1 : ByteArray),
     ∃ (w_1 : Bool),
     ∃ (e_1 : Int),
     ([AV.rf 0 0] = [AV.rf 0 0]) ∧
     ([Ob.box [AV.vw (0 + 1) (List.length b), mkB true, mkI .i64 e], Ob.row 1 b, Ob.gh [AV.rf 0 0]] = [Ob.box [AV.vw 1 (List.length (bytesD b_1)), mkB w_1, mkI .i64 e_1], Ob.row 1 (bytesD b_1), Ob.gh [AV.rf 0 0]]) ∧
     ((Option.some (Ob.gh [AV.rf 0 0])) = (Option.some (Ob.gh [AV.rf 0 0]))) ∧
     True ∧
     q (AV.tp [AV.d (.sl (toksD (Prod.fst (textT b_1)))), mkI .i64 (Prod.snd (textT b_1))]) [Ob.box [AV.vw (if 1 < 2 then 1 else 4 + (1 - 2)) 0, mkB w_1, mkI .i64 e_1], Ob.row 1 [], Ob.gh [AV.rf 0 0], Ob.gone, Ob.gone]) (
     bcase (c == (62 : Int)) (
      bcase w (
       ∃ (b_1 : ByteArray),
       ∃ (w_1 : Bool),
       ∃ (e_1 : Int),
       ([AV.rf 0 0] = [AV.rf 0 0]) ∧
       ([Ob.box [AV.vw (0 + 1) (List.length b), mkB false, mkI .i64 e], Ob.row 1 b, Ob.gh [AV.rf 0 0]] = [Ob.box [AV.vw 1 (List.length (bytesD b_1)), mkB w_1, mkI .i64 e_1], Ob.row 1 (bytesD b_1), Ob.gh [AV.rf 0 0]]) ∧
       ((Option.some (Ob.gh [AV.rf 0 0])) = (Option.some (Ob.gh [AV.rf 0 0]))) ∧
       (((ByteArray.size b_1) + (1 : Nat)) ≤ LIM) ∧
       q (AV.tp [AV.d (.sl (toksD (Prod.fst (tagT b_1)))), mkI .i64 (Prod.snd (tagT b_1))]) [Ob.box [AV.vw (if 1 < 2 then 1 else 4 + (1 - 2)) 0, mkB w_1, mkI .i64 e_1], Ob.row 1 [], Ob.gh [AV.rf 0 0], Ob.gone, Ob.gone]) (
       bcase (((List.length b) : Int) == (512 : Int)) (
        q (AV.tp [AV.nl, mkI .i64 4]) [Ob.box [AV.vw 1 (List.length b), mkB w, mkI .i64 e], Ob.row 1 b, Ob.gh [AV.rf 0 0]]) (
        (∀ (c_1 : List D), (c_1 ∈ [[D.v (.int IntKind.u8 c)]]) → (List.length c_1) = 1) ∧
        ((List.length b) = (List.length b)) ∧
        (((List.length b) + 1) ≤ LIM) ∧
        q (AV.tp [AV.nl, mkI .i64 0]) [Ob.box [AV.vw 1 ((List.length b) + 1), mkB w, mkI .i64 e], Ob.row 1 (b ++ [[D.v (.int IntKind.u8 c)]]), Ob.gh [AV.rf 0 0], Ob.row 1 [[D.v (.int IntKind.u8 c)]]]))) (
      bcase (((List.length b) : Int) == (512 : Int)) (
       q (AV.tp [AV.nl, mkI .i64 4]) [Ob.box [AV.vw 1 (List.length b), mkB w, mkI .i64 e], Ob.row 1 b, Ob.gh [AV.rf 0 0]]) (
       (∀ (c_1 : List D), (c_1 ∈ [[D.v (.int IntKind.u8 c)]]) → (List.length c_1) = 1) ∧
       ((List.length b) = (List.length b)) ∧
       (((List.length b) + 1) ≤ LIM) ∧
       q (AV.tp [AV.nl, mkI .i64 0]) [Ob.box [AV.vw 1 ((List.length b) + 1), mkB w, mkI .i64 e], Ob.row 1 (b ++ [[D.v (.int IntKind.u8 c)]]), Ob.gh [AV.rf 0 0], Ob.row 1 [[D.v (.int IntKind.u8 c)]]]))))) (
   bcase (c == (60 : Int)) (
    ∃ (b_1 : ByteArray),
    ∃ (w_1 : Bool),
    ∃ (e_1 : Int),
    ([AV.rf 0 0] = [AV.rf 0 0]) ∧
    ([Ob.box [AV.vw (0 + 1) (List.length b), mkB true, mkI .i64 e], Ob.row 1 b, Ob.gh [AV.rf 0 0]] = [Ob.box [AV.vw 1 (List.length (bytesD b_1)), mkB w_1, mkI .i64 e_1], Ob.row 1 (bytesD b_1), Ob.gh [AV.rf 0 0]]) ∧
    ((Option.some (Ob.gh [AV.rf 0 0])) = (Option.some (Ob.gh [AV.rf 0 0]))) ∧
    True ∧
    q (AV.tp [AV.d (.sl (toksD (Prod.fst (textT b_1)))), mkI .i64 (Prod.snd (textT b_1))]) [Ob.box [AV.vw (if 1 < 2 then 1 else 4 + (1 - 2)) 0, mkB w_1, mkI .i64 e_1], Ob.row 1 [], Ob.gh [AV.rf 0 0], Ob.gone, Ob.gone]) (
    bcase (c == (62 : Int)) (
     bcase w (
      ∃ (b_1 : ByteArray),
      ∃ (w_1 : Bool),
      ∃ (e_1 : Int),
      ([AV.rf 0 0] = [AV.rf 0 0]) ∧
      ([Ob.box [AV.vw (0 + 1) (List.length b), mkB false, mkI .i64 e], Ob.row 1 b, Ob.gh [AV.rf 0 0]] = [Ob.box [AV.vw 1 (List.length (bytesD b_1)), mkB w_1, mkI .i64 e_1], Ob.row 1 (bytesD b_1), Ob.gh [AV.rf 0 0]]) ∧
      ((Option.some (Ob.gh [AV.rf 0 0])) = (Option.some (Ob.gh [AV.rf 0 0]))) ∧
      (((ByteArray.size b_1) + (1 : Nat)) ≤ LIM) ∧
      q (AV.tp [AV.d (.sl (toksD (Prod.fst (tagT b_1)))), mkI .i64 (Prod.snd (tagT b_1))]) [Ob.box [AV.vw (if 1 < 2 then 1 else 4 + (1 - 2)) 0, mkB w_1, mkI .i64 e_1], Ob.row 1 [], Ob.gh [AV.rf 0 0], Ob.gone, Ob.gone]) (
      bcase (((List.length b) : Int) == (512 : Int)) (
       q (AV.tp [AV.nl, mkI .i64 4]) [Ob.box [AV.vw 1 (List.length b), mkB w, mkI .i64 e], Ob.row 1 b, Ob.gh [AV.rf 0 0]]) (
       (∀ (c_1 : List D), (c_1 ∈ [[D.v (.int IntKind.u8 c)]]) → (List.length c_1) = 1) ∧
       ((List.length b) = (List.length b)) ∧
       (((List.length b) + 1) ≤ LIM) ∧
       q (AV.tp [AV.nl, mkI .i64 0]) [Ob.box [AV.vw 1 ((List.length b) + 1), mkB w, mkI .i64 e], Ob.row 1 (b ++ [[D.v (.int IntKind.u8 c)]]), Ob.gh [AV.rf 0 0], Ob.row 1 [[D.v (.int IntKind.u8 c)]]]))) (
     bcase (((List.length b) : Int) == (512 : Int)) (
      q (AV.tp [AV.nl, mkI .i64 4]) [Ob.box [AV.vw 1 (List.length b), mkB w, mkI .i64 e], Ob.row 1 b, Ob.gh [AV.rf 0 0]]) (
      (∀ (c_1 : List D), (c_1 ∈ [[D.v (.int IntKind.u8 c)]]) → (List.length c_1) = 1) ∧
      ((List.length b) = (List.length b)) ∧
      (((List.length b) + 1) ≤ LIM) ∧
      q (AV.tp [AV.nl, mkI .i64 0]) [Ob.box [AV.vw 1 ((List.length b) + 1), mkB w, mkI .i64 e], Ob.row 1 (b ++ [[D.v (.int IntKind.u8 c)]]), Ob.gh [AV.rf 0 0], Ob.row 1 [[D.v (.int IntKind.u8 c)]]]))))) := by kernel_rfl
def nextT (b : ByteArray) (w : Bool) (c : UInt8) : List Tok × Int × ByteArray × Bool :=
  if c = 60 then (if w = true then ([], 3, b, w) else ((textT b).1, (textT b).2, ⟨#[]⟩, true))
  else if c = 62 ∧ w = true then ((tagT b).1, (tagT b).2, ⟨#[]⟩, false)
  else if b.size = 512 then ([], 4, b, w) else ([], 0, b.push c, w)
def E17 : List AV → List Ob → (AV → List Ob → Prop) → Prop := fun al o q => ∃ (b : ByteArray) (w : Bool) (e : Int) (c : UInt8), al = [.rf 0 0, mkI .u8 c.toNat] ∧ o = rdO (bytesD b) w e ∧ b.size ≤ 512 ∧
  q (.tp [.d (.sl (toksD (nextT b w c).1)), mkI .i64 (nextT b w c).2.1]) (rdO (bytesD (nextT b w c).2.2.1) (nextT b w c).2.2.2 e)
theorem c17 : RSound Tryz.prog 49 E17 := by
  refine ref_fnR (c := Tryz.b49) mixed Tryz.K_ok (gsound_det c20 (gsound_ref (RSound.frame c21b) (gsound_det c22 gsound_nil))) Tryz.func49 rfl rfl Tryz.call49 fun al o q ⟨b, w, e, c, h1, h2, hb, hq⟩ => ?_
  subst h1 h2
  have fin : ∀ (av : AV) (o' : List Ob) (t : List Tok) (k : Int) (b' : ByteArray) (w' : Bool), nextT b w c = (t, k, b', w') → leR av (.tp [.d (.sl (toksD t)), mkI .i64 k]) → leO o' (rdO (bytesD b') w' e) → trimR q av o' := by
    intro av o' t k b' w' hn h1 h2
    rw [hn] at hq
    exact ⟨_, _, h1, h2, by simp [rdO, AV.fits, Ob.fits, fitsL], hq⟩
  suffices key : ∀ T : AV → List Ob → Prop, (∀ (av : AV) (o' : List Ob) (t : List Tok) (k : Int) (b' : ByteArray) (w' : Bool), nextT b w c = (t, k, b', w') → leR av (.tp [.d (.sl (toksD t)), mkI .i64 k]) → leO o' (rdO (bytesD b') w' e) → T av o') →
      aCode Tryz.K G17 Tryz.b49 (kRetF Tryz.K Tryz.f49.results.toList T) ⟨[.rf 0 0, mkI .u8 c.toNat] ++ List.replicate (Tryz.f49.ntmps - 2) .jk, rdO (bytesD b) w e⟩ from key (trimR q) fin
  clear fin hq
  intro T fin
  refine cast (r17 (bytesD b) w e (c.toNat : Int) T).symm ?_
  have e60 : ((c.toNat : Int) == 60) = decide (c = 60) := by
    rw [Bool.eq_iff_iff, beq_iff_eq, decide_eq_true_eq, ← UInt8.toNat_inj]
    show _ ↔ c.toNat = 60
    omega
  have e62 : ((c.toNat : Int) == 62) = decide (c = 62) := by
    rw [Bool.eq_iff_iff, beq_iff_eq, decide_eq_true_eq, ← UInt8.toNat_inj]
    show _ ↔ c.toNat = 62
    omega
  have hl : (((bytesD b).length : Int) == 512) = decide (b.size = 512) := by
    rw [bytesD_len, Bool.eq_iff_iff, beq_iff_eq, decide_eq_true_eq]
    omega
  have nil0 : toksD [] = [] := rfl
  have held : ∀ (h60 : ¬ c = 60) (h62 : ¬ (c = 62 ∧ w = true)), bcase (((bytesD b).length : Int) == 512) (T (.tp [.nl, mkI .i64 4]) [.box [.vw 1 (bytesD b).length, mkB w, mkI .i64 e], .row 1 (bytesD b), .gh [.rf 0 0]])
      ((∀ (c_1 : List D), (c_1 ∈ [[D.v (Value.int IntKind.u8 (c.toNat : Int))]]) → c_1.length = 1) ∧ ((bytesD b).length = (bytesD b).length) ∧ ((bytesD b).length + 1 ≤ LIM) ∧
        T (.tp [.nl, mkI .i64 0]) [.box [.vw 1 ((bytesD b).length + 1), mkB w, mkI .i64 e], .row 1 (bytesD b ++ [[D.v (Value.int IntKind.u8 (c.toNat : Int))]]), .gh [.rf 0 0], .row 1 [[D.v (Value.int IntKind.u8 (c.toNat : Int))]]]) := by
    intro h60 h62
    rw [hl]
    refine bcase_dec (fun h => ?_) (fun h => ⟨by simp, rfl, by rw [bytesD_len]; unfold LIM; omega, ?_⟩)
    · exact fin _ _ [] 4 b w (by simp [nextT, h60, h62, h]) (by simp [leR, leL, nil0]) (by simp [leO, rdO])
    · refine fin _ _ [] 0 (b.push c) w (by simp [nextT, h60, h62, h]) (by simp [leR, leL, nil0]) ?_
      rw [bytesD_push, bytesD_len]
      simp [leO, rdO, bytesD_len, size_push]
  by_cases h60 : c = 60
  · rw [decide_eq_true h60] at e60
    refine bcaseT e60 ?_
    cases w with
    | true => exact bcaseT rfl (fin _ _ [] 3 b true (by simp [nextT, h60]) (by simp [leR, leL, nil0]) (by simp [leO, rdO]))
    | false =>
      refine bcaseF rfl (bcaseT e60 ⟨b, true, e, rfl, rfl, rfl, trivial, ?_⟩)
      exact fin _ _ (textT b).1 (textT b).2 ⟨#[]⟩ true (by simp [nextT, h60]) (by simp [leR, leL]) (by simp [leO, rdO, bytesD])
  · rw [decide_eq_false h60] at e60
    refine bcaseF e60 (bcaseF e60 ?_)
    by_cases h62 : c = 62
    · rw [decide_eq_true h62] at e62
      refine bcaseT e62 ?_
      cases w with
      | true =>
        refine bcaseT rfl ⟨b, false, e, rfl, rfl, rfl, by unfold LIM; omega, ?_⟩
        exact fin _ _ (tagT b).1 (tagT b).2 ⟨#[]⟩ false (by simp [nextT, h60, h62]) (by simp [leR, leL]) (by simp [leO, rdO, bytesD])
      | false => exact bcaseF rfl (held h60 (by simp))
    · rw [decide_eq_false h62] at e62
      refine bcaseF e62 (held h60 (by simp [h62]))
end Go.Proofs.YtchpfeblinnoiaaGreatDoor
