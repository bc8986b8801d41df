import Derived.Test.YtfdecpfcphghlaaDoorTagsLives
set_option linter.unusedSimpArgs false
set_option linter.unusedVariables false
namespace Go.Proofs.YtfdecpfcphghlaaDoor
open Go Go.AM Go.RowKit
attribute [local irreducible] aCode bcase

noncomputable abbrev GL : List (FuncId × En) := [(9, .det F9), (10, .det F10), (11, .full (newE E11)), (12, .ref (frameE E12)), (16, .ref (frameE E16)), (15, .det F15), (14, .det F14)]
theorem gL : GSound Tryd.prog GL := gsound_det c9 (gsound_det c10 (gsound_full c11 (gsound_ref (RSound.frame c12) (gsound_ref (RSound.frame c16) (gsound_det c15 (gsound_det c14 gsound_nil))))))
-- TagsNil
theorem r6 (s : ByteArray) (q : AV → Prop) :
  (aCode Tryd.K GL Tryd.b6 (kRet Tryd.K Tryd.f6.results.toList q) ⟨[mkS s] ++ List.replicate (Tryd.f6.ntmps - 1) .jk, []⟩) = (
  True ∧
  ([Ob.gh []] = [Ob.gh []]) ∧
  ((Option.some (Ob.gh [])) = (Option.some (Ob.gh []))) ∧ (
   (0 ≤ LIM) →
   ([Ob.gh []] = [Ob.gh []]) ∧
   ((Option.some (Ob.gh [])) = (Option.some (Ob.gh []))) ∧
   q (mkB ((0 : Int) == (0 : Int))))) := by kernel_rfl

def F6 : List AV → Option (Prop × AV) := fun al => match al with
  | [.d (.v (.string s))] => some (True, mkB true)
  | _ => none
set_option maxRecDepth 8000 in
theorem c6 : PSound Tryd.prog 6 (detE F6) := by
  refine det_fn (c := Tryd.b6) mixed Tryd.K_ok gL Tryd.func6 rfl rfl Tryd.call6 fun al p r q hF hp hq => ?_
  unfold F6 at hF; split at hF <;> cases hF
  rename_i s
  exact cast (r6 s q).symm ⟨trivial, rfl, rfl, fun _ => ⟨rfl, rfl, hq⟩⟩
set_option maxRecDepth 8000 in
theorem h6 : ∀ as', TyArgs Tryd.prog Tryd.f6.params.toList as' → ∃ p, F6 as' = some (p, mkB true) ∧ p := by
  intro as' h
  rw [Tryd.params6] at h
  match as', h with
  | [a], ⟨ha, _⟩ =>
    obtain ⟨x, rfl, _⟩ := arg_str Tryd.underlying9 ha
    exact ⟨_, rfl, trivial⟩

-- TagsStuck
theorem r5 (s m : ByteArray) (q : AV → Prop) :
  (aCode Tryd.K GL Tryd.b5 (kRet Tryd.K Tryd.f5.results.toList q) ⟨[mkS s, mkS m] ++ List.replicate (Tryd.f5.ntmps - 2) .jk, []⟩) = (
  True ∧
  (([] : List AV) = []) ∧
  True ∧ (
   ∃ (b : ByteArray),
   ∃ (w : Bool),
   ∃ (e : Int),
   ([Ob.box [AV.vw ((0 : Nat) + (1 : Nat)) (0 : Nat), mkB false, mkI IntKind.i64 (0 : Int)], Ob.row (1 : Nat) [], Ob.gh [AV.rf (0 : Nat) (0 : Nat)]] = [Ob.box [AV.vw (1 : Nat) (List.length (bytesD b)), mkB w, mkI IntKind.i64 e], Ob.row (1 : Nat) (bytesD b), Ob.gh [AV.rf (0 : Nat) (0 : Nat)]]) ∧
   ((ByteArray.size b) ≤ (512 : Nat)) ∧
   ((ByteArray.size (YtfdecpfcphghlaaDoor.earlyB s)) ≤ (1000000000 : Nat)) ∧
   ((Option.some (Ob.gh [AV.rf (0 : Nat) (0 : Nat)])) = (Option.some (Ob.gh [AV.rf (0 : Nat) (0 : Nat)]))) ∧
   bcase ((Prod.snd (Prod.snd (Prod.snd (YtfdecpfcphghlaaDoor.feedL (Array.toList (ByteArray.data (YtfdecpfcphghlaaDoor.earlyB s))) b w e)))) == (0 : Int)) (
    q (mkB true)) (
    True ∧ (
     ∃ (b_1 : ByteArray),
     ∃ (w_1 : Bool),
     ∃ (e_1 : Int),
     ([Ob.box [AV.vw ((0 : Nat) + (1 : Nat)) (List.length (bytesD (Prod.fst (Prod.snd (YtfdecpfcphghlaaDoor.feedL (Array.toList (ByteArray.data (YtfdecpfcphghlaaDoor.earlyB s))) b w e))))), mkB (Prod.fst (Prod.snd (Prod.snd (YtfdecpfcphghlaaDoor.feedL (Array.toList (ByteArray.data (YtfdecpfcphghlaaDoor.earlyB s))) b w e)))), mkI IntKind.i64 (Prod.snd (Prod.snd (Prod.snd (YtfdecpfcphghlaaDoor.feedL (Array.toList (ByteArray.data (YtfdecpfcphghlaaDoor.earlyB s))) b w e))))], Ob.row (1 : Nat) (bytesD (Prod.fst (Prod.snd (YtfdecpfcphghlaaDoor.feedL (Array.toList (ByteArray.data (YtfdecpfcphghlaaDoor.earlyB s))) b w e)))), Ob.gh [AV.rf (0 : Nat) (0 : Nat)]] = [Ob.box [AV.vw (1 : Nat) (List.length (bytesD b_1)), mkB w_1, mkI IntKind.i64 e_1], Ob.row (1 : Nat) (bytesD b_1), Ob.gh [AV.rf (0 : Nat) (0 : Nat)]]) ∧
     ((ByteArray.size b_1) ≤ (512 : Nat)) ∧
     ((ByteArray.size (YtfdecpfcphghlaaDoor.earlyB m)) ≤ (1000000000 : Nat)) ∧
     ((Option.some (Ob.gh [AV.rf (0 : Nat) (0 : Nat)])) = (Option.some (Ob.gh [AV.rf (0 : Nat) (0 : Nat)]))) ∧ (
      ((List.length (YtfdecpfcphghlaaDoor.toksD (Prod.fst (YtfdecpfcphghlaaDoor.feedL (Array.toList (ByteArray.data (YtfdecpfcphghlaaDoor.earlyB m))) b_1 w_1 e_1)))) ≤ LIM) →
      bcase (((List.length (YtfdecpfcphghlaaDoor.toksD (Prod.fst (YtfdecpfcphghlaaDoor.feedL (Array.toList (ByteArray.data (YtfdecpfcphghlaaDoor.earlyB m))) b_1 w_1 e_1)))) : Int) == (0 : Int)) (
       bcase ((Prod.snd (Prod.snd (Prod.snd (YtfdecpfcphghlaaDoor.feedL (Array.toList (ByteArray.data (YtfdecpfcphghlaaDoor.earlyB m))) b_1 w_1 e_1)))) == (Prod.snd (Prod.snd (Prod.snd (YtfdecpfcphghlaaDoor.feedL (Array.toList (ByteArray.data (YtfdecpfcphghlaaDoor.earlyB s))) b w e))))) (
        ∃ (b_2 : ByteArray),
        ∃ (w_2 : Bool),
        ∃ (e_2 : Int),
        ([Ob.box [AV.vw ((0 : Nat) + (1 : Nat)) (List.length (bytesD (Prod.fst (Prod.snd (YtfdecpfcphghlaaDoor.feedL (Array.toList (ByteArray.data (YtfdecpfcphghlaaDoor.earlyB m))) b_1 w_1 e_1))))), mkB (Prod.fst (Prod.snd (Prod.snd (YtfdecpfcphghlaaDoor.feedL (Array.toList (ByteArray.data (YtfdecpfcphghlaaDoor.earlyB m))) b_1 w_1 e_1)))), mkI IntKind.i64 (Prod.snd (Prod.snd (Prod.snd (YtfdecpfcphghlaaDoor.feedL (Array.toList (ByteArray.data (YtfdecpfcphghlaaDoor.earlyB m))) b_1 w_1 e_1))))], Ob.row (1 : Nat) (bytesD (Prod.fst (Prod.snd (YtfdecpfcphghlaaDoor.feedL (Array.toList (ByteArray.data (YtfdecpfcphghlaaDoor.earlyB m))) b_1 w_1 e_1)))), Ob.gh [AV.rf (0 : Nat) (0 : Nat)]] = [Ob.box [AV.vw (1 : Nat) (List.length (bytesD b_2)), mkB w_2, mkI IntKind.i64 e_2], Ob.row (1 : Nat) (bytesD b_2), Ob.gh [AV.rf (0 : Nat) (0 : Nat)]]) ∧
        ((Option.some (Ob.gh [AV.rf (0 : Nat) (0 : Nat)])) = (Option.some (Ob.gh [AV.rf (0 : Nat) (0 : Nat)]))) ∧
        bcase ((YtfdecpfcphghlaaDoor.heldI b_2 e_2) == (0 : Int)) (
         bcase ((Prod.snd (Prod.snd (Prod.snd (YtfdecpfcphghlaaDoor.feedL (Array.toList (ByteArray.data (YtfdecpfcphghlaaDoor.earlyB s))) b w e)))) == (2 : Int)) (
          q (mkB true)) (
          bcase ((Prod.snd (Prod.snd (Prod.snd (YtfdecpfcphghlaaDoor.feedL (Array.toList (ByteArray.data (YtfdecpfcphghlaaDoor.earlyB s))) b w e)))) == (3 : Int)) (
           q (mkB true)) (
           q (mkB ((Prod.snd (Prod.snd (Prod.snd (YtfdecpfcphghlaaDoor.feedL (Array.toList (ByteArray.data (YtfdecpfcphghlaaDoor.earlyB s))) b w e)))) == (4 : Int)))))) (
         q (mkB false))) (
        q (mkB false))) (
       q (mkB false))))))) := by kernel_rfl

/-- The errors that reading tells. -/
def errOk (e : Int) : Prop := e = 0 ∨ e = 2 ∨ e = 3 ∨ e = 4
theorem unesc_err (s : ByteArray) : (unesc s).2 = 0 ∨ (unesc s).2 = 2 ∨ (unesc s).2 = 3 := by
  unfold unesc
  split
  · split
    · exact .inr (.inr rfl)
    · unfold unescR unescV
      split
      · exact .inl rfl
      · exact .inr (.inr rfl)
  · exact .inr (.inl rfl)
theorem beginL_err (name : ByteArray) : ∀ (f : Nat) (s : ByteArray) (l : List (ByteArray × ByteArray)), (beginL name f s l).2 = 0 ∨ (beginL name f s l).2 = 3
  | 0, _, _ => .inr rfl
  | f + 1, s, l => by
    unfold beginL
    repeat' split
    all_goals first | exact beginL_err name f _ _ | exact .inl rfl | exact .inr rfl
theorem nextT_err (b : ByteArray) (w : Bool) (c : UInt8) : errOk (nextT b w c).2.1 := by
  unfold nextT errOk
  split
  · split
    · exact .inr (.inr (.inl rfl))
    · unfold textT
      split
      · exact .inl rfl
      · split
        · exact .inl rfl
        · rcases unesc_err b with h | h | h
          · exact .inl h
          · exact .inr (.inl h)
          · exact .inr (.inr (.inl h))
  · split
    · unfold tagT
      split
      · split
        · unfold endT; split
          · exact .inl rfl
          · exact .inr (.inr (.inl rfl))
        · unfold beginT; split
          · rcases beginL_err (b.extract 0 (nameN b)) 8 (b.extract (nameN b) b.size) [] with h | h
            · exact .inl h
            · exact .inr (.inr (.inl h))
          · exact .inr (.inr (.inl rfl))
      · exact .inr (.inl rfl)
    · split
      · exact .inr (.inr (.inr rfl))
      · exact .inl rfl
theorem feedL_errOk : ∀ (l : List UInt8) (b : ByteArray) (w : Bool) (e : Int), errOk e → errOk (feedL l b w e).2.2.2
  | [], _, _, _, h => h
  | c :: l, b, w, e, h => by
    unfold feedL
    split
    · exact h
    · exact feedL_errOk l _ _ _ (nextT_err b w c)
theorem feedL_size : ∀ (l : List UInt8) (b : ByteArray) (w : Bool) (e : Int), b.size ≤ 512 → (feedL l b w e).2.1.size ≤ 512
  | [], _, _, _, h => h
  | c :: l, b, w, e, h => by
    unfold feedL
    split
    · exact h
    · exact feedL_size l _ _ _ (nextT_size b w c h)
theorem early_ok (s : ByteArray) : (earlyB s).size ≤ 1000000000 := Nat.le_trans (earlyB_size s) (by decide)

def F5 : List AV → Option (Prop × AV) := fun al => match al with
  | [.d (.v (.string s)), .d (.v (.string m))] => some (True, mkB true)
  | _ => none
set_option maxRecDepth 8000 in
theorem c5 : PSound Tryd.prog 5 (detE F5) := by
  refine det_fn (c := Tryd.b5) mixed Tryd.K_ok gL Tryd.func5 rfl rfl Tryd.call5 fun al p r q hF hp hq => ?_
  unfold F5 at hF; split at hF <;> cases hF
  rename_i s m
  have hr := feedL_errOk (earlyB s).data.toList ⟨#[]⟩ false 0 (.inl rfl)
  have hs := feedL_size (earlyB s).data.toList ⟨#[]⟩ false 0 (by decide)
  obtain ⟨R, hR⟩ : ∃ R, feedL (earlyB s).data.toList ⟨#[]⟩ false 0 = R := ⟨_, rfl⟩
  rw [hR] at hr hs
  by_cases h0 : R.2.2.2 = 0
  · exact cast (r5 s m q).symm ⟨trivial, rfl, trivial, ⟨#[]⟩, false, 0, rfl, by decide, early_ok s, rfl, bcaseT (by rw [hR, h0]; rfl) hq⟩
  · have h2 : feedL (earlyB m).data.toList R.2.1 R.2.2.1 R.2.2.2 = ([], R.2.1, R.2.2.1, R.2.2.2) := feedL_err _ _ _ _ h0
    refine cast (r5 s m q).symm ⟨trivial, rfl, trivial, ⟨#[]⟩, false, 0, rfl, by decide, early_ok s, rfl, bcaseF (by rw [hR]; simpa using h0) ⟨trivial, R.2.1, R.2.2.1, R.2.2.2, by rw [hR], hs, early_ok m, rfl, fun _ => bcaseT (by rw [h2]; rfl) (bcaseT (by rw [h2, hR]; simp) ⟨R.2.1, R.2.2.1, R.2.2.2, by rw [h2], rfl, bcaseT (by simp [heldI, h0]) ?_⟩)⟩⟩
    rw [hR]
    rcases hr with h | h | h | h
    · exact absurd h h0
    · exact bcaseT (by rw [h]; rfl) hq
    · exact bcaseF (by rw [h]; rfl) (bcaseT (by rw [h]; rfl) hq)
    · refine bcaseF (by rw [h]; rfl) (bcaseF (by rw [h]; rfl) ?_)
      rw [h]; exact hq
set_option maxRecDepth 8000 in
theorem h5 : ∀ as', TyArgs Tryd.prog Tryd.f5.params.toList as' → ∃ p, F5 as' = some (p, mkB true) ∧ p := by
  intro as' h
  rw [Tryd.params5] at h
  match as', h with
  | [a, b], ⟨ha, hb, _⟩ =>
    obtain ⟨x, rfl, _⟩ := arg_str Tryd.underlying9 ha
    obtain ⟨y, rfl, _⟩ := arg_str Tryd.underlying9 hb
    exact ⟨_, rfl, trivial⟩

end Go.Proofs.YtfdecpfcphghlaaDoor
