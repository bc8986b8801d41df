import Derived.Test.YtfdmmgiefhhnoaaGreatDoorStaRd
set_option linter.unusedSimpArgs false
set_option linter.unusedVariables false
namespace Go.Proofs.YtfdmmgiefhhnoaaGreatDoor
open Go Go.AM Go.RowKit
attribute [local irreducible] aCode
def itNo : AV := .tp [.ag [mkS ⟨#[]⟩, mkS ⟨#[]⟩, mkI .i64 0, mkB false], mkB false, mkB false]
def EItem : List AV → (AV → Prop) → Prop := fun al q => ∃ n l t k j, al = [.ag [mkS n, .d (.sl (atsD l)), mkS t, .d (.sl (ksD k))], mkI .i64 j] ∧ (l.length ≤ LIM ∧ atsFit l) ∧ (∀ x r, itemM (j == 3) (.mk n l t k) = some (x, r) → q (.tp [itV x, mkB r, mkB true])) ∧ (itemM (j == 3) (.mk n l t k) = none → q itNo)
theorem RSound.or {P : Program} {f : FuncId} {E F : List AV → List Ob → (AV → List Ob → Prop) → Prop} (h : RSound P f E) (h' : RSound P f F) : RSound P f (fun al o q => E al o q ∨ F al o q) :=
  ⟨h.enter, fun X o gv al vs q h1 h2 h3 h4 h5 hE => hE.elim (h.call X o gv al vs q h1 h2 h3 h4 h5) (h'.call X o gv al vs q h1 h2 h3 h4 h5)⟩
theorem git_ok : GSound Tryz.prog GIt := gsound_ref (RSound.frameX (RSound.or cFItemS cFItemG)) (gsound_pure cVal (gsound_new cOneN (gsound_new cSubs gsound_nil)))
theorem cIt : PSound Tryz.prog 64 EItem := by
  refine pure_fn (c := Tryz.b64) mixed KS_ok git_ok Tryz.func64 rfl rfl Tryz.call64 fun al q ⟨n, l, t, k, j, h1, hf, hs, hn⟩ => ?_
  subst h1
  have no : itemM (j == 3) (.mk n l t k) = none → q (AV.tp [AV.ag [mkS ⟨#[]⟩, mkS ⟨#[]⟩, mkI .i64 0, mkB false], mkB false, mkB false]) := hn
  have yes : ∀ m : Int, subM (valueM l kSub) = m → n = sItem → fitsM [(kJid, userB)] (shItem (j == 3)) l = true → t = ⟨#[]⟩ → k.isEmpty = true → q (AV.tp [AV.ag [mkS (valueM l kJid), mkS (valueM l kName), mkI .i64 m, mkB (!(decide ((valueM l kAsk) = ⟨#[]⟩)))], mkB (decide ((valueM l kSub) = sRemove)), mkB true]) := fun m h1 h2 h3 h4 h5 => by
    subst h1
    exact hs ⟨valueM l kJid, valueM l kName, subM (valueM l kSub), !decide (valueM l kAsk = ⟨#[]⟩)⟩ (decide (valueM l kSub = sRemove)) (by simp only [itemM, El.n, El.ats, El.t, El.ks, h2, h3, h4, h5, decide_true, Bool.and_self, if_true]; rfl)
  have bad1 : n ≠ sItem → itemM (j == 3) (.mk n l t k) = none := fun h => by simp [itemM, El.n, El.ats, El.t, El.ks, h]
  have bad2 : fitsM [(kJid, userB)] (shItem (j == 3)) l = false → itemM (j == 3) (.mk n l t k) = none := fun h => by simp [itemM, El.n, El.ats, El.t, El.ks, h]
  have bad3 : t ≠ ⟨#[]⟩ → itemM (j == 3) (.mk n l t k) = none := fun h => by simp [itemM, El.n, El.ats, El.t, El.ks, h]
  have bad4 : k.isEmpty = false → itemM (j == 3) (.mk n l t k) = none := fun h => by simp [itemM, El.n, El.ats, El.t, El.ks, h]
  have tail : n = sItem → fitsM [(kJid, userB)] (shItem (j == 3)) l = true → t = ⟨#[]⟩ → k.isEmpty = true → True := fun _ _ _ _ => trivial
  refine cast (rIt n l t k j q).symm ⟨[kTo, kFrom, sBoth], rfl, bcase_mk (fun hj => ?_) (fun hj => ?_)⟩
  · refine ⟨[kTo, kFrom, sBoth, sRemove], rfl, [sSubscribe], rfl, bcase_mk (fun h => ?_) (fun h => .inl ⟨n, l, t, k, rfl, rfl, hf, rfl, bcase_mk (fun h2 => ?_) (fun h2 => bcase_mk (fun h3 => ?_) (fun h3 _ => bcase_dec (fun h4 => ?_) (fun h4 => ?_)))⟩)⟩
    · exact no (bad1 (by simpa [sItem] using h))
    · exact no (bad2 (by rw [hj]; exact not_t h2))
    · exact no (bad3 (by simpa using h3))
    · rw [ksD_len] at h4
      exact no (bad4 (len_pos _ h4))
    · rw [ksD_len] at h4
      have g1 : n = sItem := by simpa [sItem] using h
      have g2 : fitsM [(kJid, userB)] (shItem (j == 3)) l = true := by rw [hj]; exact not_f h2
      have g3 : t = ⟨#[]⟩ := by simpa using h3
      have g4 := len_zero _ h4
      refine ⟨n, l, t, k, kSub, rfl, hf.1, n, l, t, k, kJid, rfl, hf.1, n, l, t, k, kName, rfl, hf.1, rfl, bcase_dec (fun e1 => ?_) (fun e1 => bcase_dec (fun e2 => ?_) (fun e2 => bcase_dec (fun e3 => ?_) (fun e3 => ?_)))⟩
      · exact ⟨n, l, t, k, kAsk, rfl, hf.1, yes 1 (by rw [← e1]; rfl) g1 g2 g3 g4⟩
      · exact ⟨n, l, t, k, kAsk, rfl, hf.1, yes 2 (by rw [← e2]; rfl) g1 g2 g3 g4⟩
      · exact ⟨n, l, t, k, kAsk, rfl, hf.1, yes 3 (by rw [← e3]; rfl) g1 g2 g3 g4⟩
      · exact ⟨n, l, t, k, kAsk, rfl, hf.1, yes 0 (by unfold subM; rw [if_neg (fun e => e1 e.symm), if_neg (fun e => e2 e.symm), if_neg (fun e => e3 e.symm)]) g1 g2 g3 g4⟩
  · refine ⟨[sSubscribe], rfl, bcase_mk (fun h => ?_) (fun h => .inr ⟨n, l, t, k, rfl, rfl, hf, rfl, bcase_mk (fun h2 => ?_) (fun h2 => bcase_mk (fun h3 => ?_) (fun h3 _ => bcase_dec (fun h4 => ?_) (fun h4 => ?_)))⟩)⟩
    · exact no (bad1 (by simpa [sItem] using h))
    · exact no (bad2 (by rw [hj]; exact not_t h2))
    · exact no (bad3 (by simpa using h3))
    · rw [ksD_len] at h4
      exact no (bad4 (len_pos _ h4))
    · rw [ksD_len] at h4
      have g1 : n = sItem := by simpa [sItem] using h
      have g2 : fitsM [(kJid, userB)] (shItem (j == 3)) l = true := by rw [hj]; exact not_f h2
      have g3 : t = ⟨#[]⟩ := by simpa using h3
      have g4 := len_zero _ h4
      refine ⟨n, l, t, k, kSub, rfl, hf.1, n, l, t, k, kJid, rfl, hf.1, n, l, t, k, kName, rfl, hf.1, rfl, bcase_dec (fun e1 => ?_) (fun e1 => bcase_dec (fun e2 => ?_) (fun e2 => bcase_dec (fun e3 => ?_) (fun e3 => ?_)))⟩
      · exact ⟨n, l, t, k, kAsk, rfl, hf.1, yes 1 (by rw [← e1]; rfl) g1 g2 g3 g4⟩
      · exact ⟨n, l, t, k, kAsk, rfl, hf.1, yes 2 (by rw [← e2]; rfl) g1 g2 g3 g4⟩
      · exact ⟨n, l, t, k, kAsk, rfl, hf.1, yes 3 (by rw [← e3]; rfl) g1 g2 g3 g4⟩
      · exact ⟨n, l, t, k, kAsk, rfl, hf.1, yes 0 (by unfold subM; rw [if_neg (fun e => e1 e.symm), if_neg (fun e => e2 e.symm), if_neg (fun e => e3 e.symm)]) g1 g2 g3 g4⟩
end Go.Proofs.YtfdmmgiefhhnoaaGreatDoor
