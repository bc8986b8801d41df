import Derived.Test.YtfdmmgiefhhnoaaGreatDoorStaLive
set_option linter.unusedSimpArgs false
set_option linter.unusedVariables false
namespace Go.Proofs.YtfdmmgiefhhnoaaGreatDoor
open Go Go.AM Go.RowKit
theorem value_mem {ats : List At} {k : BA} (h : valueM ats k ≠ ⟨#[]⟩) : (k, valueM ats k) ∈ ats := by
  unfold valueM at h ⊢
  cases hf : ats.find? fun a => decide (a.1 = k) with
  | none => rw [hf] at h; exact absurd rfl h
  | some x =>
    have hk : x.1 = k := by simpa using List.find?_some hf
    have := List.mem_of_find?_eq_some hf
    rw [← hk]
    exact this
theorem uniq_at {l : List At} (h : (l.map Prod.fst).Nodup) : ∀ x ∈ l, ∀ y ∈ l, x.1 = y.1 → x = y := by
  induction l with
  | nil => intro x hx; cases hx
  | cons a l ih =>
    simp only [List.map_cons, List.nodup_cons] at h
    intro x hx y hy e
    rcases List.mem_cons.1 hx with e1 | hx <;> rcases List.mem_cons.1 hy with e2 | hy
    · rw [e1, e2]
    · exact absurd (show a.1 ∈ l.map Prod.fst by rw [← e1, e]; exact List.mem_map_of_mem hy) h.1
    · exact absurd (show a.1 ∈ l.map Prod.fst by rw [← e2, ← e]; exact List.mem_map_of_mem hx) h.1
    · exact ih h.2 x hx y hy e
theorem value_of_mem {ats : List At} (hn : (ats.map Prod.fst).Nodup) {a : At} (h : a ∈ ats) : valueM ats a.1 = a.2 := by
  unfold valueM
  cases hf : ats.find? fun x => decide (x.1 = a.1) with
  | none =>
    rw [List.find?_eq_none] at hf
    exact absurd (decide_eq_true rfl) (hf a h)
  | some x =>
    have hk : x.1 = a.1 := by simpa using List.find?_some hf
    rw [uniq_at hn x (List.mem_of_find?_eq_some hf) a h hk]; rfl
structure FitsP (must may : Tst) (ats : List At) : Prop where
  ok : ∀ a ∈ ats, atOk must may a = true
  nd : (ats.map Prod.fst).Nodup
  must : ats.countP (inM must) = must.length
theorem fits_iff {must may : Tst} {ats : List At} : fitsM must may ats = true ↔ FitsP must may ats := by
  unfold fitsM
  simp only [Bool.and_eq_true, List.all_eq_true, decide_eq_true_eq, beq_iff_eq]
  exact ⟨fun h => ⟨h.1.1, h.1.2, h.2⟩, fun h => ⟨⟨h.ok, h.nd⟩, h.must⟩⟩
theorem dec_ne (n : Nat) : decS n ≠ ⟨#[]⟩ := fun h => by
  have e : (Lib.decDigits n) = [] := by
    have := congrArg (fun b : ByteArray => b.data.toList) h
    simpa [decS] using this
  rw [Lib.decDigits] at e
  split at e <;> simp at e
theorem readN_nil : readN ⟨#[]⟩ = none := by
  have h : readGo (⟨#[]⟩ : BA).data.toList 0 = some 0 := rfl
  unfold readN
  rw [h]
  show (if decS 0 = ⟨#[]⟩ then some 0 else none) = none
  rw [if_neg (dec_ne 0)]
theorem numOf_nil : numOf ⟨#[]⟩ = 0 := by unfold numOf; rw [readN_nil]; rfl
theorem isEmpty_nil {α : Type} {l : List α} (h : l.isEmpty = true) : l = [] := by cases l with | nil => rfl | cons a l => cases h
theorem itemM_eq (b : Bool) (n : BA) (l : List At) (t : BA) (k : List El) : itemM b (.mk n l t k) = if decide (n = sItem) && fitsM [(kJid, userB)] (shItem b) l && decide (t = ⟨#[]⟩) && k.isEmpty then some (⟨valueM l kJid, valueM l kName, subM (valueM l kSub), !decide (valueM l kAsk = ⟨#[]⟩)⟩, decide (valueM l kSub = sRemove)) else none := rfl
theorem read_iq (l : List At) (t : BA) (k : List El) : readM (.mk sIq l t k) = iqM (.mk sIq l t k) := rfl
end Go.Proofs.YtfdmmgiefhhnoaaGreatDoor
