import Derived.Test.YtfdmmgiefhhnoaaGreatDoorStaLive
import Derived.Test.YtfdmmgiefhhnoaaGreatDoorTagsLib
set_option linter.unusedSimpArgs false
set_option linter.unusedVariables false
namespace Go.Proofs.YtfdmmgiefhhnoaaGreatDoor
open Go Go.AM Go.RowKit
attribute [local irreducible] aCode bcase
def chOK (j : Nat) (c : Int) : Prop := (97 ≤ c ∧ c ≤ 122) ∨ (j ≠ 0 ∧ ((48 ≤ c ∧ c ≤ 57) ∨ c = 45 ∨ c = 58))
instance (j : Nat) (c : Int) : Decidable (chOK j c) := by unfold chOK; infer_instance
def byteAt (s : ByteArray) (j : Nat) : Int := ((s.data.toList.getD j 0).toNat : Int)
theorem size_pos {s : ByteArray} (h : ¬ s = ⟨#[]⟩) : 0 < s.size := by
  rcases Nat.eq_zero_or_pos s.size with h0 | h0
  · exact absurd (bytes_nil h0) h
  · exact h0
theorem dl (s : ByteArray) : s.data.toList.length = s.size := Array.length_toList
theorem ba_ext {a b : ByteArray} (h : a.data.toList = b.data.toList) : a = b := by
  obtain ⟨⟨a⟩⟩ := a; obtain ⟨⟨b⟩⟩ := b
  exact congrArg (fun l => (⟨⟨l⟩⟩ : ByteArray)) h
theorem ext_list (s : ByteArray) (a b : Nat) : (s.extract a b).data.toList = (s.data.toList.take b).drop a := by
  rw [ByteArray.data_extract, Array.toList_extract, List.extract_eq_take_drop, List.take_drop]
  rcases Nat.le_total a b with h | h
  · rw [Nat.add_sub_cancel' h]
  · rw [Nat.sub_eq_zero_of_le h, Nat.add_zero, List.drop_eq_nil_of_le (by rw [List.length_take]; omega), List.drop_eq_nil_of_le (by rw [List.length_take]; omega)]
theorem ext_end (s : ByteArray) (a : Nat) : (s.extract a s.size).data.toList = s.data.toList.drop a := by
  rw [ext_list, List.take_of_length_le (by rw [dl]; exact Nat.le_refl _)]
theorem getD_drop (l : List UInt8) (k j : Nat) : (l.drop k).getD j 0 = l.getD (k + j) 0 := by
  simp [List.getD_eq_getElem?_getD, List.getElem?_drop]
def signEnd (s : ByteArray) (n : Nat) (least lo hi : Int) : Int × Int :=
  if (s.size : Int) ≥ n then (if lo < least ∨ lo > 1114111 ∨ (lo ≥ 55296 ∧ lo ≤ 57343) then (0, 0) else (lo, n))
  else if hi < least ∨ lo > 1114111 ∨ (lo ≥ 55296 ∧ hi ≤ 57343) then (0, 0) else (0, -1)
def signGo (s : ByteArray) (n : Nat) (least : Int) : Nat → Nat → Int → Int → Int × Int
  | 0, _, _, _ => (0, 0)
  | f + 1, i, lo, hi => if i < n then (if s.size ≤ i then signGo s n least f (i + 1) (lo * 64) (64 * hi + 63) else if byteAt s i < 128 ∨ byteAt s i ≥ 192 then (0, 0) else signGo s n least f (i + 1) (64 * lo + byteAt s i - 128) (64 * hi + byteAt s i - 128))
    else signEnd s n least lo hi
def signT (s : ByteArray) : Int × Int :=
  if s.size = 0 then (0, -1)
  else if byteAt s 0 < 128 then (byteAt s 0, 1)
  else if 192 ≤ byteAt s 0 ∧ byteAt s 0 < 224 then signGo s 2 128 4 1 (byteAt s 0 - 192) (byteAt s 0 - 192)
  else if 224 ≤ byteAt s 0 ∧ byteAt s 0 < 240 then signGo s 3 2048 4 1 (byteAt s 0 - 224) (byteAt s 0 - 224)
  else if 240 ≤ byteAt s 0 ∧ byteAt s 0 < 248 then signGo s 4 65536 4 1 (byteAt s 0 - 240) (byteAt s 0 - 240)
  else (0, 0)
def dec0 (s : ByteArray) : Nat × Nat := Lib.decodeN s.size (s.data.toList.getD 0 0).toNat (s.data.toList.getD 1 0).toNat (s.data.toList.getD 2 0).toNat (s.data.toList.getD 3 0).toNat
def sgN (s : ByteArray) (i : Nat) (k : Int → Int → Int × Int) (lo hi : Int) : Int × Int := if s.size ≤ i then k (lo * 64) (64 * hi + 63) else if byteAt s i < 128 ∨ byteAt s i ≥ 192 then (0, 0) else k (64 * lo + byteAt s i - 128) (64 * hi + byteAt s i - 128)
theorem sg_step {s : ByteArray} {n : Nat} {least : Int} {f i : Nat} (h : i < n) : signGo s n least (f + 1) i = sgN s i (signGo s n least f (i + 1)) := by
  funext lo hi; rw [signGo, if_pos h]; rfl
theorem sg_stop {s : ByteArray} {n : Nat} {least : Int} {f i : Nat} (h : ¬ i < n) : signGo s n least (f + 1) i = signEnd s n least := by
  funext lo hi; rw [signGo, if_neg h]
theorem sg2 (s : ByteArray) : signGo s 2 128 4 1 = sgN s 1 (signEnd s 2 128) := by rw [sg_step (by decide), sg_stop (by decide)]
theorem sg3 (s : ByteArray) : signGo s 3 2048 4 1 = sgN s 1 (sgN s 2 (signEnd s 3 2048)) := by rw [sg_step (by decide), sg_step (by decide), sg_stop (by decide)]
theorem sg4 (s : ByteArray) : signGo s 4 65536 4 1 = sgN s 1 (sgN s 2 (sgN s 3 (signEnd s 4 65536))) := by rw [sg_step (by decide), sg_step (by decide), sg_step (by decide), sg_stop (by decide)]
theorem sign_bad (s : ByteArray) (hs : 0 < s.size) (h : dec0 s = (65533, 1)) : (signT s).2 ≤ 0 := by
  unfold dec0 Lib.decodeN at h
  have hb : ∀ j, byteAt s j = ((s.data.toList.getD j 0).toNat : Int) := fun _ => rfl
  unfold signT
  rw [sg2, sg3, sg4]
  have k0 := (s.data.toList.getD 0 0).toNat_lt
  have k1 := (s.data.toList.getD 1 0).toNat_lt
  have k2 := (s.data.toList.getD 2 0).toNat_lt
  have k3 := (s.data.toList.getD 3 0).toNat_lt
  have e0 := hb 0; have e1 := hb 1; have e2 := hb 2; have e3 := hb 3
  clear hb
  generalize (s.data.toList.getD 0 0).toNat = b0 at h k0 e0
  generalize (s.data.toList.getD 1 0).toNat = b1 at h k1 e1
  generalize (s.data.toList.getD 2 0).toNat = b2 at h k2 e2
  generalize (s.data.toList.getD 3 0).toNat = b3 at h k3 e3
  have endN : ∀ (n : Nat) (least lo hi : Int), (s.size : Int) < n ∨ lo < least ∨ lo > 1114111 ∨ (lo ≥ 55296 ∧ lo ≤ 57343) → (signEnd s n least lo hi).2 ≤ 0 := by
    intro n least lo hi hh
    unfold signEnd
    repeat' split
    all_goals first | (simp only; omega) | (exfalso; omega)
  have nxt : ∀ (i : Nat) (k : Int → Int → Int × Int) (lo hi : Int), (∀ lo' hi', (s.size ≤ i ∨ (i < s.size ∧ ¬ (byteAt s i < 128 ∨ byteAt s i ≥ 192) ∧ lo' = 64 * lo + byteAt s i - 128)) → (k lo' hi').2 ≤ 0) → (sgN s i k lo hi).2 ≤ 0 := by
    intro i k lo hi hh
    unfold sgN
    split
    · rename_i h1; exact hh _ _ (.inl h1)
    · split
      · exact Int.le_refl _
      · rename_i h1 h2; exact hh _ _ (.inr ⟨by omega, h2, rfl⟩)
  by_cases c0 : b0 < 128
  · rw [if_pos c0] at h; simp only [Prod.mk.injEq] at h; omega
  rw [if_neg c0] at h
  have z1 : ¬ s.size = 0 := by omega
  have z2 : ¬ byteAt s 0 < 128 := by omega
  rw [if_neg z1, if_neg z2]
  split
  · have a1 : b0 / 32 = 6 := by omega
    have a2 : ¬ b0 / 16 = 14 := by omega
    have a3 : ¬ b0 / 8 = 30 := by omega
    simp only [a1, a2, a3, true_and, false_and, if_false] at h
    refine nxt 1 _ _ _ fun lo hi h1 => endN 2 128 lo hi ?_
    split at h
    · split at h
      · simp only [Prod.mk.injEq] at h; omega
      · omega
    · omega
  split
  · have a1 : ¬ b0 / 32 = 6 := by omega
    have a2 : b0 / 16 = 14 := by omega
    have a3 : ¬ b0 / 8 = 30 := by omega
    simp only [a1, a2, a3, true_and, false_and, if_false] at h
    refine nxt 1 _ _ _ fun lo hi h1 => nxt 2 _ _ _ fun lo' hi' h2 => endN 3 2048 lo' hi' ?_
    split at h
    · split at h
      · simp only [Prod.mk.injEq] at h; omega
      · omega
    · omega
  split
  · have a1 : ¬ b0 / 32 = 6 := by omega
    have a2 : ¬ b0 / 16 = 14 := by omega
    have a3 : b0 / 8 = 30 := by omega
    simp only [a1, a2, a3, true_and, false_and, if_false] at h
    refine nxt 1 _ _ _ fun lo hi h1 => nxt 2 _ _ _ fun lo' hi' h2 => nxt 3 _ _ _ fun lo'' hi'' h3 => endN 4 65536 lo'' hi'' ?_
    split at h
    · split at h
      · simp only [Prod.mk.injEq] at h; omega
      · omega
    · omega
  · exact Int.le_refl _
theorem sign_good (s : ByteArray) (hs : 0 < s.size) (h : ¬ dec0 s = (65533, 1)) : signT s = (((dec0 s).1 : Int), ((dec0 s).2 : Int)) ∧ 0 < (dec0 s).2 := by
  unfold dec0 Lib.decodeN at h ⊢
  have hb : ∀ j, byteAt s j = ((s.data.toList.getD j 0).toNat : Int) := fun _ => rfl
  unfold signT
  rw [sg2, sg3, sg4]
  have k0 := (s.data.toList.getD 0 0).toNat_lt
  have k1 := (s.data.toList.getD 1 0).toNat_lt
  have k2 := (s.data.toList.getD 2 0).toNat_lt
  have k3 := (s.data.toList.getD 3 0).toNat_lt
  have e0 := hb 0; have e1 := hb 1; have e2 := hb 2; have e3 := hb 3
  clear hb
  generalize (s.data.toList.getD 0 0).toNat = b0 at h k0 e0 ⊢
  generalize (s.data.toList.getD 1 0).toNat = b1 at h k1 e1 ⊢
  generalize (s.data.toList.getD 2 0).toNat = b2 at h k2 e2 ⊢
  generalize (s.data.toList.getD 3 0).toNat = b3 at h k3 e3 ⊢
  have endY : ∀ (n : Nat) (least lo hi : Int), (s.size : Int) ≥ n → ¬ (lo < least ∨ lo > 1114111 ∨ (lo ≥ 55296 ∧ lo ≤ 57343)) → signEnd s n least lo hi = (lo, (n : Int)) := by
    intro n least lo hi h1 h2
    unfold signEnd
    rw [if_pos h1, if_neg h2]
  have nxt : ∀ (i : Nat) (k : Int → Int → Int × Int) (lo hi : Int), i < s.size → 128 ≤ byteAt s i ∧ byteAt s i < 192 → sgN s i k lo hi = k (64 * lo + byteAt s i - 128) (64 * hi + byteAt s i - 128) := by
    intro i k lo hi h1 h2
    have n1 : ¬ s.size ≤ i := by omega
    have n2 : ¬ (byteAt s i < 128 ∨ byteAt s i ≥ 192) := by omega
    unfold sgN
    rw [if_neg n1, if_neg n2]
  have z1 : ¬ s.size = 0 := by omega
  rw [if_neg z1]
  by_cases c0 : b0 < 128
  · have z2 : byteAt s 0 < 128 := by omega
    rw [if_pos z2, if_pos c0, e0]; exact ⟨rfl, Nat.one_pos⟩
  have z2 : ¬ byteAt s 0 < 128 := by omega
  rw [if_neg c0] at h ⊢
  rw [if_neg z2]
  by_cases c2 : b0 / 32 = 6 ∧ (1 < s.size ∧ b1 / 64 = 2)
  · rw [if_pos c2] at h ⊢
    split at h
    · rename_i hc
      have d1 : 192 ≤ byteAt s 0 ∧ byteAt s 0 < 224 := by omega
      rw [if_pos hc, if_pos d1, nxt 1 _ _ _ c2.2.1 (by omega), endY 2 128 _ _ (by omega) ?_]
      · refine ⟨Prod.ext ?_ ?_, Nat.succ_pos _⟩
        · show _ = ((_ : Nat) : Int)
          dsimp only
          omega
        · rfl
      · omega
    · exact absurd rfl h
  rw [if_neg c2] at h ⊢
  by_cases c3 : b0 / 16 = 14 ∧ (1 < s.size ∧ b1 / 64 = 2) ∧ (2 < s.size ∧ b2 / 64 = 2)
  · rw [if_pos c3] at h ⊢
    split at h
    · rename_i hc
      have d1 : ¬ (192 ≤ byteAt s 0 ∧ byteAt s 0 < 224) := by omega
      have d2 : 224 ≤ byteAt s 0 ∧ byteAt s 0 < 240 := by omega
      rw [if_pos hc, if_neg d1, if_pos d2, nxt 1 _ _ _ c3.2.1.1 (by omega), nxt 2 _ _ _ c3.2.2.1 (by omega), endY 3 2048 _ _ (by omega) ?_]
      · refine ⟨Prod.ext ?_ ?_, Nat.succ_pos _⟩
        · show _ = ((_ : Nat) : Int)
          dsimp only
          omega
        · rfl
      · omega
    · exact absurd rfl h
  rw [if_neg c3] at h ⊢
  by_cases c4 : b0 / 8 = 30 ∧ (1 < s.size ∧ b1 / 64 = 2) ∧ (2 < s.size ∧ b2 / 64 = 2) ∧ (3 < s.size ∧ b3 / 64 = 2)
  · rw [if_pos c4] at h ⊢
    split at h
    · rename_i hc
      have d1 : ¬ (192 ≤ byteAt s 0 ∧ byteAt s 0 < 224) := by omega
      have d2 : ¬ (224 ≤ byteAt s 0 ∧ byteAt s 0 < 240) := by omega
      have d3 : 240 ≤ byteAt s 0 ∧ byteAt s 0 < 248 := by omega
      rw [if_pos hc, if_neg d1, if_neg d2, if_pos d3, nxt 1 _ _ _ c4.2.1.1 (by omega), nxt 2 _ _ _ c4.2.2.1.1 (by omega), nxt 3 _ _ _ c4.2.2.2.1 (by omega), endY 4 65536 _ _ (by omega) ?_]
      · refine ⟨Prod.ext ?_ ?_, Nat.succ_pos _⟩
        · show _ = ((_ : Nat) : Int)
          dsimp only
          omega
        · rfl
      · omega
    · exact absurd rfl h
  · rw [if_neg c4] at h; exact absurd rfl h
def refR : Nat → ByteArray → Bool
  | 0, _ => true
  | f + 1, s => if s.size = 0 then true else if (signT s).2 ≤ 0 ∨ mayB (signT s).1 = false then false else refR f (s.extract (signT s).2.toNat s.size)
theorem dec0_list (s : ByteArray) : Lib.decodeL s.data.toList = dec0 s := by rw [Lib.decodeL_N, dl]; rfl
theorem get_listD (t : ByteArray) (k : Nat) : t.get! k = t.data.toList.getD k 0 := by
  obtain ⟨⟨l⟩⟩ := t
  simp [ByteArray.get!, List.getD_eq_getElem?_getD, List.getElem!_eq_getElem?_getD]
  rfl
theorem decode_shift (s : ByteArray) (pos : Nat) (hp : pos ≤ s.size) : Utf8.decode s pos = dec0 (s.extract pos s.size) := by
  have hz : (s.extract pos s.size).size = s.size - pos := by rw [ByteArray.size_extract]; omega
  unfold dec0
  rw [Lib.decode_at, hz, get_listD, get_listD, get_listD, get_listD, ext_end, getD_drop, getD_drop, getD_drop, getD_drop]; rfl
theorem dec0_le (s : ByteArray) (h : 0 < s.size) : (dec0 s).2 ≤ s.size := by
  have hne : s.data.toList ≠ [] := fun e => by have := dl s; rw [e] at this; simp at this; omega
  have := Lib.decodeL_le s.data.toList hne
  rw [dec0_list, dl] at this
  exact this
theorem runesB_shift (s : ByteArray) : ∀ (n pos : Nat), pos ≤ s.size → runesB s n pos = runesB (s.extract pos s.size) n 0
  | 0, _, _ => rfl
  | n + 1, pos, hp => by
    have hz : (s.extract pos s.size).size = s.size - pos := by rw [ByteArray.size_extract]; omega
    have h0 : (s.extract pos s.size).extract 0 (s.extract pos s.size).size = s.extract pos s.size := ByteArray.extract_zero_size
    have hd : Utf8.decode (s.extract pos s.size) 0 = dec0 (s.extract pos s.size) := by
      rw [decode_shift _ 0 (Nat.zero_le _), h0]
    unfold runesB
    rw [hz, hd, decode_shift s pos hp]
    by_cases h : pos < s.size
    · rw [if_pos h, if_pos (show 0 < s.size - pos by omega), Nat.zero_add]
      have hw := dec0_le (s.extract pos s.size) (by omega)
      rw [hz] at hw
      have e1 := runesB_shift s n (pos + (dec0 (s.extract pos s.size)).2) (by omega)
      have e2 := runesB_shift (s.extract pos s.size) n (dec0 (s.extract pos s.size)).2 (by rw [hz]; exact hw)
      have e3 : s.extract (pos + (dec0 (s.extract pos s.size)).2) s.size = (s.extract pos s.size).extract (dec0 (s.extract pos s.size)).2 (s.extract pos s.size).size := by
        refine ba_ext ?_
        rw [ext_end, ext_end, ext_end, List.drop_drop]
      rw [e1, e2, e3]
    · rw [if_neg h, if_neg (show ¬ 0 < s.size - pos by omega)]
theorem refR_eq : ∀ (f : Nat) (s : ByteArray), s.size ≤ f → refR f s = (Lib.validD s.data.toList && runesB s f 0)
  | 0, s, h => by
    have : s.data.toList = [] := List.length_eq_zero_iff.1 (by rw [dl]; omega)
    rw [this]; rfl
  | f + 1, s, h => by
    unfold refR runesB
    by_cases h0 : s.size = 0
    · have : s.data.toList = [] := List.length_eq_zero_iff.1 (by rw [dl]; omega)
      rw [if_pos h0, this, if_neg (by omega)]; rfl
    have hp0 : 0 < s.size := by omega
    rw [if_neg h0, if_pos hp0]
    have hne : s.data.toList ≠ [] := fun e => h0 (by rw [← dl, e]; rfl)
    have hz0 : s.extract 0 s.size = s := ByteArray.extract_zero_size
    have hdc : Utf8.decode s 0 = dec0 s := by rw [decode_shift _ 0 (Nat.zero_le _), hz0]
    rw [Lib.validD_step _ hne, dec0_list, hdc]
    by_cases hb : dec0 s = (65533, 1)
    · have h1 : (signT s).2 ≤ 0 ∨ mayB (signT s).1 = false := .inl (sign_bad s hp0 hb)
      have h2 : (dec0 s).1 = 65533 ∧ (dec0 s).2 = 1 := by rw [hb]; exact ⟨rfl, rfl⟩
      rw [if_pos h1, if_pos h2]; rfl
    · obtain ⟨e, hp⟩ := sign_good s hp0 hb
      have h2 : ¬ ((dec0 s).1 = 65533 ∧ (dec0 s).2 = 1) := fun ⟨h1, h2⟩ => hb (Prod.ext h1 h2)
      have hw := dec0_le s hp0
      rw [if_neg h2, e]
      simp only [Int.toNat_natCast, Nat.zero_add]
      by_cases hm : mayB ((dec0 s).1 : Int) = true
      · have h1 : ¬ (((dec0 s).2 : Int) ≤ 0 ∨ mayB ((dec0 s).1 : Int) = false) := by rintro (h | h); omega; rw [hm] at h; cases h
        rw [if_neg h1, refR_eq f _ (by rw [ByteArray.size_extract]; omega), ext_end, hm, Bool.true_and, runesB_shift s f _ hw]
      · have hm : mayB ((dec0 s).1 : Int) = false := by simpa using hm
        rw [if_pos (.inr hm), hm]; simp
theorem rightB_ref (s : ByteArray) : rightB s = refR s.size s := by rw [refR_eq s.size s (Nat.le_refl _)]; rfl
theorem Tr35 (c : Int) (q : AV → Prop) :
 (aCode Tryz.K [] Tryz.b57 (kRet Tryz.K Tryz.f57.results.toList q) ⟨[mkI .i64 c] ++ List.replicate (Tryz.f57.ntmps - 1) .jk, []⟩) = (
 bcase (c == (9 : Int)) (
 q (mkB true)) (
 bcase (c == (10 : Int)) (
 q (mkB true)) (
 bcase (c == (13 : Int)) (
 q (mkB true)) (
 bcase (decide (c ≥ (32 : Int))) (
 bcase (c != (65534 : Int)) (
 q (mkB (c != (65535 : Int)))) (
 q (mkB false))) (
 q (mkB false)))))) := by kernel_rfl
def TF35 : List AV → Option (Prop × AV) := fun al => match al with
  | [.d (.v (.int .i64 r))] => some (True, mkB (mayB r))
  | _ => none
theorem Tc35 : PSound Tryz.prog 57 (detE TF35) := by
  refine det_fn (c := Tryz.b57) mixed Tryz.K_ok gsound_nil Tryz.func57 rfl rfl Tryz.call57 fun al p r q hF hp hq => ?_
  unfold TF35 at hF; split at hF <;> cases hF
  rename_i c
  refine cast (Tr35 c q).symm ?_
  have e : ∀ b, (b = true ↔ mayB c = true) → q (mkB b) := fun b hb => by
    rw [Bool.eq_iff_iff.2 hb]; exact hq
  have m : mayB c = true ↔ (c = 9 ∨ c = 10 ∨ c = 13 ∨ (c ≥ 32 ∧ c ≠ 65534 ∧ c ≠ 65535)) := by
    unfold mayB
    repeat' split
    all_goals simp only [decide_eq_true_eq, Bool.false_eq_true, eq_self, true_iff, false_iff]
    all_goals omega
  clear hq
  rw [m] at e
  repeat' (refine bcase_mk (fun h => ?_) (fun h => ?_))
  all_goals refine e _ ?_
  all_goals simp only [Bool.not_eq_true', Bool.not_eq_false', decide_eq_true_eq, decide_eq_false_iff_not, beq_iff_eq, beq_eq_false_iff_ne, bne_iff_ne, bne_eq_false_iff_eq, ne_eq, Decidable.not_not, Bool.false_eq_true, eq_self, true_iff, false_iff] at *
  all_goals omega
noncomputable def Tr34_k0 (q : AV → Prop) : Kont := kBlk (0 : Nat) (kSeq (aCode Tryz.K [] (cAt [1, 1, 1, 1, 1, 1, 1, 1, 1, 1, 1] Tryz.b56) (kRet Tryz.K (Array.toList (Func.results Tryz.f56)) q)) (kRet Tryz.K (Array.toList (Func.results Tryz.f56)) q))
noncomputable abbrev Tr34_z (s : ByteArray) : Int := (IntKind.wrap .i64 ((UInt8.toNat (List.getD (Array.toList (ByteArray.data s)) (Int.toNat (0 : Int)) (0 : UInt8))) : Int))
theorem Tr34 (s : ByteArray) (q : AV → Prop) :
 (aCode Tryz.K [] Tryz.b56 (kRet Tryz.K Tryz.f56.results.toList q) ⟨[mkS s] ++ List.replicate (Tryz.f56.ntmps - 1) .jk, []⟩) = (
 bcase (decide (s = ⟨#[]⟩)) (
 q (AV.tp [mkI .i64 0, mkI .i64 (-(1 : Int))])) (
 (((0 : Int) ≤ (0 : Int)) ∧ ((0 : Int) < ((ByteArray.size s) : Int))) ∧
 bcase (decide ((Tr34_z s) < (128 : Int))) (
 q (AV.tp [mkI .i64 (Tr34_z s), mkI .i64 1])) (
 bcase (decide ((Tr34_z s) ≥ (192 : Int))) (
 bcase (decide ((Tr34_z s) < (224 : Int))) (
 bcase (decide ((Tr34_z s) ≥ (224 : Int))) (
 bcase (decide ((Tr34_z s) < (240 : Int))) (
 bcase (decide ((Tr34_z s) ≥ (240 : Int))) (
 bcase (decide ((Tr34_z s) < (248 : Int))) (
 ALoop (aCode Tryz.K [] (cAt [1, 1, 1, 1, 1, 1, 1, 1, 1, 1, 0, 1, 0, 0] Tryz.b56)) (Tr34_k0 q) ⟨[mkS s, .jk, mkI .i64 0, mkI .i64 0, mkI .i64 (Tr34_z s), mkI .i64 4, mkI .i64 (IntKind.wrap .i64 ((Tr34_z s) - (240 : Int))), mkI .i64 65536, mkI .i64 (IntKind.wrap .i64 ((Tr34_z s) - (240 : Int))), mkI .i64 (IntKind.wrap .i64 ((Tr34_z s) - (240 : Int))), mkI .i64 1, .jk, mkS s, mkB false, mkS s, mkI .u8 ((UInt8.toNat (List.getD (Array.toList (ByteArray.data s)) (Int.toNat (0 : Int)) (0 : UInt8))) : Int), mkI .i64 (Tr34_z s), mkI .i64 (Tr34_z s), mkB false, .jk, mkI .i64 (Tr34_z s), mkB (decide ((Tr34_z s) ≥ (192 : Int))), mkB true, mkI .i64 (Tr34_z s), mkB (decide ((Tr34_z s) < (224 : Int))), mkB true, mkI .i64 (Tr34_z s), mkI .i64 (IntKind.wrap .i64 ((Tr34_z s) - (192 : Int))), mkI .i64 (Tr34_z s), mkB (decide ((Tr34_z s) ≥ (224 : Int))), mkB true, mkI .i64 (Tr34_z s), mkB (decide ((Tr34_z s) < (240 : Int))), mkB true, mkI .i64 (Tr34_z s), mkI .i64 (IntKind.wrap .i64 ((Tr34_z s) - (224 : Int))), mkI .i64 (Tr34_z s), mkB (decide ((Tr34_z s) ≥ (240 : Int))), mkB true, mkI .i64 (Tr34_z s), mkB (decide ((Tr34_z s) < (248 : Int))), mkB true, mkI .i64 (Tr34_z s), mkI .i64 (IntKind.wrap .i64 ((Tr34_z s) - (240 : Int))), mkI .i64 4, mkB false, mkI .i64 (IntKind.wrap .i64 ((Tr34_z s) - (240 : Int))), mkI .i64 (IntKind.wrap .i64 ((Tr34_z s) - (240 : Int)))] ++ (jks 70), []⟩) (
 ALoop (aCode Tryz.K [] (cAt [1, 1, 1, 1, 1, 1, 1, 1, 1, 1, 0, 1, 0, 0] Tryz.b56)) (Tr34_k0 q) ⟨[mkS s, .jk, mkI .i64 0, mkI .i64 0, mkI .i64 (Tr34_z s), mkI .i64 3, mkI .i64 (IntKind.wrap .i64 ((Tr34_z s) - (224 : Int))), mkI .i64 2048, mkI .i64 (IntKind.wrap .i64 ((Tr34_z s) - (224 : Int))), mkI .i64 (IntKind.wrap .i64 ((Tr34_z s) - (224 : Int))), mkI .i64 1, .jk, mkS s, mkB false, mkS s, mkI .u8 ((UInt8.toNat (List.getD (Array.toList (ByteArray.data s)) (Int.toNat (0 : Int)) (0 : UInt8))) : Int), mkI .i64 (Tr34_z s), mkI .i64 (Tr34_z s), mkB false, .jk, mkI .i64 (Tr34_z s), mkB (decide ((Tr34_z s) ≥ (192 : Int))), mkB true, mkI .i64 (Tr34_z s), mkB (decide ((Tr34_z s) < (224 : Int))), mkB true, mkI .i64 (Tr34_z s), mkI .i64 (IntKind.wrap .i64 ((Tr34_z s) - (192 : Int))), mkI .i64 (Tr34_z s), mkB (decide ((Tr34_z s) ≥ (224 : Int))), mkB true, mkI .i64 (Tr34_z s), mkB (decide ((Tr34_z s) < (240 : Int))), mkB true, mkI .i64 (Tr34_z s), mkI .i64 (IntKind.wrap .i64 ((Tr34_z s) - (224 : Int))), mkI .i64 (Tr34_z s), mkB (decide ((Tr34_z s) ≥ (240 : Int))), mkB true, mkI .i64 (Tr34_z s), mkB (decide ((Tr34_z s) < (248 : Int))), mkB false, .jk, .jk, mkI .i64 3, mkB false, mkI .i64 (IntKind.wrap .i64 ((Tr34_z s) - (224 : Int))), mkI .i64 (IntKind.wrap .i64 ((Tr34_z s) - (224 : Int)))] ++ (jks 70), []⟩)) (
 ALoop (aCode Tryz.K [] (cAt [1, 1, 1, 1, 1, 1, 1, 1, 1, 1, 0, 1, 0, 0] Tryz.b56)) (Tr34_k0 q) ⟨[mkS s, .jk, mkI .i64 0, mkI .i64 0, mkI .i64 (Tr34_z s), mkI .i64 3, mkI .i64 (IntKind.wrap .i64 ((Tr34_z s) - (224 : Int))), mkI .i64 2048, mkI .i64 (IntKind.wrap .i64 ((Tr34_z s) - (224 : Int))), mkI .i64 (IntKind.wrap .i64 ((Tr34_z s) - (224 : Int))), mkI .i64 1, .jk, mkS s, mkB false, mkS s, mkI .u8 ((UInt8.toNat (List.getD (Array.toList (ByteArray.data s)) (Int.toNat (0 : Int)) (0 : UInt8))) : Int), mkI .i64 (Tr34_z s), mkI .i64 (Tr34_z s), mkB false, .jk, mkI .i64 (Tr34_z s), mkB (decide ((Tr34_z s) ≥ (192 : Int))), mkB true, mkI .i64 (Tr34_z s), mkB (decide ((Tr34_z s) < (224 : Int))), mkB true, mkI .i64 (Tr34_z s), mkI .i64 (IntKind.wrap .i64 ((Tr34_z s) - (192 : Int))), mkI .i64 (Tr34_z s), mkB (decide ((Tr34_z s) ≥ (224 : Int))), mkB true, mkI .i64 (Tr34_z s), mkB (decide ((Tr34_z s) < (240 : Int))), mkB true, mkI .i64 (Tr34_z s), mkI .i64 (IntKind.wrap .i64 ((Tr34_z s) - (224 : Int))), mkI .i64 (Tr34_z s), mkB (decide ((Tr34_z s) ≥ (240 : Int))), mkB false, .tp [], .tp [], mkB false, .jk, .jk, mkI .i64 3, mkB false, mkI .i64 (IntKind.wrap .i64 ((Tr34_z s) - (224 : Int))), mkI .i64 (IntKind.wrap .i64 ((Tr34_z s) - (224 : Int)))] ++ (jks 70), []⟩)) (
 bcase (decide ((Tr34_z s) ≥ (240 : Int))) (
 bcase (decide ((Tr34_z s) < (248 : Int))) (
 ALoop (aCode Tryz.K [] (cAt [1, 1, 1, 1, 1, 1, 1, 1, 1, 1, 0, 1, 0, 0] Tryz.b56)) (Tr34_k0 q) ⟨[mkS s, .jk, mkI .i64 0, mkI .i64 0, mkI .i64 (Tr34_z s), mkI .i64 4, mkI .i64 (IntKind.wrap .i64 ((Tr34_z s) - (240 : Int))), mkI .i64 65536, mkI .i64 (IntKind.wrap .i64 ((Tr34_z s) - (240 : Int))), mkI .i64 (IntKind.wrap .i64 ((Tr34_z s) - (240 : Int))), mkI .i64 1, .jk, mkS s, mkB false, mkS s, mkI .u8 ((UInt8.toNat (List.getD (Array.toList (ByteArray.data s)) (Int.toNat (0 : Int)) (0 : UInt8))) : Int), mkI .i64 (Tr34_z s), mkI .i64 (Tr34_z s), mkB false, .jk, mkI .i64 (Tr34_z s), mkB (decide ((Tr34_z s) ≥ (192 : Int))), mkB true, mkI .i64 (Tr34_z s), mkB (decide ((Tr34_z s) < (224 : Int))), mkB true, mkI .i64 (Tr34_z s), mkI .i64 (IntKind.wrap .i64 ((Tr34_z s) - (192 : Int))), mkI .i64 (Tr34_z s), mkB (decide ((Tr34_z s) ≥ (224 : Int))), mkB true, mkI .i64 (Tr34_z s), mkB (decide ((Tr34_z s) < (240 : Int))), mkB false, .jk, .jk, mkI .i64 (Tr34_z s), mkB (decide ((Tr34_z s) ≥ (240 : Int))), mkB true, mkI .i64 (Tr34_z s), mkB (decide ((Tr34_z s) < (248 : Int))), mkB true, mkI .i64 (Tr34_z s), mkI .i64 (IntKind.wrap .i64 ((Tr34_z s) - (240 : Int))), mkI .i64 4, mkB false, mkI .i64 (IntKind.wrap .i64 ((Tr34_z s) - (240 : Int))), mkI .i64 (IntKind.wrap .i64 ((Tr34_z s) - (240 : Int)))] ++ (jks 70), []⟩) (
 ALoop (aCode Tryz.K [] (cAt [1, 1, 1, 1, 1, 1, 1, 1, 1, 1, 0, 1, 0, 0] Tryz.b56)) (Tr34_k0 q) ⟨[mkS s, .jk, mkI .i64 0, mkI .i64 0, mkI .i64 (Tr34_z s), mkI .i64 2, mkI .i64 (IntKind.wrap .i64 ((Tr34_z s) - (192 : Int))), mkI .i64 128, mkI .i64 (IntKind.wrap .i64 ((Tr34_z s) - (192 : Int))), mkI .i64 (IntKind.wrap .i64 ((Tr34_z s) - (192 : Int))), mkI .i64 1, .jk, mkS s, mkB false, mkS s, mkI .u8 ((UInt8.toNat (List.getD (Array.toList (ByteArray.data s)) (Int.toNat (0 : Int)) (0 : UInt8))) : Int), mkI .i64 (Tr34_z s), mkI .i64 (Tr34_z s), mkB false, .jk, mkI .i64 (Tr34_z s), mkB (decide ((Tr34_z s) ≥ (192 : Int))), mkB true, mkI .i64 (Tr34_z s), mkB (decide ((Tr34_z s) < (224 : Int))), mkB true, mkI .i64 (Tr34_z s), mkI .i64 (IntKind.wrap .i64 ((Tr34_z s) - (192 : Int))), mkI .i64 (Tr34_z s), mkB (decide ((Tr34_z s) ≥ (224 : Int))), mkB true, mkI .i64 (Tr34_z s), mkB (decide ((Tr34_z s) < (240 : Int))), mkB false, .jk, .jk, mkI .i64 (Tr34_z s), mkB (decide ((Tr34_z s) ≥ (240 : Int))), mkB true, mkI .i64 (Tr34_z s), mkB (decide ((Tr34_z s) < (248 : Int))), mkB false, .jk, .jk, mkI .i64 2, mkB false, mkI .i64 (IntKind.wrap .i64 ((Tr34_z s) - (192 : Int))), mkI .i64 (IntKind.wrap .i64 ((Tr34_z s) - (192 : Int)))] ++ (jks 70), []⟩)) (
 ALoop (aCode Tryz.K [] (cAt [1, 1, 1, 1, 1, 1, 1, 1, 1, 1, 0, 1, 0, 0] Tryz.b56)) (Tr34_k0 q) ⟨[mkS s, .jk, mkI .i64 0, mkI .i64 0, mkI .i64 (Tr34_z s), mkI .i64 2, mkI .i64 (IntKind.wrap .i64 ((Tr34_z s) - (192 : Int))), mkI .i64 128, mkI .i64 (IntKind.wrap .i64 ((Tr34_z s) - (192 : Int))), mkI .i64 (IntKind.wrap .i64 ((Tr34_z s) - (192 : Int))), mkI .i64 1, .jk, mkS s, mkB false, mkS s, mkI .u8 ((UInt8.toNat (List.getD (Array.toList (ByteArray.data s)) (Int.toNat (0 : Int)) (0 : UInt8))) : Int), mkI .i64 (Tr34_z s), mkI .i64 (Tr34_z s), mkB false, .jk, mkI .i64 (Tr34_z s), mkB (decide ((Tr34_z s) ≥ (192 : Int))), mkB true, mkI .i64 (Tr34_z s), mkB (decide ((Tr34_z s) < (224 : Int))), mkB true, mkI .i64 (Tr34_z s), mkI .i64 (IntKind.wrap .i64 ((Tr34_z s) - (192 : Int))), mkI .i64 (Tr34_z s), mkB (decide ((Tr34_z s) ≥ (224 : Int))), mkB true, mkI .i64 (Tr34_z s), mkB (decide ((Tr34_z s) < (240 : Int))), mkB false, .jk, .jk, mkI .i64 (Tr34_z s), mkB (decide ((Tr34_z s) ≥ (240 : Int))), mkB false, .tp [], .tp [], mkB false, .jk, .jk, mkI .i64 2, mkB false, mkI .i64 (IntKind.wrap .i64 ((Tr34_z s) - (192 : Int))), mkI .i64 (IntKind.wrap .i64 ((Tr34_z s) - (192 : Int)))] ++ (jks 70), []⟩))) (
 bcase (decide ((Tr34_z s) ≥ (240 : Int))) (
 bcase (decide ((Tr34_z s) < (248 : Int))) (
 ALoop (aCode Tryz.K [] (cAt [1, 1, 1, 1, 1, 1, 1, 1, 1, 1, 0, 1, 0, 0] Tryz.b56)) (Tr34_k0 q) ⟨[mkS s, .jk, mkI .i64 0, mkI .i64 0, mkI .i64 (Tr34_z s), mkI .i64 4, mkI .i64 (IntKind.wrap .i64 ((Tr34_z s) - (240 : Int))), mkI .i64 65536, mkI .i64 (IntKind.wrap .i64 ((Tr34_z s) - (240 : Int))), mkI .i64 (IntKind.wrap .i64 ((Tr34_z s) - (240 : Int))), mkI .i64 1, .jk, mkS s, mkB false, mkS s, mkI .u8 ((UInt8.toNat (List.getD (Array.toList (ByteArray.data s)) (Int.toNat (0 : Int)) (0 : UInt8))) : Int), mkI .i64 (Tr34_z s), mkI .i64 (Tr34_z s), mkB false, .jk, mkI .i64 (Tr34_z s), mkB (decide ((Tr34_z s) ≥ (192 : Int))), mkB true, mkI .i64 (Tr34_z s), mkB (decide ((Tr34_z s) < (224 : Int))), mkB true, mkI .i64 (Tr34_z s), mkI .i64 (IntKind.wrap .i64 ((Tr34_z s) - (192 : Int))), mkI .i64 (Tr34_z s), mkB (decide ((Tr34_z s) ≥ (224 : Int))), mkB false, .tp [], .tp [], mkB false, .jk, .jk, mkI .i64 (Tr34_z s), mkB (decide ((Tr34_z s) ≥ (240 : Int))), mkB true, mkI .i64 (Tr34_z s), mkB (decide ((Tr34_z s) < (248 : Int))), mkB true, mkI .i64 (Tr34_z s), mkI .i64 (IntKind.wrap .i64 ((Tr34_z s) - (240 : Int))), mkI .i64 4, mkB false, mkI .i64 (IntKind.wrap .i64 ((Tr34_z s) - (240 : Int))), mkI .i64 (IntKind.wrap .i64 ((Tr34_z s) - (240 : Int)))] ++ (jks 70), []⟩) (
 ALoop (aCode Tryz.K [] (cAt [1, 1, 1, 1, 1, 1, 1, 1, 1, 1, 0, 1, 0, 0] Tryz.b56)) (Tr34_k0 q) ⟨[mkS s, .jk, mkI .i64 0, mkI .i64 0, mkI .i64 (Tr34_z s), mkI .i64 2, mkI .i64 (IntKind.wrap .i64 ((Tr34_z s) - (192 : Int))), mkI .i64 128, mkI .i64 (IntKind.wrap .i64 ((Tr34_z s) - (192 : Int))), mkI .i64 (IntKind.wrap .i64 ((Tr34_z s) - (192 : Int))), mkI .i64 1, .jk, mkS s, mkB false, mkS s, mkI .u8 ((UInt8.toNat (List.getD (Array.toList (ByteArray.data s)) (Int.toNat (0 : Int)) (0 : UInt8))) : Int), mkI .i64 (Tr34_z s), mkI .i64 (Tr34_z s), mkB false, .jk, mkI .i64 (Tr34_z s), mkB (decide ((Tr34_z s) ≥ (192 : Int))), mkB true, mkI .i64 (Tr34_z s), mkB (decide ((Tr34_z s) < (224 : Int))), mkB true, mkI .i64 (Tr34_z s), mkI .i64 (IntKind.wrap .i64 ((Tr34_z s) - (192 : Int))), mkI .i64 (Tr34_z s), mkB (decide ((Tr34_z s) ≥ (224 : Int))), mkB false, .tp [], .tp [], mkB false, .jk, .jk, mkI .i64 (Tr34_z s), mkB (decide ((Tr34_z s) ≥ (240 : Int))), mkB true, mkI .i64 (Tr34_z s), mkB (decide ((Tr34_z s) < (248 : Int))), mkB false, .jk, .jk, mkI .i64 2, mkB false, mkI .i64 (IntKind.wrap .i64 ((Tr34_z s) - (192 : Int))), mkI .i64 (IntKind.wrap .i64 ((Tr34_z s) - (192 : Int)))] ++ (jks 70), []⟩)) (
 ALoop (aCode Tryz.K [] (cAt [1, 1, 1, 1, 1, 1, 1, 1, 1, 1, 0, 1, 0, 0] Tryz.b56)) (Tr34_k0 q) ⟨[mkS s, .jk, mkI .i64 0, mkI .i64 0, mkI .i64 (Tr34_z s), mkI .i64 2, mkI .i64 (IntKind.wrap .i64 ((Tr34_z s) - (192 : Int))), mkI .i64 128, mkI .i64 (IntKind.wrap .i64 ((Tr34_z s) - (192 : Int))), mkI .i64 (IntKind.wrap .i64 ((Tr34_z s) - (192 : Int))), mkI .i64 1, .jk, mkS s, mkB false, mkS s, mkI .u8 ((UInt8.toNat (List.getD (Array.toList (ByteArray.data s)) (Int.toNat (0 : Int)) (0 : UInt8))) : Int), mkI .i64 (Tr34_z s), mkI .i64 (Tr34_z s), mkB false, .jk, mkI .i64 (Tr34_z s), mkB (decide ((Tr34_z s) ≥ (192 : Int))), mkB true, mkI .i64 (Tr34_z s), mkB (decide ((Tr34_z s) < (224 : Int))), mkB true, mkI .i64 (Tr34_z s), mkI .i64 (IntKind.wrap .i64 ((Tr34_z s) - (192 : Int))), mkI .i64 (Tr34_z s), mkB (decide ((Tr34_z s) ≥ (224 : Int))), mkB false, .tp [], .tp [], mkB false, .jk, .jk, mkI .i64 (Tr34_z s), mkB (decide ((Tr34_z s) ≥ (240 : Int))), mkB false, .tp [], .tp [], mkB false, .jk, .jk, mkI .i64 2, mkB false, mkI .i64 (IntKind.wrap .i64 ((Tr34_z s) - (192 : Int))), mkI .i64 (IntKind.wrap .i64 ((Tr34_z s) - (192 : Int)))] ++ (jks 70), []⟩))) (
 bcase (decide ((Tr34_z s) ≥ (224 : Int))) (
 bcase (decide ((Tr34_z s) < (240 : Int))) (
 bcase (decide ((Tr34_z s) ≥ (240 : Int))) (
 bcase (decide ((Tr34_z s) < (248 : Int))) (
 ALoop (aCode Tryz.K [] (cAt [1, 1, 1, 1, 1, 1, 1, 1, 1, 1, 0, 1, 0, 0] Tryz.b56)) (Tr34_k0 q) ⟨[mkS s, .jk, mkI .i64 0, mkI .i64 0, mkI .i64 (Tr34_z s), mkI .i64 4, mkI .i64 (IntKind.wrap .i64 ((Tr34_z s) - (240 : Int))), mkI .i64 65536, mkI .i64 (IntKind.wrap .i64 ((Tr34_z s) - (240 : Int))), mkI .i64 (IntKind.wrap .i64 ((Tr34_z s) - (240 : Int))), mkI .i64 1, .jk, mkS s, mkB false, mkS s, mkI .u8 ((UInt8.toNat (List.getD (Array.toList (ByteArray.data s)) (Int.toNat (0 : Int)) (0 : UInt8))) : Int), mkI .i64 (Tr34_z s), mkI .i64 (Tr34_z s), mkB false, .jk, mkI .i64 (Tr34_z s), mkB (decide ((Tr34_z s) ≥ (192 : Int))), mkB true, mkI .i64 (Tr34_z s), mkB (decide ((Tr34_z s) < (224 : Int))), mkB false, .jk, .jk, mkI .i64 (Tr34_z s), mkB (decide ((Tr34_z s) ≥ (224 : Int))), mkB true, mkI .i64 (Tr34_z s), mkB (decide ((Tr34_z s) < (240 : Int))), mkB true, mkI .i64 (Tr34_z s), mkI .i64 (IntKind.wrap .i64 ((Tr34_z s) - (224 : Int))), mkI .i64 (Tr34_z s), mkB (decide ((Tr34_z s) ≥ (240 : Int))), mkB true, mkI .i64 (Tr34_z s), mkB (decide ((Tr34_z s) < (248 : Int))), mkB true, mkI .i64 (Tr34_z s), mkI .i64 (IntKind.wrap .i64 ((Tr34_z s) - (240 : Int))), mkI .i64 4, mkB false, mkI .i64 (IntKind.wrap .i64 ((Tr34_z s) - (240 : Int))), mkI .i64 (IntKind.wrap .i64 ((Tr34_z s) - (240 : Int)))] ++ (jks 70), []⟩) (
 ALoop (aCode Tryz.K [] (cAt [1, 1, 1, 1, 1, 1, 1, 1, 1, 1, 0, 1, 0, 0] Tryz.b56)) (Tr34_k0 q) ⟨[mkS s, .jk, mkI .i64 0, mkI .i64 0, mkI .i64 (Tr34_z s), mkI .i64 3, mkI .i64 (IntKind.wrap .i64 ((Tr34_z s) - (224 : Int))), mkI .i64 2048, mkI .i64 (IntKind.wrap .i64 ((Tr34_z s) - (224 : Int))), mkI .i64 (IntKind.wrap .i64 ((Tr34_z s) - (224 : Int))), mkI .i64 1, .jk, mkS s, mkB false, mkS s, mkI .u8 ((UInt8.toNat (List.getD (Array.toList (ByteArray.data s)) (Int.toNat (0 : Int)) (0 : UInt8))) : Int), mkI .i64 (Tr34_z s), mkI .i64 (Tr34_z s), mkB false, .jk, mkI .i64 (Tr34_z s), mkB (decide ((Tr34_z s) ≥ (192 : Int))), mkB true, mkI .i64 (Tr34_z s), mkB (decide ((Tr34_z s) < (224 : Int))), mkB false, .jk, .jk, mkI .i64 (Tr34_z s), mkB (decide ((Tr34_z s) ≥ (224 : Int))), mkB true, mkI .i64 (Tr34_z s), mkB (decide ((Tr34_z s) < (240 : Int))), mkB true, mkI .i64 (Tr34_z s), mkI .i64 (IntKind.wrap .i64 ((Tr34_z s) - (224 : Int))), mkI .i64 (Tr34_z s), mkB (decide ((Tr34_z s) ≥ (240 : Int))), mkB true, mkI .i64 (Tr34_z s), mkB (decide ((Tr34_z s) < (248 : Int))), mkB false, .jk, .jk, mkI .i64 3, mkB false, mkI .i64 (IntKind.wrap .i64 ((Tr34_z s) - (224 : Int))), mkI .i64 (IntKind.wrap .i64 ((Tr34_z s) - (224 : Int)))] ++ (jks 70), []⟩)) (
 ALoop (aCode Tryz.K [] (cAt [1, 1, 1, 1, 1, 1, 1, 1, 1, 1, 0, 1, 0, 0] Tryz.b56)) (Tr34_k0 q) ⟨[mkS s, .jk, mkI .i64 0, mkI .i64 0, mkI .i64 (Tr34_z s), mkI .i64 3, mkI .i64 (IntKind.wrap .i64 ((Tr34_z s) - (224 : Int))), mkI .i64 2048, mkI .i64 (IntKind.wrap .i64 ((Tr34_z s) - (224 : Int))), mkI .i64 (IntKind.wrap .i64 ((Tr34_z s) - (224 : Int))), mkI .i64 1, .jk, mkS s, mkB false, mkS s, mkI .u8 ((UInt8.toNat (List.getD (Array.toList (ByteArray.data s)) (Int.toNat (0 : Int)) (0 : UInt8))) : Int), mkI .i64 (Tr34_z s), mkI .i64 (Tr34_z s), mkB false, .jk, mkI .i64 (Tr34_z s), mkB (decide ((Tr34_z s) ≥ (192 : Int))), mkB true, mkI .i64 (Tr34_z s), mkB (decide ((Tr34_z s) < (224 : Int))), mkB false, .jk, .jk, mkI .i64 (Tr34_z s), mkB (decide ((Tr34_z s) ≥ (224 : Int))), mkB true, mkI .i64 (Tr34_z s), mkB (decide ((Tr34_z s) < (240 : Int))), mkB true, mkI .i64 (Tr34_z s), mkI .i64 (IntKind.wrap .i64 ((Tr34_z s) - (224 : Int))), mkI .i64 (Tr34_z s), mkB (decide ((Tr34_z s) ≥ (240 : Int))), mkB false, .tp [], .tp [], mkB false, .jk, .jk, mkI .i64 3, mkB false, mkI .i64 (IntKind.wrap .i64 ((Tr34_z s) - (224 : Int))), mkI .i64 (IntKind.wrap .i64 ((Tr34_z s) - (224 : Int)))] ++ (jks 70), []⟩)) (
 bcase (decide ((Tr34_z s) ≥ (240 : Int))) (
 bcase (decide ((Tr34_z s) < (248 : Int))) (
 ALoop (aCode Tryz.K [] (cAt [1, 1, 1, 1, 1, 1, 1, 1, 1, 1, 0, 1, 0, 0] Tryz.b56)) (Tr34_k0 q) ⟨[mkS s, .jk, mkI .i64 0, mkI .i64 0, mkI .i64 (Tr34_z s), mkI .i64 4, mkI .i64 (IntKind.wrap .i64 ((Tr34_z s) - (240 : Int))), mkI .i64 65536, mkI .i64 (IntKind.wrap .i64 ((Tr34_z s) - (240 : Int))), mkI .i64 (IntKind.wrap .i64 ((Tr34_z s) - (240 : Int))), mkI .i64 1, .jk, mkS s, mkB false, mkS s, mkI .u8 ((UInt8.toNat (List.getD (Array.toList (ByteArray.data s)) (Int.toNat (0 : Int)) (0 : UInt8))) : Int), mkI .i64 (Tr34_z s), mkI .i64 (Tr34_z s), mkB false, .jk, mkI .i64 (Tr34_z s), mkB (decide ((Tr34_z s) ≥ (192 : Int))), mkB true, mkI .i64 (Tr34_z s), mkB (decide ((Tr34_z s) < (224 : Int))), mkB false, .jk, .jk, mkI .i64 (Tr34_z s), mkB (decide ((Tr34_z s) ≥ (224 : Int))), mkB true, mkI .i64 (Tr34_z s), mkB (decide ((Tr34_z s) < (240 : Int))), mkB false, .jk, .jk, mkI .i64 (Tr34_z s), mkB (decide ((Tr34_z s) ≥ (240 : Int))), mkB true, mkI .i64 (Tr34_z s), mkB (decide ((Tr34_z s) < (248 : Int))), mkB true, mkI .i64 (Tr34_z s), mkI .i64 (IntKind.wrap .i64 ((Tr34_z s) - (240 : Int))), mkI .i64 4, mkB false, mkI .i64 (IntKind.wrap .i64 ((Tr34_z s) - (240 : Int))), mkI .i64 (IntKind.wrap .i64 ((Tr34_z s) - (240 : Int)))] ++ (jks 70), []⟩) (
 q (AV.tp [mkI .i64 0, mkI .i64 0]))) (
 q (AV.tp [mkI .i64 0, mkI .i64 0])))) (
 bcase (decide ((Tr34_z s) ≥ (240 : Int))) (
 bcase (decide ((Tr34_z s) < (248 : Int))) (
 ALoop (aCode Tryz.K [] (cAt [1, 1, 1, 1, 1, 1, 1, 1, 1, 1, 0, 1, 0, 0] Tryz.b56)) (Tr34_k0 q) ⟨[mkS s, .jk, mkI .i64 0, mkI .i64 0, mkI .i64 (Tr34_z s), mkI .i64 4, mkI .i64 (IntKind.wrap .i64 ((Tr34_z s) - (240 : Int))), mkI .i64 65536, mkI .i64 (IntKind.wrap .i64 ((Tr34_z s) - (240 : Int))), mkI .i64 (IntKind.wrap .i64 ((Tr34_z s) - (240 : Int))), mkI .i64 1, .jk, mkS s, mkB false, mkS s, mkI .u8 ((UInt8.toNat (List.getD (Array.toList (ByteArray.data s)) (Int.toNat (0 : Int)) (0 : UInt8))) : Int), mkI .i64 (Tr34_z s), mkI .i64 (Tr34_z s), mkB false, .jk, mkI .i64 (Tr34_z s), mkB (decide ((Tr34_z s) ≥ (192 : Int))), mkB true, mkI .i64 (Tr34_z s), mkB (decide ((Tr34_z s) < (224 : Int))), mkB false, .jk, .jk, mkI .i64 (Tr34_z s), mkB (decide ((Tr34_z s) ≥ (224 : Int))), mkB false, .tp [], .tp [], mkB false, .jk, .jk, mkI .i64 (Tr34_z s), mkB (decide ((Tr34_z s) ≥ (240 : Int))), mkB true, mkI .i64 (Tr34_z s), mkB (decide ((Tr34_z s) < (248 : Int))), mkB true, mkI .i64 (Tr34_z s), mkI .i64 (IntKind.wrap .i64 ((Tr34_z s) - (240 : Int))), mkI .i64 4, mkB false, mkI .i64 (IntKind.wrap .i64 ((Tr34_z s) - (240 : Int))), mkI .i64 (IntKind.wrap .i64 ((Tr34_z s) - (240 : Int)))] ++ (jks 70), []⟩) (
 q (AV.tp [mkI .i64 0, mkI .i64 0]))) (
 q (AV.tp [mkI .i64 0, mkI .i64 0]))))) (
 bcase (decide ((Tr34_z s) ≥ (224 : Int))) (
 bcase (decide ((Tr34_z s) < (240 : Int))) (
 bcase (decide ((Tr34_z s) ≥ (240 : Int))) (
 bcase (decide ((Tr34_z s) < (248 : Int))) (
 ALoop (aCode Tryz.K [] (cAt [1, 1, 1, 1, 1, 1, 1, 1, 1, 1, 0, 1, 0, 0] Tryz.b56)) (Tr34_k0 q) ⟨[mkS s, .jk, mkI .i64 0, mkI .i64 0, mkI .i64 (Tr34_z s), mkI .i64 4, mkI .i64 (IntKind.wrap .i64 ((Tr34_z s) - (240 : Int))), mkI .i64 65536, mkI .i64 (IntKind.wrap .i64 ((Tr34_z s) - (240 : Int))), mkI .i64 (IntKind.wrap .i64 ((Tr34_z s) - (240 : Int))), mkI .i64 1, .jk, mkS s, mkB false, mkS s, mkI .u8 ((UInt8.toNat (List.getD (Array.toList (ByteArray.data s)) (Int.toNat (0 : Int)) (0 : UInt8))) : Int), mkI .i64 (Tr34_z s), mkI .i64 (Tr34_z s), mkB false, .jk, mkI .i64 (Tr34_z s), mkB (decide ((Tr34_z s) ≥ (192 : Int))), mkB false, .tp [], .tp [], mkB false, .jk, .jk, mkI .i64 (Tr34_z s), mkB (decide ((Tr34_z s) ≥ (224 : Int))), mkB true, mkI .i64 (Tr34_z s), mkB (decide ((Tr34_z s) < (240 : Int))), mkB true, mkI .i64 (Tr34_z s), mkI .i64 (IntKind.wrap .i64 ((Tr34_z s) - (224 : Int))), mkI .i64 (Tr34_z s), mkB (decide ((Tr34_z s) ≥ (240 : Int))), mkB true, mkI .i64 (Tr34_z s), mkB (decide ((Tr34_z s) < (248 : Int))), mkB true, mkI .i64 (Tr34_z s), mkI .i64 (IntKind.wrap .i64 ((Tr34_z s) - (240 : Int))), mkI .i64 4, mkB false, mkI .i64 (IntKind.wrap .i64 ((Tr34_z s) - (240 : Int))), mkI .i64 (IntKind.wrap .i64 ((Tr34_z s) - (240 : Int)))] ++ (jks 70), []⟩) (
 ALoop (aCode Tryz.K [] (cAt [1, 1, 1, 1, 1, 1, 1, 1, 1, 1, 0, 1, 0, 0] Tryz.b56)) (Tr34_k0 q) ⟨[mkS s, .jk, mkI .i64 0, mkI .i64 0, mkI .i64 (Tr34_z s), mkI .i64 3, mkI .i64 (IntKind.wrap .i64 ((Tr34_z s) - (224 : Int))), mkI .i64 2048, mkI .i64 (IntKind.wrap .i64 ((Tr34_z s) - (224 : Int))), mkI .i64 (IntKind.wrap .i64 ((Tr34_z s) - (224 : Int))), mkI .i64 1, .jk, mkS s, mkB false, mkS s, mkI .u8 ((UInt8.toNat (List.getD (Array.toList (ByteArray.data s)) (Int.toNat (0 : Int)) (0 : UInt8))) : Int), mkI .i64 (Tr34_z s), mkI .i64 (Tr34_z s), mkB false, .jk, mkI .i64 (Tr34_z s), mkB (decide ((Tr34_z s) ≥ (192 : Int))), mkB false, .tp [], .tp [], mkB false, .jk, .jk, mkI .i64 (Tr34_z s), mkB (decide ((Tr34_z s) ≥ (224 : Int))), mkB true, mkI .i64 (Tr34_z s), mkB (decide ((Tr34_z s) < (240 : Int))), mkB true, mkI .i64 (Tr34_z s), mkI .i64 (IntKind.wrap .i64 ((Tr34_z s) - (224 : Int))), mkI .i64 (Tr34_z s), mkB (decide ((Tr34_z s) ≥ (240 : Int))), mkB true, mkI .i64 (Tr34_z s), mkB (decide ((Tr34_z s) < (248 : Int))), mkB false, .jk, .jk, mkI .i64 3, mkB false, mkI .i64 (IntKind.wrap .i64 ((Tr34_z s) - (224 : Int))), mkI .i64 (IntKind.wrap .i64 ((Tr34_z s) - (224 : Int)))] ++ (jks 70), []⟩)) (
 ALoop (aCode Tryz.K [] (cAt [1, 1, 1, 1, 1, 1, 1, 1, 1, 1, 0, 1, 0, 0] Tryz.b56)) (Tr34_k0 q) ⟨[mkS s, .jk, mkI .i64 0, mkI .i64 0, mkI .i64 (Tr34_z s), mkI .i64 3, mkI .i64 (IntKind.wrap .i64 ((Tr34_z s) - (224 : Int))), mkI .i64 2048, mkI .i64 (IntKind.wrap .i64 ((Tr34_z s) - (224 : Int))), mkI .i64 (IntKind.wrap .i64 ((Tr34_z s) - (224 : Int))), mkI .i64 1, .jk, mkS s, mkB false, mkS s, mkI .u8 ((UInt8.toNat (List.getD (Array.toList (ByteArray.data s)) (Int.toNat (0 : Int)) (0 : UInt8))) : Int), mkI .i64 (Tr34_z s), mkI .i64 (Tr34_z s), mkB false, .jk, mkI .i64 (Tr34_z s), mkB (decide ((Tr34_z s) ≥ (192 : Int))), mkB false, .tp [], .tp [], mkB false, .jk, .jk, mkI .i64 (Tr34_z s), mkB (decide ((Tr34_z s) ≥ (224 : Int))), mkB true, mkI .i64 (Tr34_z s), mkB (decide ((Tr34_z s) < (240 : Int))), mkB true, mkI .i64 (Tr34_z s), mkI .i64 (IntKind.wrap .i64 ((Tr34_z s) - (224 : Int))), mkI .i64 (Tr34_z s), mkB (decide ((Tr34_z s) ≥ (240 : Int))), mkB false, .tp [], .tp [], mkB false, .jk, .jk, mkI .i64 3, mkB false, mkI .i64 (IntKind.wrap .i64 ((Tr34_z s) - (224 : Int))), mkI .i64 (IntKind.wrap .i64 ((Tr34_z s) - (224 : Int)))] ++ (jks 70), []⟩)) (
 bcase (decide ((Tr34_z s) ≥ (240 : Int))) (
 bcase (decide ((Tr34_z s) < (248 : Int))) (
 ALoop (aCode Tryz.K [] (cAt [1, 1, 1, 1, 1, 1, 1, 1, 1, 1, 0, 1, 0, 0] Tryz.b56)) (Tr34_k0 q) ⟨[mkS s, .jk, mkI .i64 0, mkI .i64 0, mkI .i64 (Tr34_z s), mkI .i64 4, mkI .i64 (IntKind.wrap .i64 ((Tr34_z s) - (240 : Int))), mkI .i64 65536, mkI .i64 (IntKind.wrap .i64 ((Tr34_z s) - (240 : Int))), mkI .i64 (IntKind.wrap .i64 ((Tr34_z s) - (240 : Int))), mkI .i64 1, .jk, mkS s, mkB false, mkS s, mkI .u8 ((UInt8.toNat (List.getD (Array.toList (ByteArray.data s)) (Int.toNat (0 : Int)) (0 : UInt8))) : Int), mkI .i64 (Tr34_z s), mkI .i64 (Tr34_z s), mkB false, .jk, mkI .i64 (Tr34_z s), mkB (decide ((Tr34_z s) ≥ (192 : Int))), mkB false, .tp [], .tp [], mkB false, .jk, .jk, mkI .i64 (Tr34_z s), mkB (decide ((Tr34_z s) ≥ (224 : Int))), mkB true, mkI .i64 (Tr34_z s), mkB (decide ((Tr34_z s) < (240 : Int))), mkB false, .jk, .jk, mkI .i64 (Tr34_z s), mkB (decide ((Tr34_z s) ≥ (240 : Int))), mkB true, mkI .i64 (Tr34_z s), mkB (decide ((Tr34_z s) < (248 : Int))), mkB true, mkI .i64 (Tr34_z s), mkI .i64 (IntKind.wrap .i64 ((Tr34_z s) - (240 : Int))), mkI .i64 4, mkB false, mkI .i64 (IntKind.wrap .i64 ((Tr34_z s) - (240 : Int))), mkI .i64 (IntKind.wrap .i64 ((Tr34_z s) - (240 : Int)))] ++ (jks 70), []⟩) (
 q (AV.tp [mkI .i64 0, mkI .i64 0]))) (
 q (AV.tp [mkI .i64 0, mkI .i64 0])))) (
 bcase (decide ((Tr34_z s) ≥ (240 : Int))) (
 bcase (decide ((Tr34_z s) < (248 : Int))) (
 ALoop (aCode Tryz.K [] (cAt [1, 1, 1, 1, 1, 1, 1, 1, 1, 1, 0, 1, 0, 0] Tryz.b56)) (Tr34_k0 q) ⟨[mkS s, .jk, mkI .i64 0, mkI .i64 0, mkI .i64 (Tr34_z s), mkI .i64 4, mkI .i64 (IntKind.wrap .i64 ((Tr34_z s) - (240 : Int))), mkI .i64 65536, mkI .i64 (IntKind.wrap .i64 ((Tr34_z s) - (240 : Int))), mkI .i64 (IntKind.wrap .i64 ((Tr34_z s) - (240 : Int))), mkI .i64 1, .jk, mkS s, mkB false, mkS s, mkI .u8 ((UInt8.toNat (List.getD (Array.toList (ByteArray.data s)) (Int.toNat (0 : Int)) (0 : UInt8))) : Int), mkI .i64 (Tr34_z s), mkI .i64 (Tr34_z s), mkB false, .jk, mkI .i64 (Tr34_z s), mkB (decide ((Tr34_z s) ≥ (192 : Int))), mkB false, .tp [], .tp [], mkB false, .jk, .jk, mkI .i64 (Tr34_z s), mkB (decide ((Tr34_z s) ≥ (224 : Int))), mkB false, .tp [], .tp [], mkB false, .jk, .jk, mkI .i64 (Tr34_z s), mkB (decide ((Tr34_z s) ≥ (240 : Int))), mkB true, mkI .i64 (Tr34_z s), mkB (decide ((Tr34_z s) < (248 : Int))), mkB true, mkI .i64 (Tr34_z s), mkI .i64 (IntKind.wrap .i64 ((Tr34_z s) - (240 : Int))), mkI .i64 4, mkB false, mkI .i64 (IntKind.wrap .i64 ((Tr34_z s) - (240 : Int))), mkI .i64 (IntKind.wrap .i64 ((Tr34_z s) - (240 : Int)))] ++ (jks 70), []⟩) (
 q (AV.tp [mkI .i64 0, mkI .i64 0]))) (
 q (AV.tp [mkI .i64 0, mkI .i64 0]))))))) := by kernel_rfl
def Tst34 (s : ByteArray) (n least lo hi i : Int) : S := ⟨[mkS s, .jk, .jk, .jk, .jk, mkI .i64 n, .jk, mkI .i64 least, mkI .i64 lo, mkI .i64 hi, mkI .i64 i] ++ jks 107, []⟩
def Tm34 : List Bool := maskOf (Tst34 ⟨#[]⟩ 0 0 0 0 0)
theorem Tr34_b {ι : Type} (st : ι → S) (inv : ι → Prop) (μ : ι → Nat) (k : ι) (s : ByteArray) (n least lo hi i : Int) (q : AV → Prop) :
 (aCode Tryz.K [] (cAt [1, 1, 1, 1, 1, 1, 1, 1, 1, 1, 0, 1, 0, 0] Tryz.b56) (kFamM [] Tm34 st inv μ k (Tr34_k0 q)) (Tst34 s n least lo hi i)) = (
 bcase (decide (i < n)) (
 ((ByteArray.size s) ≤ LIM) →
 bcase (decide (i ≥ ((ByteArray.size s) : Int))) (
 FamNext st inv μ k ⟨[mkS s, .jk, .jk, .jk, .jk, mkI .i64 n, .jk, mkI .i64 least, mkI .i64 (IntKind.wrap .i64 (lo * (64 : Int))), mkI .i64 (IntKind.wrap .i64 ((IntKind.wrap .i64 ((64 : Int) * hi)) + (63 : Int))), mkI .i64 (IntKind.wrap .i64 (i + (1 : Int)))] ++ (jks 107), []⟩) (
 (((0 : Int) ≤ i) ∧ (i < ((ByteArray.size s) : Int))) ∧
 bcase (decide ((IntKind.wrap .i64 ((UInt8.toNat (List.getD (Array.toList (ByteArray.data s)) (Int.toNat i) (0 : UInt8))) : Int)) < (128 : Int))) (
 q (AV.tp [mkI .i64 0, mkI .i64 0])) (
 bcase (decide ((IntKind.wrap .i64 ((UInt8.toNat (List.getD (Array.toList (ByteArray.data s)) (Int.toNat i) (0 : UInt8))) : Int)) ≥ (192 : Int))) (
 q (AV.tp [mkI .i64 0, mkI .i64 0])) (
 FamNext st inv μ k ⟨[mkS s, .jk, .jk, .jk, .jk, mkI .i64 n, .jk, mkI .i64 least, mkI .i64 (IntKind.wrap .i64 ((IntKind.wrap .i64 ((IntKind.wrap .i64 ((64 : Int) * lo)) + (IntKind.wrap .i64 ((UInt8.toNat (List.getD (Array.toList (ByteArray.data s)) (Int.toNat i) (0 : UInt8))) : Int)))) - (128 : Int))), mkI .i64 (IntKind.wrap .i64 ((IntKind.wrap .i64 ((IntKind.wrap .i64 ((64 : Int) * hi)) + (IntKind.wrap .i64 ((UInt8.toNat (List.getD (Array.toList (ByteArray.data s)) (Int.toNat i) (0 : UInt8))) : Int)))) - (128 : Int))), mkI .i64 (IntKind.wrap .i64 (i + (1 : Int)))] ++ (jks 107), []⟩)))) (
 ((ByteArray.size s) ≤ LIM) →
 bcase (decide (((ByteArray.size s) : Int) ≥ n)) (
 bcase (decide (lo < least)) (
 q (AV.tp [mkI .i64 0, mkI .i64 0])) (
 bcase (decide (lo > (1114111 : Int))) (
 q (AV.tp [mkI .i64 0, mkI .i64 0])) (
 bcase (decide (lo ≥ (55296 : Int))) (
 bcase (decide (lo ≤ (57343 : Int))) (
 q (AV.tp [mkI .i64 0, mkI .i64 0])) (
 q (AV.tp [mkI .i64 lo, mkI .i64 n]))) (
 q (AV.tp [mkI .i64 lo, mkI .i64 n]))))) (
 bcase (decide (hi < least)) (
 q (AV.tp [mkI .i64 0, mkI .i64 0])) (
 bcase (decide (lo > (1114111 : Int))) (
 q (AV.tp [mkI .i64 0, mkI .i64 0])) (
 bcase (decide (lo ≥ (55296 : Int))) (
 bcase (decide (hi ≤ (57343 : Int))) (
 q (AV.tp [mkI .i64 0, mkI .i64 0])) (
 q (AV.tp [mkI .i64 0, mkI .i64 (-(1 : Int))]))) (
 q (AV.tp [mkI .i64 0, mkI .i64 (-(1 : Int))]))))))) := by kernel_rfl
def TF34 : List AV → Option (Prop × AV) := fun al => match al with
  | [.d (.v (.string s))] => some (True, .tp [mkI .i64 (signT s).1, mkI .i64 (signT s).2])
  | _ => none
def signB (i : Nat) (v : Int) : Prop := 0 ≤ v ∧ ((i = 1 ∧ v < 32) ∨ (i = 2 ∧ v < 2048) ∨ (i = 3 ∧ v < 131072) ∨ (i = 4 ∧ v < 8388608))
theorem byteAt_lt (s : ByteArray) (j : Nat) : 0 ≤ byteAt s j ∧ byteAt s j < 256 := by
  have := (s.data.toList.getD j 0).toNat_lt
  unfold byteAt; omega
theorem wrap_byte (s : ByteArray) (j : Nat) : IntKind.i64.wrap ((s.data.toList.getD j 0).toNat : Int) = byteAt s j := by
  have := byteAt_lt s j
  exact IntWalk.i64_in _ (by unfold byteAt at this; omega)
theorem Tc34 : PSound Tryz.prog 56 (detE TF34) := by
  refine det_fn (c := Tryz.b56) mixed Tryz.K_ok gsound_nil Tryz.func56 rfl rfl Tryz.call56 fun al p r q hF hp hq => ?_
  unfold TF34 at hF; split at hF <;> cases hF
  rename_i s
  have lp : ∀ (n : Nat) (least v : Int) (s0 : S), n ≤ 4 → signB 1 v → signT s = signGo s n least 4 1 v v → s0.le (Tst34 s n least v v (1 : Nat)) → ALoop (aCode Tryz.K [] (cAt [1, 1, 1, 1, 1, 1, 1, 1, 1, 1, 0, 1, 0, 0] Tryz.b56)) (Tr34_k0 q) s0 := by
    intro n least v s0 hn hv hS hs0
    rw [hS] at hq
    obtain ⟨ANS, hA⟩ : ∃ ANS, signGo s n least 4 1 v v = ANS := ⟨_, rfl⟩
    rw [hA] at hq
    refine ALoop.introM [] Tm34 (fun x : Nat × Nat × Int × Int => Tst34 s n least x.2.2.1 x.2.2.2 x.2.1) (fun x => x.1 + x.2.1 = 5 ∧ signB x.2.1 x.2.2.1 ∧ signB x.2.1 x.2.2.2 ∧ signGo s n least x.1 x.2.1 x.2.2.1 x.2.2.2 = ANS) (fun x => x.1) ⟨[], (4, 1, v, v), hs0, rfl, hv, hv, hA⟩ fun x ⟨hx1, hx2, hx3, hx4⟩ => ?_
    obtain ⟨f, i, lo, hi⟩ := x
    simp only at hx1 hx2 hx3 hx4
    have hi4 : 1 ≤ i ∧ i ≤ 4 := by unfold signB at hx2; omega
    obtain ⟨f, rfl⟩ : ∃ g, f = g + 1 := ⟨f - 1, by omega⟩
    rw [signGo] at hx4
    refine cast (Tr34_b _ _ _ _ s n least lo hi i q).symm (bcase_dec (fun hlt hlim => ?_) (fun hge hlim => ?_))
    · have hlt : i < n := by omega
      rw [if_pos hlt] at hx4
      have hw : IntKind.i64.wrap ((i : Int) + 1) = ((i + 1 : Nat) : Int) := by rw [IntWalk.i64_in _ (by omega)]; omega
      have w1 : IntKind.i64.wrap (lo * 64) = lo * 64 := IntWalk.i64_in _ (by unfold signB at hx2; omega)
      have w2 : IntKind.i64.wrap (64 * hi) = 64 * hi := IntWalk.i64_in _ (by unfold signB at hx3; omega)
      have w3 : IntKind.i64.wrap (64 * hi + 63) = 64 * hi + 63 := IntWalk.i64_in _ (by unfold signB at hx3; omega)
      have w4 : IntKind.i64.wrap (64 * lo) = 64 * lo := IntWalk.i64_in _ (by unfold signB at hx2; omega)
      have hb := byteAt_lt s i
      have w5 : IntKind.i64.wrap (64 * lo + byteAt s i) = 64 * lo + byteAt s i := IntWalk.i64_in _ (by unfold signB at hx2; omega)
      have w6 : IntKind.i64.wrap (64 * hi + byteAt s i) = 64 * hi + byteAt s i := IntWalk.i64_in _ (by unfold signB at hx3; omega)
      have w7 : IntKind.i64.wrap (64 * lo + byteAt s i - 128) = 64 * lo + byteAt s i - 128 := IntWalk.i64_in _ (by unfold signB at hx2; omega)
      have w8 : IntKind.i64.wrap (64 * hi + byteAt s i - 128) = 64 * hi + byteAt s i - 128 := IntWalk.i64_in _ (by unfold signB at hx3; omega)
      simp only [Int.toNat_natCast, wrap_byte, hw, w1, w2, w3, w4, w5, w6, w7, w8]
      refine bcase_dec (fun h1 => ?_) (fun h1 => ⟨⟨by omega, by omega⟩, bcase_dec (fun h2 => ?_) (fun h2 => bcase_dec (fun h3 => ?_) (fun h3 => ?_))⟩)
      · rw [if_pos (by omega)] at hx4
        refine .mk [] (f, i + 1, lo * 64, 64 * hi + 63) (by simp [S.le, sealAll, leL, jks, Tst34]) ⟨by simp only; omega, ?_, ?_, hx4⟩ (Nat.lt_succ_self f)
        · unfold signB at hx2 ⊢; simp only; omega
        · unfold signB at hx3 ⊢; simp only; omega
      · rw [if_neg (by omega), if_pos (.inl h2)] at hx4; subst hx4; exact hq
      · rw [if_neg (by omega), if_pos (.inr h3)] at hx4; subst hx4; exact hq
      · rw [if_neg (by omega), if_neg (by omega)] at hx4
        refine .mk [] (f, i + 1, 64 * lo + byteAt s i - 128, 64 * hi + byteAt s i - 128) (by simp [S.le, sealAll, leL, jks, Tst34]) ⟨by simp only; omega, ?_, ?_, hx4⟩ (Nat.lt_succ_self f)
        · unfold signB at hx2 ⊢; simp only; omega
        · unfold signB at hx3 ⊢; simp only; omega
    · rw [if_neg (by omega), signEnd] at hx4
      refine bcase_dec (fun h1 => bcase_dec (fun h2 => ?_) (fun h2 => bcase_dec (fun h3 => ?_) (fun h3 => bcase_dec (fun h4 => bcase_dec (fun h5 => ?_) (fun h5 => ?_)) (fun h4 => ?_)))) (fun h1 => bcase_dec (fun h2 => ?_) (fun h2 => bcase_dec (fun h3 => ?_) (fun h3 => bcase_dec (fun h4 => bcase_dec (fun h5 => ?_) (fun h5 => ?_)) (fun h4 => ?_))))
      · rw [if_pos h1, if_pos (by omega)] at hx4; subst hx4; exact hq
      · rw [if_pos h1, if_pos (by omega)] at hx4; subst hx4; exact hq
      · rw [if_pos h1, if_pos (by omega)] at hx4; subst hx4; exact hq
      · rw [if_pos h1, if_neg (by omega)] at hx4; subst hx4; exact hq
      · rw [if_pos h1, if_neg (by omega)] at hx4; subst hx4; exact hq
      · rw [if_neg h1, if_pos (by omega)] at hx4; subst hx4; exact hq
      · rw [if_neg h1, if_pos (by omega)] at hx4; subst hx4; exact hq
      · rw [if_neg h1, if_pos (by omega)] at hx4; subst hx4; exact hq
      · rw [if_neg h1, if_neg (by omega)] at hx4; subst hx4; exact hq
      · rw [if_neg h1, if_neg (by omega)] at hx4; subst hx4; exact hq
  have hb := byteAt_lt s 0
  have w2 : byteAt s 0 ≥ 192 → IntKind.i64.wrap (byteAt s 0 - 192) = byteAt s 0 - 192 := fun h => IntWalk.i64_in _ (by omega)
  have w3 : byteAt s 0 ≥ 224 → IntKind.i64.wrap (byteAt s 0 - 224) = byteAt s 0 - 224 := fun h => IntWalk.i64_in _ (by omega)
  have w4 : byteAt s 0 ≥ 240 → IntKind.i64.wrap (byteAt s 0 - 240) = byteAt s 0 - 240 := fun h => IntWalk.i64_in _ (by omega)
  have z0 : Int.toNat 0 = 0 := rfl
  refine cast (Tr34 s q).symm (bcase_dec (fun h => ?_) (fun h => ?_))
  · have : signT s = (0, -1) := by unfold signT; rw [if_pos (by rw [h]; rfl)]
    rw [this] at hq; exact hq
  have hs := size_pos h
  refine ⟨⟨Int.le_refl _, by omega⟩, ?_⟩
  simp only [Tr34_z, z0, wrap_byte]
  by_cases h1 : byteAt s 0 < 128
  · have : signT s = (byteAt s 0, 1) := by unfold signT; rw [if_neg (by omega), if_pos h1]
    rw [this] at hq
    exact bcaseT (decide_eq_true h1) hq
  refine bcaseF (decide_eq_false h1) ?_
  by_cases h2 : 192 ≤ byteAt s 0 ∧ byteAt s 0 < 224
  · refine bcaseT (decide_eq_true h2.1) (bcaseT (decide_eq_true h2.2) (bcaseF (decide_eq_false (by omega)) (bcaseF (decide_eq_false (by omega)) (lp 2 128 (byteAt s 0 - 192) _ (by omega) (by unfold signB; omega) (by unfold signT; rw [if_neg (by omega), if_neg h1, if_pos h2]) ?_))))
    rw [w2 h2.1]
    simp [S.le, leL, jks, Tst34]
  by_cases h3 : 224 ≤ byteAt s 0 ∧ byteAt s 0 < 240
  · refine bcaseT (decide_eq_true (by omega)) (bcaseF (decide_eq_false (by omega)) (bcaseT (decide_eq_true h3.1) (bcaseT (decide_eq_true h3.2) (bcaseF (decide_eq_false (by omega)) (lp 3 2048 (byteAt s 0 - 224) _ (by omega) (by unfold signB; omega) (by unfold signT; rw [if_neg (by omega), if_neg h1, if_neg h2, if_pos h3]) ?_)))))
    rw [w3 h3.1]
    simp [S.le, leL, jks, Tst34]
  by_cases h4 : 240 ≤ byteAt s 0 ∧ byteAt s 0 < 248
  · refine bcaseT (decide_eq_true (by omega)) (bcaseF (decide_eq_false (by omega)) (bcaseT (decide_eq_true (by omega)) (bcaseF (decide_eq_false (by omega)) (bcaseT (decide_eq_true h4.1) (bcaseT (decide_eq_true h4.2) (lp 4 65536 (byteAt s 0 - 240) _ (by omega) (by unfold signB; omega) (by unfold signT; rw [if_neg (by omega), if_neg h1, if_neg h2, if_neg h3, if_pos h4]) ?_))))))
    rw [w4 h4.1]
    simp [S.le, leL, jks, Tst34]
  · have : signT s = (0, 0) := by unfold signT; rw [if_neg (by omega), if_neg h1, if_neg h2, if_neg h3, if_neg h4]
    rw [this] at hq
    by_cases h5 : byteAt s 0 ≥ 192
    · exact bcaseT (decide_eq_true h5) (bcaseF (decide_eq_false (by omega)) (bcaseT (decide_eq_true (by omega)) (bcaseF (decide_eq_false (by omega)) (bcaseT (decide_eq_true (by omega)) (bcaseF (decide_eq_false (by omega)) hq)))))
    · exact bcaseF (decide_eq_false h5) (bcaseF (decide_eq_false (by omega)) (bcaseF (decide_eq_false (by omega)) hq))
noncomputable abbrev TG23 : List (FuncId × En) := [(56, .det TF34), (57, .det TF35)]
noncomputable def Tr23_k0 (q : AV → Prop) : Kont := kBlk (0 : Nat) (kSeq (aCode Tryz.K TG23 (cAt [1, 1] Tryz.b34) (kRet Tryz.K (Array.toList (Func.results Tryz.f34)) q)) (kRet Tryz.K (Array.toList (Func.results Tryz.f34)) q))
theorem Tr23 (s : ByteArray) (q : AV → Prop) :
 (aCode Tryz.K TG23 Tryz.b34 (kRet Tryz.K Tryz.f34.results.toList q) ⟨[mkS s] ++ List.replicate (Tryz.f34.ntmps - 1) .jk, []⟩) = (
 ALoop (aCode Tryz.K TG23 (cAt [1, 0, 0, 0] Tryz.b34)) (Tr23_k0 q) ⟨[mkS s, .jk, mkI .i64 0] ++ (jks 20), []⟩) := by kernel_rfl
def Tst23 (s : ByteArray) : S := ⟨[mkS s] ++ jks 22, []⟩
def Tm23 : List Bool := maskOf (Tst23 ⟨#[]⟩)
theorem Tr23_b {ι : Type} (st : ι → S) (inv : ι → Prop) (μ : ι → Nat) (k : ι) (s : ByteArray) (q : AV → Prop) :
 (aCode Tryz.K TG23 (cAt [1, 0, 0, 0] Tryz.b34) (kFamM [] Tm23 st inv μ k (Tr23_k0 q)) (Tst23 s)) = (
 ((ByteArray.size s) ≤ LIM) →
 bcase (decide (((ByteArray.size s) : Int) > (0 : Int))) (
 True ∧
 bcase (decide ((Prod.snd (signT s)) ≤ (0 : Int))) (
 q (mkI .i64 2)) (
 True ∧
 bcase (!(mayB (Prod.fst (signT s)))) (
 q (mkI .i64 2)) (
 (((0 : Int) ≤ (Prod.snd (signT s))) ∧ ((Prod.snd (signT s)) ≤ ((ByteArray.size s) : Int))) ∧
 FamNext st inv μ k ⟨[mkS (ByteArray.extract s (Int.toNat (Prod.snd (signT s))) (ByteArray.size s))] ++ (jks 22), []⟩))) (
 q (mkI .i64 0))) := by kernel_rfl
def TF23 : List AV → Option (Prop × AV) := fun al => match al with
  | [.d (.v (.string s))] => some (True, mkI .i64 (if rightB s = true then 0 else 2))
  | _ => none
theorem Tc23 : PSound Tryz.prog 34 (detE TF23) := by
  refine det_fn (c := Tryz.b34) mixed Tryz.K_ok (gsound_det Tc34 (gsound_det Tc35 gsound_nil)) Tryz.func34 rfl rfl Tryz.call34 fun al p r q hF hp hq => ?_
  unfold TF23 at hF; split at hF <;> cases hF
  rename_i s
  rw [rightB_ref] at hq
  obtain ⟨B, hB⟩ : ∃ B, refR s.size s = B := ⟨_, rfl⟩
  rw [hB] at hq
  refine cast (Tr23 s q).symm ?_
  refine ALoop.introM [] Tm23 (fun x : Nat × ByteArray => Tst23 x.2) (fun x => x.2.size ≤ x.1 ∧ refR x.1 x.2 = B) (fun x => x.1) ⟨[], (s.size, s), by simp [S.le, sealAll, leL, jks, Tst23], Nat.le_refl _, hB⟩ fun x ⟨hx1, hx2⟩ => ?_
  obtain ⟨f, t⟩ := x
  simp only at hx1 hx2
  refine cast (Tr23_b _ _ _ _ t q).symm fun hlim => bcase_dec (fun h => ?_) (fun h => ?_)
  · have h0 : 0 < t.size := by omega
    have h0' : ¬ t.size = 0 := by omega
    obtain ⟨f, rfl⟩ : ∃ g, f = g + 1 := ⟨f - 1, by omega⟩
    unfold refR at hx2
    rw [if_neg h0'] at hx2
    refine ⟨trivial, bcase_dec (fun h1 => ?_) (fun h1 => ⟨trivial, bcase_mk (fun h2 => ?_) (fun h2 => ?_)⟩)⟩
    · rw [if_pos (.inl h1)] at hx2; subst hx2; exact hq
    · have h2 : mayB (signT t).1 = false := by simpa using h2
      rw [if_pos (.inr h2)] at hx2; subst hx2; exact hq
    · have h2 : mayB (signT t).1 = true := by simpa using h2
      have h3 : ¬ ((signT t).2 ≤ 0 ∨ mayB (signT t).1 = false) := by rintro (h | h); exact h1 h; rw [h2] at h; cases h
      rw [if_neg h3] at hx2
      have hg : ¬ dec0 t = (65533, 1) := fun e => h1 (sign_bad t h0 e)
      obtain ⟨e1, e2⟩ := sign_good t h0 hg
      have e3 := dec0_le t h0
      have e4 : (signT t).2 = ((dec0 t).2 : Int) := by rw [e1]
      refine ⟨⟨by omega, by omega⟩, ?_⟩
      refine .mk [] (f, t.extract (signT t).2.toNat t.size) (by simp [S.le, sealAll, leL, jks, Tst23]) ⟨?_, hx2⟩ (Nat.lt_succ_self f)
      simp only; rw [ByteArray.size_extract]; omega
  · have h0 : t.size = 0 := by omega
    have : refR f t = true := by
      cases f with
      | zero => rfl
      | succ f => unfold refR; rw [if_pos h0]
    rw [this] at hx2; subst hx2; exact hq
end Go.Proofs.YtfdmmgiefhhnoaaGreatDoor
