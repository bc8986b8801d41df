import Derived.Test.YtchpfeblinnoiaaGreatDoorTagsUnesc
set_option linter.unusedSimpArgs false
set_option linter.unusedVariables false
namespace Go.Proofs.YtchpfeblinnoiaaGreatDoor
open Go Go.AM Go.RowKit
def sBlanks : ByteArray := ⟨#[32, 9, 10, 13]⟩
theorem blanks_low : ∀ b ∈ sBlanks.data.toList, b.toNat < 128 := by decide
theorem blanks_ascii (j : Nat) (b : UInt8) (h : sBlanks.data.toList[j]? = some b) : b.toNat < 128 := blanks_low b (List.mem_of_getElem? h)
set_option maxRecDepth 100000 in
theorem zeroSet (w : World) : (zeroValue (Tryz.lays161_ren.t 116)).run Tryz.prog w = .ok (.agg (Array.replicate 256 (.bool false))) w :=
  (Tryz.zeroValue131 w).trans (by congr 2)
theorem trimL_len (l cs : List UInt8) : (Lib.trimLeftS l cs).length ≤ l.length := (List.dropWhile_sublist _).length_le
theorem trimR_len (l cs : List UInt8) : (Lib.trimRightS l cs).length ≤ l.length := by
  unfold Lib.trimRightS
  rw [List.length_reverse]
  refine Nat.le_trans (List.dropWhile_sublist _).length_le ?_
  rw [List.length_reverse]; exact Nat.le_refl _
def trimLB (s : ByteArray) : ByteArray := ⟨(Lib.trimLeftS s.data.toList sBlanks.data.toList).toArray⟩
def trimRB (s : ByteArray) : ByteArray := ⟨(Lib.trimRightS s.data.toList sBlanks.data.toList).toArray⟩
theorem trimLB_size (s : ByteArray) : (trimLB s).size ≤ s.size := by
  have := trimL_len s.data.toList sBlanks.data.toList
  have e : s.data.toList.length = s.size := Array.length_toList
  show (List.toArray _).size ≤ _
  simpa [e] using this
theorem trimRB_size (s : ByteArray) : (trimRB s).size ≤ s.size := by
  have := trimR_len s.data.toList sBlanks.data.toList
  have e : s.data.toList.length = s.size := Array.length_toList
  show (List.toArray _).size ≤ _
  simpa [e] using this
def F48 : List AV → Option (Prop × AV) := fun al => match al with
  | [.d (.v (.string s)), .d (.v (.string c))] => some (c = sBlanks, mkS (trimLB s))
  | _ => none
theorem c48 : PSound Tryz.prog 98 (detE F48) := by
  refine ps2 Tryz.call98 fun al q h => ?_
  unfold detE at h
  split at h
  · rename_i p r hF
    unfold F48 at hF; split at hF <;> cases hF
    rename_i s c
    obtain ⟨rfl, hq⟩ := h
    refine ⟨_, _, rfl, fun p0 _ w => ?_⟩
    have hs : s.size ≤ LIM := by simpa [plainV] using p0
    exact (Any.strings_TrimLeft_ascii Tryz.lays161 zeroSet (by kernel_rfl) s sBlanks w (by decide) blanks_ascii).mono fun e w' ⟨h1, h2⟩ => ⟨_, _, h1, hq, fun X => mkS_rel (Nat.le_trans (trimLB_size s) hs), h2⟩
  · exact h.elim
def F45 : List AV → Option (Prop × AV) := fun al => match al with
  | [.d (.v (.string s)), .d (.v (.string c))] => some (c = sBlanks, mkS (trimRB s))
  | _ => none
theorem c45 : PSound Tryz.prog 96 (detE F45) := by
  refine ps2 Tryz.call96 fun al q h => ?_
  unfold detE at h
  split at h
  · rename_i p r hF
    unfold F45 at hF; split at hF <;> cases hF
    rename_i s c
    obtain ⟨rfl, hq⟩ := h
    refine ⟨_, _, rfl, fun p0 _ w => ?_⟩
    have hs : s.size ≤ LIM := by simpa [plainV] using p0
    exact (Any.strings_TrimRight_ascii Tryz.lays162 zeroSet (by kernel_rfl) s sBlanks w (Nat.le_trans hs (by decide)) (by decide) blanks_ascii).mono fun e w' ⟨h1, h2⟩ => ⟨_, _, h1, hq, fun X => mkS_rel (Nat.le_trans (trimRB_size s) hs), h2⟩
  · exact h.elim
def sSlash : ByteArray := ⟨#[47]⟩
def pfxB (s : ByteArray) : Bool := Lib.hasPrefix s.data.toList sSlash.data.toList
def pfxS (s : ByteArray) : ByteArray := ⟨(Lib.trimPrefix s.data.toList sSlash.data.toList).toArray⟩
theorem pfxS_size (s : ByteArray) : (pfxS s).size ≤ s.size := by
  have e : s.data.toList.length = s.size := Array.length_toList
  have : (Lib.trimPrefix s.data.toList sSlash.data.toList).length ≤ s.data.toList.length := by
    unfold Lib.trimPrefix
    split
    · simp
    · exact Nat.le_refl _
  show (List.toArray _).size ≤ _
  simpa [e] using this
def F31 : List AV → Option (Prop × AV) := fun al => match al with
  | [.d (.v (.string s)), .d (.v (.string c))] => some (c = sSlash, .tp [mkS (pfxS s), mkB (pfxB s)])
  | _ => none
theorem c31 : PSound Tryz.prog 81 (detE F31) := by
  refine ps2 Tryz.call81 fun al q h => ?_
  unfold detE at h
  split at h
  · rename_i p r hF
    unfold F31 at hF; split at hF <;> cases hF
    rename_i s c
    obtain ⟨rfl, hq⟩ := h
    refine ⟨_, _, rfl, fun p0 _ w => ?_⟩
    have hs : s.size ≤ LIM := by simpa [plainV] using p0
    refine (Tryz.strings_CutPrefix s sSlash w).mono fun e w' ⟨h1, h2⟩ => ⟨_, _, h1, hq, fun X => .tp rfl fun j hj => ?_, h2 ▸ Below.refl _ _⟩
    match j, hj with
    | 0, _ => exact mkS_rel (Nat.le_trans (pfxS_size s) hs)
    | 1, _ => exact mkB_rel
    | j + 2, h => exact absurd h (by simp)
  · exact h.elim
end Go.Proofs.YtchpfeblinnoiaaGreatDoor
