import Derived.Test.YthbejheedpdioaaDoorBindBase
import Derived.Test.YthbejheedpdioaaDoorShelf
import Derived.Shelf.Strings.SlTrimAscii
set_option linter.unusedSimpArgs false
set_option linter.unusedVariables false
namespace Go.Proofs.YthbejheedpdioaaDoor
open Go Go.AM Go.RowKit
def letters : ByteArray := ⟨#[97, 98, 99, 100, 101, 102, 103, 104, 105, 106, 107, 108, 109, 110, 111, 112, 113, 114, 115, 116, 117, 118, 119, 120, 121, 122, 48, 49, 50, 51, 52, 53, 54, 55, 56, 57]⟩
theorem letters_low : ∀ b ∈ letters.data.toList, b.toNat < 128 := by decide
theorem letters_ascii (j : Nat) (b : UInt8) (h : letters.data.toList[j]? = some b) : b.toNat < 128 := letters_low b (List.mem_of_getElem? h)
set_option maxRecDepth 100000 in
theorem zero55 (w : World) : (zeroValue 93).run Tryd.prog w = .ok (.agg (Array.replicate 256 (.bool false))) w :=
  (Tryd.zeroValue93 w).trans (by congr 2)
theorem dropWhile_len {α : Type} (p : α → Bool) (l : List α) : (l.dropWhile p).length ≤ l.length := (List.dropWhile_sublist p).length_le
theorem trimS_len (l cs : List UInt8) : (Lib.trimS l cs).length ≤ l.length := by
  unfold Lib.trimS Lib.trimLeftS Lib.trimRightS
  refine Nat.le_trans (dropWhile_len _ _) ?_
  rw [List.length_reverse]
  refine Nat.le_trans (dropWhile_len _ _) ?_
  rw [List.length_reverse]; exact Nat.le_refl _
def E26 : PE := fun al q => ∃ s, al = [mkS s, mkS letters] ∧ q (mkS ⟨(Lib.trimS s.data.toList letters.data.toList).toArray⟩)
theorem s26 : PSound Tryd.prog 51 E26 := by
  refine ps2 Tryd.call51 fun al q ⟨s, e, hq⟩ => ⟨_, _, e, fun p0 _ w => ?_⟩
  have hs : s.size ≤ LIM := by simpa [plainV] using p0
  refine (Any.strings_Trim_ascii Tryd.lays160 zero55 (by kernel_rfl) s letters w (Nat.le_trans hs (by decide)) (by decide) letters_ascii).mono fun e w' ⟨h1, h2⟩ => ⟨_, _, h1, hq, fun X => mkS_rel ?_, h2⟩
  exact Nat.le_trans (trimS_len _ _) hs
theorem indexByte_mem : ∀ (l : List UInt8) (c : UInt8), 0 ≤ Lib.indexByte l c ↔ c ∈ l
  | [], c => by simp [Lib.indexByte]
  | b :: l, c => by
    have ih := indexByte_mem l c
    have ge := Lib.indexByte_ge l c
    unfold Lib.indexByte
    by_cases h : b = c
    · simp [h]
    · have h' : ¬ c = b := fun e => h e.symm
      simp only [beq_iff_eq, h, if_false, List.mem_cons, h', false_or, ← ih]
      split <;> rename_i hh
      · omega
      · have : Lib.indexByte l c ≠ -1 := by simpa using hh
        omega
def E29 : PE := fun al q => ∃ (s : ByteArray) (r : Int), al = [mkS s, mkI .i32 r] ∧ 0 ≤ r ∧ r < 128 ∧ q (mkB (decide (r.toNat.toUInt8 ∈ s.data.toList)))
theorem s29 : PSound Tryd.prog 54 E29 := by
  refine ps2 Tryd.call54 fun al q ⟨s, r, e, h0, h1, hq⟩ => ⟨_, _, e, fun _ _ w => ?_⟩
  refine (Tryd.strings_ContainsRune_ascii s r w h0 h1).mono fun e w' ⟨h1, h2⟩ => ⟨_, _, h1, ?_, fun X => mkB_rel, h2 ▸ Below.refl _ _⟩
  rw [show decide (0 ≤ Lib.indexByte s.data.toList r.toNat.toUInt8) = decide (r.toNat.toUInt8 ∈ s.data.toList) from by rw [Bool.eq_iff_iff, decide_eq_true_eq, decide_eq_true_eq, indexByte_mem]]
  exact hq
def F26 : List AV → Option (Prop × AV) := fun al => match al with
  | [.d (.v (.string s)), .d (.v (.string c))] => some (c = letters, mkS ⟨(Lib.trimS s.data.toList c.data.toList).toArray⟩)
  | _ => none
theorem c26 : PSound Tryd.prog 51 (detE F26) := s26.det fun al p r hF hp q hq => by
  unfold F26 at hF; split at hF <;> cases hF
  subst hp
  exact ⟨_, rfl, hq⟩
def F29 : List AV → Option (Prop × AV) := fun al => match al with
  | [.d (.v (.string s)), .d (.v (.int .i32 r))] => some (0 ≤ r ∧ r < 128, mkB (decide (r.toNat.toUInt8 ∈ s.data.toList)))
  | _ => none
theorem c29 : PSound Tryd.prog 54 (detE F29) := s29.det fun al p r hF hp q hq => by
  unfold F29 at hF; split at hF <;> cases hF
  exact ⟨_, _, rfl, hp.1, hp.2, hq⟩
def F28 : List AV → Option (Prop × AV) := fun al => match al with
  | [.d (.v (.int .i32 r))] => some (0 ≤ r ∧ r < 128, mkB (!decide (r.toNat.toUInt8 ∈ letters.data.toList)))
  | _ => none
abbrev G28 : List (FuncId × En) := [(54, .det F29)]
theorem r28 (r : Int) (q : AV → Prop) :
  (aCode Tryd.K G28 Tryd.b53 (kRet Tryd.K Tryd.f53.results.toList q) ⟨[mkI .i32 r] ++ List.replicate (Tryd.f53.ntmps - 1) .jk, []⟩) = (
  (((0 : Int) ≤ r) ∧ (r < (128 : Int))) ∧
  q (mkB (!(decide ((Nat.toUInt8 (Int.toNat r)) ∈ (Array.toList (ByteArray.data (⟨#[97, 98, 99, 100, 101, 102, 103, 104, 105, 106, 107, 108, 109, 110, 111, 112, 113, 114, 115, 116, 117, 118, 119, 120, 121, 122, 48, 49, 50, 51, 52, 53, 54, 55, 56, 57]⟩ : ByteArray)))))))) := by kernel_rfl
theorem c28 : PSound Tryd.prog 53 (detE F28) := by
  refine det_fn (c := Tryd.b53) mixed Tryd.K_ok (gsound_det c29 gsound_nil) Tryd.func53 rfl rfl Tryd.call53 fun al p r q hF hp hq => ?_
  unfold F28 at hF; split at hF <;> cases hF
  refine cast (r28 _ q).symm ?_
  exact ⟨hp, hq⟩
end Go.Proofs.YthbejheedpdioaaDoor
