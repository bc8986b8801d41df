import Derived.Test.YthbejheedpdioaaDoorBindUser
set_option linter.unusedSimpArgs false
set_option linter.unusedVariables false
namespace Go.Proofs.YthbejheedpdioaaDoor
open Go Go.AM Go.RowKit
def slash : ByteArray := ⟨#[47]⟩
def F57 : List AV → Option (Prop × AV) := fun al => match al with
  | [.d (.v (.string s)), .d (.v (.string c))] => some (c = slash, mkI .i64 (Lib.indexByte s.data.toList 47))
  | _ => none
theorem c57 : PSound Tryd.prog 60 (detE F57) := by
  refine ps2 Tryd.call60 fun al q h => ?_
  unfold detE at h
  split at h
  · rename_i p r hF
    unfold F57 at hF; split at hF <;> cases hF
    rename_i s c
    obtain ⟨rfl, hq⟩ := h
    refine ⟨_, _, rfl, fun _ _ w => ?_⟩
    exact (Tryd.stringslite_Index_one s 47 w).mono fun e w' ⟨h1, h2⟩ => ⟨_, _, h1, hq, fun X => mkI_rel, h2 ▸ Below.refl _ _⟩
  · exact h.elim
noncomputable abbrev G44 : List (FuncId × En) := [(60, .det F57)]
theorem r44 (s : ByteArray) (q : AV → Prop) :
  (aCode Tryd.K G44 Tryd.b50 (kRet Tryd.K Tryd.f50.results.toList q) ⟨[mkS s, mkS slash] ++ List.replicate (Tryd.f50.ntmps - 2) .jk, []⟩) = (
  (slash = slash) ∧
  bcase (decide ((Lib.indexByte (Array.toList (ByteArray.data s)) (47 : UInt8)) ≥ (0 : Int))) (
   (((0 : Int) ≤ (Lib.indexByte (Array.toList (ByteArray.data s)) (47 : UInt8))) ∧ ((Lib.indexByte (Array.toList (ByteArray.data s)) (47 : UInt8)) ≤ ((ByteArray.size s) : Int))) ∧ (
    ((ByteArray.size slash) ≤ LIM) →
    (((0 : Int) ≤ (IntKind.wrap .i64 ((Lib.indexByte (Array.toList (ByteArray.data s)) (47 : UInt8)) + ((ByteArray.size slash) : Int)))) ∧ ((IntKind.wrap .i64 ((Lib.indexByte (Array.toList (ByteArray.data s)) (47 : UInt8)) + ((ByteArray.size slash) : Int))) ≤ ((ByteArray.size s) : Int))) ∧
    q (AV.tp [mkS (ByteArray.extract s (0 : Nat) (Int.toNat (Lib.indexByte (Array.toList (ByteArray.data s)) (47 : UInt8)))), mkS (ByteArray.extract s (Int.toNat (IntKind.wrap .i64 ((Lib.indexByte (Array.toList (ByteArray.data s)) (47 : UInt8)) + ((ByteArray.size slash) : Int)))) (ByteArray.size s)), mkB true]))) (
   q (AV.tp [mkS s, mkS ⟨#[]⟩, mkB false]))) := by kernel_rfl
def cutI (s : ByteArray) : Int := Lib.indexByte s.data.toList 47
def cutU (s : ByteArray) : ByteArray := if cutI s ≥ 0 then s.extract 0 (cutI s).toNat else s
def cutD (s : ByteArray) : ByteArray := if cutI s ≥ 0 then s.extract ((cutI s).toNat + 1) s.size else ⟨#[]⟩
def cutB (s : ByteArray) : Bool := decide (cutI s ≥ 0)
theorem cutI_lt {s : ByteArray} (h : 0 ≤ cutI s) : (cutI s).toNat < s.size := by
  have e : Lib.indexByte s.data.toList 47 = ((cutI s).toNat : Int) := by unfold cutI at *; omega
  have := (Lib.indexByte_some e).1
  rcases Nat.lt_or_ge (cutI s).toNat s.data.toList.length with h | h
  · have e2 : s.data.toList.length = s.size := Array.length_toList
    omega
  · rw [List.getElem?_eq_none h] at this; cases this
def F44 : List AV → Option (Prop × AV) := fun al => match al with
  | [.d (.v (.string s)), .d (.v (.string c))] => some (c = slash ∧ s.size ≤ LIM, .tp [mkS (cutU s), mkS (cutD s), mkB (cutB s)])
  | _ => none
theorem c44 : PSound Tryd.prog 50 (detE F44) := by
  refine det_fn (c := Tryd.b50) mixed Tryd.K_ok (gsound_det c57 gsound_nil) Tryd.func50 rfl rfl Tryd.call50 fun al p r q hF hp hq => ?_
  unfold F44 at hF; split at hF <;> cases hF
  rename_i s c
  obtain ⟨rfl, hs⟩ := hp
  refine cast (r44 _ q).symm ?_
  change slash = slash ∧ bcase (decide (cutI s ≥ 0)) _ _
  refine ⟨rfl, bcase_mk (fun h => ?_) (fun h => ?_)⟩
  · have h : 0 ≤ cutI s := of_decide_eq_true h
    have hlt := cutI_lt h
    change (0 ≤ cutI s ∧ cutI s ≤ _) ∧ (_ → (0 ≤ IntKind.i64.wrap (cutI s + 1) ∧ IntKind.i64.wrap (cutI s + 1) ≤ _) ∧ q (.tp [mkS (s.extract 0 (cutI s).toNat), mkS (s.extract (IntKind.i64.wrap (cutI s + 1)).toNat s.size), mkB true]))
    rw [LIM] at hs
    rw [IntWalk.i64_in _ (by omega)]
    refine ⟨⟨h, by omega⟩, fun _ => ⟨⟨by omega, by omega⟩, ?_⟩⟩
    have e : (cutI s + 1).toNat = (cutI s).toNat + 1 := by omega
    rw [e]
    rw [show cutU s = s.extract 0 (cutI s).toNat from if_pos h, show cutD s = s.extract ((cutI s).toNat + 1) s.size from if_pos h, show cutB s = true from decide_eq_true h] at hq
    exact hq
  · have h : ¬ 0 ≤ cutI s := of_decide_eq_false h
    rw [show cutU s = s from if_neg h, show cutD s = ⟨#[]⟩ from if_neg h, show cutB s = false from decide_eq_false h] at hq
    exact hq
noncomputable abbrev G33 : List (FuncId × En) := [(50, .det F44)]
theorem r33 (s : ByteArray) (q : AV → Prop) :
  (aCode Tryd.K G33 Tryd.b40 (kRet Tryd.K Tryd.f40.results.toList q) ⟨[mkS s, mkS slash] ++ List.replicate (Tryd.f40.ntmps - 2) .jk, []⟩) = (
  ((slash = slash) ∧ ((ByteArray.size s) ≤ LIM)) ∧
  q (AV.tp [mkS (cutU s), mkS (cutD s), mkB (cutB s)])) := by kernel_rfl
theorem c33 : PSound Tryd.prog 40 (detE F44) := by
  refine det_fn (c := Tryd.b40) mixed Tryd.K_ok (gsound_det c44 gsound_nil) Tryd.func40 rfl rfl Tryd.call40 fun al p r q hF hp hq => ?_
  unfold F44 at hF; split at hF <;> cases hF
  obtain ⟨rfl, hs⟩ := hp
  exact cast (r33 _ q).symm ⟨⟨rfl, hs⟩, hq⟩
noncomputable abbrev G25 : List (FuncId × En) := [(40, .det F44), (41, .det F19)]
theorem r25 (s : ByteArray) (q : AV → Prop) :
  (aCode Tryd.K G25 Tryd.b23 (kRet Tryd.K Tryd.f23.results.toList q) ⟨[mkS s] ++ List.replicate (Tryd.f23.ntmps - 1) .jk, []⟩) = (
  ((slash = slash) ∧ ((ByteArray.size s) ≤ LIM)) ∧
  True ∧
  bcase (userB (cutU s)) (
   bcase (!(cutB s)) (
    q (AV.tp [mkS (cutU s), mkS (cutD s), mkB true])) (
    True ∧
    q (AV.tp [mkS (cutU s), mkS (cutD s), mkB (userB (cutD s))]))) (
   q (AV.tp [mkS (cutU s), mkS (cutD s), mkB false]))) := by kernel_rfl
def addrB (s : ByteArray) : Bool := userB (cutU s) && (!cutB s || userB (cutD s))
def F25 : List AV → Option (Prop × AV) := fun al => match al with
  | [.d (.v (.string s))] => some (s.size ≤ LIM, .tp [mkS (cutU s), mkS (cutD s), mkB (addrB s)])
  | _ => none
theorem c25 : PSound Tryd.prog 23 (detE F25) := by
  refine det_fn (c := Tryd.b23) mixed Tryd.K_ok (gsound_det c33 (gsound_det c19 gsound_nil)) Tryd.func23 rfl rfl Tryd.call23 fun al p r q hF hp hq => ?_
  unfold F25 at hF; split at hF <;> cases hF
  refine cast (r25 _ q).symm ⟨⟨rfl, hp⟩, trivial, bcase_mk (fun h => bcase_mk (fun h2 => ?_) (fun h2 => ⟨trivial, ?_⟩)) (fun h => ?_)⟩
  · simpa [addrB, h, h2] using hq
  · simpa [addrB, h, h2] using hq
  · simpa [addrB, h] using hq
end Go.Proofs.YthbejheedpdioaaDoor
