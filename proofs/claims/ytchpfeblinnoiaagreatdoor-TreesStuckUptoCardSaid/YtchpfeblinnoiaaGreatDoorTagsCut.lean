import Derived.Test.YtchpfeblinnoiaaGreatDoorTagsBuild
set_option linter.unusedSimpArgs false
set_option linter.unusedVariables false
namespace Go.Proofs.YtchpfeblinnoiaaGreatDoor
open Go Go.AM Go.RowKit
def sep1 (c : UInt8) : ByteArray := ⟨#[c]⟩
def sepC (s : ByteArray) : UInt8 := s.data.toList.getD 0 0
def F69 : List AV → Option (Prop × AV) := fun al => match al with
  | [.d (.v (.string s)), .d (.v (.string c))] => some (c = sep1 (sepC c), mkI .i64 (Lib.indexByte s.data.toList (sepC c)))
  | _ => none
theorem c69 : PSound Tryz.prog 126 (detE F69) := by
  refine ps2 Tryz.call126 fun al q h => ?_
  unfold detE at h
  split at h
  · rename_i p r hF
    unfold F69 at hF; split at hF <;> cases hF
    rename_i s c
    obtain ⟨hc, hq⟩ := h
    refine ⟨_, _, rfl, fun _ _ w => ?_⟩
    generalize sepC c = x at hc hq
    subst hc
    exact (Tryz.stringslite_Index_one s x w).mono fun e w' ⟨h1, h2⟩ => ⟨_, _, h1, hq, fun X => mkI_rel, h2 ▸ Below.refl _ _⟩
  · exact h.elim
noncomputable abbrev G53 : List (FuncId × En) := [(126, .det F69)]
theorem r53 (s : ByteArray) (c : UInt8) (q : AV → Prop) :
  (aCode Tryz.K G53 Tryz.b112 (kRet Tryz.K Tryz.f112.results.toList q) ⟨[mkS s, mkS (sep1 c)] ++ List.replicate (Tryz.f112.ntmps - 2) .jk, []⟩) = (
  ((sep1 c) = (sep1 (sepC (sep1 c)))) ∧
  bcase (decide ((Lib.indexByte (Array.toList (ByteArray.data s)) (sepC (sep1 c))) ≥ (0 : Int))) (
   (((0 : Int) ≤ (Lib.indexByte (Array.toList (ByteArray.data s)) (sepC (sep1 c)))) ∧ ((Lib.indexByte (Array.toList (ByteArray.data s)) (sepC (sep1 c))) ≤ ((ByteArray.size s) : Int))) ∧ (
    ((ByteArray.size (sep1 c)) ≤ LIM) →
    (((0 : Int) ≤ (IntKind.wrap .i64 ((Lib.indexByte (Array.toList (ByteArray.data s)) (sepC (sep1 c))) + ((ByteArray.size (sep1 c)) : Int)))) ∧ ((IntKind.wrap .i64 ((Lib.indexByte (Array.toList (ByteArray.data s)) (sepC (sep1 c))) + ((ByteArray.size (sep1 c)) : Int))) ≤ ((ByteArray.size s) : Int))) ∧
    q (AV.tp [mkS (ByteArray.extract s (0 : Nat) (Int.toNat (Lib.indexByte (Array.toList (ByteArray.data s)) (sepC (sep1 c))))), mkS (ByteArray.extract s (Int.toNat (IntKind.wrap .i64 ((Lib.indexByte (Array.toList (ByteArray.data s)) (sepC (sep1 c))) + ((ByteArray.size (sep1 c)) : Int)))) (ByteArray.size s)), mkB true]))) (
   q (AV.tp [mkS s, mkS ⟨#[]⟩, mkB false]))) := by kernel_rfl
def cutI (c : UInt8) (s : ByteArray) : Int := Lib.indexByte s.data.toList c
def cutU (c : UInt8) (s : ByteArray) : ByteArray := if cutI c s ≥ 0 then s.extract 0 (cutI c s).toNat else s
def cutD (c : UInt8) (s : ByteArray) : ByteArray := if cutI c s ≥ 0 then s.extract ((cutI c s).toNat + 1) s.size else ⟨#[]⟩
def cutB (c : UInt8) (s : ByteArray) : Bool := decide (cutI c s ≥ 0)
theorem cutI_lt {c : UInt8} {s : ByteArray} (h : 0 ≤ cutI c s) : (cutI c s).toNat < s.size := by
  have e : Lib.indexByte s.data.toList c = ((cutI c s).toNat : Int) := by unfold cutI at *; omega
  have := (Lib.indexByte_some e).1
  rcases Nat.lt_or_ge (cutI c s).toNat s.data.toList.length with h | h
  · have e2 : s.data.toList.length = s.size := Array.length_toList
    omega
  · rw [List.getElem?_eq_none h] at this; cases this
def F53 : List AV → Option (Prop × AV) := fun al => match al with
  | [.d (.v (.string s)), .d (.v (.string c))] => some (c = sep1 (sepC c) ∧ s.size ≤ LIM, .tp [mkS (cutU (sepC c) s), mkS (cutD (sepC c) s), mkB (cutB (sepC c) s)])
  | _ => none
theorem c53 : PSound Tryz.prog 112 (detE F53) := by
  refine det_fn (c := Tryz.b112) mixed Tryz.K_ok (gsound_det c69 gsound_nil) Tryz.func112 rfl rfl Tryz.call112 fun al p r q hF hp hq => ?_
  unfold F53 at hF; split at hF <;> cases hF
  rename_i s c
  obtain ⟨hc, hs⟩ := hp
  generalize sepC c = x at hc hq
  subst hc
  refine cast (r53 _ _ q).symm ?_
  change sep1 x = sep1 x ∧ bcase (decide (cutI x s ≥ 0)) _ _
  refine ⟨rfl, bcase_mk (fun h => ?_) (fun h => ?_)⟩
  · have h : 0 ≤ cutI x s := of_decide_eq_true h
    have hlt := cutI_lt h
    change (0 ≤ cutI x s ∧ cutI x s ≤ _) ∧ (_ → (0 ≤ IntKind.i64.wrap (cutI x s + 1) ∧ IntKind.i64.wrap (cutI x s + 1) ≤ _) ∧ q (.tp [mkS (s.extract 0 (cutI x s).toNat), mkS (s.extract (IntKind.i64.wrap (cutI x s + 1)).toNat s.size), mkB true]))
    rw [LIM] at hs
    rw [IntWalk.i64_in _ (by omega)]
    refine ⟨⟨h, by omega⟩, fun _ => ⟨⟨by omega, by omega⟩, ?_⟩⟩
    have e : (cutI x s + 1).toNat = (cutI x s).toNat + 1 := by omega
    rw [e]
    rw [show cutU x s = s.extract 0 (cutI x s).toNat from if_pos h, show cutD x s = s.extract ((cutI x s).toNat + 1) s.size from if_pos h, show cutB x s = true from decide_eq_true h] at hq
    exact hq
  · have h : ¬ 0 ≤ cutI x s := of_decide_eq_false h
    rw [show cutU x s = s from if_neg h, show cutD x s = ⟨#[]⟩ from if_neg h, show cutB x s = false from decide_eq_false h] at hq
    exact hq
noncomputable abbrev G38 : List (FuncId × En) := [(112, .det F53)]
theorem r38 (s : ByteArray) (c : UInt8) (q : AV → Prop) :
  (aCode Tryz.K G38 Tryz.b93 (kRet Tryz.K Tryz.f93.results.toList q) ⟨[mkS s, mkS (sep1 c)] ++ List.replicate (Tryz.f93.ntmps - 2) .jk, []⟩) = (
  (((sep1 c) = (sep1 (sepC (sep1 c)))) ∧ ((ByteArray.size s) ≤ LIM)) ∧
  q (AV.tp [mkS (cutU (sepC (sep1 c)) s), mkS (cutD (sepC (sep1 c)) s), mkB (cutB (sepC (sep1 c)) s)])) := by kernel_rfl
theorem c38 : PSound Tryz.prog 93 (detE F53) := by
  refine det_fn (c := Tryz.b93) mixed Tryz.K_ok (gsound_det c53 gsound_nil) Tryz.func93 rfl rfl Tryz.call93 fun al p r q hF hp hq => ?_
  unfold F53 at hF; split at hF <;> cases hF
  rename_i s c
  obtain ⟨hc, hs⟩ := hp
  generalize sepC c = x at hc hq
  subst hc
  exact cast (r38 _ _ q).symm ⟨⟨rfl, hs⟩, hq⟩
def sAmp : ByteArray := ⟨#[97, 109, 112]⟩
def sLt : ByteArray := ⟨#[108, 116]⟩
def sGt : ByteArray := ⟨#[103, 116]⟩
def sQuot : ByteArray := ⟨#[113, 117, 111, 116]⟩
def sApos : ByteArray := ⟨#[97, 112, 111, 115]⟩
def signOf (n : ByteArray) : UInt8 := if n = sAmp then 38 else if n = sLt then 60 else if n = sGt then 62 else if n = sQuot then 34 else if n = sApos then 39 else 0
def signS (n : ByteArray) : ByteArray := if signOf n = 0 then ⟨#[]⟩ else ⟨#[signOf n]⟩
theorem r41 (s : ByteArray) (q : AV → Prop) :
  (aCode Tryz.K [] Tryz.b94 (kRet Tryz.K Tryz.f94.results.toList q) ⟨[mkS s] ++ List.replicate (Tryz.f94.ntmps - 1) .jk, []⟩) = (
  bcase (decide (s = sAmp)) (
   q (AV.tp [mkS ⟨#[38]⟩, mkB true])) (
   bcase (decide (s = sLt)) (
    q (AV.tp [mkS ⟨#[60]⟩, mkB true])) (
    bcase (decide (s = sGt)) (
     q (AV.tp [mkS ⟨#[62]⟩, mkB true])) (
     bcase (decide (s = sQuot)) (
      q (AV.tp [mkS ⟨#[34]⟩, mkB true])) (
      bcase (decide (s = sApos)) (
       q (AV.tp [mkS ⟨#[39]⟩, mkB true])) (
       q (AV.tp [mkS ⟨#[]⟩, mkB false]))))))) := by kernel_rfl
def F41 : List AV → Option (Prop × AV) := fun al => match al with
  | [.d (.v (.string s))] => some (True, .tp [mkS (signS s), mkB (decide (signOf s ≠ 0))])
  | _ => none
theorem c41 : PSound Tryz.prog 94 (detE F41) := by
  refine det_fn (c := Tryz.b94) mixed Tryz.K_ok gsound_nil Tryz.func94 rfl rfl Tryz.call94 fun al p r q hF hp hq => ?_
  unfold F41 at hF; split at hF <;> cases hF
  rename_i s
  refine cast (r41 _ q).symm ?_
  refine bcase_dec (fun h => ?_) (fun h1 => bcase_dec (fun h => ?_) (fun h2 => bcase_dec (fun h => ?_) (fun h3 => bcase_dec (fun h => ?_) (fun h4 => bcase_dec (fun h => ?_) (fun h5 => ?_)))))
  · subst h; exact hq
  · subst h; exact hq
  · subst h; exact hq
  · subst h; exact hq
  · subst h; exact hq
  · have e : signOf s = 0 := by unfold signOf; rw [if_neg h1, if_neg h2, if_neg h3, if_neg h4, if_neg h5]
    simp only [signS, e, if_true] at hq
    exact hq
theorem calls_of_det {f : FuncId} {F : List AV → Option (Prop × AV)} {al : List AV} {vs : Array Value} {r : AV} {p : Prop} {W : World} (h : PSound Tryz.prog f (detE F)) (hF : F al = some (p, r)) (hp : p) (hT : Tabs (fun _ => False) W) (hl : vs.size = al.length)
    (hr : ∀ (i : Nat) (h : i < al.length), VRel (Cx.bare (fun _ => False) W) al[i] (vs.getD i undef)) : Calls Tryz.prog f vs W fun e w' => ∃ v, e = .returned v ∧ VRel (Cx.bare (fun _ => False) w') r v ∧ Below W.heap.size W w' :=
  (h.call (fun _ => False) W al vs (fun av => av = r) (fun b h => h.elim) hT hl hr (by simp only [detE, hF]; exact ⟨hp, trivial⟩)).mono fun e w' ⟨v, av, h1, h2, h3, h4⟩ => ⟨v, h1, h2 ▸ h3, h4⟩
theorem arr3 {vs : Array Value} {x y z : Value} (h : vs.size = 3) (h0 : vs.getD 0 undef = x) (h1 : vs.getD 1 undef = y) (h2 : vs.getD 2 undef = z) : vs = #[x, y, z] := by
  apply Array.ext
  · simpa using h
  · intro i g1 g2
    have : i = 0 ∨ i = 1 ∨ i = 2 := by omega
    rcases this with rfl | rfl | rfl
    · simp [Array.getD_eq_getD_getElem?, Array.getElem?_eq_getElem g1] at h0
      simpa using h0
    · simp [Array.getD_eq_getD_getElem?, Array.getElem?_eq_getElem g1] at h1
      simpa using h1
    · simp [Array.getD_eq_getD_getElem?, Array.getElem?_eq_getElem g1] at h2
      simpa using h2
theorem cut_calls (c : UInt8) (s : ByteArray) (W : World) (hs : s.size ≤ LIM) (hT : Tabs (fun _ => False) W) : Calls Tryz.prog 93 #[.string s, .string ⟨#[c]⟩] W fun e w' =>
    e = .returned (.tuple #[.string (cutU c s), .string (cutD c s), .bool (cutB c s)]) ∧ Below W.heap.size W w' := by
  refine (calls_of_det c38 (al := [mkS s, mkS ⟨#[c]⟩]) rfl ⟨rfl, hs⟩ hT rfl (fun i hi => ?_)).mono ?_
  · match i, hi with
    | 0, _ => exact mkS_rel hs
    | 1, _ => exact mkS_rel (by show 1 ≤ LIM; decide)
    | i + 2, h => exact absurd h (by simp)
  · rintro e w' ⟨v, rfl, hv, hb⟩
    refine ⟨?_, hb⟩
    obtain ⟨arr, rfl, h1, h2⟩ := inv_tp hv
    have e0 := (inv_str (h2 0 (by simp))).1
    have e1 := (inv_str (h2 1 (by simp))).1
    have e2 := inv_bool (h2 2 (by simp))
    have := arr3 h1 e0 e1 e2
    rw [this]; rfl
theorem signS_size (n : ByteArray) : (signS n).size ≤ 1 := by unfold signS; split <;> simp [ByteArray.size]
theorem named_calls (s : ByteArray) (W : World) (hs : s.size ≤ LIM) (hT : Tabs (fun _ => False) W) : Calls Tryz.prog 94 #[.string s] W fun e w' =>
    e = .returned (.tuple #[.string (signS s), .bool (decide (signOf s ≠ 0))]) ∧ Below W.heap.size W w' := by
  refine (calls_of_det c41 (al := [mkS s]) rfl trivial hT rfl (fun i hi => ?_)).mono ?_
  · match i, hi with
    | 0, _ => exact mkS_rel hs
    | i + 1, h => exact absurd h (by simp)
  · rintro e w' ⟨v, rfl, hv, hb⟩
    refine ⟨?_, hb⟩
    obtain ⟨arr, rfl, h1, h2⟩ := inv_tp hv
    have e0 := (inv_str (h2 0 (by simp))).1
    have e1 := inv_bool (h2 1 (by simp))
    have := arr2 h1 e0 e1
    rw [this]
theorem cutU_le (c : UInt8) (s : ByteArray) : (cutU c s).size ≤ s.size := by
  unfold cutU; split
  · rw [ByteArray.size_extract]; omega
  · omega
theorem cutD_le (c : UInt8) (s : ByteArray) : (cutD c s).size ≤ s.size := by
  unfold cutD; split
  · rw [ByteArray.size_extract]; omega
  · exact Nat.zero_le _
theorem cut_sizes {c : UInt8} {s : ByteArray} (h : cutB c s = true) : (cutU c s).size + 1 + (cutD c s).size = s.size := by
  have h : cutI c s ≥ 0 := of_decide_eq_true h
  have := cutI_lt (c := c) (s := s) h
  unfold cutU cutD
  rw [if_pos h, if_pos h, ByteArray.size_extract, ByteArray.size_extract]; omega
end Go.Proofs.YtchpfeblinnoiaaGreatDoor
