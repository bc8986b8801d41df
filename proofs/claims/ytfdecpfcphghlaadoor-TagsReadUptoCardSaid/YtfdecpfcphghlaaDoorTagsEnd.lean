import Derived.Test.YtfdecpfcphghlaaDoorTagsAttr
set_option linter.unusedSimpArgs false
set_option linter.unusedVariables false
namespace Go.Proofs.YtfdecpfcphghlaaDoor
open Go Go.AM Go.RowKit

-- tags.end
noncomputable abbrev G32 : List (FuncId × En) := [(45, .det F45), (46, .det F46)]
theorem r32 (s : ByteArray) (q : AV → Prop) :
  (aCode Tryd.K G32 Tryd.b32 (kRet Tryd.K Tryd.f32.results.toList q) ⟨[mkS s] ++ List.replicate (Tryd.f32.ntmps - 1) .jk, []⟩) = (
  (YtfdecpfcphghlaaDoor.sBlanks = YtfdecpfcphghlaaDoor.sBlanks) ∧
  ((ByteArray.size (YtfdecpfcphghlaaDoor.trimRB s)) ≤ LIM) ∧
  bcase (!(YtfdecpfcphghlaaDoor.nameB (YtfdecpfcphghlaaDoor.trimRB s))) (
   q (AV.tp [AV.d (D.sl []), mkI IntKind.i64 (3 : Int)])) (
   q (AV.tp [AV.d (D.sl [[D.v (Value.int IntKind.i64 (2 : Int)), D.v (Value.string (YtfdecpfcphghlaaDoor.trimRB s)), D.sl [], D.v (Value.string (⟨#[]⟩ : ByteArray))]]), mkI IntKind.i64 (0 : Int)]))) := by kernel_rfl

/-- The tokens of an end, and the error. -/
def endT (s : ByteArray) : List Tok × Int := if nameB (trimRB s) = true then ([⟨2, trimRB s, [], ⟨#[]⟩⟩], 0) else ([], 3)
def F32 : List AV → Option (Prop × AV) := fun al => match al with
  | [.d (.v (.string s))] => some (s.size ≤ LIM, .tp [.d (.sl (toksD (endT s).1)), mkI .i64 (endT s).2])
  | _ => none
theorem c32 : PSound Tryd.prog 32 (detE F32) := by
  refine det_fn (c := Tryd.b32) mixed Tryd.K_ok (gsound_det c45 (gsound_det c46 gsound_nil)) Tryd.func32 rfl rfl Tryd.call32 fun al p r q hF hp hq => ?_
  unfold F32 at hF; split at hF <;> cases hF
  rename_i s
  refine cast (r32 _ q).symm ?_
  unfold endT at hq
  refine ⟨rfl, Nat.le_trans (trimRB_size s) hp, bcase_mk (fun h => ?_) (fun h => ?_)⟩
  · rw [if_neg (by simpa using h)] at hq; exact hq
  · rw [if_pos (by simpa using h)] at hq; exact hq

-- tags.attr
noncomputable abbrev G49 : List (FuncId × En) := [(38, .det F53), (46, .det F46), (67, .det F67)]
theorem r49 (s : ByteArray) (q : AV → Prop) :
  (aCode Tryd.K G49 Tryd.b49 (kRet Tryd.K Tryd.f49.results.toList q) ⟨[mkS s] ++ List.replicate (Tryd.f49.ntmps - 1) .jk, []⟩) = (
  (((⟨#[(61 : UInt8)]⟩ : ByteArray) = (YtfdecpfcphghlaaDoor.sep1 (YtfdecpfcphghlaaDoor.sepC (⟨#[(61 : UInt8)]⟩ : ByteArray)))) ∧ ((ByteArray.size s) ≤ LIM)) ∧
  bcase (!(YtfdecpfcphghlaaDoor.cutB (YtfdecpfcphghlaaDoor.sepC (⟨#[(61 : UInt8)]⟩ : ByteArray)) s)) (
   q (AV.tp [AV.ag [mkS (⟨#[]⟩ : ByteArray), mkS (⟨#[]⟩ : ByteArray)], mkS (⟨#[]⟩ : ByteArray), mkB false])) (
   ((ByteArray.size (YtfdecpfcphghlaaDoor.cutU (YtfdecpfcphghlaaDoor.sepC (⟨#[(61 : UInt8)]⟩ : ByteArray)) s)) ≤ LIM) ∧
   bcase (!(YtfdecpfcphghlaaDoor.nameB (YtfdecpfcphghlaaDoor.cutU (YtfdecpfcphghlaaDoor.sepC (⟨#[(61 : UInt8)]⟩ : ByteArray)) s))) (
    q (AV.tp [AV.ag [mkS (⟨#[]⟩ : ByteArray), mkS (⟨#[]⟩ : ByteArray)], mkS (⟨#[]⟩ : ByteArray), mkB false])) (
    ((ByteArray.size (YtfdecpfcphghlaaDoor.cutD (YtfdecpfcphghlaaDoor.sepC (⟨#[(61 : UInt8)]⟩ : ByteArray)) s)) ≤ LIM) ∧
    q (AV.tp [AV.ag [mkS (YtfdecpfcphghlaaDoor.cutU (YtfdecpfcphghlaaDoor.sepC (⟨#[(61 : UInt8)]⟩ : ByteArray)) s), mkS (Prod.fst (YtfdecpfcphghlaaDoor.valueT (YtfdecpfcphghlaaDoor.cutD (YtfdecpfcphghlaaDoor.sepC (⟨#[(61 : UInt8)]⟩ : ByteArray)) s)))], mkS (Prod.fst (Prod.snd (YtfdecpfcphghlaaDoor.valueT (YtfdecpfcphghlaaDoor.cutD (YtfdecpfcphghlaaDoor.sepC (⟨#[(61 : UInt8)]⟩ : ByteArray)) s)))), mkB (Prod.snd (Prod.snd (YtfdecpfcphghlaaDoor.valueT (YtfdecpfcphghlaaDoor.cutD (YtfdecpfcphghlaaDoor.sepC (⟨#[(61 : UInt8)]⟩ : ByteArray)) s))))])))) := by kernel_rfl

/-- The attribute at the beginning of a text, what is behind it, and whether there is one. -/
def attrT (s : ByteArray) : (ByteArray × ByteArray) × ByteArray × Bool :=
  if cutB 61 s = true then (if nameB (cutU 61 s) = true then ((cutU 61 s, (valueT (cutD 61 s)).1), (valueT (cutD 61 s)).2.1, (valueT (cutD 61 s)).2.2) else ((⟨#[]⟩, ⟨#[]⟩), ⟨#[]⟩, false)) else ((⟨#[]⟩, ⟨#[]⟩), ⟨#[]⟩, false)
def F49 : List AV → Option (Prop × AV) := fun al => match al with
  | [.d (.v (.string s))] => some (s.size ≤ LIM, .tp [.ag [mkS (attrT s).1.1, mkS (attrT s).1.2], mkS (attrT s).2.1, mkB (attrT s).2.2])
  | _ => none
theorem c49 : PSound Tryd.prog 49 (detE F49) := by
  refine det_fn (c := Tryd.b49) mixed Tryd.K_ok (gsound_det c38 (gsound_det c46 (gsound_det c67 gsound_nil))) Tryd.func49 rfl rfl Tryd.call49 fun al p r q hF hp hq => ?_
  unfold F49 at hF; split at hF <;> cases hF
  rename_i s
  refine cast (r49 _ q).symm ?_
  unfold attrT at hq
  change (_ = _ ∧ s.size ≤ LIM) ∧ bcase (!(cutB 61 s)) _ _
  refine ⟨⟨rfl, hp⟩, bcase_mk (fun h => ?_) (fun h => ⟨Nat.le_trans (cutU_le _ _) hp, bcase_mk (fun h1 => ?_) (fun h1 => ⟨Nat.le_trans (cutD_le _ _) hp, ?_⟩)⟩)⟩
  · have h : ¬ cutB 61 s = true := by simpa using h
    rw [if_neg h] at hq; exact hq
  · have h : cutB 61 s = true := by simpa using h
    have h1 : ¬ nameB (cutU 61 s) = true := by
      have h1 : (!nameB (cutU 61 s)) = true := h1
      have e : nameB (cutU 61 s) = false := by simpa using h1
      rw [e]; simp
    rw [if_pos h, if_neg h1] at hq; exact hq
  · have h : cutB 61 s = true := by simpa using h
    have h1 : (!nameB (cutU 61 s)) = false := h1
    have h1 : nameB (cutU 61 s) = true := by simpa using h1
    rw [if_pos h, if_pos h1] at hq; exact hq
end Go.Proofs.YtfdecpfcphghlaaDoor
