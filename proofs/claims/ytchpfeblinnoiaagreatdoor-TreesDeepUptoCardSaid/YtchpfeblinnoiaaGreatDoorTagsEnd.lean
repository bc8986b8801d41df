import Derived.Test.YtchpfeblinnoiaaGreatDoorTagsAttr
set_option linter.unusedSimpArgs false
set_option linter.unusedVariables false
namespace Go.Proofs.YtchpfeblinnoiaaGreatDoor
open Go Go.AM Go.RowKit
noncomputable abbrev G32 : List (FuncId × En) := [(96, .det F45), (56, .det F46)]
theorem r32 (s : ByteArray) (q : AV → Prop) :
  (aCode Tryz.K G32 Tryz.b82 (kRet Tryz.K Tryz.f82.results.toList q) ⟨[mkS s] ++ List.replicate (Tryz.f82.ntmps - 1) .jk, []⟩) = (
  (sBlanks = sBlanks) ∧
  ((ByteArray.size (trimRB s)) ≤ LIM) ∧
  bcase (!(nameB (trimRB s))) (
   q (AV.tp [AV.d (.sl []), mkI .i64 3])) (
   q (AV.tp [AV.d (.sl [[D.v (.int IntKind.i64 (2 : Int)), D.v (.string (trimRB s)), D.sl [], D.v (.string ⟨#[]⟩)]]), mkI .i64 0]))) := by kernel_rfl
def endT (s : ByteArray) : List Tok × Int := if nameB (trimRB s) = true then ([⟨2, trimRB s, [], ⟨#[]⟩⟩], 0) else ([], 3)
def F32 : List AV → Option (Prop × AV) := fun al => match al with
  | [.d (.v (.string s))] => some (s.size ≤ LIM, .tp [.d (.sl (toksD (endT s).1)), mkI .i64 (endT s).2])
  | _ => none
theorem c32 : PSound Tryz.prog 82 (detE F32) := by
  refine det_fn (c := Tryz.b82) mixed Tryz.K_ok (gsound_det c45 (gsound_det c46 gsound_nil)) Tryz.func82 rfl rfl Tryz.call82 fun al p r q hF hp hq => ?_
  unfold F32 at hF; split at hF <;> cases hF
  rename_i s
  refine cast (r32 _ q).symm ?_
  unfold endT at hq
  refine ⟨rfl, Nat.le_trans (trimRB_size s) hp, bcase_mk (fun h => ?_) (fun h => ?_)⟩
  · rw [if_neg (by simpa using h)] at hq; exact hq
  · rw [if_pos (by simpa using h)] at hq; exact hq
noncomputable abbrev G49 : List (FuncId × En) := [(93, .det F53), (56, .det F46), (115, .det F67)]
theorem r49 (s : ByteArray) (q : AV → Prop) :
  (aCode Tryz.K G49 Tryz.b99 (kRet Tryz.K Tryz.f99.results.toList q) ⟨[mkS s] ++ List.replicate (Tryz.f99.ntmps - 1) .jk, []⟩) = (
  (((⟨#[61]⟩ : ByteArray) = (sep1 (sepC (⟨#[61]⟩ : ByteArray)))) ∧ ((ByteArray.size s) ≤ LIM)) ∧
  bcase (!(cutB (sepC (⟨#[61]⟩ : ByteArray)) s)) (
   q (AV.tp [AV.ag [mkS ⟨#[]⟩, mkS ⟨#[]⟩], mkS ⟨#[]⟩, mkB false])) (
   ((ByteArray.size (cutU (sepC (⟨#[61]⟩ : ByteArray)) s)) ≤ LIM) ∧
   bcase (!(nameB (cutU (sepC (⟨#[61]⟩ : ByteArray)) s))) (
    q (AV.tp [AV.ag [mkS ⟨#[]⟩, mkS ⟨#[]⟩], mkS ⟨#[]⟩, mkB false])) (
    ((ByteArray.size (cutD (sepC (⟨#[61]⟩ : ByteArray)) s)) ≤ LIM) ∧
    q (AV.tp [AV.ag [mkS (cutU (sepC (⟨#[61]⟩ : ByteArray)) s), mkS (Prod.fst (valueT (cutD (sepC (⟨#[61]⟩ : ByteArray)) s)))], mkS (Prod.fst (Prod.snd (valueT (cutD (sepC (⟨#[61]⟩ : ByteArray)) s)))), mkB (Prod.snd (Prod.snd (valueT (cutD (sepC (⟨#[61]⟩ : ByteArray)) s))))])))) := by kernel_rfl
def attrT (s : ByteArray) : (ByteArray × ByteArray) × ByteArray × Bool :=
  if cutB 61 s = true then (if nameB (cutU 61 s) = true then ((cutU 61 s, (valueT (cutD 61 s)).1), (valueT (cutD 61 s)).2.1, (valueT (cutD 61 s)).2.2) else ((⟨#[]⟩, ⟨#[]⟩), ⟨#[]⟩, false)) else ((⟨#[]⟩, ⟨#[]⟩), ⟨#[]⟩, false)
def F49 : List AV → Option (Prop × AV) := fun al => match al with
  | [.d (.v (.string s))] => some (s.size ≤ LIM, .tp [.ag [mkS (attrT s).1.1, mkS (attrT s).1.2], mkS (attrT s).2.1, mkB (attrT s).2.2])
  | _ => none
theorem c49 : PSound Tryz.prog 99 (detE F49) := by
  refine det_fn (c := Tryz.b99) mixed Tryz.K_ok (gsound_det c38 (gsound_det c46 (gsound_det c67 gsound_nil))) Tryz.func99 rfl rfl Tryz.call99 fun al p r q hF hp hq => ?_
  unfold F49 at hF; split at hF <;> cases hF
  rename_i s
  refine cast (r49 _ q).symm ?_
  unfold attrT at hq
  change (_ = _ ∧ s.size ≤ LIM) ∧ bcase (!(cutB 61 s)) _ _
  refine ⟨⟨rfl, hp⟩, bcase_mk (fun h => ?_) (fun h => ⟨Nat.le_trans (cutU_le _ _) hp, bcase_mk (fun h1 => ?_) (fun h1 => ⟨Nat.le_trans (cutD_le _ _) hp, ?_⟩)⟩)⟩
  · have h : ¬ cutB 61 s = true := by simpa using h
    rw [if_neg h] at hq; exact hq
  · have h : cutB 61 s = true := by simpa using h
    have h1 : ¬ nameB (cutU 61 s) = true := by
      have h1 : (!nameB (cutU 61 s)) = true := h1
      have e : nameB (cutU 61 s) = false := by simpa using h1
      rw [e]; simp
    rw [if_pos h, if_neg h1] at hq; exact hq
  · have h : cutB 61 s = true := by simpa using h
    have h1 : (!nameB (cutU 61 s)) = false := h1
    have h1 : nameB (cutU 61 s) = true := by simpa using h1
    rw [if_pos h, if_pos h1] at hq; exact hq
end Go.Proofs.YtchpfeblinnoiaaGreatDoor
